/- The round trip of Encode and Decode, as a plain law. Conditions: the schema's numbers fit an int. -/
import Derived.Test.YtmgpoafoljkknaaN
namespace Go.Proofs.Ytmgpoafoljkknaa.My
open Go.RowKit Go.Proofs.YtmgpoafoljkknaaW.PrintWords Go.Proofs.YtmgpoafoljkknaaW.PrintLast Go.Proofs.YtmgpoafoljkknaaW.PrintMore PSchemaReads
theorem numOf_num {n : Int} (h0 : 0 ≤ n) (h : n ≤ 9223372036854775807) : numOf (numL n) = n := by
  have h1 := take_enc (n := n.toNat) (by omega) []
  rw [List.append_nil] at h1
  unfold numOf numL
  rw [if_neg (by omega), h1]
  simp; omega
theorem strB_data (s : ByteArray) : strB s.data.toList = s := by
  unfold strB
  simp
theorem layGo_enc : ∀ (l : List S60) (r : List (List UInt8)), (∀ x ∈ l, 0 ≤ x.f0 ∧ x.f0 ≤ 9223372036854775807 ∧ 0 ≤ x.f1 ∧ x.f1 ≤ 9223372036854775807) → layGo l.length (l.flatMap (fun l => [numL l.f0, numL l.f1]) ++ r) = (l, r)
  | [], r, _ => rfl
  | x :: l, r, h => by
    have hx := h x List.mem_cons_self
    rw [List.length_cons, layGo]
    simp only [List.flatMap_cons, List.cons_append, List.nil_append, List.headD_cons, List.tail_cons]
    rw [layGo_enc l r (fun y hy => h y (List.mem_cons_of_mem _ hy)), numOf_num hx.1 hx.2.1, numOf_num hx.2.2.1 hx.2.2.2]
theorem colGo_enc : ∀ (l : List S52), (∀ x ∈ l, 0 ≤ x.f1 ∧ x.f1 ≤ 9223372036854775807 ∧ 0 ≤ x.f2 ∧ x.f2 ≤ 9223372036854775807) → colGo (l.flatMap (fun c => [c.f0.data.toList, numL c.f1, numL c.f2])) = l
  | [], _ => rfl
  | x :: l, h => by
    have hx := h x List.mem_cons_self
    simp only [List.flatMap_cons, List.cons_append, List.nil_append, colGo]
    rw [colGo_enc l (fun y hy => h y (List.mem_cons_of_mem _ hy)), numOf_num hx.1 hx.2.1, numOf_num hx.2.2.1 hx.2.2.2, strB_data]
/-- What a right family's numbers are. -/
structure FamIn (x : S40) : Prop where
  f1 : 0 ≤ x.f1 ∧ x.f1 ≤ 9223372036854775807
  f2 : 0 ≤ x.f2 ∧ x.f2 ≤ 9223372036854775807
  l3 : 1 ≤ x.f3.length ∧ x.f3.length ≤ 2
  l4 : x.f4.length ≤ 8
  m3 : ∀ y ∈ x.f3, 0 ≤ y.f0 ∧ y.f0 ≤ 9223372036854775807 ∧ 0 ≤ y.f1 ∧ y.f1 ≤ 9223372036854775807
  m4 : ∀ y ∈ x.f4, 0 ≤ y.f1 ∧ y.f1 ≤ 9223372036854775807 ∧ 0 ≤ y.f2 ∧ y.f2 ≤ 9223372036854775807
theorem famIn_of {x : S40} (h : familyB x = true) : FamIn x := by
  simp only [familyB, Bool.and_eq_true, nameB, layoutsB, colsB, decide_eq_true_eq] at h
  obtain ⟨⟨⟨⟨⟨⟨h0, h0'⟩, _⟩, h1⟩, h2⟩, ⟨⟨⟨h3, _⟩, h3'⟩, _⟩⟩, ⟨h4, h4'⟩, _⟩ := h
  have := within_le h1
  have := within_le h2
  have := within_le h3'
  refine ⟨by omega, by omega, by omega, by omega, fun l hl => ?_, fun c hc => ?_⟩
  · have hb := List.all_eq_true.1 h3 l hl
    rw [layB, Bool.and_eq_true] at hb
    have := within_le hb.1
    have := within_le hb.2
    omega
  · have hb := List.all_eq_true.1 h4' c hc
    rw [colB, Bool.and_eq_true, Bool.and_eq_true, decide_eq_true_eq] at hb
    have := within_le hb.1.2
    have := within_le hb.2
    omega
theorem fam_parts {x : S40} (h : familyB x = true) : partsL (listL (famParts x)) = some (famParts x) := by
  have h1 := famOk_of h
  have h2 := famOk_parts h
  exact parts_list (by omega) (fun b hb => by have := famParts_small h1 b hb; omega)
theorem famRaw_enc {x : S40} (h : familyB x = true) : famRaw (listL (famParts x)) = x := by
  have hi := famIn_of h
  unfold famRaw
  rw [fam_parts h]
  simp only [Option.getD_some, famParts, List.cons_append, List.nil_append, List.headD_cons, List.tail_cons]
  have hn : min (numOf (numL (x.f3.length : Int))).toNat (x.f3.flatMap (fun l => [numL l.f0, numL l.f1]) ++ x.f4.flatMap (fun c => [c.f0.data.toList, numL c.f1, numL c.f2])).length = x.f3.length := by
    rw [numOf_num (by omega) (by have := hi.l3; omega), List.length_append, flat2_len _ 2 _ (fun _ => rfl)]
    omega
  rw [hn, layGo_enc _ _ hi.m3, colGo_enc _ hi.m4, numOf_num hi.f1.1 hi.f1.2, numOf_num hi.f2.1 hi.f2.2, strB_data]
theorem encParts_small {s : Sch} (h : encOk s = true) (hn : s.typ ≤ 9223372036854775807 ∧ s.grp ≤ 9223372036854775807 ∧ s.vers ≤ 9223372036854775807 ∧ s.life ≤ 9223372036854775807) : (encParts s).length = s.fams.length + 9 ∧ s.fams.length ≤ 6 ∧ ∀ b ∈ encParts s, b.length < 9223372036854775808 := by
  simp only [encOk, Bool.and_eq_true, decide_eq_true_eq] at h
  have h1 := encParts_len h.1.1.1 h.1.1.2 h.1.2 hn
  have h2 := rightB_fams h.1.1.1
  refine ⟨by simp [encParts], h2.2.1, fun b hb => ?_⟩
  have : b.length ≤ (encParts s).flatten.length := List.Sublist.length_le (List.sublist_flatten_of_mem hb)
  omega
theorem decRaw_enc {s : Sch} (h : encOk s = true) (hn : s.typ ≤ 9223372036854775807 ∧ s.grp ≤ 9223372036854775807 ∧ s.vers ≤ 9223372036854775807 ∧ s.life ≤ 9223372036854775807) : decRaw (encParts s) = s := by
  have hl := (encParts_small h hn).1
  simp only [encOk, Bool.and_eq_true, decide_eq_true_eq] at h
  obtain ⟨h1, h2, h3, h4, h5⟩ := rightB_fams h.1.1.1
  unfold decRaw
  rw [hl, show s.fams.length + 9 - 8 = s.fams.length + 1 by omega, show s.fams.length + 9 - 9 = s.fams.length by omega]
  have e1 : (encParts s).drop (s.fams.length + 1) = [numL s.kind, s.fam.data.toList, s.qual.data.toList, numL s.typ, numL s.grp, numL s.vers, numL s.life, numL s.step] := by
    unfold encParts
    exact List.drop_left' (by simp)
  have e2 : ((encParts s).drop 1).take s.fams.length = s.fams.map (fun f => listL (famParts f)) := by
    have : (encParts s).drop 1 = s.fams.map (fun f => listL (famParts f)) ++ [numL s.kind, s.fam.data.toList, s.qual.data.toList, numL s.typ, numL s.grp, numL s.vers, numL s.life, numL s.step] := by simp [encParts]
    rw [this]
    exact List.take_left' (by simp)
  have e3 : pt (encParts s) 0 = numL s.ver := by simp [pt, encParts]
  have e4 : (s.fams.map (fun f => listL (famParts f))).map famRaw = s.fams := by
    rw [List.map_map]
    conv => rhs; rw [← List.map_id s.fams]
    exact List.map_congr_left (fun f hf => famRaw_enc (h3 f hf))
  simp only [e1, e2, e3, e4]
  simp only [pt, List.drop_zero, List.drop_succ_cons, List.headD_cons]
  rw [numOf_num (by omega) (by omega), numOf_num (by omega) (by omega), strB_data, strB_data, numOf_num h.2.1.1.1 hn.1, numOf_num h.2.1.1.2 hn.2.1, numOf_num h.2.1.2 hn.2.2.1, numOf_num h.2.2 hn.2.2.2, numOf_num (by omega) (by omega)]
theorem decOk_enc {s : Sch} (h : encOk s = true) (hn : s.typ ≤ 9223372036854775807 ∧ s.grp ≤ 9223372036854775807 ∧ s.vers ≤ 9223372036854775807 ∧ s.life ≤ 9223372036854775807) : decOk (listL (encParts s)) = some s := by
  obtain ⟨h1, h2, h3⟩ := encParts_small h hn
  unfold decOk
  rw [parts_list (by omega) h3]
  simp only
  rw [if_pos (by omega), decRaw_enc h hn, if_pos ⟨h, rfl⟩]
end Go.Proofs.Ytmgpoafoljkknaa.My
