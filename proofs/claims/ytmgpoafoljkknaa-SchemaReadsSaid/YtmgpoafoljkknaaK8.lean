/- The contract of the reference's Decode. Conditions: at most a million bytes. -/
import Derived.Test.YtmgpoafoljkknaaK6
import Derived.Test.YtmgpoafoljkknaaS
import Derived.Test.YtmgpoafoljkknaaZ4
namespace Go.Proofs.Ytmgpoafoljkknaa.My
open Go.RowKit Go.Proofs.YtmgpoafoljkknaaW.PrintWords Go.Proofs.YtmgpoafoljkknaaW.PrintLast Go.Proofs.YtmgpoafoljkknaaW.PrintMore PSchemaReads
theorem rLay_enc : ∀ (l : List S60) (r : List (List UInt8)), (∀ x ∈ l, 0 ≤ x.f0 ∧ x.f0 ≤ 9223372036854775807 ∧ 0 ≤ x.f1 ∧ x.f1 ≤ 9223372036854775807) → rLay l.length (l.flatMap (fun l => [numL l.f0, numL l.f1]) ++ r) = (l, r)
  | [], r, _ => by simp [rLay]
  | x :: l, r, h => by
    have hx := h x List.mem_cons_self
    rw [List.length_cons]
    simp only [List.flatMap_cons, List.cons_append, List.nil_append, rLay]
    rw [rLay_enc l r (fun y hy => h y (List.mem_cons_of_mem _ hy)), numOf_num hx.1 hx.2.1, numOf_num hx.2.2.1 hx.2.2.2]
theorem rCol_enc : ∀ (l : List S52), (∀ x ∈ l, 0 ≤ x.f1 ∧ x.f1 ≤ 9223372036854775807 ∧ 0 ≤ x.f2 ∧ x.f2 ≤ 9223372036854775807) → rCol (l.flatMap (fun c => [c.f0.data.toList, numL c.f1, numL c.f2])) = l
  | [], _ => rfl
  | x :: l, h => by
    have hx := h x List.mem_cons_self
    simp only [List.flatMap_cons, List.cons_append, List.nil_append, rCol]
    rw [rCol_enc l (fun y hy => h y (List.mem_cons_of_mem _ hy)), numOf_num hx.1 hx.2.1, numOf_num hx.2.2.1 hx.2.2.2, strB_data]
theorem refFam_enc {x : S40} (h : familyB x = true) : refFam (listL (famParts x)) = x := by
  have hi := famIn_of h
  unfold refFam
  rw [fam_parts h]
  simp only
  unfold refFamL
  have h4 : ¬ (famParts x).length < 4 := by simp [famParts]
  rw [if_neg h4]
  have e0 : pt (famParts x) 0 = x.f0.data.toList := rfl
  have e1 : pt (famParts x) 1 = numL x.f1 := rfl
  have e2 : pt (famParts x) 2 = numL x.f2 := rfl
  have e3 : pt (famParts x) 3 = numL (x.f3.length : Int) := rfl
  have e4 : (famParts x).drop 4 = x.f3.flatMap (fun l => [numL l.f0, numL l.f1]) ++ x.f4.flatMap (fun c => [c.f0.data.toList, numL c.f1, numL c.f2]) := rfl
  rw [e0, e1, e2, e3, e4]
  have hn : min (numOf (numL (x.f3.length : Int))).toNat 3 = x.f3.length := by
    rw [numOf_num (by omega) (by have := hi.l3; omega)]
    have := hi.l3
    omega
  rw [hn, rLay_enc _ _ hi.m3]
  simp only
  rw [rCol_enc _ hi.m4, numOf_num hi.f1.1 hi.f1.2, numOf_num hi.f2.1 hi.f2.2, strB_data]
/-- The schema that a list's parts may tell, as the reference reads it. -/
def refRaw (l : List (List UInt8)) : Sch :=
  let r := l.drop (l.length - 8)
  ⟨numOf (pt l 0), ((l.drop 1).take (l.length - 9)).map refFam, numOf (pt r 0), strB (pt r 1), strB (pt r 2), numOf (pt r 3), numOf (pt r 4), numOf (pt r 5), numOf (pt r 6), numOf (pt r 7)⟩
def refOk (b : List UInt8) : Option Sch := match partsL b with
  | none => none
  | some l => if 9 ≤ l.length ∧ l.length ≤ 15 then (if encOk (refRaw l) = true ∧ listL (encParts (refRaw l)) = b then some (refRaw l) else none) else none
theorem refRaw_enc {s : Sch} (h : encOk s = true) (hn : s.typ ≤ 9223372036854775807 ∧ s.grp ≤ 9223372036854775807 ∧ s.vers ≤ 9223372036854775807 ∧ s.life ≤ 9223372036854775807) : refRaw (encParts s) = s := by
  have hl := (encParts_small h hn).1
  simp only [encOk, Bool.and_eq_true, decide_eq_true_eq] at h
  obtain ⟨h1, h2, h3, h4, h5⟩ := rightB_fams h.1.1.1
  unfold refRaw
  rw [hl, show s.fams.length + 9 - 8 = s.fams.length + 1 by omega, show s.fams.length + 9 - 9 = s.fams.length by omega]
  have e1 : (encParts s).drop (s.fams.length + 1) = [numL s.kind, s.fam.data.toList, s.qual.data.toList, numL s.typ, numL s.grp, numL s.vers, numL s.life, numL s.step] := by
    unfold encParts
    exact List.drop_left' (by simp)
  have e2 : ((encParts s).drop 1).take s.fams.length = s.fams.map (fun f => listL (famParts f)) := by
    have : (encParts s).drop 1 = s.fams.map (fun f => listL (famParts f)) ++ [numL s.kind, s.fam.data.toList, s.qual.data.toList, numL s.typ, numL s.grp, numL s.vers, numL s.life, numL s.step] := by simp [encParts]
    rw [this]
    exact List.take_left' (by simp)
  have e3 : pt (encParts s) 0 = numL s.ver := by simp [pt, encParts]
  have e4 : (s.fams.map (fun f => listL (famParts f))).map refFam = s.fams := by
    rw [List.map_map]
    conv => rhs; rw [← List.map_id s.fams]
    exact List.map_congr_left (fun f hf => refFam_enc (h3 f hf))
  simp only [e1, e2, e3, e4]
  simp only [pt, List.drop_zero, List.drop_succ_cons, List.headD_cons]
  rw [numOf_num (by omega) (by omega), numOf_num (by omega) (by omega), strB_data, strB_data, numOf_num h.2.1.1.1 hn.1, numOf_num h.2.1.1.2 hn.2.1, numOf_num h.2.1.2 hn.2.2.1, numOf_num h.2.2 hn.2.2.2, numOf_num (by omega) (by omega)]
theorem ref_num (l : List (List UInt8)) : (refRaw l).typ ≤ 9223372036854775807 ∧ (refRaw l).grp ≤ 9223372036854775807 ∧ (refRaw l).vers ≤ 9223372036854775807 ∧ (refRaw l).life ≤ 9223372036854775807 := dec_num l
theorem ref_some {b : List UInt8} {s : Sch} (h : refOk b = some s) : encOk s = true ∧ listL (encParts s) = b ∧ (s.typ ≤ 9223372036854775807 ∧ s.grp ≤ 9223372036854775807 ∧ s.vers ≤ 9223372036854775807 ∧ s.life ≤ 9223372036854775807) := by
  unfold refOk at h
  cases hq : partsL b with
  | none => rw [hq] at h; cases h
  | some l =>
    rw [hq] at h
    simp only at h
    split at h
    · split at h
      · rename_i h2
        cases h
        exact ⟨h2.1, h2.2, ref_num l⟩
      · cases h
    · cases h
theorem refOk_enc {s : Sch} (h : encOk s = true) (hn : s.typ ≤ 9223372036854775807 ∧ s.grp ≤ 9223372036854775807 ∧ s.vers ≤ 9223372036854775807 ∧ s.life ≤ 9223372036854775807) : refOk (listL (encParts s)) = some s := by
  obtain ⟨h1, h2, h3⟩ := encParts_small h hn
  unfold refOk
  rw [parts_list (by omega) h3]
  simp only
  rw [if_pos (by omega), refRaw_enc h hn, if_pos ⟨h, rfl⟩]
theorem refOk_eq (b : List UInt8) : refOk b = decOk b := by
  cases hr : refOk b with
  | some s =>
    obtain ⟨h1, h2, h3⟩ := ref_some hr
    rw [← h2]
    exact (decOk_enc h1 h3).symm
  | none =>
    cases hd : decOk b with
    | none => rfl
    | some s =>
      obtain ⟨h1, h2, h3⟩ := dec_some hd
      rw [← h2, refOk_enc h1 h3] at hr
      cases hr
theorem strB_size (b : List UInt8) : (strB b).size = b.length := by simp [strB, ByteArray.size]
theorem pt_small {l : List (List UInt8)} {n : Nat} (h : ∀ x ∈ l, x.length ≤ n) (i : Nat) : (pt l i).length ≤ n := by
  unfold pt
  cases hd : l.drop i with
  | nil => simp
  | cons a r => exact h a (List.mem_of_mem_drop (by rw [hd]; exact List.mem_cons_self))
theorem refFam_name (b : List UInt8) : (refFam b).f0.size ≤ b.length := by
  unfold refFam
  cases hq : partsL b with
  | none => exact Nat.zero_le _
  | some l =>
    simp only
    unfold refFamL
    split
    · exact Nat.zero_le _
    · simp only [strB_size]
      exact pt_small (partsL_small hq).2 0
theorem refRaw_names {b : List UInt8} {l : List (List UInt8)} (h : partsL b = some l) (hl : b.length ≤ 1000000) : ∀ f ∈ (refRaw l).fams, f.f0.size ≤ 1000000 := by
  intro f hf
  simp only [refRaw, List.mem_map] at hf
  obtain ⟨x, hx, rfl⟩ := hf
  have h1 := (partsL_small h).2 x (List.mem_of_mem_drop (List.mem_of_mem_take hx))
  exact Nat.le_trans (refFam_name x) (Nat.le_trans h1 hl)
theorem pt_drop (l : List (List UInt8)) (q i : Nat) : pt (l.drop q) i = pt l (q + i) := by simp [pt, List.drop_drop]
set_option linter.unusedSimpArgs false in
set_option maxHeartbeats 8000000 in
set_option maxRecDepth 100000 in
theorem refDec16 (v : Value) (b : List UInt8) (w : World) (hs : Sl kB w v b) (hl : b.length ≤ 1000000) : Calls Try.prog 16 #[v] w (DecP w b) := by
  have HPS := Aside0.mk (fun o => parts57 v b (w.alloc o) (hs.below (below_alloc (Below.refl _ _) o)) hl)
  have HV := Aside0.mk hs
  have HD := Aside0.mk (show decOk b = (match partsL b with
    | none => none
    | some l => if 9 ≤ l.length ∧ l.length ≤ 15 then (if encOk (refRaw l) = true ∧ listL (encParts (refRaw l)) = b then some (refRaw l) else none) else none) from (refOk_eq b).symm)
  clear hs
  go_enter Try.func16, Try.ntmps16
  go_wp2_with fail
  refine (HPS.out _).mono ?_
  rintro e w1 ⟨v1, l, ok, rfl, hn, hb, hr⟩
  obtain ⟨A1, c1, rfl⟩ := Kd.N_slice hn
  have a1 := blk_keep hb (blk_new w _ _)
  have HA := Aside0.mk a1
  have gca := blk_cell a1
  have gfa := blk_frozen a1
  have HB := Aside0.mk (((Below.refl w.heap.size w).alloc (Nat.le_refl _) _).trans (hb.mono (by simp)))
  have hmax : l.length ≤ 9223372036854775807 := hn.sl.len
  unfold PartsR at hr
  cases hq : partsL b with
  | none =>
    rw [hq] at hr
    obtain ⟨rfl, rfl⟩ := hr
    have HX := Aside0.mk (show decOk b = none by rw [HD.out, hq])
    clear hb hn a1 hq
    go_wp2
    refine bodyPost_ret (v := .tuple #[.agg #[.int .i64 0, .slice none 0 0, .int .i64 0, .string ⟨#[]⟩, .string ⟨#[]⟩, .int .i64 0, .int .i64 0, .int .i64 0, .int .i64 0, .int .i64 0], .bool false]) (by simp [results, Try.results16, go_sem, gca]) rfl (DecP.no HX.out ?_)
    with_reducible repeat (first | exact HB.out | refine Below.setCell ?_ (by simp) _)
  | some m =>
    rw [hq] at hr
    obtain ⟨rfl, rfl⟩ := hr
    by_cases h9 : (l.length : Int) < 9
    · have HX := Aside0.mk (show decOk b = none by rw [HD.out, hq]; simp only; rw [if_neg (by omega)])
      clear hb hn a1 hq
      go_wp2
      refine bodyPost_ret (v := .tuple #[.agg #[.int .i64 0, .slice none 0 0, .int .i64 0, .string ⟨#[]⟩, .string ⟨#[]⟩, .int .i64 0, .int .i64 0, .int .i64 0, .int .i64 0, .int .i64 0], .bool false]) (by simp [results, Try.results16, go_sem, gca]) rfl (DecP.no HX.out ?_)
      with_reducible repeat (first | exact HB.out | refine Below.setCell ?_ (by simp) _)
    · by_cases h15 : 15 < (l.length : Int)
      · have HX := Aside0.mk (show decOk b = none by rw [HD.out, hq]; simp only; rw [if_neg (by omega)])
        clear hb hn a1 hq
        go_wp2
        refine bodyPost_ret (v := .tuple #[.agg #[.int .i64 0, .slice none 0 0, .int .i64 0, .string ⟨#[]⟩, .string ⟨#[]⟩, .int .i64 0, .int .i64 0, .int .i64 0, .int .i64 0, .int .i64 0], .bool false]) (by simp [results, Try.results16, go_sem, gca]) rfl (DecP.no HX.out ?_)
        with_reducible repeat (first | exact HB.out | refine Below.setCell ?_ (by simp) _)
      · have HX := Aside0.mk (show decOk b = if encOk (refRaw l) = true ∧ listL (encParts (refRaw l)) = b then some (refRaw l) else none by rw [HD.out, hq]; simp only; rw [if_pos (by omega)])
        have hsm := partsL_small hq
        have HPT := Aside0.mk (part_at (Kd.N_reads' hn).2.2 (fun x hx => Nat.le_trans (hsm.2 x hx) hl))
        have HNM := Aside0.mk (refRaw_names hq hl)
        have HSZ := Aside0.mk (show w.heap.size < w1.heap.size from blk_lt a1)
        have HVW := Aside0.mk (HV.out.below HB.out)
        clear hb hn a1 hq hsm HD HPS
        obtain ⟨q, hqq⟩ : ∃ q, l.length - 8 = q := ⟨_, rfl⟩
        have HQ := Aside0.mk (show l.length = q + 8 ∧ 1 ≤ q ∧ q ≤ 7 by omega)
        have HRAW := Aside0.mk (show refRaw l = ⟨numOf (pt l 0), ((l.drop 1).take (q - 1)).map refFam, numOf (pt l q), strB (pt l (q + 1)), strB (pt l (q + 2)), numOf (pt l (q + 3)), numOf (pt l (q + 4)), numOf (pt l (q + 5)), numOf (pt l (q + 6)), numOf (pt l (q + 7))⟩ by
          unfold refRaw
          rw [hqq, show l.length - 9 = q - 1 by omega]
          simp only [pt_drop, Nat.add_zero])
        obtain ⟨ad, B0, d0, rfl, _, hz0, hp0⟩ := HPT.out 0 (by omega)
        rw [Addr.add_zero'] at hp0
        have HP0 := Aside0.mk hp0
        have gp0 := (hp0 w1 (Below.refl _ _)).1
        have hpos : 0 < l.length := by omega
        have hpos1 : (0 : Int) < (l.length : Int) := by omega
        clear hp0 hqq
        go_wp2_with fail
        refine (num58 _ _ _ (HP0.out w1 (Below.refl _ _)).2.1 hz0).mono ?_
        rintro e w2 ⟨rfl, hb2⟩
        have HB2 := Aside0.mk hb2
        clear hb2 gp0 HP0 hz0
        obtain ⟨x0, hx0⟩ : ∃ x, numOf (pt l 0) = x := ⟨_, rfl⟩
        rw [hx0] at HRAW ⊢
        clear hx0
        obtain ⟨f, hf⟩ : ∃ f, w2.heap.size = f := ⟨_, rfl⟩
        have hfnew := blk_new w2 #[.int .i64 x0, .slice none 0 0, .int .i64 0, .string ⟨#[]⟩, .string ⟨#[]⟩, .int .i64 0, .int .i64 0, .int .i64 0, .int .i64 0, .int .i64 0] 28
        rw [hf] at hfnew
        have HFN := Aside0.mk hfnew
        have HFF := Aside0.mk hf
        have HUS := Aside0.mk (show w1.heap.size ≤ f by rw [← hf]; exact HB2.out.size)
        have HBN := Aside0.mk (bba HB2.out (.cells #[.int .i64 x0, .slice none 0 0, .int .i64 0, .string ⟨#[]⟩, .string ⟨#[]⟩, .int .i64 0, .int .i64 0, .int .i64 0, .int .i64 0, .int .i64 0] 28))
        have hq8 : (l.length : Int) - 8 = (q : Int) := by have := HQ.out; omega
        clear hfnew hf HB2 hpos hpos1
        go_wp2
        rw [HFF.out]
        clear hq8
        have hq1 := HQ.out.2.1
        have hq7 := HQ.out.2.2
        go_loopg [8] q (fun gg s8 wr => ∃ (j : Nat) (vf : Value), q - j ≤ gg ∧ 1 ≤ j ∧ j ≤ q ∧ s8 = .int .i64 j ∧ Aside0 (Below w1.heap.size w1 wr) ∧ Aside0 (wr.heap[f]? = some (.cells #[.int .i64 x0, vf, .int .i64 0, .string ⟨#[]⟩, .string ⟨#[]⟩, .int .i64 0, .int .i64 0, .int .i64 0, .int .i64 0, .int .i64 0] 28 (0, 0))) ∧ Aside0 (Kd.N k40 40 wr w1.heap.size (fun k => w1.heap.size ≤ k ∧ k ≠ f) vf (((l.drop 1).take (j - 1)).map refFam)))
        case atStart => exact ⟨1, .slice none 0 0, by omega, by omega, by omega, rfl, HBN, HFN, ⟨Kd.N_nil _ _ _ _ _⟩⟩
        case round =>
          obtain ⟨j, vf, hgg, hj1, hj, rfl, HBR, HFR, HNR⟩ := hrel
          have HSF2 := Aside0.mk (blk_lt HFR.out)
          by_cases hjl : j < q
          · have hrp : (j : Int) < (q : Int) := by omega
            have hjn : j < l.length := by have := HQ.out; omega
            have hjn1 : (j : Int) < (l.length : Int) := by omega
            obtain ⟨ad', Bj, dj, he, _, hzj, hpj⟩ := HPT.out j hjn
            injection he with he
            subst he
            have HFAM := Aside0.mk (fun W hb => rfam59 _ _ W (hpj W hb).2.1 hzj)
            have gpj := (hpj wr.drew HBR.out.drew).1
            have HTK := Aside0.mk (show ((l.drop 1).take (j + 1 - 1)).map refFam = ((l.drop 1).take (j - 1)).map refFam ++ [refFam (pt l j)] by
              obtain ⟨i, rfl⟩ : ∃ i, j = i + 1 := ⟨j - 1, by omega⟩
              rw [show i + 1 + 1 - 1 = i + 1 by omega, show i + 1 - 1 = i by omega]
              rw [List.take_succ_eq_append_getElem (show i < (l.drop 1).length by rw [List.length_drop]; omega), List.map_append]
              congr 1
              simp only [List.map_cons, List.map_nil]
              congr 2
              rw [List.getElem_drop]
              unfold pt
              rw [List.headD_eq_head?_getD, List.head?_drop, List.getElem?_eq_getElem (show i + 1 < l.length by omega)]
              simp [Nat.add_comm])
            have HLEN := Aside0.mk (show (((l.drop 1).take (j - 1)).map refFam).length ≤ 15 by rw [List.length_map, List.length_take, List.length_drop]; omega)
            clear hpj hzj
            generalize ((l.drop 1).take (j - 1)).map refFam = acc at HNR HTK HLEN
            generalize refFam (pt l j) = x at HFAM HTK
            have gcf := fun o => blk_cell (w := wr.drew) (i := o) HFR.out
            go_wp2
            go_region_law (first
              | (go_simp; go_at_call 59; refine (HFAM.out _ HBR.out.drew).mono ?_; rintro e w8 ⟨v8, rfl, hfm, hb8⟩; obtain ⟨v3, v4, rfl, h3, h4⟩ := hfm; obtain ⟨A3, c3, rfl⟩ := Kd.N_slice h3; obtain ⟨A4, c4, rfl⟩ := Kd.N_slice h4; have HN3 := Aside0.mk h3; have HN4 := Aside0.mk h4; have HB8 := Aside0.mk hb8; have f8 := blk_keep (W := wr.drew) hb8 HFR.out; have HF8 := Aside0.mk f8; have gc8 := blk_cell f8; have gf8 := blk_frozen f8; have gc8' := fun o => blk_cell (blk_old f8 o); have HN8 := Aside0.mk (Kd.N_below (Kd.N_drew HNR.out) hb8); have HS8 := Aside0.mk (show wr.heap.size ≤ w8.heap.size from hb8.size); clear hb8 f8 h3 h4)
              | (refine Kd.N_append_step k40 (w0 := w8) w1.heap.size rfl (.tmp 42) (.tmp 48) 24 40 (.agg #[.string ⟨#[]⟩, .int .i64 0, .int .i64 0, .slice none 0 0, .slice none 0 0]) 80 rfl Try.underlying24 info40 rfl (by decide) (by omega) vf acc x [.string x.f0, .int .i64 x.f1, .int .i64 x.f2, .slice A3 x.f3.length c3, .slice A4 x.f4.length c4] (fun k => w1.heap.size ≤ k ∧ k ≠ f) (fun k => wr.heap.size ≤ k) rfl rfl (k40_mkF _ _ _ (Kd.N_reads' HN3.out).2.1 (Kd.N_F HN3.out) (Kd.N_reads' HN4.out).2.1 (Kd.N_F HN4.out)) (fun k hk => ⟨by have := HSF2.out; have := HUS.out; omega, fun he => absurd (Kd.N_lt HNR.out k he.symm) (by omega)⟩) (fun k hk => by have := HSF2.out; have := HUS.out; have := HS8.out; omega) HN8.out (Below.refl _ _) (by have := HSF2.out; have := HUS.out; have := HS8.out; omega) (by have := HLEN.out; omega) ?_; intro v9 w9 ho hb hg9 hat; obtain ⟨A9, c9, rfl⟩ := Kd.N_slice ho; have HO := Aside0.mk ho; have HB9 := Aside0.mk hb; have f9 := blk_grown HF8.out hg9 (Kd.N_ne HN8.out HF8.out (by decide)); have HF9 := Aside0.mk f9; have gc9 := blk_cell f9; have gf9 := blk_frozen f9; clear ho hb hg9 hat f9))
            all_goals
              go_wp2
              go_roundg (q - (j + 1))
              case measure => omega
              case rel =>
                refine ⟨j + 1, .slice A9 (acc.length + 1) c9, by omega, by omega, by omega, by go_num, ⟨?_⟩, ⟨blk_set HF9.out 1 _⟩, ⟨?_⟩⟩
                · have h1 := (bb HBR.out.drew HB8.out).trans HB9.out
                  exact h1.setCell (by have := HUS.out; show _ ≤ f; omega) _
                · rw [HTK.out]
                  refine Kd.N_far ?_ (fun k hk => hk.2) _
                  have h1 := HO.out
                  rw [List.length_append, List.length_singleton] at h1
                  exact h1
          · obtain rfl : j = q := by omega
            have hrp : ¬ (j : Int) < (j : Int) := by omega
            obtain ⟨q, rfl⟩ : ∃ q, q = j := ⟨_, rfl⟩
            obtain ⟨ad', B0, d0, he, _, hz0, hp0⟩ := HPT.out q (by have := HQ.out; omega)
            injection he with he
            subst he
            obtain ⟨ad', B1, d1, he, _, hz1, hp1⟩ := HPT.out (q + 1) (by have := HQ.out; omega)
            injection he with he
            subst he
            obtain ⟨ad', B2, d2, he, _, hz2, hp2⟩ := HPT.out (q + 2) (by have := HQ.out; omega)
            injection he with he
            subst he
            obtain ⟨ad', B3, d3, he, _, hz3, hp3⟩ := HPT.out (q + 3) (by have := HQ.out; omega)
            injection he with he
            subst he
            obtain ⟨ad', B4, d4, he, _, hz4, hp4⟩ := HPT.out (q + 4) (by have := HQ.out; omega)
            injection he with he
            subst he
            obtain ⟨ad', B5, d5, he, _, hz5, hp5⟩ := HPT.out (q + 5) (by have := HQ.out; omega)
            injection he with he
            subst he
            obtain ⟨ad', B6, d6, he, _, hz6, hp6⟩ := HPT.out (q + 6) (by have := HQ.out; omega)
            injection he with he
            subst he
            obtain ⟨ad', B7, d7, he, _, hz7, hp7⟩ := HPT.out (q + 7) (by have := HQ.out; omega)
            injection he with he
            subst he
            have HN0 := Aside0.mk (fun W hb => num58 _ _ W (hp0 W hb).2.1 hz0)
            have HN3 := Aside0.mk (fun W hb => num58 _ _ W (hp3 W hb).2.1 hz3)
            have HN4 := Aside0.mk (fun W hb => num58 _ _ W (hp4 W hb).2.1 hz4)
            have HN5 := Aside0.mk (fun W hb => num58 _ _ W (hp5 W hb).2.1 hz5)
            have HN6 := Aside0.mk (fun W hb => num58 _ _ W (hp6 W hb).2.1 hz6)
            have HN7 := Aside0.mk (fun W hb => num58 _ _ W (hp7 W hb).2.1 hz7)
            have hzz : ∀ i, 0 ≤ numOf (pt l i) ∧ numOf (pt l i) < 9223372036854775808 := fun i => numOf_pos _
            have HZ := Aside0.mk (⟨hzz (q + 3), hzz (q + 4), hzz (q + 5), hzz (q + 6)⟩ : (0 ≤ numOf (pt l (q + 3)) ∧ numOf (pt l (q + 3)) < 9223372036854775808) ∧ (0 ≤ numOf (pt l (q + 4)) ∧ numOf (pt l (q + 4)) < 9223372036854775808) ∧ (0 ≤ numOf (pt l (q + 5)) ∧ numOf (pt l (q + 5)) < 9223372036854775808) ∧ (0 ≤ numOf (pt l (q + 6)) ∧ numOf (pt l (q + 6)) < 9223372036854775808))
            clear hzz
            obtain ⟨z0, e0⟩ : ∃ x, numOf (pt l q) = x := ⟨_, rfl⟩
            obtain ⟨z1, e1⟩ : ∃ x, strB (pt l (q + 1)) = x := ⟨_, rfl⟩
            obtain ⟨z2, e2⟩ : ∃ x, strB (pt l (q + 2)) = x := ⟨_, rfl⟩
            obtain ⟨z3, e3⟩ : ∃ x, numOf (pt l (q + 3)) = x := ⟨_, rfl⟩
            obtain ⟨z4, e4⟩ : ∃ x, numOf (pt l (q + 4)) = x := ⟨_, rfl⟩
            obtain ⟨z5, e5⟩ : ∃ x, numOf (pt l (q + 5)) = x := ⟨_, rfl⟩
            obtain ⟨z6, e6⟩ : ∃ x, numOf (pt l (q + 6)) = x := ⟨_, rfl⟩
            obtain ⟨z7, e7⟩ : ∃ x, numOf (pt l (q + 7)) = x := ⟨_, rfl⟩
            rw [e0, e1, e2, e3, e4, e5, e6, e7] at HRAW
            rw [e3, e4, e5, e6] at HZ
            rw [e0] at HN0
            rw [e3] at HN3
            rw [e4] at HN4
            rw [e5] at HN5
            rw [e6] at HN6
            rw [e7] at HN7
            have HS : Aside0 (∀ W, Below w1.heap.size w1 W → Below w1.heap.size w1 W ∧ W.cell? (ad.add q) = some (.slice B0 (pt l q).length d0) ∧ W.cell? ⟨ad.block, ad.off + (q + 1), none⟩ = some (.slice B1 (pt l (q + 1)).length d1) ∧ W.cell? ⟨ad.block, ad.off + (q + 2), none⟩ = some (.slice B2 (pt l (q + 2)).length d2) ∧ W.cell? ⟨ad.block, ad.off + (q + 3), none⟩ = some (.slice B3 (pt l (q + 3)).length d3) ∧ W.cell? ⟨ad.block, ad.off + (q + 4), none⟩ = some (.slice B4 (pt l (q + 4)).length d4) ∧ W.cell? ⟨ad.block, ad.off + (q + 5), none⟩ = some (.slice B5 (pt l (q + 5)).length d5) ∧ W.cell? ⟨ad.block, ad.off + (q + 6), none⟩ = some (.slice B6 (pt l (q + 6)).length d6) ∧ (convert 22 9 (.slice B1 (pt l (q + 1)).length d1)).run Try.prog W = .ok (.string z1) W ∧ (convert 22 9 (.slice B2 (pt l (q + 2)).length d2)).run Try.prog W = .ok (.string z2) W) :=
              ⟨fun W hb => ⟨hb, (hp0 W hb).1, (hp1 W hb).1, (hp2 W hb).1, (hp3 W hb).1, (hp4 W hb).1, (hp5 W hb).1, (hp6 W hb).1, e1 ▸ (hp1 W hb).2.2, e2 ▸ (hp2 W hb).2.2⟩⟩
            have HP7 := Aside0.mk (fun W (hb : Below w1.heap.size w1 W) => show W.cell? ⟨ad.block, ad.off + (q + 7), none⟩ = some (.slice B7 (pt l (q + 7)).length d7) from (hp7 W hb).1)
            clear hp0 hz0 e0 hp1 hz1 e1 hp2 hz2 e2 hp3 hz3 e3 hp4 hz4 e4 hp5 hz5 e5 hp6 hz6 e6 hp7 hz7 e7
            obtain ⟨Af, cf, rfl⟩ := Kd.N_slice HNR.out
            have hfe : ((l.drop 1).take (q - 1)).map refFam = (refRaw l).fams := by rw [HRAW.out]
            rw [hfe] at HNR HFR
            clear hfe hgg hj1 hj hjl
            obtain ⟨wy, rfl⟩ : ∃ wy : World, wy = wr := ⟨_, rfl⟩
            have HBW := HBR
            have HGF := HFR
            have HNV := HNR
            have HGW := HUS
            go_upto_region 10 with fail
            have hi0 : (q : Int) < (l.length : Int) := by have := HQ.out; omega
            have hi1 : (q : Int) + 1 < (l.length : Int) := by have := HQ.out; omega
            have hw1 : IntKind.i64.wrap ((q : Int) + 1) = (q : Int) + 1 := by rw [IntKind.wrap_i64]; omega
            have ht1 : ((q : Int) + 1).toNat = q + 1 := by omega
            have hy1 : (0 : Int) ≤ (q : Int) + 1 := by omega
            have hi2 : (q : Int) + 2 < (l.length : Int) := by have := HQ.out; omega
            have hw2 : IntKind.i64.wrap ((q : Int) + 2) = (q : Int) + 2 := by rw [IntKind.wrap_i64]; omega
            have ht2 : ((q : Int) + 2).toNat = q + 2 := by omega
            have hy2 : (0 : Int) ≤ (q : Int) + 2 := by omega
            have hi3 : (q : Int) + 3 < (l.length : Int) := by have := HQ.out; omega
            have hw3 : IntKind.i64.wrap ((q : Int) + 3) = (q : Int) + 3 := by rw [IntKind.wrap_i64]; omega
            have ht3 : ((q : Int) + 3).toNat = q + 3 := by omega
            have hy3 : (0 : Int) ≤ (q : Int) + 3 := by omega
            have hi4 : (q : Int) + 4 < (l.length : Int) := by have := HQ.out; omega
            have hw4 : IntKind.i64.wrap ((q : Int) + 4) = (q : Int) + 4 := by rw [IntKind.wrap_i64]; omega
            have ht4 : ((q : Int) + 4).toNat = q + 4 := by omega
            have hy4 : (0 : Int) ≤ (q : Int) + 4 := by omega
            have hi5 : (q : Int) + 5 < (l.length : Int) := by have := HQ.out; omega
            have hw5 : IntKind.i64.wrap ((q : Int) + 5) = (q : Int) + 5 := by rw [IntKind.wrap_i64]; omega
            have ht5 : ((q : Int) + 5).toNat = q + 5 := by omega
            have hy5 : (0 : Int) ≤ (q : Int) + 5 := by omega
            have hi6 : (q : Int) + 6 < (l.length : Int) := by have := HQ.out; omega
            have hw6 : IntKind.i64.wrap ((q : Int) + 6) = (q : Int) + 6 := by rw [IntKind.wrap_i64]; omega
            have ht6 : ((q : Int) + 6).toNat = q + 6 := by omega
            have hy6 : (0 : Int) ≤ (q : Int) + 6 := by omega
            have hin0 : q < l.length := by have := HQ.out; omega
            go_cut [] (fun wx => Aside0 (Below w1.heap.size w1 wx) ∧ Aside0 (wx.heap[f]? = some (.cells #[.int .i64 x0, .slice Af (refRaw l).fams.length cf, .int .i64 z0, .string z1, .string z2, .int .i64 z3, .int .i64 z4, .int .i64 z5, .int .i64 z6, .int .i64 0] 28 (0, 0))) ∧ Aside0 (Kd.N k40 40 wx w1.heap.size (fun k => w1.heap.size ≤ k ∧ k ≠ f) (.slice Af (refRaw l).fams.length cf) (refRaw l).fams))
            case first =>
              refine wp_region_held_drew (S := fun W => Below w1.heap.size w1 W ∧ W.cell? (ad.add q) = some (.slice B0 (pt l q).length d0) ∧ W.cell? ⟨ad.block, ad.off + (q + 1), none⟩ = some (.slice B1 (pt l (q + 1)).length d1) ∧ W.cell? ⟨ad.block, ad.off + (q + 2), none⟩ = some (.slice B2 (pt l (q + 2)).length d2) ∧ W.cell? ⟨ad.block, ad.off + (q + 3), none⟩ = some (.slice B3 (pt l (q + 3)).length d3) ∧ W.cell? ⟨ad.block, ad.off + (q + 4), none⟩ = some (.slice B4 (pt l (q + 4)).length d4) ∧ W.cell? ⟨ad.block, ad.off + (q + 5), none⟩ = some (.slice B5 (pt l (q + 5)).length d5) ∧ W.cell? ⟨ad.block, ad.off + (q + 6), none⟩ = some (.slice B6 (pt l (q + 6)).length d6) ∧ (convert 22 9 (.slice B1 (pt l (q + 1)).length d1)).run Try.prog W = .ok (.string z1) W ∧ (convert 22 9 (.slice B2 (pt l (q + 2)).length d2)).run Try.prog W = .ok (.string z2) W) (by kernel_rfl) (HS.out _ (Below.drew HBW.out)) (fun hHeld => ?_)
              refine wpAnyH_take (i := 0) (oi := _) (v := ?_) rfl (by kernel_rfl) (by kernel_rfl) (by kernel_rfl) (fun _ _ _ h => h) (Or.inl ⟨by rfl, ?_⟩) (by assumption) ?_
              rotate_left
              · (intro wz hSw; (try dsimp only at hSw); go_simp; (try with_reducible rfl))
              try simp only [Act.put, List.setIfInBounds_toArray, List.set_cons_zero, List.set_cons_succ]
              refine wpAnyH_take (i := 1) (oi := _) (v := ?_) rfl (by kernel_rfl) (by kernel_rfl) (by kernel_rfl) (fun _ _ _ h => h) (Or.inl ⟨by rfl, ?_⟩) (by assumption) ?_
              rotate_left
              · (intro wz hSw; (try dsimp only at hSw); go_simp; (try with_reducible rfl))
              try simp only [Act.put, List.setIfInBounds_toArray, List.set_cons_zero, List.set_cons_succ]
              refine wpAnyH_take (i := 2) (oi := _) (v := ?_) rfl (by kernel_rfl) (by kernel_rfl) (by kernel_rfl) (fun _ _ _ h => h) (Or.inl ⟨by rfl, ?_⟩) (by assumption) ?_
              rotate_left
              · (intro wz hSw; (try dsimp only at hSw); go_simp; (try with_reducible rfl))
              try simp only [Act.put, List.setIfInBounds_toArray, List.set_cons_zero, List.set_cons_succ]
              refine wpAnyH_take (i := 3) (oi := _) (v := ?_) rfl (by kernel_rfl) (by kernel_rfl) (by kernel_rfl) (fun _ _ _ h => h) (Or.inl ⟨by rfl, ?_⟩) (by assumption) ?_
              rotate_left
              · (intro wz hSw; (try dsimp only at hSw); go_simp; (try with_reducible rfl))
              try simp only [Act.put, List.setIfInBounds_toArray, List.set_cons_zero, List.set_cons_succ]
              refine wpAnyH_take (i := 5) (oi := _) (v := ?_) rfl (by kernel_rfl) (by kernel_rfl) (by kernel_rfl) (fun _ _ _ h => h) (Or.inl ⟨by rfl, ?_⟩) (by assumption) ?_
              rotate_left
              · (intro wz hSw; (try dsimp only at hSw); go_simp; (try with_reducible rfl))
              try simp only [Act.put, List.setIfInBounds_toArray, List.set_cons_zero, List.set_cons_succ]
              refine wpAnyH_take (i := 6) (oi := _) (v := ?_) rfl (by kernel_rfl) (by kernel_rfl) (by kernel_rfl) (fun _ _ _ h => h) (Or.inl ⟨by rfl, ?_⟩) (by assumption) ?_
              rotate_left
              · (intro wz hSw; (try dsimp only at hSw); go_simp; (try with_reducible rfl))
              try simp only [Act.put, List.setIfInBounds_toArray, List.set_cons_zero, List.set_cons_succ]
              refine wpAnyH_take (i := 7) (oi := _) (v := ?_) rfl (by kernel_rfl) (by kernel_rfl) (by kernel_rfl) (fun _ _ _ h => h) (Or.inl ⟨by rfl, ?_⟩) (by assumption) ?_
              rotate_left
              · (intro wz hSw; (try dsimp only at hSw); go_simp; (try with_reducible rfl))
              try simp only [Act.put, List.setIfInBounds_toArray, List.set_cons_zero, List.set_cons_succ]
              refine wpAnyH_take (i := 8) (oi := _) (v := ?_) rfl (by kernel_rfl) (by kernel_rfl) (by kernel_rfl) (fun _ _ _ h => h) (Or.inl ⟨by rfl, ?_⟩) (by assumption) ?_
              rotate_left
              · (intro wz hSw; (try dsimp only at hSw); go_simp; (try with_reducible rfl))
              try simp only [Act.put, List.setIfInBounds_toArray, List.set_cons_zero, List.set_cons_succ]
              refine wpAnyH_take (i := 9) (oi := _) (v := ?_) rfl (by kernel_rfl) (by kernel_rfl) (by kernel_rfl) (fun _ _ _ h => h) (Or.inl ⟨by rfl, ?_⟩) (by assumption) ?_
              rotate_left
              · (intro wz hSw; (try dsimp only at hSw); go_simp; (try with_reducible rfl))
              try simp only [Act.put, List.setIfInBounds_toArray, List.set_cons_zero, List.set_cons_succ]
              refine wpAnyH_take (i := 10) (oi := _) (v := ?_) rfl (by kernel_rfl) (by kernel_rfl) (by kernel_rfl) (fun _ _ _ h => h) (Or.inl ⟨by rfl, ?_⟩) (by assumption) ?_
              rotate_left
              · (intro wz hSw; (try dsimp only at hSw); go_simp; (try with_reducible rfl))
              try simp only [Act.put, List.setIfInBounds_toArray, List.set_cons_zero, List.set_cons_succ]
              refine wpAnyH_take (i := 11) (oi := _) (v := ?_) rfl (by kernel_rfl) (by kernel_rfl) (by kernel_rfl) (fun _ _ _ h => h) (Or.inl ⟨by rfl, ?_⟩) (by assumption) ?_
              rotate_left
              · (intro wz hSw; (try dsimp only at hSw); go_simp; (try with_reducible rfl))
              try simp only [Act.put, List.setIfInBounds_toArray, List.set_cons_zero, List.set_cons_succ]
              refine wpAnyH_take (i := 12) (oi := _) (v := ?_) rfl (by kernel_rfl) (by kernel_rfl) (by kernel_rfl) (fun _ _ _ h => h) (Or.inl ⟨by rfl, ?_⟩) (by assumption) ?_
              rotate_left
              · (intro wz hSw; (try dsimp only at hSw); go_simp; (try with_reducible rfl))
              try simp only [Act.put, List.setIfInBounds_toArray, List.set_cons_zero, List.set_cons_succ]
              refine wpAnyH_take (i := 13) (oi := _) (v := ?_) rfl (by kernel_rfl) (by kernel_rfl) (by kernel_rfl) (fun _ _ _ h => h) (Or.inl ⟨by rfl, ?_⟩) (by assumption) ?_
              rotate_left
              · (intro wz hSw; (try dsimp only at hSw); go_simp; (try with_reducible rfl))
              try simp only [Act.put, List.setIfInBounds_toArray, List.set_cons_zero, List.set_cons_succ]
              refine wpAnyH_take (i := 14) (oi := _) (v := ?_) rfl (by kernel_rfl) (by kernel_rfl) (by kernel_rfl) (fun _ _ _ h => h) (Or.inl ⟨by rfl, ?_⟩) (by assumption) ?_
              rotate_left
              · (intro wz hSw; (try dsimp only at hSw); go_simp; (try with_reducible rfl))
              try simp only [Act.put, List.setIfInBounds_toArray, List.set_cons_zero, List.set_cons_succ]
              refine wpAnyH_take (i := 15) (oi := _) (v := ?_) rfl (by kernel_rfl) (by kernel_rfl) (by kernel_rfl) (fun _ _ _ h => h) (Or.inl ⟨by rfl, ?_⟩) (by assumption) ?_
              rotate_left
              · (intro wz hSw; (try dsimp only at hSw); go_simp; (try with_reducible rfl))
              try simp only [Act.put, List.setIfInBounds_toArray, List.set_cons_zero, List.set_cons_succ]
              refine wpAnyH_take (i := 16) (oi := _) (v := ?_) rfl (by kernel_rfl) (by kernel_rfl) (by kernel_rfl) (fun _ _ _ h => h) (Or.inl ⟨by rfl, ?_⟩) (by assumption) ?_
              rotate_left
              · (intro wz hSw; (try dsimp only at hSw); go_simp; (try with_reducible rfl))
              try simp only [Act.put, List.setIfInBounds_toArray, List.set_cons_zero, List.set_cons_succ]
              refine wpAnyH_take (i := 17) (oi := _) (v := ?_) rfl (by kernel_rfl) (by kernel_rfl) (by kernel_rfl) (fun _ _ _ h => h) (Or.inl ⟨by rfl, ?_⟩) (by assumption) ?_
              rotate_left
              · (intro wz hSw; (try dsimp only at hSw); go_simp; (try with_reducible rfl))
              try simp only [Act.put, List.setIfInBounds_toArray, List.set_cons_zero, List.set_cons_succ]
              refine wpAnyH_take (i := 18) (oi := _) (v := ?_) rfl (by kernel_rfl) (by kernel_rfl) (by kernel_rfl) (fun _ _ _ h => h) (Or.inl ⟨by rfl, ?_⟩) (by assumption) ?_
              rotate_left
              · (intro wz hSw; (try dsimp only at hSw); go_simp; (try with_reducible rfl))
              try simp only [Act.put, List.setIfInBounds_toArray, List.set_cons_zero, List.set_cons_succ]
              refine wpAnyH_take (i := 19) (oi := _) (v := ?_) rfl (by kernel_rfl) (by kernel_rfl) (by kernel_rfl) (fun _ _ _ h => h) (Or.inl ⟨by rfl, ?_⟩) (by assumption) ?_
              rotate_left
              · (intro wz hSw; (try dsimp only at hSw); go_simp; (try with_reducible rfl))
              try simp only [Act.put, List.setIfInBounds_toArray, List.set_cons_zero, List.set_cons_succ]
              refine wpAnyH_take (i := 20) (oi := _) (v := ?_) rfl (by kernel_rfl) (by kernel_rfl) (by kernel_rfl) (fun _ _ _ h => h) (Or.inl ⟨by rfl, ?_⟩) (by assumption) ?_
              rotate_left
              · (intro wz hSw; (try dsimp only at hSw); go_simp; (try with_reducible rfl))
              try simp only [Act.put, List.setIfInBounds_toArray, List.set_cons_zero, List.set_cons_succ]
              refine wpAnyH_take (i := 21) (oi := _) (v := ?_) rfl (by kernel_rfl) (by kernel_rfl) (by kernel_rfl) (fun _ _ _ h => h) (Or.inl ⟨by rfl, ?_⟩) (by assumption) ?_
              rotate_left
              · (intro wz hSw; (try dsimp only at hSw); go_simp; (try with_reducible rfl))
              try simp only [Act.put, List.setIfInBounds_toArray, List.set_cons_zero, List.set_cons_succ]
              refine wpAnyH_take (i := 23) (oi := _) (v := ?_) rfl (by kernel_rfl) (by kernel_rfl) (by kernel_rfl) (fun _ _ _ h => h) (Or.inl ⟨by rfl, ?_⟩) (by assumption) ?_
              rotate_left
              · (intro wz hSw; (try dsimp only at hSw); go_simp; (try with_reducible rfl))
              try simp only [Act.put, List.setIfInBounds_toArray, List.set_cons_zero, List.set_cons_succ]
              refine wpAnyH_take (i := 24) (oi := _) (v := ?_) rfl (by kernel_rfl) (by kernel_rfl) (by kernel_rfl) (fun _ _ _ h => h) (Or.inl ⟨by rfl, ?_⟩) (by assumption) ?_
              rotate_left
              · (intro wz hSw; (try dsimp only at hSw); go_simp; (try with_reducible rfl))
              try simp only [Act.put, List.setIfInBounds_toArray, List.set_cons_zero, List.set_cons_succ]
              refine wpAnyH_take (i := 25) (oi := _) (v := ?_) rfl (by kernel_rfl) (by kernel_rfl) (by kernel_rfl) (fun _ _ _ h => h) (Or.inl ⟨by rfl, ?_⟩) (by assumption) ?_
              rotate_left
              · (intro wz hSw; (try dsimp only at hSw); go_simp; (try with_reducible rfl))
              try simp only [Act.put, List.setIfInBounds_toArray, List.set_cons_zero, List.set_cons_succ]
              refine wpAnyH_take (i := 26) (oi := _) (v := ?_) rfl (by kernel_rfl) (by kernel_rfl) (by kernel_rfl) (fun _ _ _ h => h) (Or.inl ⟨by rfl, ?_⟩) (by assumption) ?_
              rotate_left
              · (intro wz hSw; (try dsimp only at hSw); go_simp; (try with_reducible rfl))
              try simp only [Act.put, List.setIfInBounds_toArray, List.set_cons_zero, List.set_cons_succ]
              refine wpAnyH_take (i := 27) (oi := _) (v := ?_) rfl (by kernel_rfl) (by kernel_rfl) (by kernel_rfl) (fun _ _ _ h => h) (Or.inl ⟨by rfl, ?_⟩) (by assumption) ?_
              rotate_left
              · (intro wz hSw; (try dsimp only at hSw); go_simp; (try with_reducible rfl))
              try simp only [Act.put, List.setIfInBounds_toArray, List.set_cons_zero, List.set_cons_succ]
              refine wpAnyH_take (i := 29) (oi := _) (v := ?_) rfl (by kernel_rfl) (by kernel_rfl) (by kernel_rfl) (fun _ _ _ h => h) (Or.inl ⟨by rfl, ?_⟩) (by assumption) ?_
              rotate_left
              · (intro wz hSw; (try dsimp only at hSw); go_simp; (try with_reducible rfl))
              try simp only [Act.put, List.setIfInBounds_toArray, List.set_cons_zero, List.set_cons_succ]
              refine wpAnyH_take (i := 30) (oi := _) (v := ?_) rfl (by kernel_rfl) (by kernel_rfl) (by kernel_rfl) (fun _ _ _ h => h) (Or.inl ⟨by rfl, ?_⟩) (by assumption) ?_
              rotate_left
              · (intro wz hSw; (try dsimp only at hSw); go_simp; (try with_reducible rfl))
              try simp only [Act.put, List.setIfInBounds_toArray, List.set_cons_zero, List.set_cons_succ]
              refine wpAnyH_take (i := 31) (oi := _) (v := ?_) rfl (by kernel_rfl) (by kernel_rfl) (by kernel_rfl) (fun _ _ _ h => h) (Or.inl ⟨by rfl, ?_⟩) (by assumption) ?_
              rotate_left
              · (intro wz hSw; (try dsimp only at hSw); go_simp; (try with_reducible rfl))
              try simp only [Act.put, List.setIfInBounds_toArray, List.set_cons_zero, List.set_cons_succ]
              refine wpAnyH_take (i := 32) (oi := _) (v := ?_) rfl (by kernel_rfl) (by kernel_rfl) (by kernel_rfl) (fun _ _ _ h => h) (Or.inl ⟨by rfl, ?_⟩) (by assumption) ?_
              rotate_left
              · (intro wz hSw; (try dsimp only at hSw); go_simp; (try with_reducible rfl))
              try simp only [Act.put, List.setIfInBounds_toArray, List.set_cons_zero, List.set_cons_succ]
              refine wpAnyH_take (i := 33) (oi := _) (v := ?_) rfl (by kernel_rfl) (by kernel_rfl) (by kernel_rfl) (fun _ _ _ h => h) (Or.inl ⟨by rfl, ?_⟩) (by assumption) ?_
              rotate_left
              · (intro wz hSw; (try dsimp only at hSw); go_simp; (try with_reducible rfl))
              try simp only [Act.put, List.setIfInBounds_toArray, List.set_cons_zero, List.set_cons_succ]
              refine wpAnyH_take (i := 35) (oi := _) (v := ?_) rfl (by kernel_rfl) (by kernel_rfl) (by kernel_rfl) (fun _ _ _ h => h) (Or.inl ⟨by rfl, ?_⟩) (by assumption) ?_
              rotate_left
              · (intro wz hSw; (try dsimp only at hSw); go_simp; (try with_reducible rfl))
              try simp only [Act.put, List.setIfInBounds_toArray, List.set_cons_zero, List.set_cons_succ]
              refine wpAnyH_take (i := 36) (oi := _) (v := ?_) rfl (by kernel_rfl) (by kernel_rfl) (by kernel_rfl) (fun _ _ _ h => h) (Or.inl ⟨by rfl, ?_⟩) (by assumption) ?_
              rotate_left
              · (intro wz hSw; (try dsimp only at hSw); go_simp; (try with_reducible rfl))
              try simp only [Act.put, List.setIfInBounds_toArray, List.set_cons_zero, List.set_cons_succ]
              refine wpAnyH_take (i := 37) (oi := _) (v := ?_) rfl (by kernel_rfl) (by kernel_rfl) (by kernel_rfl) (fun _ _ _ h => h) (Or.inl ⟨by rfl, ?_⟩) (by assumption) ?_
              rotate_left
              · (intro wz hSw; (try dsimp only at hSw); go_simp; (try with_reducible rfl))
              try simp only [Act.put, List.setIfInBounds_toArray, List.set_cons_zero, List.set_cons_succ]
              refine wpAnyH_take (i := 38) (oi := _) (v := ?_) rfl (by kernel_rfl) (by kernel_rfl) (by kernel_rfl) (fun _ _ _ h => h) (Or.inl ⟨by rfl, ?_⟩) (by assumption) ?_
              rotate_left
              · (intro wz hSw; (try dsimp only at hSw); go_simp; (try with_reducible rfl))
              try simp only [Act.put, List.setIfInBounds_toArray, List.set_cons_zero, List.set_cons_succ]
              refine wpAnyH_take (i := 39) (oi := _) (v := ?_) rfl (by kernel_rfl) (by kernel_rfl) (by kernel_rfl) (fun _ _ _ h => h) (Or.inl ⟨by rfl, ?_⟩) (by assumption) ?_
              rotate_left
              · (intro wz hSw; (try dsimp only at hSw); go_simp; (try with_reducible rfl))
              try simp only [Act.put, List.setIfInBounds_toArray, List.set_cons_zero, List.set_cons_succ]
              refine wpAnyH_ready (rs := [4]) (by kernel_rfl) (by simp) ?_
              refine AllReadyH.cons (o := _) rfl (fun K hK => ?_) ?_
              · (go_simp; go_at_call 58; refine (HN0.out _ hHeld.1).mono ?_; rintro e w8 ⟨rfl, hb2⟩; have HBW := Aside0.mk (bb hHeld.1 hb2); have HGF := Aside0.mk (blk_keep hb2 HGF.out); (first | (with_reducible have hnx := Kd.N_below HNV.out hb2) | (have hnx := Kd.N_below (Kd.N_drew HNV.out) hb2)); have HNV := Aside0.mk hnx; clear hnx; have gcb := blk_cell HGF.out; have gfb := blk_frozen HGF.out; clear hb2)
                refine hK.out _ _ ?_ (fun hHeld => ?_)
                · exact HS.out _ (by with_reducible repeat (first | exact HBW.out | exact Below.drew HBW.out | refine Below.drew ?_ | refine bba ?_ _ | refine Below.setCell ?_ HGW.out _))
                clear hK K
                try simp only [Act.put, List.setIfInBounds_toArray, List.set_cons_zero, List.set_cons_succ]
                refine wpAnyH_ready (rs := [22]) (by kernel_rfl) (by simp) ?_
                refine AllReadyH.cons (o := _) rfl (fun K hK => ?_) ?_
                · (go_simp; go_at_call 58; refine (HN3.out _ hHeld.1).mono ?_; rintro e w8 ⟨rfl, hb2⟩; have HBW := Aside0.mk (bb hHeld.1 hb2); have HGF := Aside0.mk (blk_keep hb2 HGF.out); (first | (with_reducible have hnx := Kd.N_below HNV.out hb2) | (have hnx := Kd.N_below (Kd.N_drew HNV.out) hb2)); have HNV := Aside0.mk hnx; clear hnx; have gcb := blk_cell HGF.out; have gfb := blk_frozen HGF.out; clear hb2)
                  refine hK.out _ _ ?_ (fun hHeld => ?_)
                  · exact HS.out _ (by with_reducible repeat (first | exact HBW.out | exact Below.drew HBW.out | refine Below.drew ?_ | refine bba ?_ _ | refine Below.setCell ?_ HGW.out _))
                  clear hK K
                  try simp only [Act.put, List.setIfInBounds_toArray, List.set_cons_zero, List.set_cons_succ]
                  refine wpAnyH_ready (rs := [28]) (by kernel_rfl) (by simp) ?_
                  refine AllReadyH.cons (o := _) rfl (fun K hK => ?_) ?_
                  · (go_simp; go_at_call 58; refine (HN4.out _ hHeld.1).mono ?_; rintro e w8 ⟨rfl, hb2⟩; have HBW := Aside0.mk (bb hHeld.1 hb2); have HGF := Aside0.mk (blk_keep hb2 HGF.out); (first | (with_reducible have hnx := Kd.N_below HNV.out hb2) | (have hnx := Kd.N_below (Kd.N_drew HNV.out) hb2)); have HNV := Aside0.mk hnx; clear hnx; have gcb := blk_cell HGF.out; have gfb := blk_frozen HGF.out; clear hb2)
                    refine hK.out _ _ ?_ (fun hHeld => ?_)
                    · exact HS.out _ (by with_reducible repeat (first | exact HBW.out | exact Below.drew HBW.out | refine Below.drew ?_ | refine bba ?_ _ | refine Below.setCell ?_ HGW.out _))
                    clear hK K
                    try simp only [Act.put, List.setIfInBounds_toArray, List.set_cons_zero, List.set_cons_succ]
                    refine wpAnyH_ready (rs := [34]) (by kernel_rfl) (by simp) ?_
                    refine AllReadyH.cons (o := _) rfl (fun K hK => ?_) ?_
                    · (go_simp; go_at_call 58; refine (HN5.out _ hHeld.1).mono ?_; rintro e w8 ⟨rfl, hb2⟩; have HBW := Aside0.mk (bb hHeld.1 hb2); have HGF := Aside0.mk (blk_keep hb2 HGF.out); (first | (with_reducible have hnx := Kd.N_below HNV.out hb2) | (have hnx := Kd.N_below (Kd.N_drew HNV.out) hb2)); have HNV := Aside0.mk hnx; clear hnx; have gcb := blk_cell HGF.out; have gfb := blk_frozen HGF.out; clear hb2)
                      refine hK.out _ _ ?_ (fun hHeld => ?_)
                      · exact HS.out _ (by with_reducible repeat (first | exact HBW.out | exact Below.drew HBW.out | refine Below.drew ?_ | refine bba ?_ _ | refine Below.setCell ?_ HGW.out _))
                      clear hK K
                      try simp only [Act.put, List.setIfInBounds_toArray, List.set_cons_zero, List.set_cons_succ]
                      refine wpAnyH_ready (rs := [40]) (by kernel_rfl) (by simp) ?_
                      refine AllReadyH.cons (o := _) rfl (fun K hK => ?_) ?_
                      · (go_simp; go_at_call 58; refine (HN6.out _ hHeld.1).mono ?_; rintro e w8 ⟨rfl, hb2⟩; have HBW := Aside0.mk (bb hHeld.1 hb2); have HGF := Aside0.mk (blk_keep hb2 HGF.out); (first | (with_reducible have hnx := Kd.N_below HNV.out hb2) | (have hnx := Kd.N_below (Kd.N_drew HNV.out) hb2)); have HNV := Aside0.mk hnx; clear hnx; have gcb := blk_cell HGF.out; have gfb := blk_frozen HGF.out; clear hb2)
                        refine hK.out _ _ ?_ (fun hHeld => ?_)
                        · exact HS.out _ (by with_reducible repeat (first | exact HBW.out | exact Below.drew HBW.out | refine Below.drew ?_ | refine bba ?_ _ | refine Below.setCell ?_ HGW.out _))
                        clear hK K
                        try simp only [Act.put, List.setIfInBounds_toArray, List.set_cons_zero, List.set_cons_succ]
                        refine wpAnyH_take (i := 41) (oi := _) (v := ?_) rfl (by kernel_rfl) (by kernel_rfl) (by kernel_rfl) (fun _ _ _ h => h) (Or.inl ⟨by rfl, ?_⟩) (by assumption) ?_
                        rotate_left
                        · (intro wz hSw; (try dsimp only at hSw); go_simp; (try with_reducible rfl))
                        try simp only [Act.put, List.setIfInBounds_toArray, List.set_cons_zero, List.set_cons_succ]
                        refine wpAnyH_take (i := 42) (oi := _) (v := ?_) rfl (by kernel_rfl) (by kernel_rfl) (by kernel_rfl) (fun _ _ _ h => h) (Or.inl ⟨by rfl, ?_⟩) (by assumption) ?_
                        rotate_left
                        · (intro wz hSw; (try dsimp only at hSw); go_simp; (try with_reducible rfl))
                        try simp only [Act.put, List.setIfInBounds_toArray, List.set_cons_zero, List.set_cons_succ]
                        refine wpAnyH_ready (rs := [43]) (by kernel_rfl) (by simp) ?_
                        refine AllReadyH.cons (o := _) rfl (fun K hK => ?_) ?_
                        · go_simp
                          refine hK.out _ _ ?_ (fun hHeld => ?_)
                          · exact HS.out _ (by with_reducible repeat (first | exact HBW.out | exact Below.drew HBW.out | refine Below.drew ?_ | refine bba ?_ _ | refine Below.setCell ?_ HGW.out _))
                          clear hK K
                          try simp only [Act.put, List.setIfInBounds_toArray, List.set_cons_zero, List.set_cons_succ]
                          refine wpAnyH_done (by kernel_rfl) ?_ _
                          (go_wp2; go_meet; refine ⟨⟨?_⟩, ⟨(blk_set (blk_set (blk_set (blk_set (blk_set (blk_set (blk_set HGF.out 2 (.int .i64 z0)) 3 (.string z1)) 4 (.string z2)) 5 (.int .i64 z3)) 6 (.int .i64 z4)) 7 (.int .i64 z5)) 8 (.int .i64 z6))⟩, ⟨?_⟩⟩; (with_reducible repeat (first | exact HBW.out | refine Below.setCell ?_ HGW.out _)); (with_reducible repeat (first | exact HNV.out | refine Kd.N_far ?_ (fun k hk => hk.2) _)))
                        exact AllReadyH.nil
                      exact AllReadyH.nil
                    exact AllReadyH.nil
                  exact AllReadyH.nil
                exact AllReadyH.nil
              exact AllReadyH.nil
            case rest =>
              obtain ⟨BX, HFX, HNX⟩ := hcut
              clear hin0 hi0 hi1 hi2 hi3 hi4 hi5 hi6 hw1 hw2 hw3 hw4 hw5 hw6 ht1 ht2 ht3 ht4 ht5 ht6 hy1 hy2 hy3 hy4 hy5 hy6 HS HBW HGF HNV HBR HFR HNR HN0 HN3 HN4 HN5 HN6 HPT h9 h15
              have gp7 := HP7.out _ BX.out
              have hi7 : (q : Int) + 7 < (l.length : Int) := by have := HQ.out; omega
              have hw7 : IntKind.i64.wrap ((q : Int) + 7) = (q : Int) + 7 := by rw [IntKind.wrap_i64]; omega
              have ht7 : ((q : Int) + 7).toNat = q + 7 := by omega
              have hy7 : (0 : Int) ≤ (q : Int) + 7 := by omega
              go_wp2_with fail
              refine (HN7.out _ BX.out).mono ?_
              rintro e y10 ⟨rfl, hb⟩
              clear gp7 hi7 hw7 ht7 hy7
              have f10 := blk_keep hb HFX.out
              have HF10 := Aside0.mk f10
              have hnx := Kd.N_far (Kd.N_below HNX.out hb) (p := ⟨f, 9, none⟩) (fun k hk => hk.2) (.int .i64 z7)
              have HNX := Aside0.mk hnx
              have HB10 := Aside0.mk (bb BX.out hb)
              have gf10 := blk_cell f10
              have gg10 := blk_frozen f10
              have f11 := blk_set HF10.out 9 (.int .i64 z7)
              have HF11 := Aside0.mk f11
              have HB11 := Aside0.mk (HB10.out.setCell (p := ⟨f, 9, none⟩) HUS.out (.int .i64 z7))
              have HZZ := Aside0.mk (show (refRaw l).typ ≤ 9223372036854775807 ∧ (refRaw l).grp ≤ 9223372036854775807 ∧ (refRaw l).vers ≤ 9223372036854775807 ∧ (refRaw l).life ≤ 9223372036854775807 by rw [HRAW.out]; have := HZ.out; simp only; omega)
              have HSC := Aside0.mk (show Vs (refRaw l) (.slice Af (refRaw l).fams.length cf) = .agg #[.int .i64 x0, .slice Af (refRaw l).fams.length cf, .int .i64 z0, .string z1, .string z2, .int .i64 z3, .int .i64 z4, .int .i64 z5, .int .i64 z6, .int .i64 z7] by
                conv => lhs; unfold Vs
                rw [HRAW.out])
              generalize refRaw l = s at HNX HF11 HF10 gf10 HZZ HSC HX HNM
              clear f10 f11 hb hnx HRAW HZ HQ BX HFX HN7 HP7
              go_wp2_with fail
              generalize y10.setCell ⟨f, 9, none⟩ (.int .i64 z7) = y11 at HNX HF11 HB11 ⊢
              clear gf10 gg10 HF10 HB10
              refine (refEnc36 _ s y11 ⟨_, HSC.out.symm, Kd.N_reads HNX.out⟩ HNM.out HZZ.out).mono ?_
              rintro e y12 ⟨v12, l12, ok12, rfl, hn12, hb12, hl12, rfl⟩
              obtain ⟨A12, c12, rfl⟩ := Kd.N_slice hn12
              have f12 := blk_keep hb12 HF11.out
              have HF12 := Aside0.mk f12
              have HN12 := Aside0.mk (Kd.N_below HNX.out hb12)
              have hb1 : Below w1.heap.size w1 y12 := HB11.out.trans (hb12.mono HB11.out.size)
              have HB12 := Aside0.mk hb1
              have a12 := blk_keep hb1 HA.out
              have HA12 := Aside0.mk a12
              have gf12 := blk_cell f12
              have gg12 := blk_frozen f12
              have ga12 := blk_cell a12
              have gh12 := blk_frozen a12
              have HQ12 := Aside0.mk (same40_any _ _ l12 b y12 hn12.sl (HVW.out.below hb1))
              have HL12 := Aside0.mk hl12
              clear hn12 hb12 hb1 f12 a12 hl12 HA HNX HF11 HB11 gca gfa
              cases hok : encOk s with
              | false =>
                have HXX := Aside0.mk (show decOk b = none by rw [HX.out, if_neg (by rw [hok]; simp)])
                clear HQ12 hok
                go_wp2
                refine bodyPost_ret (v := .tuple #[.agg #[.int .i64 0, .slice none 0 0, .int .i64 0, .string ⟨#[]⟩, .string ⟨#[]⟩, .int .i64 0, .int .i64 0, .int .i64 0, .int .i64 0, .int .i64 0], .bool false]) (by simp [results, Try.results16, go_sem, ga12]) rfl (DecP.no HXX.out ?_)
                have hbz := bb HB.out HB12.out
                with_reducible repeat (first | exact hbz | refine Below.setCell ?_ (by simp) _)
              | true =>
                rw [hok, if_pos rfl] at HL12
                by_cases hlb : l12 = b
                · have HXX := Aside0.mk (show decOk b = some s by rw [HX.out, if_pos ⟨hok, by rw [← HL12.out, hlb]⟩])
                  rw [decide_eq_true hlb] at HQ12
                  clear hok hlb
                  go_wp2_with fail
                  refine HQ12.out.mono ?_
                  rintro e y13 ⟨rfl, hb13⟩
                  have f13 := blk_keep hb13 HF12.out
                  have gf13 := blk_cell f13
                  have a13 := blk_keep hb13 HA12.out
                  have ga13 := blk_cell a13
                  have gh13 := blk_frozen a13
                  have HN13 := Aside0.mk (Kd.N_below HN12.out hb13)
                  have HB13 := Aside0.mk (bb (bb HB.out HB12.out) hb13)
                  have HSA := Aside0.mk (show w.heap.size < f by have := HSZ.out; have := HUS.out; omega)
                  have hna : ¬ f = w.heap.size := by have := HSA.out; omega
                  have hna2 : ¬ w.heap.size = f := by have := HSA.out; omega
                  clear hb13 f13 a13 gf12 gg12 ga12 gh12 HF12 HA12
                  go_wp2
                  refine bodyPost_ret (v := .tuple #[.agg #[.int .i64 x0, .slice Af s.fams.length cf, .int .i64 z0, .string z1, .string z2, .int .i64 z3, .int .i64 z4, .int .i64 z5, .int .i64 z6, .int .i64 z7], .bool true]) (by simp [results, Try.results16, go_sem, ga13]) rfl ⟨_, true, s, rfl, ⟨_, HSC.out.symm, ?_⟩, ?_, by rw [HXX.out]; rfl, by rw [HXX.out]; rfl⟩
                  · refine Kd.N_reads (ok := fun k => w1.heap.size ≤ k ∧ k ≠ f) (base := w1.heap.size) (e := 40) ?_
                    have h3 := HN13.out
                    with_reducible repeat (first | exact h3 | refine Kd.N_far ?_ (fun k hk => by have := HSZ.out; simp at hk ⊢; omega) _)
                  · with_reducible repeat (first | exact HB13.out | refine Below.setCell ?_ (by simp) _)
                · have HXX := Aside0.mk (show decOk b = none by rw [HX.out, if_neg (fun h => hlb (by rw [HL12.out, h.2]))])
                  rw [decide_eq_false hlb] at HQ12
                  clear hok
                  go_wp2_with fail
                  refine HQ12.out.mono ?_
                  rintro e y13 ⟨rfl, hb13⟩
                  have a13 := blk_keep hb13 HA12.out
                  have ga13 := blk_cell a13
                  have gh13 := blk_frozen a13
                  have HB13 := Aside0.mk (bb (bb HB.out HB12.out) hb13)
                  clear hb13 a13 gf12 gg12 ga12 gh12 HF12 HA12
                  go_wp2
                  refine bodyPost_ret (v := .tuple #[.agg #[.int .i64 0, .slice none 0 0, .int .i64 0, .string ⟨#[]⟩, .string ⟨#[]⟩, .int .i64 0, .int .i64 0, .int .i64 0, .int .i64 0, .int .i64 0], .bool false]) (by simp [results, Try.results16, go_sem, ga13]) rfl (DecP.no HXX.out ?_)
                  with_reducible repeat (first | exact HB13.out | refine Below.setCell ?_ (by simp) _)
end Go.Proofs.Ytmgpoafoljkknaa.My
