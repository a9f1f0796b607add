/- The contract of schema.Encode. Conditions: numbers fit an int. -/
import Derived.Test.YtmgpoafoljkknaaJ
namespace Go.Proofs.Ytmgpoafoljkknaa.My
open Go.RowKit Go.Proofs.YtmgpoafoljkknaaW.PrintWords Go.Proofs.YtmgpoafoljkknaaW.PrintLast Go.Proofs.YtmgpoafoljkknaaW.PrintMore PSchemaReads
theorem within_le {n a b : Int} (h : withinB n a b = true) : a ≤ n ∧ n ≤ b := by
  simpa [withinB] using h
theorem famOk_of {x : S40} (h : familyB x = true) : FamOk x := by
  simp only [familyB, Bool.and_eq_true, nameB, layoutsB, colsB, decide_eq_true_eq] at h
  obtain ⟨⟨⟨⟨⟨⟨h0, h0'⟩, _⟩, h1⟩, h2⟩, ⟨⟨⟨h3, _⟩, h3'⟩, _⟩⟩, ⟨h4, h4'⟩, _⟩ := h
  have := within_le h1
  have := within_le h2
  have := within_le h3'
  refine ⟨by omega, by omega, by omega, by omega, by omega, fun l hl => ?_, fun c hc => ?_⟩
  · have hb := List.all_eq_true.1 h3 l hl
    rw [layB, Bool.and_eq_true] at hb
    have := within_le hb.1
    have := within_le hb.2
    omega
  · have hb := List.all_eq_true.1 h4' c hc
    rw [colB, Bool.and_eq_true, Bool.and_eq_true, decide_eq_true_eq] at hb
    have := within_le hb.1.2
    have := within_le hb.2
    omega
theorem famOk_parts {x : S40} (h : familyB x = true) : (famParts x).length ≤ 100 := by
  simp only [familyB, Bool.and_eq_true, layoutsB, colsB, decide_eq_true_eq] at h
  obtain ⟨⟨_, ⟨_, h3'⟩, _⟩, ⟨h4, _⟩, _⟩ := h
  have := within_le h3'
  rw [famParts_count]
  omega
theorem rightB_fams {s : Sch} (h : rightB s = true) : (1 ≤ s.ver ∧ s.ver ≤ 1099511627776) ∧ s.fams.length ≤ 6 ∧ (∀ f ∈ s.fams, familyB f = true) ∧ (0 ≤ s.kind ∧ s.kind ≤ 5) ∧ (0 ≤ s.step ∧ s.step ≤ 9) := by
  simp only [rightB, Bool.and_eq_true, decide_eq_true_eq] at h
  obtain ⟨⟨⟨⟨h1, h2⟩, h3⟩, _⟩, h5⟩ := h
  refine ⟨within_le h1, h2, List.all_eq_true.1 h3, ?_⟩
  by_cases hk : s.kind = 0
  · rw [if_pos hk, Bool.and_eq_true, beq_iff_eq] at h5
    omega
  · rw [if_neg hk, Bool.and_eq_true] at h5
    have := within_le h5.1
    have := within_le h5.2
    omega
def encParts (s : Sch) : List (List UInt8) := [numL s.ver] ++ s.fams.map (fun f => listL (famParts f)) ++ [numL s.kind, s.fam.data.toList, s.qual.data.toList, numL s.typ, numL s.grp, numL s.vers, numL s.life, numL s.step]
def encOk (s : Sch) : Bool := rightB s && decide (s.fam.size ≤ 100) && decide (s.qual.size ≤ 100) && (decide (0 ≤ s.typ) && decide (0 ≤ s.grp) && decide (0 ≤ s.vers) && decide (0 ≤ s.life))
def EncP (w : World) (s : Sch) (e : Ending) (w' : World) : Prop := ∃ v1 l ok, e = .returned (.tuple #[v1, .bool ok]) ∧ Nw kB 5 w.heap.size w' v1 l ∧ Below w.heap.size w w' ∧ l = (if encOk s = true then listL (encParts s) else []) ∧ ok = encOk s
theorem EncP.no {w w' : World} {s : Sch} (h : encOk s = false) (hb : Below w.heap.size w w') : EncP w s (.returned (.tuple #[.slice none 0 0, .bool false])) w' :=
  ⟨_, _, _, rfl, Kd.N_nil _ _ _ _ _, hb, by rw [h]; rfl, h.symm⟩
theorem encParts_len {s : Sch} (h : rightB s = true) (hf : s.fam.size ≤ 100) (hq : s.qual.size ≤ 100) (hn : s.typ ≤ 9223372036854775807 ∧ s.grp ≤ 9223372036854775807 ∧ s.vers ≤ 9223372036854775807 ∧ s.life ≤ 9223372036854775807) :
    (encParts s).flatten.length ≤ 100000000 ∧ (encParts s).length ≤ 1000000 := by
  obtain ⟨h1, h2, h3, h4, h5⟩ := rightB_fams h
  have hc : (encParts s).length = s.fams.length + 9 := by simp [encParts]
  refine ⟨Nat.le_trans (flatten_le 1000000 20 _ (by omega) (fun b hb => ?_)) (by omega), by omega⟩
  have n9 : ∀ {n : Int}, n ≤ 9223372036854775807 → (numL n).length ≤ 1000000 := fun hn => Nat.le_trans (numL_len hn) (by omega)
  simp only [encParts, List.mem_append, List.mem_cons, List.not_mem_nil, or_false, List.mem_map] at hb
  rcases hb with (rfl | ⟨f, hf, rfl⟩) | rfl | rfl | rfl | rfl | rfl | rfl | rfl | rfl
  · exact n9 (by omega)
  · have hfo := famOk_of (h3 f hf)
    have h3' := famOk_parts (h3 f hf)
    have hsm := famParts_small hfo
    have e1 := listL_len (famParts f) (fun b hb => by have := hsm b hb; omega)
    have e2 := flatten_le 1000 100 (famParts f) h3' hsm
    have e3 := encN_len9 (show (famParts f).length < 9223372036854775808 by omega)
    rw [listL, List.length_append]
    omega
  · exact n9 (by omega)
  · rw [data_length]; omega
  · rw [data_length]; omega
  · exact n9 hn.1
  · exact n9 hn.2.1
  · exact n9 hn.2.2.1
  · exact n9 hn.2.2.2
  · exact n9 (by omega)
theorem min4_run (a b c d : Int) : ∃ m : Int, (m < 0 ↔ (a < 0 ∨ b < 0 ∨ c < 0 ∨ d < 0)) ∧ ∀ (ats : Array TypeId) (ty : TypeId), Builtin.min_ ats ty #[.int .i64 a, .int .i64 b, .int .i64 c, .int .i64 d] = pure (.int .i64 m) := by
  refine ⟨mn (mn (mn a b) c) d, ?_, fun ats ty => ?_⟩
  · unfold mn; split <;> split <;> split <;> omega
  · rw [min_four, min2_int, pure_bind, min2_int, pure_bind, min2_int, pure_bind]
    rfl
set_option maxHeartbeats 4000000 in
set_option maxRecDepth 100000 in
theorem encode_any (v : Value) (s : Sch) (w : World) (h : Sc w v s) (hn : s.typ ≤ 9223372036854775807 ∧ s.grp ≤ 9223372036854775807 ∧ s.vers ≤ 9223372036854775807 ∧ s.life ≤ 9223372036854775807) :
    Calls Try.prog 19 #[v] w (EncP w s) := by
  have HR := Aside0.mk (fun W (hb : Below w.heap.size w W) => right_any v s W (h.below hb))
  obtain ⟨vf, rfl, hs⟩ := h
  obtain ⟨A, c, rfl, hc, hC⟩ := hs
  have HOK := Aside0.mk (show encOk s = (rightB s && decide (s.fam.size ≤ 100) && decide (s.qual.size ≤ 100) && (decide (0 ≤ s.typ) && decide (0 ≤ s.grp) && decide (0 ≤ s.vers) && decide (0 ≤ s.life))) from rfl)
  have HC := Aside0.mk hC
  have HNN := Aside0.mk hn
  have HBX := Aside0.mk (fun (o o2 : Obj) => ((Below.refl w.heap.size w).alloc (Nat.le_refl _) o).alloc (by simp) o2)
  clear hC hn
  rcases q1 : rightB s with _ | _
  · have HE := Aside0.mk (show encOk s = false by rw [HOK.out, q1]; rfl)
    simp only [q1] at HR
    go_enter Try.func19, Try.ntmps19
    go_wp2_with (go_at_call 20; refine (HR.out _ (HBX.out _ _)).mono ?_; rintro e w1 ⟨rfl, hb1⟩)
    go_ret2
    exact EncP.no HE.out (bb (HBX.out _ _) hb1)
  simp only [q1] at HR
  by_cases c2 : (s.fam.size : Int) ≤ 100
  rotate_left
  · have c2' : 100 < (s.fam.size : Int) := by omega
    have HE := Aside0.mk (show encOk s = false by rw [HOK.out, q1, show decide (s.fam.size ≤ 100) = false from decide_eq_false (by omega)]; rfl)
    go_enter Try.func19, Try.ntmps19
    go_wp2_with fail
    refine (HR.out _ (HBX.out _ _)).mono ?_
    rintro e w1 ⟨rfl, hb1⟩
    have k1 := blk_keep hb1 (blk_new2 w _ _ _)
    have kc1 := blk_cell k1
    have HB := Aside0.mk (bb (HBX.out _ _) hb1)
    clear hb1 k1
    go_wp2
    go_ret2
    exact EncP.no HE.out HB.out
  have c2' : ¬ 100 < (s.fam.size : Int) := by omega
  by_cases c3 : (s.qual.size : Int) ≤ 100
  rotate_left
  · have c3' : 100 < (s.qual.size : Int) := by omega
    have HE := Aside0.mk (show encOk s = false by rw [HOK.out, show decide (s.qual.size ≤ 100) = false from decide_eq_false (by omega)]; simp)
    go_enter Try.func19, Try.ntmps19
    go_wp2_with fail
    refine (HR.out _ (HBX.out _ _)).mono ?_
    rintro e w1 ⟨rfl, hb1⟩
    have k1 := blk_keep hb1 (blk_new2 w _ _ _)
    have kc1 := blk_cell k1
    have HB := Aside0.mk (bb (HBX.out _ _) hb1)
    clear hb1 k1
    go_wp2
    go_ret2
    exact EncP.no HE.out HB.out
  have c3' : ¬ 100 < (s.qual.size : Int) := by omega
  obtain ⟨m, hm, hmin⟩ := min4_run s.typ s.grp s.vers s.life
  by_cases c4 : m < 0
  · have HE := Aside0.mk (show encOk s = false by
      rw [HOK.out]
      rcases hm.1 c4 with h | h | h | h
      · rw [show decide (0 ≤ s.typ) = false from decide_eq_false (by omega)]; simp
      · rw [show decide (0 ≤ s.grp) = false from decide_eq_false (by omega)]; simp
      · rw [show decide (0 ≤ s.vers) = false from decide_eq_false (by omega)]; simp
      · rw [show decide (0 ≤ s.life) = false from decide_eq_false (by omega)]; simp)
    clear hm
    go_enter Try.func19, Try.ntmps19
    go_wp2_with fail
    refine (HR.out _ (HBX.out _ _)).mono ?_
    rintro e w1 ⟨rfl, hb1⟩
    have k1 := blk_keep hb1 (blk_new2 w _ _ _)
    have kc1 := blk_cell k1
    have HB := Aside0.mk (bb (HBX.out _ _) hb1)
    clear hb1 k1
    go_wp2
    go_ret2
    exact EncP.no HE.out HB.out
  have hpos : 0 ≤ s.typ ∧ 0 ≤ s.grp ∧ 0 ≤ s.vers ∧ 0 ≤ s.life := by
    refine ⟨?_, ?_, ?_, ?_⟩ <;> (apply Int.not_lt.1; intro h; exact c4 (hm.2 (by simp [h])))
  have HE := Aside0.mk (show encOk s = true by
    rw [HOK.out, q1, show decide (s.fam.size ≤ 100) = true from decide_eq_true (by omega), show decide (s.qual.size ≤ 100) = true from decide_eq_true (by omega), decide_eq_true hpos.1, decide_eq_true hpos.2.1, decide_eq_true hpos.2.2.1, decide_eq_true hpos.2.2.2]; rfl)
  have HPOS := Aside0.mk hpos
  have HF := Aside0.mk (rightB_fams q1)
  have hfl := HF.out.2.1
  clear hm hpos
  go_enter Try.func19, Try.ntmps19
  go_wp2_with fail
  refine (HR.out _ (HBX.out _ _)).mono ?_
  rintro e w1 ⟨rfl, hb1⟩
  have k0 := blk_keep hb1 (blk_old (blk_new w _ _) _)
  have kc0 := blk_cell k0
  have k1 := blk_keep hb1 (blk_new2 w _ _ _)
  have kc1 := blk_cell k1
  have HB := Aside0.mk (bb (HBX.out _ _) hb1)
  have HS1 := Aside0.mk (show w.heap.size + 2 ≤ w1.heap.size by have := hb1.size; simp at this; omega)
  have kc0' := fun o => blk_cell (blk_old k0 o)
  have kc1' := fun o => blk_cell (blk_old k1 o)
  have K0 := Aside0.mk k0
  have K1 := Aside0.mk k1
  clear hb1 k0 k1
  go_wp2_with fail
  have hp0 : Pk w1.heap.size w1.heap.size (w1.alloc (.cells #[.slice none 0 0] 86)) (.slice none 0 0) [] := ⟨blk_new w1 _ _, Nat.le_refl _, Kd.N_nil _ _ _ _ _⟩
  have hl1 := lit_ints hp0 [s.ver] (by simp)
  rw [World.size_alloc] at hl1
  refine (nums_any w1.heap.size w1.heap.size (.slice none 0 0) _ _ [s.ver] _ (hp0.below (below_alloc (Below.refl _ _) _)) hl1 (by intro n hn; simp at hn; subst hn; have := HF.out.1; omega) (by simp)).mono ?_
  rintro e w2 ⟨rfl, hb, v2, hp, _⟩
  have hal : Below w1.heap.size w1 w2 := (((Below.refl w1.heap.size w1).alloc (Nat.le_refl _) _).alloc (by simp) _).trans hb
  have HB2 := Aside0.mk (HB.out.trans (hal.mono (by have := HS1.out; omega)))
  have K02 := Aside0.mk ((hal.block w.heap.size (by have := HS1.out; omega)).trans K0.out)
  have K12 := Aside0.mk ((hal.block (w.heap.size + 1) (by have := HS1.out; omega)).trans K1.out)
  have HP2 := Aside0.mk hp
  clear hb hp hal hl1 hp0 kc0 kc1 kc0' kc1'
  have kc0 := blk_cell K02.out
  go_wp2
  clear kc0
  have hzf : s.fams.length ≤ 9223372036854775807 := by omega
  go_loopg [7, 47] s.fams.length (fun gg _ s47 wr => ∃ (kk : Nat) (vq : Value), kk ≤ s.fams.length ∧ s.fams.length - kk ≤ gg ∧ s47 = .int .i64 kk ∧ Aside0 (Pk w1.heap.size w1.heap.size wr vq ([numL s.ver] ++ (s.fams.take kk).map (fun f => listL (famParts f)))) ∧ Aside0 (Below w.heap.size w wr) ∧ Aside0 (wr.heap[w.heap.size]? = some (.cells #[.int .i64 s.ver, .slice A s.fams.length c, .int .i64 s.kind, .string s.fam, .string s.qual, .int .i64 s.typ, .int .i64 s.grp, .int .i64 s.vers, .int .i64 s.life, .int .i64 s.step] 28 (0, 0))) ∧ Aside0 (wr.heap[w.heap.size + 1]? = some (.cells #[.int .i64 s.kind, .string s.fam, .string s.qual, .int .i64 s.typ, .int .i64 s.grp, .int .i64 s.vers, .int .i64 s.life] 26 (0, 0))))
  case atStart => exact ⟨0, v2, by omega, by omega, rfl, HP2, HB2, K02, K12⟩
  case round =>
    obtain ⟨kk, vq, hkk, hg, rfl, HQ, BW, HK0, HK1⟩ := hrel
    by_cases hlt : kk < s.fams.length
    · have hltz : (kk : Int) < (s.fams.length : Int) := by omega
      obtain ⟨ad, A3, c3, A4, c4, rfl, h0, h1, h2, h3, h4, hfm⟩ := get40 (Kd.C_below HC.out BW.out) kk hlt
      have HT := Aside0.mk (show (s.fams.take (kk + 1)).map (fun f => listL (famParts f)) = (s.fams.take kk).map (fun f => listL (famParts f)) ++ [listL (famParts s.fams[kk])] by
        rw [List.take_succ_eq_append_getElem hlt, List.map_append]; rfl)
      have HFO := Aside0.mk (famOk_of (HF.out.2.2.1 _ (List.getElem_mem hlt)))
      have HLEN := Aside0.mk (show ([numL s.ver] ++ (s.fams.take kk).map (fun f => listL (famParts f))).length ≤ 1000 by
        rw [List.length_append, List.length_map, List.length_take]; simp; omega)
      generalize s.fams[kk] = x at h0 h1 h2 h3 h4 hfm HT HFO
      generalize hacc : [numL s.ver] ++ (s.fams.take kk).map (fun f => listL (famParts f)) = acc at HQ HLEN
      have HACC := Aside0.mk hacc
      have HFM := Aside0.mk hfm
      clear hacc hfm
      go_wp2_with fail
      refine (familyP_any w1.heap.size w1.heap.size vq _ x acc _ (HQ.out.below (below_alloc (Below.refl _ _) _)) (HFM.out.below (below_alloc (Below.refl _ _) _)) HFO.out HLEN.out).mono ?_
      rintro e w3 ⟨rfl, hb, v3, hp, _⟩
      have hal : Below w1.heap.size wr w3 := ((Below.refl w1.heap.size wr).alloc (Nat.le_of_lt HQ.out.lt) _).trans hb
      have BW3 := Aside0.mk (BW.out.trans (hal.mono (by have := HS1.out; omega)))
      have K03 := Aside0.mk ((hal.block w.heap.size (by have := HS1.out; omega)).trans HK0.out)
      have K13 := Aside0.mk ((hal.block (w.heap.size + 1) (by have := HS1.out; omega)).trans HK1.out)
      have HP3 := Aside0.mk hp
      clear hb hp hal
      go_wp2
      go_roundg (s.fams.length - (kk + 1))
      case measure => omega
      case rel => exact ⟨kk + 1, v3, by omega, by omega, by go_num, ⟨by rw [HT.out, ← List.append_assoc, HACC.out]; exact HP3.out⟩, BW3, K03, K13⟩
    · have hltz : ¬ (kk : Int) < (s.fams.length : Int) := by omega
      obtain rfl : kk = s.fams.length := by omega
      have hq := HQ.out
      rw [List.take_length] at hq
      have HP4 := Aside0.mk hq
      obtain ⟨w4, rfl⟩ : ∃ w4 : World, w4 = wr := ⟨_, rfl⟩
      have HB4 := BW
      have K04 := HK0
      have K14 := HK1
      obtain ⟨v4, rfl⟩ : ∃ v4 : Value, v4 = vq := ⟨_, rfl⟩
      have HL4 := Aside0.mk (show ([numL s.ver] ++ s.fams.map (fun f => listL (famParts f))).length ≤ 7 by
        rw [List.length_append, List.length_map]; simp; omega)
      have HFP := Aside0.mk (show encParts s = [numL s.ver] ++ s.fams.map (fun f => listL (famParts f)) ++ [numL s.kind, s.fam.data.toList, s.qual.data.toList, numL s.typ, numL s.grp, numL s.vers, numL s.life, numL s.step] from rfl)
      have HESM := Aside0.mk (encParts_len q1 (by omega) (by omega) HNN.out)
      generalize [numL s.ver] ++ s.fams.map (fun f => listL (famParts f)) = acc at hq HP4 HL4 HFP
      clear hq HQ BW HK0 HK1
      have kc1 := blk_cell K14.out
      go_wp2_with fail
      have hl1 := lit_ints HP4.out [s.kind] (by simp)
      refine (nums_any w1.heap.size w1.heap.size v4 _ _ [s.kind] _ (HP4.out.below (below_alloc (Below.refl _ _) _)) hl1 (by intro n hn; simp at hn; subst hn; have := HF.out.2.2.2.1; omega) (by have := HL4.out; simp; omega)).mono ?_
      rintro e w5 ⟨rfl, hb, v5, hp, _⟩
      have hal : Below w1.heap.size w4 w5 := ((Below.refl w1.heap.size w4).alloc (Nat.le_of_lt HP4.out.lt) _).trans hb
      have HB5 := Aside0.mk (HB4.out.trans (hal.mono (by have := HS1.out; omega)))
      have K05 := Aside0.mk ((hal.block w.heap.size (by have := HS1.out; omega)).trans K04.out)
      have K15 := Aside0.mk ((hal.block (w.heap.size + 1) (by have := HS1.out; omega)).trans K14.out)
      have HP5 := Aside0.mk hp
      clear hb hp hal hl1
      clear kc1
      have kc1 := blk_cell K15.out
      go_wp2_with fail
      refine (text_any w1.heap.size w1.heap.size v5 s.fam _ _ HP5.out (by omega) (by have := HL4.out; simp; omega)).mono ?_
      rintro e w6 ⟨rfl, hb, v6, hp, _⟩
      have hal : Below w1.heap.size w5 w6 := hb
      have HB6 := Aside0.mk (HB5.out.trans (hal.mono (by have := HS1.out; omega)))
      have K06 := Aside0.mk ((hal.block w.heap.size (by have := HS1.out; omega)).trans K05.out)
      have K16 := Aside0.mk ((hal.block (w.heap.size + 1) (by have := HS1.out; omega)).trans K15.out)
      have HP6 := Aside0.mk hp
      clear hb hp hal
      clear kc1
      have kc1 := blk_cell K16.out
      go_wp2_with fail
      refine (text_any w1.heap.size w1.heap.size v6 s.qual _ _ HP6.out (by omega) (by have := HL4.out; simp; omega)).mono ?_
      rintro e w7 ⟨rfl, hb, v7, hp, _⟩
      have hal : Below w1.heap.size w6 w7 := hb
      have HB7 := Aside0.mk (HB6.out.trans (hal.mono (by have := HS1.out; omega)))
      have K07 := Aside0.mk ((hal.block w.heap.size (by have := HS1.out; omega)).trans K06.out)
      have K17 := Aside0.mk ((hal.block (w.heap.size + 1) (by have := HS1.out; omega)).trans K16.out)
      have HP7 := Aside0.mk hp
      clear hb hp hal
      clear kc1
      have kc1 := blk_cell K17.out
      have kc0 := blk_cell K07.out
      go_wp2_with fail
      have hl1 := lit_ints HP7.out [s.typ, s.grp, s.vers, s.life, s.step] (by simp)
      refine (nums_any w1.heap.size w1.heap.size v7 _ _ [s.typ, s.grp, s.vers, s.life, s.step] _ (HP7.out.below (below_alloc (Below.refl _ _) _)) hl1 (by intro n hn; simp at hn; have h1 := HNN.out; have h2 := HF.out.2.2.2.2; rcases hn with rfl | rfl | rfl | rfl | rfl <;> omega) (by have := HL4.out; simp; omega)).mono ?_
      rintro e w8 ⟨rfl, hb, v8, hp, _⟩
      have hal : Below w1.heap.size w7 w8 := ((Below.refl w1.heap.size w7).alloc (Nat.le_of_lt HP7.out.lt) _).trans hb
      have HB8 := Aside0.mk (HB7.out.trans (hal.mono (by have := HS1.out; omega)))
      have K08 := Aside0.mk ((hal.block w.heap.size (by have := HS1.out; omega)).trans K07.out)
      have K18 := Aside0.mk ((hal.block (w.heap.size + 1) (by have := HS1.out; omega)).trans K17.out)
      have HP8 := Aside0.mk hp
      clear hb hp hal hl1
      clear kc1 kc0
      have HP9 : Aside0 (Pk w1.heap.size w1.heap.size w8 v8 (encParts s)) := ⟨by
        have := HP8.out
        rw [HFP.out]
        simpa using this⟩
      go_wp2_with fail
      refine (bytes_any w1.heap.size w1.heap.size v8 (encParts s) _ HP9.out HESM.out.1 HESM.out.2).mono ?_
      rintro e w9 ⟨v9, rfl, hn9, hb9⟩
      have HN9 := Aside0.mk (Nw.lower hn9 HB8.out.size)
      have HB9 := Aside0.mk (bb HB8.out hb9)
      clear hn9 hb9
      go_wp2
      go_ret2
      exact ⟨_, _, _, rfl, HN9.out, HB9.out, by rw [HE.out]; rfl, HE.out.symm⟩
end Go.Proofs.Ytmgpoafoljkknaa.My
