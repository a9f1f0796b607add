/- The contract of the reference's Encode. Conditions: the schema's numbers fit an int, names are at most a million bytes. -/
import Derived.Test.YtmgpoafoljkknaaK5
import Derived.Test.YtmgpoafoljkknaaO
import Derived.Test.YtmgpoafoljkknaaK7
namespace Go.Proofs.Ytmgpoafoljkknaa.My
open Go.RowKit Go.Proofs.YtmgpoafoljkknaaW.PrintWords Go.Proofs.YtmgpoafoljkknaaW.PrintLast Go.Proofs.YtmgpoafoljkknaaW.PrintMore PSchemaReads
theorem famParts_tot {x : S40} (h : familyB x = true) : (famParts x).flatten.length ≤ 100000000 ∧ (famParts x).length ≤ 1000000 := by
  have h1 := famOk_parts h
  have h2 := flatten_le 1000 100 (famParts x) h1 (famParts_small (famOk_of h))
  omega

set_option linter.unusedSimpArgs false in
set_option maxHeartbeats 8000000 in
set_option maxRecDepth 100000 in
theorem refEnc36 (v : Value) (s : Sch) (w : World) (h : Sc w v s) (hsz : ∀ f ∈ s.fams, f.f0.size ≤ 1000000) (hn : s.typ ≤ 9223372036854775807 ∧ s.grp ≤ 9223372036854775807 ∧ s.vers ≤ 9223372036854775807 ∧ s.life ≤ 9223372036854775807) :
    Calls Try.prog 36 #[v] w (EncP w s) := by
  have HR := Aside0.mk (fun W (hb : Below w.heap.size w W) => right32_any v s W (h.below hb) hsz)
  obtain ⟨vf, rfl, hs⟩ := h
  obtain ⟨A, c, rfl, hc, hC⟩ := hs
  have HOK := Aside0.mk (show encOk s = (rightB s && decide (s.fam.size ≤ 100) && decide (s.qual.size ≤ 100) && (decide (0 ≤ s.typ) && decide (0 ≤ s.grp) && decide (0 ≤ s.vers) && decide (0 ≤ s.life))) from rfl)
  have HC := Aside0.mk hC
  have HNN := Aside0.mk hn
  have HBX := Aside0.mk (fun (o o2 : Obj) => ((Below.refl w.heap.size w).alloc (Nat.le_refl _) o).alloc (by simp) o2)
  clear hC hn
  rcases q1 : rightB s with _ | _
  · have HE := Aside0.mk (show encOk s = false by rw [HOK.out, q1]; rfl)
    simp only [q1] at HR
    go_enter Try.func36, Try.ntmps36
    go_wp2_with fail
    refine (HR.out _ (HBX.out _ _)).mono ?_
    rintro e w1 ⟨rfl, hb1⟩
    have k1 := blk_keep hb1 (blk_new2 w _ _ _)
    have kc1 := blk_cell k1
    have HB := Aside0.mk (bb (HBX.out _ _) hb1)
    clear hb1 k1
    go_wp2
    go_ret2
    exact EncP.no HE.out HB.out
  simp only [q1] at HR
  by_cases c2 : (s.fam.size : Int) ≤ 100
  rotate_left
  · have c2' : 100 < (s.fam.size : Int) := by omega
    have HE := Aside0.mk (show encOk s = false by rw [HOK.out, show decide (s.fam.size ≤ 100) = false from decide_eq_false (by omega)]; simp)
    go_enter Try.func36, Try.ntmps36
    go_wp2_with fail
    refine (HR.out _ (HBX.out _ _)).mono ?_
    rintro e w1 ⟨rfl, hb1⟩
    have k1 := blk_keep hb1 (blk_new2 w _ _ _)
    have kc1 := blk_cell k1
    have HB := Aside0.mk (bb (HBX.out _ _) hb1)
    clear hb1 k1
    go_wp2
    go_ret2
    exact EncP.no HE.out HB.out
  have c2' : ¬ 100 < (s.fam.size : Int) := by omega
  by_cases c3 : (s.qual.size : Int) ≤ 100
  rotate_left
  · have c3' : 100 < (s.qual.size : Int) := by omega
    have HE := Aside0.mk (show encOk s = false by rw [HOK.out, show decide (s.qual.size ≤ 100) = false from decide_eq_false (by omega)]; simp)
    go_enter Try.func36, Try.ntmps36
    go_wp2_with fail
    refine (HR.out _ (HBX.out _ _)).mono ?_
    rintro e w1 ⟨rfl, hb1⟩
    have k1 := blk_keep hb1 (blk_new2 w _ _ _)
    have kc1 := blk_cell k1
    have HB := Aside0.mk (bb (HBX.out _ _) hb1)
    clear hb1 k1
    go_wp2
    go_ret2
    exact EncP.no HE.out HB.out
  have c3' : ¬ 100 < (s.qual.size : Int) := by omega
  by_cases c4 : s.typ < 0
  · have HE := Aside0.mk (show encOk s = false by rw [HOK.out, show decide (0 ≤ s.typ) = false from decide_eq_false (by omega)]; simp)
    go_enter Try.func36, Try.ntmps36
    go_wp2_with fail
    refine (HR.out _ (HBX.out _ _)).mono ?_
    rintro e w1 ⟨rfl, hb1⟩
    have k1 := blk_keep hb1 (blk_new2 w _ _ _)
    have kc1 := blk_cell k1
    have HB := Aside0.mk (bb (HBX.out _ _) hb1)
    clear hb1 k1
    go_wp2
    go_ret2
    exact EncP.no HE.out HB.out
  by_cases c5 : s.grp < 0
  · have HE := Aside0.mk (show encOk s = false by rw [HOK.out, show decide (0 ≤ s.grp) = false from decide_eq_false (by omega)]; simp)
    go_enter Try.func36, Try.ntmps36
    go_wp2_with fail
    refine (HR.out _ (HBX.out _ _)).mono ?_
    rintro e w1 ⟨rfl, hb1⟩
    have k1 := blk_keep hb1 (blk_new2 w _ _ _)
    have kc1 := blk_cell k1
    have HB := Aside0.mk (bb (HBX.out _ _) hb1)
    clear hb1 k1
    go_wp2
    go_ret2
    exact EncP.no HE.out HB.out
  by_cases c6 : s.vers < 0
  · have HE := Aside0.mk (show encOk s = false by rw [HOK.out, show decide (0 ≤ s.vers) = false from decide_eq_false (by omega)]; simp)
    go_enter Try.func36, Try.ntmps36
    go_wp2_with fail
    refine (HR.out _ (HBX.out _ _)).mono ?_
    rintro e w1 ⟨rfl, hb1⟩
    have k1 := blk_keep hb1 (blk_new2 w _ _ _)
    have kc1 := blk_cell k1
    have HB := Aside0.mk (bb (HBX.out _ _) hb1)
    clear hb1 k1
    go_wp2
    go_ret2
    exact EncP.no HE.out HB.out
  by_cases c7 : s.life < 0
  · have HE := Aside0.mk (show encOk s = false by rw [HOK.out, show decide (0 ≤ s.life) = false from decide_eq_false (by omega)]; simp)
    go_enter Try.func36, Try.ntmps36
    go_wp2_with fail
    refine (HR.out _ (HBX.out _ _)).mono ?_
    rintro e w1 ⟨rfl, hb1⟩
    have k1 := blk_keep hb1 (blk_new2 w _ _ _)
    have kc1 := blk_cell k1
    have HB := Aside0.mk (bb (HBX.out _ _) hb1)
    clear hb1 k1
    go_wp2
    go_ret2
    exact EncP.no HE.out HB.out
  have HE := Aside0.mk (show encOk s = true by
    rw [HOK.out, q1, show decide (s.fam.size ≤ 100) = true from decide_eq_true (by omega), show decide (s.qual.size ≤ 100) = true from decide_eq_true (by omega), show decide (0 ≤ s.typ) = true from decide_eq_true (by omega), show decide (0 ≤ s.grp) = true from decide_eq_true (by omega), show decide (0 ≤ s.vers) = true from decide_eq_true (by omega), show decide (0 ≤ s.life) = true from decide_eq_true (by omega)]; rfl)
  have HF := Aside0.mk (rightB_fams q1)
  have hfl := HF.out.2.1
  go_enter Try.func36, Try.ntmps36
  go_wp2_with fail
  refine (HR.out _ (HBX.out _ _)).mono ?_
  rintro e w1 ⟨rfl, hb1⟩
  have k0 := blk_keep hb1 (blk_old (blk_new w _ _) _)
  have kc0 := blk_cell k0
  have k1 := blk_keep hb1 (blk_new2 w _ _ _)
  have kc1 := blk_cell k1
  have HB := Aside0.mk (bb (HBX.out _ _) hb1)
  have HS1 := Aside0.mk (show w.heap.size + 2 ≤ w1.heap.size by have := hb1.size; simp at this; omega)
  have K0 := Aside0.mk k0
  have K1 := Aside0.mk k1
  clear hb1 k0 k1
  go_wp2_with fail
  refine (num85 s.ver _ (by have := HF.out.1; omega)).mono ?_
  rintro e w2 ⟨v2, rfl, hn2, hb2⟩
  obtain ⟨A2, d2, rfl⟩ := Kd.N_slice hn2
  have hb2' : Below w1.heap.size w1 w2 := hb2
  have HA0 := Aside0.mk (N_litR (B := w1.heap.size) (W := w2) (vs := [.slice A2 (numL s.ver).length d2]) (ls := [numL s.ver]) rfl (by
    intro j v l hv hl
    rcases j with _ | j
    · simp at hv hl; subst hv hl; exact fkR hn2
    · simp at hv) hb2'.size (by simp))
  have HBA := Aside0.mk (bba hb2' (.cells #[.slice A2 (numL s.ver).length d2] 22))
  have HB1 := Aside0.mk (HB.out.size)
  clear hb2 hb2' hn2 kc0 kc1
  go_wp2
  have hzf : s.fams.length ≤ 9223372036854775807 := by omega
  go_loopg [5, 6, 7, 8, 9, 10] s.fams.length (fun gg s5 s6 _ _ _ _ wr => ∃ (kk : Nat), kk ≤ s.fams.length ∧ s.fams.length - kk ≤ gg ∧ s6 = .int .i64 kk ∧ Aside0 (Below w1.heap.size w1 wr) ∧ Aside0 (Kd.N kR 22 wr w1.heap.size (fun k => w1.heap.size ≤ k) s5 ([numL s.ver] ++ (s.fams.take kk).map (fun f => listL (famParts f)))))
  case atStart => exact ⟨0, by omega, by omega, rfl, HBA, HA0⟩
  case round =>
    clear HBA HA0
    obtain ⟨kk, hkk, hg, rfl, BW, HN⟩ := hrel
    have kc0 := blk_cell (blk_keep BW.out K0.out)
    by_cases hlt : kk < s.fams.length
    · have hltz : (kk : Int) < (s.fams.length : Int) := by omega
      have HBWW := Aside0.mk (HB.out.trans (BW.out.mono HB1.out))
      obtain ⟨ad, A3, c3, A4, c4, rfl, h0, h1, h2, h3, h4, hfm⟩ := get40 (Kd.C_below HC.out HBWW.out) kk hlt
      have HT := Aside0.mk (show (s.fams.take (kk + 1)).map (fun f => listL (famParts f)) = (s.fams.take kk).map (fun f => listL (famParts f)) ++ [listL (famParts s.fams[kk])] by
        rw [List.take_succ_eq_append_getElem hlt, List.map_append]; rfl)
      have HFI := Aside0.mk (famIn_of (HF.out.2.2.1 _ (List.getElem_mem hlt)))
      have HFO := Aside0.mk (famOk_of (HF.out.2.2.1 _ (List.getElem_mem hlt)))
      have HCS := Aside0.mk (show ∀ y ∈ s.fams[kk].f4, y.f0.size ≤ 1000000 from fun y hy => by have := ((famOk_of (HF.out.2.2.1 _ (List.getElem_mem hlt))).m4 y hy).1; omega)
      have HFL := Aside0.mk (famParts_tot (HF.out.2.2.1 _ (List.getElem_mem hlt)))
      have HLEN := Aside0.mk (show ([numL s.ver] ++ (s.fams.take kk).map (fun f => listL (famParts f))).length ≤ 1000 by
        rw [List.length_append, List.length_map, List.length_take]; simp; omega)
      generalize s.fams[kk] = x at h0 h1 h2 h3 h4 hfm HT HFI HFO HCS HFL
      generalize hacc : [numL s.ver] ++ (s.fams.take kk).map (fun f => listL (famParts f)) = acc at HN HLEN
      have HACC := Aside0.mk hacc
      clear hacc
      have G7 := Aside0.mk (blk_new wr #[.string x.f0, .int .i64 x.f1, .int .i64 x.f2, .slice A3 x.f3.length c3, .slice A4 x.f4.length c4] 40)
      have HZ := Aside0.mk (below_alloc (Below.refl _ wr) (.cells #[.string x.f0, .int .i64 x.f1, .int .i64 x.f2, .slice A3 x.f3.length c3, .slice A4 x.f4.length c4] 40))
      have HG7 := Aside0.mk (show wr.heap.size < (wr.alloc (.cells #[.string x.f0, .int .i64 x.f1, .int .i64 x.f2, .slice A3 x.f3.length c3, .slice A4 x.f4.length c4] 40)).heap.size by simp)
      go_upto_region 9 with fail
      obtain ⟨wz, hwz⟩ : ∃ wz, wr.alloc (.cells #[.string x.f0, .int .i64 x.f1, .int .i64 x.f2, .slice A3 x.f3.length c3, .slice A4 x.f4.length c4] 40) = wz := ⟨_, rfl⟩
      rw [hwz] at G7 HZ HG7
      rw [hwz]
      obtain ⟨g7, hg7⟩ : ∃ g7, wr.heap.size = g7 := ⟨_, rfl⟩
      rw [hg7] at G7 HG7
      rw [hg7]
      have HG7W := Aside0.mk hg7
      clear hg7
      have HNZ := Aside0.mk (Kd.N_below HN.out HZ.out)
      have BWZ := Aside0.mk (bb BW.out HZ.out)
      clear hwz h0 h1 h2 h3 h4 kc0
      have hm1 : x.f1 ≤ 9223372036854775807 := HFI.out.f1.2
      have hm2 : x.f2 ≤ 9223372036854775807 := HFI.out.f2.2
      have hm3 : (x.f3.length : Int) ≤ 9223372036854775807 := by have := HFI.out.l3.2; omega
      have hkb := fun W => print_bytes (P := Try.prog) 9 22 5 Try.underlying9 Try.underlying22 Try.underlying5 x.f0 W
      have HSX := Aside0.mk (show x.f0.size ≤ 1000000 by have := HFO.out.s0; omega)
      go_cut [8] (fun s8 wx => ∃ A8 c8, s8 = .slice A8 4 c8 ∧ Aside0 (Below wz.heap.size wz wx) ∧ Aside0 (Kd.N kR 22 wx wz.heap.size (fun k => wz.heap.size ≤ k) (.slice A8 4 c8) [x.f0.data.toList, numL x.f1, numL x.f2, numL (x.f3.length : Int)]))
      case first =>
        have HBV := Aside0.mk (BVs.nil wz.heap.size wz)
        have HBW := Aside0.mk (Below.refl wz.heap.size wz)
        have HS : Aside0 (∀ W, Below wz.heap.size wz W → Below wz.heap.size wz W ∧ ∀ i, W.cell? ⟨g7, i, none⟩ = (#[.string x.f0, .int .i64 x.f1, .int .i64 x.f2, .slice A3 x.f3.length c3, .slice A4 x.f4.length c4] : Array Value)[i]?) := ⟨fun W hb => ⟨hb, blk_cell (blk_keep hb G7.out)⟩⟩
        refine wp_region_held_drew (S := fun W => Below wz.heap.size wz W ∧ ∀ i, W.cell? ⟨g7, i, none⟩ = (#[.string x.f0, .int .i64 x.f1, .int .i64 x.f2, .slice A3 x.f3.length c3, .slice A4 x.f4.length c4] : Array Value)[i]?) (by kernel_rfl) (HS.out _ (Below.drew HBW.out)) (fun hHeld => ?_)
        refine wpAnyH_take (i := 0) (oi := _) (v := ?_) rfl (by kernel_rfl) (by kernel_rfl) (by kernel_rfl) (fun _ _ _ h => h) (Or.inl ⟨by rfl, ?_⟩) (by assumption) ?_
        rotate_left
        · (intro wz hSw; (try dsimp only at hSw); go_simp; (try with_reducible rfl))
        try simp only [Act.put, List.setIfInBounds_toArray, List.set_cons_zero, List.set_cons_succ]
        refine wpAnyH_take (i := 1) (oi := _) (v := ?_) rfl (by kernel_rfl) (by kernel_rfl) (by kernel_rfl) (fun _ _ _ h => h) (Or.inl ⟨by rfl, ?_⟩) (by assumption) ?_
        rotate_left
        · (intro wz hSw; (try dsimp only at hSw); go_simp; (try with_reducible rfl))
        try simp only [Act.put, List.setIfInBounds_toArray, List.set_cons_zero, List.set_cons_succ]
        refine wpAnyH_take (i := 3) (oi := _) (v := ?_) rfl (by kernel_rfl) (by kernel_rfl) (by kernel_rfl) (fun _ _ _ h => h) (Or.inl ⟨by rfl, ?_⟩) (by assumption) ?_
        rotate_left
        · (intro wz hSw; (try dsimp only at hSw); go_simp; (try with_reducible rfl))
        try simp only [Act.put, List.setIfInBounds_toArray, List.set_cons_zero, List.set_cons_succ]
        refine wpAnyH_take (i := 4) (oi := _) (v := ?_) rfl (by kernel_rfl) (by kernel_rfl) (by kernel_rfl) (fun _ _ _ h => h) (Or.inl ⟨by rfl, ?_⟩) (by assumption) ?_
        rotate_left
        · (intro wz hSw; (try dsimp only at hSw); go_simp; (try with_reducible rfl))
        try simp only [Act.put, List.setIfInBounds_toArray, List.set_cons_zero, List.set_cons_succ]
        refine wpAnyH_take (i := 6) (oi := _) (v := ?_) rfl (by kernel_rfl) (by kernel_rfl) (by kernel_rfl) (fun _ _ _ h => h) (Or.inl ⟨by rfl, ?_⟩) (by assumption) ?_
        rotate_left
        · (intro wz hSw; (try dsimp only at hSw); go_simp; (try with_reducible rfl))
        try simp only [Act.put, List.setIfInBounds_toArray, List.set_cons_zero, List.set_cons_succ]
        refine wpAnyH_take (i := 7) (oi := _) (v := ?_) rfl (by kernel_rfl) (by kernel_rfl) (by kernel_rfl) (fun _ _ _ h => h) (Or.inl ⟨by rfl, ?_⟩) (by assumption) ?_
        rotate_left
        · (intro wz hSw; (try dsimp only at hSw); go_simp; (try with_reducible rfl))
        try simp only [Act.put, List.setIfInBounds_toArray, List.set_cons_zero, List.set_cons_succ]
        refine wpAnyH_take (i := 9) (oi := _) (v := ?_) rfl (by kernel_rfl) (by kernel_rfl) (by kernel_rfl) (fun _ _ _ h => h) (Or.inl ⟨by rfl, ?_⟩) (by assumption) ?_
        rotate_left
        · (intro wz hSw; (try dsimp only at hSw); go_simp; (try with_reducible rfl))
        try simp only [Act.put, List.setIfInBounds_toArray, List.set_cons_zero, List.set_cons_succ]
        refine wpAnyH_take (i := 10) (oi := _) (v := ?_) rfl (by kernel_rfl) (by kernel_rfl) (by kernel_rfl) (fun _ _ _ h => h) (Or.inl ⟨by rfl, ?_⟩) (by assumption) ?_
        rotate_left
        · (intro wz hSw; (try dsimp only at hSw); go_simp; (try with_reducible rfl))
        try simp only [Act.put, List.setIfInBounds_toArray, List.set_cons_zero, List.set_cons_succ]
        refine wpAnyH_take (i := 11) (oi := _) (v := ?_) rfl (by kernel_rfl) (by kernel_rfl) (by kernel_rfl) (fun _ _ _ h => h) (Or.inl ⟨by rfl, ?_⟩) (by assumption) ?_
        rotate_left
        · (intro wz hSw; (try dsimp only at hSw); go_simp; (try with_reducible rfl))
        try simp only [Act.put, List.setIfInBounds_toArray, List.set_cons_zero, List.set_cons_succ]
        refine wpAnyH_ready (rs := [2, 5]) (by kernel_rfl) (by simp) ?_
        refine AllReadyH.cons (o := _) rfl (fun K hK => ?_) ?_
        · (go_simp; have HBV := Aside0.mk (BVs.bytes (by first | exact HBV.out | exact HBV.out.below (below_drew (Below.refl _ _))) hHeld.1.size HSX.out); have HBW := Aside0.mk (bytes_below hHeld.1 hHeld.1.size 5 x.f0))
          refine hK.out _ _ ?_ (fun hHeld => ?_)
          · exact HS.out _ (by with_reducible repeat (first | exact HBW.out | refine Below.drew ?_ | refine bba ?_ _))
          clear hK K
          try simp only [Act.put, List.setIfInBounds_toArray, List.set_cons_zero, List.set_cons_succ]
          refine wpAnyH_ready (rs := [5]) (by kernel_rfl) (by simp) ?_
          refine AllReadyH.cons (o := _) rfl (fun K hK => ?_) ?_
          · (go_simp; go_at_call 85; refine (num85 _ _ hm1).mono ?_; rintro e w8 ⟨v8, rfl, hn8, hb8⟩; obtain ⟨B5, d5, rfl⟩ := Kd.N_slice hn8; have HBV := Aside0.mk (BVs.cons HBV.out (by first | exact hb8 | exact bb (below_drew (Below.refl _ _)) hb8) (hHeld.1.size) hn8); have HBW := Aside0.mk (bb hHeld.1 hb8); clear hn8 hb8)
            refine hK.out _ _ ?_ (fun hHeld => ?_)
            · exact HS.out _ (by with_reducible repeat (first | exact HBW.out | refine Below.drew ?_ | refine bba ?_ _))
            clear hK K
            try simp only [Act.put, List.setIfInBounds_toArray, List.set_cons_zero, List.set_cons_succ]
            refine wpAnyH_ready (rs := [8]) (by kernel_rfl) (by simp) ?_
            refine AllReadyH.cons (o := _) rfl (fun K hK => ?_) ?_
            · (go_simp; go_at_call 85; refine (num85 _ _ hm2).mono ?_; rintro e w8 ⟨v8, rfl, hn8, hb8⟩; obtain ⟨B8, d8, rfl⟩ := Kd.N_slice hn8; have HBV := Aside0.mk (BVs.cons HBV.out (by first | exact hb8 | exact bb (below_drew (Below.refl _ _)) hb8) (hHeld.1.size) hn8); have HBW := Aside0.mk (bb hHeld.1 hb8); clear hn8 hb8)
              refine hK.out _ _ ?_ (fun hHeld => ?_)
              · exact HS.out _ (by with_reducible repeat (first | exact HBW.out | refine Below.drew ?_ | refine bba ?_ _))
              clear hK K
              try simp only [Act.put, List.setIfInBounds_toArray, List.set_cons_zero, List.set_cons_succ]
              refine wpAnyH_ready (rs := [12]) (by kernel_rfl) (by simp) ?_
              refine AllReadyH.cons (o := _) rfl (fun K hK => ?_) ?_
              · (go_simp; go_at_call 85; refine (num85 _ _ hm3).mono ?_; rintro e w8 ⟨v8, rfl, hn8, hb8⟩; obtain ⟨B12, d12, rfl⟩ := Kd.N_slice hn8; have HBV := Aside0.mk (BVs.cons HBV.out (by first | exact hb8 | exact bb (below_drew (Below.refl _ _)) hb8) (hHeld.1.size) hn8); have HBW := Aside0.mk (bb hHeld.1 hb8); clear hn8 hb8)
                refine hK.out _ _ ?_ (fun hHeld => ?_)
                · exact HS.out _ (by with_reducible repeat (first | exact HBW.out | refine Below.drew ?_ | refine bba ?_ _))
                clear hK K
                try simp only [Act.put, List.setIfInBounds_toArray, List.set_cons_zero, List.set_cons_succ]
                refine wpAnyH_ready (rs := [13]) (by kernel_rfl) (by simp) ?_
                refine AllReadyH.cons (o := _) rfl (fun K hK => ?_) ?_
                · go_simp
                  refine hK.out _ _ ?_ (fun hHeld => ?_)
                  · exact HS.out _ (by with_reducible repeat (first | exact HBW.out | refine Below.drew ?_ | refine bba ?_ _))
                  clear hK K
                  try simp only [Act.put, List.setIfInBounds_toArray, List.set_cons_zero, List.set_cons_succ]
                  refine wpAnyH_ready (rs := [14]) (by kernel_rfl) (by simp) ?_
                  refine AllReadyH.cons (o := _) rfl (fun K hK => ?_) ?_
                  · go_simp
                    refine hK.out _ _ ?_ (fun hHeld => ?_)
                    · exact HS.out _ (by with_reducible repeat (first | exact HBW.out | refine Below.drew ?_ | refine bba ?_ _))
                    clear hK K
                    try simp only [Act.put, List.setIfInBounds_toArray, List.set_cons_zero, List.set_cons_succ]
                    refine wpAnyH_done (by kernel_rfl) ?_ _
                    ((try simp only [Act.put, List.setIfInBounds_toArray, List.set_cons_zero, List.set_cons_succ]); go_wp2; go_meet; exact ⟨_, _, rfl, ⟨bba HBW.out _⟩, ⟨N_litR (vs := [_, _, _, _]) (ls := [x.f0.data.toList, numL x.f1, numL x.f2, numL (x.f3.length : Int)]) rfl (by intro j v l hv hl; rcases j with _ | _ | _ | _ | j <;> simp only [List.getElem?_cons_zero, List.getElem?_cons_succ, List.getElem?_nil, Option.some.injEq, reduceCtorEq] at hv hl <;> (subst hv hl; exact HBV.out (_, _) (by repeat (first | exact List.mem_cons_self | apply List.mem_cons_of_mem)))) HBW.out.size (by simp)⟩⟩)
                  exact AllReadyH.nil
                exact AllReadyH.nil
              exact AllReadyH.nil
            exact AllReadyH.nil
          exact AllReadyH.nil
        refine AllReadyH.cons (o := _) rfl (fun K hK => ?_) ?_
        · (go_simp; go_at_call 85; refine (num85 _ _ hm1).mono ?_; rintro e w8 ⟨v8, rfl, hn8, hb8⟩; obtain ⟨B5, d5, rfl⟩ := Kd.N_slice hn8; have HBV := Aside0.mk (BVs.cons HBV.out (by first | exact hb8 | exact bb (below_drew (Below.refl _ _)) hb8) (hHeld.1.size) hn8); have HBW := Aside0.mk (bb hHeld.1 hb8); clear hn8 hb8)
          refine hK.out _ _ ?_ (fun hHeld => ?_)
          · exact HS.out _ (by with_reducible repeat (first | exact HBW.out | refine Below.drew ?_ | refine bba ?_ _))
          clear hK K
          try simp only [Act.put, List.setIfInBounds_toArray, List.set_cons_zero, List.set_cons_succ]
          refine wpAnyH_ready (rs := [2, 8]) (by kernel_rfl) (by simp) ?_
          refine AllReadyH.cons (o := _) rfl (fun K hK => ?_) ?_
          · (go_simp; have HBV := Aside0.mk (BVs.bytes (by first | exact HBV.out | exact HBV.out.below (below_drew (Below.refl _ _))) hHeld.1.size HSX.out); have HBW := Aside0.mk (bytes_below hHeld.1 hHeld.1.size 5 x.f0))
            refine hK.out _ _ ?_ (fun hHeld => ?_)
            · exact HS.out _ (by with_reducible repeat (first | exact HBW.out | refine Below.drew ?_ | refine bba ?_ _))
            clear hK K
            try simp only [Act.put, List.setIfInBounds_toArray, List.set_cons_zero, List.set_cons_succ]
            refine wpAnyH_ready (rs := [8]) (by kernel_rfl) (by simp) ?_
            refine AllReadyH.cons (o := _) rfl (fun K hK => ?_) ?_
            · (go_simp; go_at_call 85; refine (num85 _ _ hm2).mono ?_; rintro e w8 ⟨v8, rfl, hn8, hb8⟩; obtain ⟨B8, d8, rfl⟩ := Kd.N_slice hn8; have HBV := Aside0.mk (BVs.cons HBV.out (by first | exact hb8 | exact bb (below_drew (Below.refl _ _)) hb8) (hHeld.1.size) hn8); have HBW := Aside0.mk (bb hHeld.1 hb8); clear hn8 hb8)
              refine hK.out _ _ ?_ (fun hHeld => ?_)
              · exact HS.out _ (by with_reducible repeat (first | exact HBW.out | refine Below.drew ?_ | refine bba ?_ _))
              clear hK K
              try simp only [Act.put, List.setIfInBounds_toArray, List.set_cons_zero, List.set_cons_succ]
              refine wpAnyH_ready (rs := [12]) (by kernel_rfl) (by simp) ?_
              refine AllReadyH.cons (o := _) rfl (fun K hK => ?_) ?_
              · (go_simp; go_at_call 85; refine (num85 _ _ hm3).mono ?_; rintro e w8 ⟨v8, rfl, hn8, hb8⟩; obtain ⟨B12, d12, rfl⟩ := Kd.N_slice hn8; have HBV := Aside0.mk (BVs.cons HBV.out (by first | exact hb8 | exact bb (below_drew (Below.refl _ _)) hb8) (hHeld.1.size) hn8); have HBW := Aside0.mk (bb hHeld.1 hb8); clear hn8 hb8)
                refine hK.out _ _ ?_ (fun hHeld => ?_)
                · exact HS.out _ (by with_reducible repeat (first | exact HBW.out | refine Below.drew ?_ | refine bba ?_ _))
                clear hK K
                try simp only [Act.put, List.setIfInBounds_toArray, List.set_cons_zero, List.set_cons_succ]
                refine wpAnyH_ready (rs := [13]) (by kernel_rfl) (by simp) ?_
                refine AllReadyH.cons (o := _) rfl (fun K hK => ?_) ?_
                · go_simp
                  refine hK.out _ _ ?_ (fun hHeld => ?_)
                  · exact HS.out _ (by with_reducible repeat (first | exact HBW.out | refine Below.drew ?_ | refine bba ?_ _))
                  clear hK K
                  try simp only [Act.put, List.setIfInBounds_toArray, List.set_cons_zero, List.set_cons_succ]
                  refine wpAnyH_ready (rs := [14]) (by kernel_rfl) (by simp) ?_
                  refine AllReadyH.cons (o := _) rfl (fun K hK => ?_) ?_
                  · go_simp
                    refine hK.out _ _ ?_ (fun hHeld => ?_)
                    · exact HS.out _ (by with_reducible repeat (first | exact HBW.out | refine Below.drew ?_ | refine bba ?_ _))
                    clear hK K
                    try simp only [Act.put, List.setIfInBounds_toArray, List.set_cons_zero, List.set_cons_succ]
                    refine wpAnyH_done (by kernel_rfl) ?_ _
                    ((try simp only [Act.put, List.setIfInBounds_toArray, List.set_cons_zero, List.set_cons_succ]); go_wp2; go_meet; exact ⟨_, _, rfl, ⟨bba HBW.out _⟩, ⟨N_litR (vs := [_, _, _, _]) (ls := [x.f0.data.toList, numL x.f1, numL x.f2, numL (x.f3.length : Int)]) rfl (by intro j v l hv hl; rcases j with _ | _ | _ | _ | j <;> simp only [List.getElem?_cons_zero, List.getElem?_cons_succ, List.getElem?_nil, Option.some.injEq, reduceCtorEq] at hv hl <;> (subst hv hl; exact HBV.out (_, _) (by repeat (first | exact List.mem_cons_self | apply List.mem_cons_of_mem)))) HBW.out.size (by simp)⟩⟩)
                  exact AllReadyH.nil
                exact AllReadyH.nil
              exact AllReadyH.nil
            exact AllReadyH.nil
          refine AllReadyH.cons (o := _) rfl (fun K hK => ?_) ?_
          · (go_simp; go_at_call 85; refine (num85 _ _ hm2).mono ?_; rintro e w8 ⟨v8, rfl, hn8, hb8⟩; obtain ⟨B8, d8, rfl⟩ := Kd.N_slice hn8; have HBV := Aside0.mk (BVs.cons HBV.out (by first | exact hb8 | exact bb (below_drew (Below.refl _ _)) hb8) (hHeld.1.size) hn8); have HBW := Aside0.mk (bb hHeld.1 hb8); clear hn8 hb8)
            refine hK.out _ _ ?_ (fun hHeld => ?_)
            · exact HS.out _ (by with_reducible repeat (first | exact HBW.out | refine Below.drew ?_ | refine bba ?_ _))
            clear hK K
            try simp only [Act.put, List.setIfInBounds_toArray, List.set_cons_zero, List.set_cons_succ]
            refine wpAnyH_ready (rs := [2, 12]) (by kernel_rfl) (by simp) ?_
            refine AllReadyH.cons (o := _) rfl (fun K hK => ?_) ?_
            · (go_simp; have HBV := Aside0.mk (BVs.bytes (by first | exact HBV.out | exact HBV.out.below (below_drew (Below.refl _ _))) hHeld.1.size HSX.out); have HBW := Aside0.mk (bytes_below hHeld.1 hHeld.1.size 5 x.f0))
              refine hK.out _ _ ?_ (fun hHeld => ?_)
              · exact HS.out _ (by with_reducible repeat (first | exact HBW.out | refine Below.drew ?_ | refine bba ?_ _))
              clear hK K
              try simp only [Act.put, List.setIfInBounds_toArray, List.set_cons_zero, List.set_cons_succ]
              refine wpAnyH_ready (rs := [12]) (by kernel_rfl) (by simp) ?_
              refine AllReadyH.cons (o := _) rfl (fun K hK => ?_) ?_
              · (go_simp; go_at_call 85; refine (num85 _ _ hm3).mono ?_; rintro e w8 ⟨v8, rfl, hn8, hb8⟩; obtain ⟨B12, d12, rfl⟩ := Kd.N_slice hn8; have HBV := Aside0.mk (BVs.cons HBV.out (by first | exact hb8 | exact bb (below_drew (Below.refl _ _)) hb8) (hHeld.1.size) hn8); have HBW := Aside0.mk (bb hHeld.1 hb8); clear hn8 hb8)
                refine hK.out _ _ ?_ (fun hHeld => ?_)
                · exact HS.out _ (by with_reducible repeat (first | exact HBW.out | refine Below.drew ?_ | refine bba ?_ _))
                clear hK K
                try simp only [Act.put, List.setIfInBounds_toArray, List.set_cons_zero, List.set_cons_succ]
                refine wpAnyH_ready (rs := [13]) (by kernel_rfl) (by simp) ?_
                refine AllReadyH.cons (o := _) rfl (fun K hK => ?_) ?_
                · go_simp
                  refine hK.out _ _ ?_ (fun hHeld => ?_)
                  · exact HS.out _ (by with_reducible repeat (first | exact HBW.out | refine Below.drew ?_ | refine bba ?_ _))
                  clear hK K
                  try simp only [Act.put, List.setIfInBounds_toArray, List.set_cons_zero, List.set_cons_succ]
                  refine wpAnyH_ready (rs := [14]) (by kernel_rfl) (by simp) ?_
                  refine AllReadyH.cons (o := _) rfl (fun K hK => ?_) ?_
                  · go_simp
                    refine hK.out _ _ ?_ (fun hHeld => ?_)
                    · exact HS.out _ (by with_reducible repeat (first | exact HBW.out | refine Below.drew ?_ | refine bba ?_ _))
                    clear hK K
                    try simp only [Act.put, List.setIfInBounds_toArray, List.set_cons_zero, List.set_cons_succ]
                    refine wpAnyH_done (by kernel_rfl) ?_ _
                    ((try simp only [Act.put, List.setIfInBounds_toArray, List.set_cons_zero, List.set_cons_succ]); go_wp2; go_meet; exact ⟨_, _, rfl, ⟨bba HBW.out _⟩, ⟨N_litR (vs := [_, _, _, _]) (ls := [x.f0.data.toList, numL x.f1, numL x.f2, numL (x.f3.length : Int)]) rfl (by intro j v l hv hl; rcases j with _ | _ | _ | _ | j <;> simp only [List.getElem?_cons_zero, List.getElem?_cons_succ, List.getElem?_nil, Option.some.injEq, reduceCtorEq] at hv hl <;> (subst hv hl; exact HBV.out (_, _) (by repeat (first | exact List.mem_cons_self | apply List.mem_cons_of_mem)))) HBW.out.size (by simp)⟩⟩)
                  exact AllReadyH.nil
                exact AllReadyH.nil
              exact AllReadyH.nil
            refine AllReadyH.cons (o := _) rfl (fun K hK => ?_) ?_
            · (go_simp; go_at_call 85; refine (num85 _ _ hm3).mono ?_; rintro e w8 ⟨v8, rfl, hn8, hb8⟩; obtain ⟨B12, d12, rfl⟩ := Kd.N_slice hn8; have HBV := Aside0.mk (BVs.cons HBV.out (by first | exact hb8 | exact bb (below_drew (Below.refl _ _)) hb8) (hHeld.1.size) hn8); have HBW := Aside0.mk (bb hHeld.1 hb8); clear hn8 hb8)
              refine hK.out _ _ ?_ (fun hHeld => ?_)
              · exact HS.out _ (by with_reducible repeat (first | exact HBW.out | refine Below.drew ?_ | refine bba ?_ _))
              clear hK K
              try simp only [Act.put, List.setIfInBounds_toArray, List.set_cons_zero, List.set_cons_succ]
              refine wpAnyH_ready (rs := [2]) (by kernel_rfl) (by simp) ?_
              refine AllReadyH.cons (o := _) rfl (fun K hK => ?_) ?_
              · (go_simp; have HBV := Aside0.mk (BVs.bytes (by first | exact HBV.out | exact HBV.out.below (below_drew (Below.refl _ _))) hHeld.1.size HSX.out); have HBW := Aside0.mk (bytes_below hHeld.1 hHeld.1.size 5 x.f0))
                refine hK.out _ _ ?_ (fun hHeld => ?_)
                · exact HS.out _ (by with_reducible repeat (first | exact HBW.out | refine Below.drew ?_ | refine bba ?_ _))
                clear hK K
                try simp only [Act.put, List.setIfInBounds_toArray, List.set_cons_zero, List.set_cons_succ]
                refine wpAnyH_ready (rs := [13]) (by kernel_rfl) (by simp) ?_
                refine AllReadyH.cons (o := _) rfl (fun K hK => ?_) ?_
                · go_simp
                  refine hK.out _ _ ?_ (fun hHeld => ?_)
                  · exact HS.out _ (by with_reducible repeat (first | exact HBW.out | refine Below.drew ?_ | refine bba ?_ _))
                  clear hK K
                  try simp only [Act.put, List.setIfInBounds_toArray, List.set_cons_zero, List.set_cons_succ]
                  refine wpAnyH_ready (rs := [14]) (by kernel_rfl) (by simp) ?_
                  refine AllReadyH.cons (o := _) rfl (fun K hK => ?_) ?_
                  · go_simp
                    refine hK.out _ _ ?_ (fun hHeld => ?_)
                    · exact HS.out _ (by with_reducible repeat (first | exact HBW.out | refine Below.drew ?_ | refine bba ?_ _))
                    clear hK K
                    try simp only [Act.put, List.setIfInBounds_toArray, List.set_cons_zero, List.set_cons_succ]
                    refine wpAnyH_done (by kernel_rfl) ?_ _
                    ((try simp only [Act.put, List.setIfInBounds_toArray, List.set_cons_zero, List.set_cons_succ]); go_wp2; go_meet; exact ⟨_, _, rfl, ⟨bba HBW.out _⟩, ⟨N_litR (vs := [_, _, _, _]) (ls := [x.f0.data.toList, numL x.f1, numL x.f2, numL (x.f3.length : Int)]) rfl (by intro j v l hv hl; rcases j with _ | _ | _ | _ | j <;> simp only [List.getElem?_cons_zero, List.getElem?_cons_succ, List.getElem?_nil, Option.some.injEq, reduceCtorEq] at hv hl <;> (subst hv hl; exact HBV.out (_, _) (by repeat (first | exact List.mem_cons_self | apply List.mem_cons_of_mem)))) HBW.out.size (by simp)⟩⟩)
                  exact AllReadyH.nil
                exact AllReadyH.nil
              exact AllReadyH.nil
            exact AllReadyH.nil
          exact AllReadyH.nil
        exact AllReadyH.nil
      case rest =>
        obtain ⟨A8, c8, rfl, HBW, HN8⟩ := hcut
        clear hkb hm1 hm2 hm3
        have gc7 := blk_cell (blk_keep HBW.out G7.out)
        obtain ⟨u3, u4, hu, hs3, hs4⟩ := hfm
        have HS3 := Aside0.mk (show Sl k60 wz (.slice A3 x.f3.length c3) x.f3 from (by injection hu with hu; simp at hu; obtain ⟨rfl, rfl⟩ := hu; exact hs3.below HZ.out))
        have HS4 := Aside0.mk (show Sl k52 wz (.slice A4 x.f4.length c4) x.f4 from (by injection hu with hu; simp at hu; obtain ⟨rfl, rfl⟩ := hu; exact hs4.below HZ.out))
        clear hu hs3 hs4
        have hl3 : x.f3.length ≤ 2 := HFI.out.l3.2
        have hl4 : x.f4.length ≤ 8 := HFI.out.l4
        go_wp2
        go_loopg [8, 9] x.f3.length (fun gg s8 s9 wr => ∃ (k2 : Nat), k2 ≤ x.f3.length ∧ x.f3.length - k2 ≤ gg ∧ s9 = .int .i64 k2 ∧ Aside0 (Below wz.heap.size wz wr) ∧ Aside0 (Kd.N kR 22 wr wz.heap.size (fun k => wz.heap.size ≤ k) s8 ([x.f0.data.toList, numL x.f1, numL x.f2, numL (x.f3.length : Int)] ++ (x.f3.take k2).flatMap (fun l => [numL l.f0, numL l.f1]))))
        case atStart => exact ⟨0, by omega, by omega, rfl, HBW, by simpa using HN8⟩
        case round =>
          clear HBW HN8 gc7
          obtain ⟨k2, hk2, hg2, rfl, HBW, HN8⟩ := hrel
          have gc7 := blk_cell (blk_keep HBW.out G7.out)
          by_cases hlt2 : k2 < x.f3.length
          · have hlt2z : (k2 : Int) < (x.f3.length : Int) := by omega
            obtain ⟨A', c', he, _, hC3⟩ := HS3.out
            injection he with he _ _
            subst he
            obtain ⟨ad3, rfl, q0, q1⟩ := get60 hC3 k2 hlt2
            have HM3 := Aside0.mk (HFI.out.m3 _ (List.getElem_mem hlt2))
            have HT3 := Aside0.mk (show (x.f3.take (k2 + 1)).flatMap (fun l => [numL l.f0, numL l.f1]) = (x.f3.take k2).flatMap (fun l => [numL l.f0, numL l.f1]) ++ [numL x.f3[k2].f0, numL x.f3[k2].f1] by
              rw [List.take_succ_eq_append_getElem hlt2, List.flatMap_append]; simp)
            have HL8 := Aside0.mk (show ([x.f0.data.toList, numL x.f1, numL x.f2, numL (x.f3.length : Int)] ++ (x.f3.take k2).flatMap (fun l => [numL l.f0, numL l.f1])).length ≤ 1000 by
              rw [List.length_append, flat2_len _ 2 _ (fun _ => rfl), List.length_take]; simp; omega)
            generalize x.f3[k2] = y at q0 q1 HM3 HT3
            generalize hacc : [x.f0.data.toList, numL x.f1, numL x.f2, numL (x.f3.length : Int)] ++ (x.f3.take k2).flatMap (fun l => [numL l.f0, numL l.f1]) = acc8 at HN8 HL8
            have HACC8 := Aside0.mk hacc
            clear hacc hC3
            obtain ⟨A8, c8, rfl⟩ := Kd.N_slice HN8.out
            have hm1 : y.f0 ≤ 9223372036854775807 := HM3.out.2.1
            have hm2 : y.f1 ≤ 9223372036854775807 := HM3.out.2.2.2
            go_upto_region 13 with fail
            obtain ⟨wq, rfl⟩ : ∃ wq : World, wq = wr := ⟨_, rfl⟩
            have HBZ := HBW
            have HBV := Aside0.mk (BVs.nil wq.heap.size wq)
            have HBQ := Aside0.mk (Below.refl wq.heap.size wq)
            have HS : Aside0 (∀ W, Below wz.heap.size wz W → Below wz.heap.size wz W ∧ (∀ i, W.cell? ⟨g7, i, none⟩ = (#[.string x.f0, .int .i64 x.f1, .int .i64 x.f2, .slice (some ad3) x.f3.length c3, .slice A4 x.f4.length c4] : Array Value)[i]?) ∧ W.cell? (ad3.add (k2 * 2)) = some (.int .i64 y.f0) ∧ W.cell? ⟨(ad3.add (k2 * 2)).block, (ad3.add (k2 * 2)).off + 1, none⟩ = some (.int .i64 y.f1)) := ⟨fun W hb => ⟨hb, blk_cell (blk_keep hb G7.out), pw_cell_below hb q0, pw_cell_below hb q1⟩⟩
            refine wp_region_held_drew (S := fun W => Below wz.heap.size wz W ∧ (∀ i, W.cell? ⟨g7, i, none⟩ = (#[.string x.f0, .int .i64 x.f1, .int .i64 x.f2, .slice (some ad3) x.f3.length c3, .slice A4 x.f4.length c4] : Array Value)[i]?) ∧ W.cell? (ad3.add (k2 * 2)) = some (.int .i64 y.f0) ∧ W.cell? ⟨(ad3.add (k2 * 2)).block, (ad3.add (k2 * 2)).off + 1, none⟩ = some (.int .i64 y.f1)) (by kernel_rfl) (HS.out _ (Below.drew HBW.out)) (fun hHeld => ?_)
            refine wpAnyH_take (i := 0) (oi := _) (v := ?_) rfl (by kernel_rfl) (by kernel_rfl) (by kernel_rfl) (fun _ _ _ h => h) (Or.inl ⟨by rfl, ?_⟩) (by assumption) ?_
            rotate_left
            · (intro wz hSw; (try dsimp only at hSw); go_simp; (try with_reducible rfl))
            try simp only [Act.put, List.setIfInBounds_toArray, List.set_cons_zero, List.set_cons_succ]
            refine wpAnyH_take (i := 1) (oi := _) (v := ?_) rfl (by kernel_rfl) (by kernel_rfl) (by kernel_rfl) (fun _ _ _ h => h) (Or.inl ⟨by rfl, ?_⟩) (by assumption) ?_
            rotate_left
            · (intro wz hSw; (try dsimp only at hSw); go_simp; (try with_reducible rfl))
            try simp only [Act.put, List.setIfInBounds_toArray, List.set_cons_zero, List.set_cons_succ]
            refine wpAnyH_take (i := 2) (oi := _) (v := ?_) rfl (by kernel_rfl) (by kernel_rfl) (by kernel_rfl) (fun _ _ _ h => h) (Or.inl ⟨by rfl, ?_⟩) (by assumption) ?_
            rotate_left
            · (intro wz hSw; (try dsimp only at hSw); go_simp; (try with_reducible rfl))
            try simp only [Act.put, List.setIfInBounds_toArray, List.set_cons_zero, List.set_cons_succ]
            refine wpAnyH_take (i := 3) (oi := _) (v := ?_) rfl (by kernel_rfl) (by kernel_rfl) (by kernel_rfl) (fun _ _ _ h => h) (Or.inl ⟨by rfl, ?_⟩) (by assumption) ?_
            rotate_left
            · (intro wz hSw; (try dsimp only at hSw); go_simp; (try with_reducible rfl))
            try simp only [Act.put, List.setIfInBounds_toArray, List.set_cons_zero, List.set_cons_succ]
            refine wpAnyH_take (i := 4) (oi := _) (v := ?_) rfl (by kernel_rfl) (by kernel_rfl) (by kernel_rfl) (fun _ _ _ h => h) (Or.inl ⟨by rfl, ?_⟩) (by assumption) ?_
            rotate_left
            · (intro wz hSw; (try dsimp only at hSw); go_simp; (try with_reducible rfl))
            try simp only [Act.put, List.setIfInBounds_toArray, List.set_cons_zero, List.set_cons_succ]
            refine wpAnyH_take (i := 5) (oi := _) (v := ?_) rfl (by kernel_rfl) (by kernel_rfl) (by kernel_rfl) (fun _ _ _ h => h) (Or.inl ⟨by rfl, ?_⟩) (by assumption) ?_
            rotate_left
            · (intro wz hSw; (try dsimp only at hSw); go_simp; (try with_reducible rfl))
            try simp only [Act.put, List.setIfInBounds_toArray, List.set_cons_zero, List.set_cons_succ]
            refine wpAnyH_take (i := 6) (oi := _) (v := ?_) rfl (by kernel_rfl) (by kernel_rfl) (by kernel_rfl) (fun _ _ _ h => h) (Or.inl ⟨by rfl, ?_⟩) (by assumption) ?_
            rotate_left
            · (intro wz hSw; (try dsimp only at hSw); go_simp; (try with_reducible rfl))
            try simp only [Act.put, List.setIfInBounds_toArray, List.set_cons_zero, List.set_cons_succ]
            refine wpAnyH_take (i := 8) (oi := _) (v := ?_) rfl (by kernel_rfl) (by kernel_rfl) (by kernel_rfl) (fun _ _ _ h => h) (Or.inl ⟨by rfl, ?_⟩) (by assumption) ?_
            rotate_left
            · (intro wz hSw; (try dsimp only at hSw); go_simp; (try with_reducible rfl))
            try simp only [Act.put, List.setIfInBounds_toArray, List.set_cons_zero, List.set_cons_succ]
            refine wpAnyH_take (i := 9) (oi := _) (v := ?_) rfl (by kernel_rfl) (by kernel_rfl) (by kernel_rfl) (fun _ _ _ h => h) (Or.inl ⟨by rfl, ?_⟩) (by assumption) ?_
            rotate_left
            · (intro wz hSw; (try dsimp only at hSw); go_simp; (try with_reducible rfl))
            try simp only [Act.put, List.setIfInBounds_toArray, List.set_cons_zero, List.set_cons_succ]
            refine wpAnyH_take (i := 10) (oi := _) (v := ?_) rfl (by kernel_rfl) (by kernel_rfl) (by kernel_rfl) (fun _ _ _ h => h) (Or.inl ⟨by rfl, ?_⟩) (by assumption) ?_
            rotate_left
            · (intro wz hSw; (try dsimp only at hSw); go_simp; (try with_reducible rfl))
            try simp only [Act.put, List.setIfInBounds_toArray, List.set_cons_zero, List.set_cons_succ]
            refine wpAnyH_take (i := 11) (oi := _) (v := ?_) rfl (by kernel_rfl) (by kernel_rfl) (by kernel_rfl) (fun _ _ _ h => h) (Or.inl ⟨by rfl, ?_⟩) (by assumption) ?_
            rotate_left
            · (intro wz hSw; (try dsimp only at hSw); go_simp; (try with_reducible rfl))
            try simp only [Act.put, List.setIfInBounds_toArray, List.set_cons_zero, List.set_cons_succ]
            refine wpAnyH_take (i := 12) (oi := _) (v := ?_) rfl (by kernel_rfl) (by kernel_rfl) (by kernel_rfl) (fun _ _ _ h => h) (Or.inl ⟨by rfl, ?_⟩) (by assumption) ?_
            rotate_left
            · (intro wz hSw; (try dsimp only at hSw); go_simp; (try with_reducible rfl))
            try simp only [Act.put, List.setIfInBounds_toArray, List.set_cons_zero, List.set_cons_succ]
            refine wpAnyH_take (i := 13) (oi := _) (v := ?_) rfl (by kernel_rfl) (by kernel_rfl) (by kernel_rfl) (fun _ _ _ h => h) (Or.inl ⟨by rfl, ?_⟩) (by assumption) ?_
            rotate_left
            · (intro wz hSw; (try dsimp only at hSw); go_simp; (try with_reducible rfl))
            try simp only [Act.put, List.setIfInBounds_toArray, List.set_cons_zero, List.set_cons_succ]
            refine wpAnyH_ready (rs := [7]) (by kernel_rfl) (by simp) ?_
            refine AllReadyH.cons (o := _) rfl (fun K hK => ?_) ?_
            · (go_simp; go_at_call 85; refine (num85 _ _ hm1).mono ?_; rintro e w8 ⟨v8, rfl, hn8, hb8⟩; obtain ⟨B7, d7, rfl⟩ := Kd.N_slice hn8; have HBV := Aside0.mk (BVs.cons HBV.out (by first | exact hb8 | exact bb (below_drew (Below.refl _ _)) hb8) HBQ.out.size hn8); have HBQ := Aside0.mk (bb HBQ.out (by first | exact hb8 | exact bb (below_drew (Below.refl _ _)) hb8)); have HBW := Aside0.mk (bb hHeld.1 hb8); clear hn8 hb8)
              refine hK.out _ _ ?_ (fun hHeld => ?_)
              · exact HS.out _ (by with_reducible repeat (first | exact HBW.out | refine Below.drew ?_ | refine bba ?_ _))
              clear hK K
              try simp only [Act.put, List.setIfInBounds_toArray, List.set_cons_zero, List.set_cons_succ]
              refine wpAnyH_ready (rs := [14]) (by kernel_rfl) (by simp) ?_
              refine AllReadyH.cons (o := _) rfl (fun K hK => ?_) ?_
              · (go_simp; go_at_call 85; refine (num85 _ _ hm2).mono ?_; rintro e w8 ⟨v8, rfl, hn8, hb8⟩; obtain ⟨B14, d14, rfl⟩ := Kd.N_slice hn8; have HBV := Aside0.mk (BVs.cons HBV.out (by first | exact hb8 | exact bb (below_drew (Below.refl _ _)) hb8) HBQ.out.size hn8); have HBQ := Aside0.mk (bb HBQ.out (by first | exact hb8 | exact bb (below_drew (Below.refl _ _)) hb8)); have HBW := Aside0.mk (bb hHeld.1 hb8); clear hn8 hb8)
                refine hK.out _ _ ?_ (fun hHeld => ?_)
                · exact HS.out _ (by with_reducible repeat (first | exact HBW.out | refine Below.drew ?_ | refine bba ?_ _))
                clear hK K
                try simp only [Act.put, List.setIfInBounds_toArray, List.set_cons_zero, List.set_cons_succ]
                refine wpAnyH_ready (rs := [15]) (by kernel_rfl) (by simp) ?_
                refine AllReadyH.cons (o := _) rfl (fun K hK => ?_) ?_
                · go_simp
                  refine hK.out _ _ ?_ (fun hHeld => ?_)
                  · exact HS.out _ (by with_reducible repeat (first | exact HBW.out | refine Below.drew ?_ | refine bba ?_ _))
                  clear hK K
                  try simp only [Act.put, List.setIfInBounds_toArray, List.set_cons_zero, List.set_cons_succ]
                  refine wpAnyH_ready (rs := [16]) (by kernel_rfl) (by simp) ?_
                  refine AllReadyH.cons (o := _) rfl (fun K hK => ?_) ?_
                  · (refine Kd.N_append_rows_step kR (w0 := w8.alloc (.cells #[.slice B7 (numL y.f0).length d7, .slice B14 (numL y.f1).length d14] 22)) wz.heap.size rfl (.tmp 85) (.tmp 100) 74 22 (.slice none 0 0) 24 rfl Try.underlying74 info22 rfl (by decide) (by omega) (.slice A8 acc8.length c8) acc8 [numL y.f0, numL y.f1] (some ⟨w8.heap.size, 0, none⟩) 2 2 (fun k => wz.heap.size ≤ k) (fun k => wq.heap.size ≤ k) rfl rfl (Kd.N_below HN8.out (bba HBQ.out _)) (Kd.N_F (N_litR (B := wq.heap.size) (vs := [_, _]) (ls := [numL y.f0, numL y.f1]) rfl (by intro j v l hv hl; rcases j with _ | _ | j <;> simp only [List.getElem?_cons_zero, List.getElem?_cons_succ, List.getElem?_nil, Option.some.injEq, reduceCtorEq] at hv hl <;> (subst hv hl; exact HBV.out (_, _) (by repeat (first | exact List.mem_cons_self | apply List.mem_cons_of_mem)))) HBQ.out.size (by simp))) (fun k hk => ⟨Nat.le_trans HBZ.out.size hk, fun he => absurd (Kd.N_lt HN8.out k he.symm) (by omega)⟩) (fun k hk => by have := HBZ.out.size; have := HBQ.out.size; simp at hk; omega) (Below.refl _ _) (by have := HBZ.out.size; have := HBQ.out.size; simp; omega) (by have := HL8.out; simp; omega) ?_; intro v9 w9 ho hb hg9 hat; obtain ⟨A9, c9, rfl⟩ := Kd.N_slice ho; have HO := Aside0.mk ho; have HB9 := Aside0.mk ((bba HBW.out _).trans hb); have HBW := HB9; clear ho hb hg9 hat)
                    refine hK.out _ _ ?_ (fun hHeld => ?_)
                    · exact HS.out _ (by with_reducible repeat (first | exact HBW.out | refine Below.drew ?_ | refine bba ?_ _))
                    clear hK K
                    try simp only [Act.put, List.setIfInBounds_toArray, List.set_cons_zero, List.set_cons_succ]
                    refine wpAnyH_ready (rs := [17]) (by kernel_rfl) (by simp) ?_
                    refine AllReadyH.cons (o := _) rfl (fun K hK => ?_) ?_
                    · go_simp
                      refine hK.out _ _ ?_ (fun hHeld => ?_)
                      · exact HS.out _ (by with_reducible repeat (first | exact HBW.out | refine Below.drew ?_ | refine bba ?_ _))
                      clear hK K
                      try simp only [Act.put, List.setIfInBounds_toArray, List.set_cons_zero, List.set_cons_succ]
                      refine wpAnyH_done (by kernel_rfl) ?_ _
                      ((try simp only [Act.put, List.setIfInBounds_toArray, List.set_cons_zero, List.set_cons_succ]); go_wp2; go_roundg (x.f3.length - (k2 + 1)); (case measure => omega); (case rel => exact ⟨k2 + 1, by omega, by omega, by go_num, HB9, by rw [HT3.out, ← List.append_assoc, HACC8.out]; simpa using HO⟩))
                    exact AllReadyH.nil
                  exact AllReadyH.nil
                exact AllReadyH.nil
              exact AllReadyH.nil
            exact AllReadyH.nil
          · have hlt2z : ¬ (k2 : Int) < (x.f3.length : Int) := by omega
            obtain rfl : k2 = x.f3.length := by omega
            have hn3 := HN8.out
            rw [List.take_length] at hn3
            have HN8 := Aside0.mk hn3
            clear hn3
            go_wp2
            clear gc7
            go_loopg [8, 10] x.f4.length (fun gg s8 s10 wr => ∃ (k3 : Nat), k3 ≤ x.f4.length ∧ x.f4.length - k3 ≤ gg ∧ s10 = .int .i64 k3 ∧ Aside0 (Below wz.heap.size wz wr) ∧ Aside0 (Kd.N kR 22 wr wz.heap.size (fun k => wz.heap.size ≤ k) s8 (([x.f0.data.toList, numL x.f1, numL x.f2, numL (x.f3.length : Int)] ++ x.f3.flatMap (fun l => [numL l.f0, numL l.f1])) ++ (x.f4.take k3).flatMap (fun c => [c.f0.data.toList, numL c.f1, numL c.f2]))))
            case atStart => exact ⟨0, by omega, by omega, rfl, HBW, by simpa using HN8⟩
            case round =>
              clear HBW HN8
              obtain ⟨k3, hk3, hg3, rfl, HBW, HN8⟩ := hrel
              have gc7 := blk_cell (blk_keep HBW.out G7.out)
              by_cases hlt3 : k3 < x.f4.length
              · have hlt3z : (k3 : Int) < (x.f4.length : Int) := by omega
                obtain ⟨A', c', he, _, hC4⟩ := HS4.out
                injection he with he _ _
                subst he
                obtain ⟨ad4, rfl, q0, q1, q2⟩ := get52 hC4 k3 hlt3
                have HM4 := Aside0.mk (HFI.out.m4 _ (List.getElem_mem hlt3))
                have HSY := Aside0.mk (HCS.out _ (List.getElem_mem hlt3))
                have HT4 := Aside0.mk (show (x.f4.take (k3 + 1)).flatMap (fun c => [c.f0.data.toList, numL c.f1, numL c.f2]) = (x.f4.take k3).flatMap (fun c => [c.f0.data.toList, numL c.f1, numL c.f2]) ++ [x.f4[k3].f0.data.toList, numL x.f4[k3].f1, numL x.f4[k3].f2] by
                  rw [List.take_succ_eq_append_getElem hlt3, List.flatMap_append]; simp)
                have HL8 := Aside0.mk (show (([x.f0.data.toList, numL x.f1, numL x.f2, numL (x.f3.length : Int)] ++ x.f3.flatMap (fun l => [numL l.f0, numL l.f1])) ++ (x.f4.take k3).flatMap (fun c => [c.f0.data.toList, numL c.f1, numL c.f2])).length ≤ 1000 by
                  rw [List.length_append, List.length_append, flat2_len _ 2 _ (fun _ => rfl), flat2_len _ 3 _ (fun _ => rfl), List.length_take]; simp; omega)
                generalize x.f4[k3] = y at q0 q1 q2 HM4 HT4 HSY
                generalize hacc : ([x.f0.data.toList, numL x.f1, numL x.f2, numL (x.f3.length : Int)] ++ x.f3.flatMap (fun l => [numL l.f0, numL l.f1])) ++ (x.f4.take k3).flatMap (fun c => [c.f0.data.toList, numL c.f1, numL c.f2]) = acc8 at HN8 HL8
                have HACC8 := Aside0.mk hacc
                clear hacc hC4
                obtain ⟨A8, c8, rfl⟩ := Kd.N_slice HN8.out
                have hm1 : y.f1 ≤ 9223372036854775807 := HM4.out.2.1
                have hm2 : y.f2 ≤ 9223372036854775807 := HM4.out.2.2.2
                have hkb := fun W => print_bytes (P := Try.prog) 9 22 5 Try.underlying9 Try.underlying22 Try.underlying5 y.f0 W
                go_upto_region 17 with fail
                obtain ⟨wq, rfl⟩ : ∃ wq : World, wq = wr := ⟨_, rfl⟩
                have HBZ := HBW
                have HBV := Aside0.mk (BVs.nil wq.heap.size wq.drew)
                have HBQ := Aside0.mk (Below.drew (Below.refl wq.heap.size wq))
                have HS : Aside0 (∀ W, Below wz.heap.size wz W → Below wz.heap.size wz W ∧ (∀ i, W.cell? ⟨g7, i, none⟩ = (#[.string x.f0, .int .i64 x.f1, .int .i64 x.f2, .slice A3 x.f3.length c3, .slice (some ad4) x.f4.length c4] : Array Value)[i]?) ∧ W.cell? (ad4.add (k3 * 3)) = some (.string y.f0) ∧ W.cell? ⟨(ad4.add (k3 * 3)).block, (ad4.add (k3 * 3)).off + 1, none⟩ = some (.int .i64 y.f1) ∧ W.cell? ⟨(ad4.add (k3 * 3)).block, (ad4.add (k3 * 3)).off + 2, none⟩ = some (.int .i64 y.f2)) := ⟨fun W hb => ⟨hb, blk_cell (blk_keep hb G7.out), pw_cell_below hb q0, pw_cell_below hb q1, pw_cell_below hb q2⟩⟩
                refine wp_region_held_drew (S := fun W => Below wz.heap.size wz W ∧ (∀ i, W.cell? ⟨g7, i, none⟩ = (#[.string x.f0, .int .i64 x.f1, .int .i64 x.f2, .slice A3 x.f3.length c3, .slice (some ad4) x.f4.length c4] : Array Value)[i]?) ∧ W.cell? (ad4.add (k3 * 3)) = some (.string y.f0) ∧ W.cell? ⟨(ad4.add (k3 * 3)).block, (ad4.add (k3 * 3)).off + 1, none⟩ = some (.int .i64 y.f1) ∧ W.cell? ⟨(ad4.add (k3 * 3)).block, (ad4.add (k3 * 3)).off + 2, none⟩ = some (.int .i64 y.f2)) (by kernel_rfl) (HS.out _ (Below.drew HBW.out)) (fun hHeld => ?_)
                refine wpAnyH_take (i := 0) (oi := _) (v := ?_) rfl (by kernel_rfl) (by kernel_rfl) (by kernel_rfl) (fun _ _ _ h => h) (Or.inl ⟨by rfl, ?_⟩) (by assumption) ?_
                rotate_left
                · (intro wz hSw; (try dsimp only at hSw); go_simp; (try with_reducible rfl))
                try simp only [Act.put, List.setIfInBounds_toArray, List.set_cons_zero, List.set_cons_succ]
                refine wpAnyH_take (i := 1) (oi := _) (v := ?_) rfl (by kernel_rfl) (by kernel_rfl) (by kernel_rfl) (fun _ _ _ h => h) (Or.inl ⟨by rfl, ?_⟩) (by assumption) ?_
                rotate_left
                · (intro wz hSw; (try dsimp only at hSw); go_simp; (try with_reducible rfl))
                try simp only [Act.put, List.setIfInBounds_toArray, List.set_cons_zero, List.set_cons_succ]
                refine wpAnyH_take (i := 2) (oi := _) (v := ?_) rfl (by kernel_rfl) (by kernel_rfl) (by kernel_rfl) (fun _ _ _ h => h) (Or.inl ⟨by rfl, ?_⟩) (by assumption) ?_
                rotate_left
                · (intro wz hSw; (try dsimp only at hSw); go_simp; (try with_reducible rfl))
                try simp only [Act.put, List.setIfInBounds_toArray, List.set_cons_zero, List.set_cons_succ]
                refine wpAnyH_take (i := 3) (oi := _) (v := ?_) rfl (by kernel_rfl) (by kernel_rfl) (by kernel_rfl) (fun _ _ _ h => h) (Or.inl ⟨by rfl, ?_⟩) (by assumption) ?_
                rotate_left
                · (intro wz hSw; (try dsimp only at hSw); go_simp; (try with_reducible rfl))
                try simp only [Act.put, List.setIfInBounds_toArray, List.set_cons_zero, List.set_cons_succ]
                refine wpAnyH_take (i := 4) (oi := _) (v := ?_) rfl (by kernel_rfl) (by kernel_rfl) (by kernel_rfl) (fun _ _ _ h => h) (Or.inl ⟨by rfl, ?_⟩) (by assumption) ?_
                rotate_left
                · (intro wz hSw; (try dsimp only at hSw); go_simp; (try with_reducible rfl))
                try simp only [Act.put, List.setIfInBounds_toArray, List.set_cons_zero, List.set_cons_succ]
                refine wpAnyH_take (i := 5) (oi := _) (v := ?_) rfl (by kernel_rfl) (by kernel_rfl) (by kernel_rfl) (fun _ _ _ h => h) (Or.inl ⟨by rfl, ?_⟩) (by assumption) ?_
                rotate_left
                · (intro wz hSw; (try dsimp only at hSw); go_simp; (try with_reducible rfl))
                try simp only [Act.put, List.setIfInBounds_toArray, List.set_cons_zero, List.set_cons_succ]
                refine wpAnyH_take (i := 6) (oi := _) (v := ?_) rfl (by kernel_rfl) (by kernel_rfl) (by kernel_rfl) (fun _ _ _ h => h) (Or.inl ⟨by rfl, ?_⟩) (by assumption) ?_
                rotate_left
                · (intro wz hSw; (try dsimp only at hSw); go_simp; (try with_reducible rfl))
                try simp only [Act.put, List.setIfInBounds_toArray, List.set_cons_zero, List.set_cons_succ]
                refine wpAnyH_take (i := 8) (oi := _) (v := ?_) rfl (by kernel_rfl) (by kernel_rfl) (by kernel_rfl) (fun _ _ _ h => h) (Or.inl ⟨by rfl, ?_⟩) (by assumption) ?_
                rotate_left
                · (intro wz hSw; (try dsimp only at hSw); go_simp; (try with_reducible rfl))
                try simp only [Act.put, List.setIfInBounds_toArray, List.set_cons_zero, List.set_cons_succ]
                refine wpAnyH_take (i := 9) (oi := _) (v := ?_) rfl (by kernel_rfl) (by kernel_rfl) (by kernel_rfl) (fun _ _ _ h => h) (Or.inl ⟨by rfl, ?_⟩) (by assumption) ?_
                rotate_left
                · (intro wz hSw; (try dsimp only at hSw); go_simp; (try with_reducible rfl))
                try simp only [Act.put, List.setIfInBounds_toArray, List.set_cons_zero, List.set_cons_succ]
                refine wpAnyH_take (i := 10) (oi := _) (v := ?_) rfl (by kernel_rfl) (by kernel_rfl) (by kernel_rfl) (fun _ _ _ h => h) (Or.inl ⟨by rfl, ?_⟩) (by assumption) ?_
                rotate_left
                · (intro wz hSw; (try dsimp only at hSw); go_simp; (try with_reducible rfl))
                try simp only [Act.put, List.setIfInBounds_toArray, List.set_cons_zero, List.set_cons_succ]
                refine wpAnyH_take (i := 11) (oi := _) (v := ?_) rfl (by kernel_rfl) (by kernel_rfl) (by kernel_rfl) (fun _ _ _ h => h) (Or.inl ⟨by rfl, ?_⟩) (by assumption) ?_
                rotate_left
                · (intro wz hSw; (try dsimp only at hSw); go_simp; (try with_reducible rfl))
                try simp only [Act.put, List.setIfInBounds_toArray, List.set_cons_zero, List.set_cons_succ]
                refine wpAnyH_take (i := 12) (oi := _) (v := ?_) rfl (by kernel_rfl) (by kernel_rfl) (by kernel_rfl) (fun _ _ _ h => h) (Or.inl ⟨by rfl, ?_⟩) (by assumption) ?_
                rotate_left
                · (intro wz hSw; (try dsimp only at hSw); go_simp; (try with_reducible rfl))
                try simp only [Act.put, List.setIfInBounds_toArray, List.set_cons_zero, List.set_cons_succ]
                refine wpAnyH_take (i := 13) (oi := _) (v := ?_) rfl (by kernel_rfl) (by kernel_rfl) (by kernel_rfl) (fun _ _ _ h => h) (Or.inl ⟨by rfl, ?_⟩) (by assumption) ?_
                rotate_left
                · (intro wz hSw; (try dsimp only at hSw); go_simp; (try with_reducible rfl))
                try simp only [Act.put, List.setIfInBounds_toArray, List.set_cons_zero, List.set_cons_succ]
                refine wpAnyH_take (i := 15) (oi := _) (v := ?_) rfl (by kernel_rfl) (by kernel_rfl) (by kernel_rfl) (fun _ _ _ h => h) (Or.inl ⟨by rfl, ?_⟩) (by assumption) ?_
                rotate_left
                · (intro wz hSw; (try dsimp only at hSw); go_simp; (try with_reducible rfl))
                try simp only [Act.put, List.setIfInBounds_toArray, List.set_cons_zero, List.set_cons_succ]
                refine wpAnyH_take (i := 16) (oi := _) (v := ?_) rfl (by kernel_rfl) (by kernel_rfl) (by kernel_rfl) (fun _ _ _ h => h) (Or.inl ⟨by rfl, ?_⟩) (by assumption) ?_
                rotate_left
                · (intro wz hSw; (try dsimp only at hSw); go_simp; (try with_reducible rfl))
                try simp only [Act.put, List.setIfInBounds_toArray, List.set_cons_zero, List.set_cons_succ]
                refine wpAnyH_take (i := 17) (oi := _) (v := ?_) rfl (by kernel_rfl) (by kernel_rfl) (by kernel_rfl) (fun _ _ _ h => h) (Or.inl ⟨by rfl, ?_⟩) (by assumption) ?_
                rotate_left
                · (intro wz hSw; (try dsimp only at hSw); go_simp; (try with_reducible rfl))
                try simp only [Act.put, List.setIfInBounds_toArray, List.set_cons_zero, List.set_cons_succ]
                refine wpAnyH_take (i := 18) (oi := _) (v := ?_) rfl (by kernel_rfl) (by kernel_rfl) (by kernel_rfl) (fun _ _ _ h => h) (Or.inl ⟨by rfl, ?_⟩) (by assumption) ?_
                rotate_left
                · (intro wz hSw; (try dsimp only at hSw); go_simp; (try with_reducible rfl))
                try simp only [Act.put, List.setIfInBounds_toArray, List.set_cons_zero, List.set_cons_succ]
                refine wpAnyH_take (i := 19) (oi := _) (v := ?_) rfl (by kernel_rfl) (by kernel_rfl) (by kernel_rfl) (fun _ _ _ h => h) (Or.inl ⟨by rfl, ?_⟩) (by assumption) ?_
                rotate_left
                · (intro wz hSw; (try dsimp only at hSw); go_simp; (try with_reducible rfl))
                try simp only [Act.put, List.setIfInBounds_toArray, List.set_cons_zero, List.set_cons_succ]
                refine wpAnyH_take (i := 20) (oi := _) (v := ?_) rfl (by kernel_rfl) (by kernel_rfl) (by kernel_rfl) (fun _ _ _ h => h) (Or.inl ⟨by rfl, ?_⟩) (by assumption) ?_
                rotate_left
                · (intro wz hSw; (try dsimp only at hSw); go_simp; (try with_reducible rfl))
                try simp only [Act.put, List.setIfInBounds_toArray, List.set_cons_zero, List.set_cons_succ]
                refine wpAnyH_ready (rs := [7, 14]) (by kernel_rfl) (by simp) ?_
                refine AllReadyH.cons (o := _) rfl (fun K hK => ?_) ?_
                · (go_simp; have HBV := Aside0.mk (BVs.bytes (by first | exact HBV.out | exact HBV.out.below (below_drew (Below.refl _ _))) HBQ.out.size HSY.out); have HBQ := Aside0.mk (bytes_below (by first | exact HBQ.out | exact Below.drew HBQ.out) HBQ.out.size 5 y.f0); have HBW := Aside0.mk (bytes_below hHeld.1 hHeld.1.size 5 y.f0))
                  refine hK.out _ _ ?_ (fun hHeld => ?_)
                  · exact HS.out _ (by with_reducible repeat (first | exact HBW.out | refine Below.drew ?_ | refine bba ?_ _))
                  clear hK K
                  try simp only [Act.put, List.setIfInBounds_toArray, List.set_cons_zero, List.set_cons_succ]
                  refine wpAnyH_ready (rs := [14]) (by kernel_rfl) (by simp) ?_
                  refine AllReadyH.cons (o := _) rfl (fun K hK => ?_) ?_
                  · (go_simp; go_at_call 85; refine (num85 _ _ hm1).mono ?_; rintro e w8 ⟨v8, rfl, hn8, hb8⟩; obtain ⟨B14, d14, rfl⟩ := Kd.N_slice hn8; have HBV := Aside0.mk (BVs.cons HBV.out (by first | exact hb8 | exact bb (below_drew (Below.refl _ _)) hb8) HBQ.out.size hn8); have HBQ := Aside0.mk (bb HBQ.out (by first | exact hb8 | exact bb (below_drew (Below.refl _ _)) hb8)); have HBW := Aside0.mk (bb hHeld.1 hb8); clear hn8 hb8)
                    refine hK.out _ _ ?_ (fun hHeld => ?_)
                    · exact HS.out _ (by with_reducible repeat (first | exact HBW.out | refine Below.drew ?_ | refine bba ?_ _))
                    clear hK K
                    try simp only [Act.put, List.setIfInBounds_toArray, List.set_cons_zero, List.set_cons_succ]
                    refine wpAnyH_ready (rs := [21]) (by kernel_rfl) (by simp) ?_
                    refine AllReadyH.cons (o := _) rfl (fun K hK => ?_) ?_
                    · (go_simp; go_at_call 85; refine (num85 _ _ hm2).mono ?_; rintro e w8 ⟨v8, rfl, hn8, hb8⟩; obtain ⟨B21, d21, rfl⟩ := Kd.N_slice hn8; have HBV := Aside0.mk (BVs.cons HBV.out (by first | exact hb8 | exact bb (below_drew (Below.refl _ _)) hb8) HBQ.out.size hn8); have HBQ := Aside0.mk (bb HBQ.out (by first | exact hb8 | exact bb (below_drew (Below.refl _ _)) hb8)); have HBW := Aside0.mk (bb hHeld.1 hb8); clear hn8 hb8)
                      refine hK.out _ _ ?_ (fun hHeld => ?_)
                      · exact HS.out _ (by with_reducible repeat (first | exact HBW.out | refine Below.drew ?_ | refine bba ?_ _))
                      clear hK K
                      try simp only [Act.put, List.setIfInBounds_toArray, List.set_cons_zero, List.set_cons_succ]
                      refine wpAnyH_ready (rs := [22]) (by kernel_rfl) (by simp) ?_
                      refine AllReadyH.cons (o := _) rfl (fun K hK => ?_) ?_
                      · go_simp
                        refine hK.out _ _ ?_ (fun hHeld => ?_)
                        · exact HS.out _ (by with_reducible repeat (first | exact HBW.out | refine Below.drew ?_ | refine bba ?_ _))
                        clear hK K
                        try simp only [Act.put, List.setIfInBounds_toArray, List.set_cons_zero, List.set_cons_succ]
                        refine wpAnyH_ready (rs := [23]) (by kernel_rfl) (by simp) ?_
                        refine AllReadyH.cons (o := _) rfl (fun K hK => ?_) ?_
                        · (refine Kd.N_append_rows_step kR wz.heap.size rfl (.tmp 109) (.tmp 131) 74 22 (.slice none 0 0) 24 rfl Try.underlying74 info22 rfl (by decide) (by omega) (.slice A8 acc8.length c8) acc8 [y.f0.data.toList, numL y.f1, numL y.f2] _ 3 3 (fun k => wz.heap.size ≤ k) (fun k => wq.heap.size ≤ k) rfl rfl (Kd.N_below HN8.out (bba HBQ.out _)) (Kd.N_F (N_litR (B := wq.heap.size) (vs := [_, _, _]) (ls := [y.f0.data.toList, numL y.f1, numL y.f2]) rfl (by intro j v l hv hl; rcases j with _ | _ | _ | j <;> simp only [List.getElem?_cons_zero, List.getElem?_cons_succ, List.getElem?_nil, Option.some.injEq, reduceCtorEq] at hv hl <;> (subst hv hl; exact HBV.out (_, _) (by repeat (first | exact List.mem_cons_self | apply List.mem_cons_of_mem)))) HBQ.out.size (by simp))) (fun k hk => ⟨Nat.le_trans HBZ.out.size hk, fun he => absurd (Kd.N_lt HN8.out k he.symm) (by omega)⟩) (fun k hk => Nat.le_trans (Nat.le_trans HBZ.out.size (bba HBQ.out _).size) hk) (Below.refl _ _) (Nat.le_trans HBZ.out.size (bba HBQ.out _).size) (by have := HL8.out; simp; omega) ?_; intro v9 w9 ho hb hg9 hat; obtain ⟨A9, c9, rfl⟩ := Kd.N_slice ho; have HO := Aside0.mk ho; have HB9 := Aside0.mk ((bba HBW.out _).trans hb); have HBW := HB9; clear ho hb hg9 hat)
                          refine hK.out _ _ ?_ (fun hHeld => ?_)
                          · exact HS.out _ (by with_reducible repeat (first | exact HBW.out | refine Below.drew ?_ | refine bba ?_ _))
                          clear hK K
                          try simp only [Act.put, List.setIfInBounds_toArray, List.set_cons_zero, List.set_cons_succ]
                          refine wpAnyH_ready (rs := [24]) (by kernel_rfl) (by simp) ?_
                          refine AllReadyH.cons (o := _) rfl (fun K hK => ?_) ?_
                          · go_simp
                            refine hK.out _ _ ?_ (fun hHeld => ?_)
                            · exact HS.out _ (by with_reducible repeat (first | exact HBW.out | refine Below.drew ?_ | refine bba ?_ _))
                            clear hK K
                            try simp only [Act.put, List.setIfInBounds_toArray, List.set_cons_zero, List.set_cons_succ]
                            refine wpAnyH_done (by kernel_rfl) ?_ _
                            ((try simp only [Act.put, List.setIfInBounds_toArray, List.set_cons_zero, List.set_cons_succ]); go_wp2; go_roundg (x.f4.length - (k3 + 1)); (case measure => omega); (case rel => exact ⟨k3 + 1, by omega, by omega, by go_num, HB9, by rw [HT4.out, ← List.append_assoc, HACC8.out]; simpa using HO⟩))
                          exact AllReadyH.nil
                        exact AllReadyH.nil
                      exact AllReadyH.nil
                    exact AllReadyH.nil
                  exact AllReadyH.nil
                refine AllReadyH.cons (o := _) rfl (fun K hK => ?_) ?_
                · (go_simp; go_at_call 85; refine (num85 _ _ hm1).mono ?_; rintro e w8 ⟨v8, rfl, hn8, hb8⟩; obtain ⟨B14, d14, rfl⟩ := Kd.N_slice hn8; have HBV := Aside0.mk (BVs.cons HBV.out (by first | exact hb8 | exact bb (below_drew (Below.refl _ _)) hb8) HBQ.out.size hn8); have HBQ := Aside0.mk (bb HBQ.out (by first | exact hb8 | exact bb (below_drew (Below.refl _ _)) hb8)); have HBW := Aside0.mk (bb hHeld.1 hb8); clear hn8 hb8)
                  refine hK.out _ _ ?_ (fun hHeld => ?_)
                  · exact HS.out _ (by with_reducible repeat (first | exact HBW.out | refine Below.drew ?_ | refine bba ?_ _))
                  clear hK K
                  try simp only [Act.put, List.setIfInBounds_toArray, List.set_cons_zero, List.set_cons_succ]
                  refine wpAnyH_ready (rs := [7, 21]) (by kernel_rfl) (by simp) ?_
                  refine AllReadyH.cons (o := _) rfl (fun K hK => ?_) ?_
                  · (go_simp; have HBV := Aside0.mk (BVs.bytes (by first | exact HBV.out | exact HBV.out.below (below_drew (Below.refl _ _))) HBQ.out.size HSY.out); have HBQ := Aside0.mk (bytes_below (by first | exact HBQ.out | exact Below.drew HBQ.out) HBQ.out.size 5 y.f0); have HBW := Aside0.mk (bytes_below hHeld.1 hHeld.1.size 5 y.f0))
                    refine hK.out _ _ ?_ (fun hHeld => ?_)
                    · exact HS.out _ (by with_reducible repeat (first | exact HBW.out | refine Below.drew ?_ | refine bba ?_ _))
                    clear hK K
                    try simp only [Act.put, List.setIfInBounds_toArray, List.set_cons_zero, List.set_cons_succ]
                    refine wpAnyH_ready (rs := [21]) (by kernel_rfl) (by simp) ?_
                    refine AllReadyH.cons (o := _) rfl (fun K hK => ?_) ?_
                    · (go_simp; go_at_call 85; refine (num85 _ _ hm2).mono ?_; rintro e w8 ⟨v8, rfl, hn8, hb8⟩; obtain ⟨B21, d21, rfl⟩ := Kd.N_slice hn8; have HBV := Aside0.mk (BVs.cons HBV.out (by first | exact hb8 | exact bb (below_drew (Below.refl _ _)) hb8) HBQ.out.size hn8); have HBQ := Aside0.mk (bb HBQ.out (by first | exact hb8 | exact bb (below_drew (Below.refl _ _)) hb8)); have HBW := Aside0.mk (bb hHeld.1 hb8); clear hn8 hb8)
                      refine hK.out _ _ ?_ (fun hHeld => ?_)
                      · exact HS.out _ (by with_reducible repeat (first | exact HBW.out | refine Below.drew ?_ | refine bba ?_ _))
                      clear hK K
                      try simp only [Act.put, List.setIfInBounds_toArray, List.set_cons_zero, List.set_cons_succ]
                      refine wpAnyH_ready (rs := [22]) (by kernel_rfl) (by simp) ?_
                      refine AllReadyH.cons (o := _) rfl (fun K hK => ?_) ?_
                      · go_simp
                        refine hK.out _ _ ?_ (fun hHeld => ?_)
                        · exact HS.out _ (by with_reducible repeat (first | exact HBW.out | refine Below.drew ?_ | refine bba ?_ _))
                        clear hK K
                        try simp only [Act.put, List.setIfInBounds_toArray, List.set_cons_zero, List.set_cons_succ]
                        refine wpAnyH_ready (rs := [23]) (by kernel_rfl) (by simp) ?_
                        refine AllReadyH.cons (o := _) rfl (fun K hK => ?_) ?_
                        · (refine Kd.N_append_rows_step kR wz.heap.size rfl (.tmp 109) (.tmp 131) 74 22 (.slice none 0 0) 24 rfl Try.underlying74 info22 rfl (by decide) (by omega) (.slice A8 acc8.length c8) acc8 [y.f0.data.toList, numL y.f1, numL y.f2] _ 3 3 (fun k => wz.heap.size ≤ k) (fun k => wq.heap.size ≤ k) rfl rfl (Kd.N_below HN8.out (bba HBQ.out _)) (Kd.N_F (N_litR (B := wq.heap.size) (vs := [_, _, _]) (ls := [y.f0.data.toList, numL y.f1, numL y.f2]) rfl (by intro j v l hv hl; rcases j with _ | _ | _ | j <;> simp only [List.getElem?_cons_zero, List.getElem?_cons_succ, List.getElem?_nil, Option.some.injEq, reduceCtorEq] at hv hl <;> (subst hv hl; exact HBV.out (_, _) (by repeat (first | exact List.mem_cons_self | apply List.mem_cons_of_mem)))) HBQ.out.size (by simp))) (fun k hk => ⟨Nat.le_trans HBZ.out.size hk, fun he => absurd (Kd.N_lt HN8.out k he.symm) (by omega)⟩) (fun k hk => Nat.le_trans (Nat.le_trans HBZ.out.size (bba HBQ.out _).size) hk) (Below.refl _ _) (Nat.le_trans HBZ.out.size (bba HBQ.out _).size) (by have := HL8.out; simp; omega) ?_; intro v9 w9 ho hb hg9 hat; obtain ⟨A9, c9, rfl⟩ := Kd.N_slice ho; have HO := Aside0.mk ho; have HB9 := Aside0.mk ((bba HBW.out _).trans hb); have HBW := HB9; clear ho hb hg9 hat)
                          refine hK.out _ _ ?_ (fun hHeld => ?_)
                          · exact HS.out _ (by with_reducible repeat (first | exact HBW.out | refine Below.drew ?_ | refine bba ?_ _))
                          clear hK K
                          try simp only [Act.put, List.setIfInBounds_toArray, List.set_cons_zero, List.set_cons_succ]
                          refine wpAnyH_ready (rs := [24]) (by kernel_rfl) (by simp) ?_
                          refine AllReadyH.cons (o := _) rfl (fun K hK => ?_) ?_
                          · go_simp
                            refine hK.out _ _ ?_ (fun hHeld => ?_)
                            · exact HS.out _ (by with_reducible repeat (first | exact HBW.out | refine Below.drew ?_ | refine bba ?_ _))
                            clear hK K
                            try simp only [Act.put, List.setIfInBounds_toArray, List.set_cons_zero, List.set_cons_succ]
                            refine wpAnyH_done (by kernel_rfl) ?_ _
                            ((try simp only [Act.put, List.setIfInBounds_toArray, List.set_cons_zero, List.set_cons_succ]); go_wp2; go_roundg (x.f4.length - (k3 + 1)); (case measure => omega); (case rel => exact ⟨k3 + 1, by omega, by omega, by go_num, HB9, by rw [HT4.out, ← List.append_assoc, HACC8.out]; simpa using HO⟩))
                          exact AllReadyH.nil
                        exact AllReadyH.nil
                      exact AllReadyH.nil
                    exact AllReadyH.nil
                  refine AllReadyH.cons (o := _) rfl (fun K hK => ?_) ?_
                  · (go_simp; go_at_call 85; refine (num85 _ _ hm2).mono ?_; rintro e w8 ⟨v8, rfl, hn8, hb8⟩; obtain ⟨B21, d21, rfl⟩ := Kd.N_slice hn8; have HBV := Aside0.mk (BVs.cons HBV.out (by first | exact hb8 | exact bb (below_drew (Below.refl _ _)) hb8) HBQ.out.size hn8); have HBQ := Aside0.mk (bb HBQ.out (by first | exact hb8 | exact bb (below_drew (Below.refl _ _)) hb8)); have HBW := Aside0.mk (bb hHeld.1 hb8); clear hn8 hb8)
                    refine hK.out _ _ ?_ (fun hHeld => ?_)
                    · exact HS.out _ (by with_reducible repeat (first | exact HBW.out | refine Below.drew ?_ | refine bba ?_ _))
                    clear hK K
                    try simp only [Act.put, List.setIfInBounds_toArray, List.set_cons_zero, List.set_cons_succ]
                    refine wpAnyH_ready (rs := [7]) (by kernel_rfl) (by simp) ?_
                    refine AllReadyH.cons (o := _) rfl (fun K hK => ?_) ?_
                    · (go_simp; have HBV := Aside0.mk (BVs.bytes (by first | exact HBV.out | exact HBV.out.below (below_drew (Below.refl _ _))) HBQ.out.size HSY.out); have HBQ := Aside0.mk (bytes_below (by first | exact HBQ.out | exact Below.drew HBQ.out) HBQ.out.size 5 y.f0); have HBW := Aside0.mk (bytes_below hHeld.1 hHeld.1.size 5 y.f0))
                      refine hK.out _ _ ?_ (fun hHeld => ?_)
                      · exact HS.out _ (by with_reducible repeat (first | exact HBW.out | refine Below.drew ?_ | refine bba ?_ _))
                      clear hK K
                      try simp only [Act.put, List.setIfInBounds_toArray, List.set_cons_zero, List.set_cons_succ]
                      refine wpAnyH_ready (rs := [22]) (by kernel_rfl) (by simp) ?_
                      refine AllReadyH.cons (o := _) rfl (fun K hK => ?_) ?_
                      · go_simp
                        refine hK.out _ _ ?_ (fun hHeld => ?_)
                        · exact HS.out _ (by with_reducible repeat (first | exact HBW.out | refine Below.drew ?_ | refine bba ?_ _))
                        clear hK K
                        try simp only [Act.put, List.setIfInBounds_toArray, List.set_cons_zero, List.set_cons_succ]
                        refine wpAnyH_ready (rs := [23]) (by kernel_rfl) (by simp) ?_
                        refine AllReadyH.cons (o := _) rfl (fun K hK => ?_) ?_
                        · (refine Kd.N_append_rows_step kR wz.heap.size rfl (.tmp 109) (.tmp 131) 74 22 (.slice none 0 0) 24 rfl Try.underlying74 info22 rfl (by decide) (by omega) (.slice A8 acc8.length c8) acc8 [y.f0.data.toList, numL y.f1, numL y.f2] _ 3 3 (fun k => wz.heap.size ≤ k) (fun k => wq.heap.size ≤ k) rfl rfl (Kd.N_below HN8.out (bba HBQ.out _)) (Kd.N_F (N_litR (B := wq.heap.size) (vs := [_, _, _]) (ls := [y.f0.data.toList, numL y.f1, numL y.f2]) rfl (by intro j v l hv hl; rcases j with _ | _ | _ | j <;> simp only [List.getElem?_cons_zero, List.getElem?_cons_succ, List.getElem?_nil, Option.some.injEq, reduceCtorEq] at hv hl <;> (subst hv hl; exact HBV.out (_, _) (by repeat (first | exact List.mem_cons_self | apply List.mem_cons_of_mem)))) HBQ.out.size (by simp))) (fun k hk => ⟨Nat.le_trans HBZ.out.size hk, fun he => absurd (Kd.N_lt HN8.out k he.symm) (by omega)⟩) (fun k hk => Nat.le_trans (Nat.le_trans HBZ.out.size (bba HBQ.out _).size) hk) (Below.refl _ _) (Nat.le_trans HBZ.out.size (bba HBQ.out _).size) (by have := HL8.out; simp; omega) ?_; intro v9 w9 ho hb hg9 hat; obtain ⟨A9, c9, rfl⟩ := Kd.N_slice ho; have HO := Aside0.mk ho; have HB9 := Aside0.mk ((bba HBW.out _).trans hb); have HBW := HB9; clear ho hb hg9 hat)
                          refine hK.out _ _ ?_ (fun hHeld => ?_)
                          · exact HS.out _ (by with_reducible repeat (first | exact HBW.out | refine Below.drew ?_ | refine bba ?_ _))
                          clear hK K
                          try simp only [Act.put, List.setIfInBounds_toArray, List.set_cons_zero, List.set_cons_succ]
                          refine wpAnyH_ready (rs := [24]) (by kernel_rfl) (by simp) ?_
                          refine AllReadyH.cons (o := _) rfl (fun K hK => ?_) ?_
                          · go_simp
                            refine hK.out _ _ ?_ (fun hHeld => ?_)
                            · exact HS.out _ (by with_reducible repeat (first | exact HBW.out | refine Below.drew ?_ | refine bba ?_ _))
                            clear hK K
                            try simp only [Act.put, List.setIfInBounds_toArray, List.set_cons_zero, List.set_cons_succ]
                            refine wpAnyH_done (by kernel_rfl) ?_ _
                            ((try simp only [Act.put, List.setIfInBounds_toArray, List.set_cons_zero, List.set_cons_succ]); go_wp2; go_roundg (x.f4.length - (k3 + 1)); (case measure => omega); (case rel => exact ⟨k3 + 1, by omega, by omega, by go_num, HB9, by rw [HT4.out, ← List.append_assoc, HACC8.out]; simpa using HO⟩))
                          exact AllReadyH.nil
                        exact AllReadyH.nil
                      exact AllReadyH.nil
                    exact AllReadyH.nil
                  exact AllReadyH.nil
                exact AllReadyH.nil
              · have hlt3z : ¬ (k3 : Int) < (x.f4.length : Int) := by omega
                obtain rfl : k3 = x.f4.length := by omega
                have hn4 := HN8.out
                rw [List.take_length] at hn4
                have HN8 := Aside0.mk (show Kd.N kR 22 wr wz.heap.size (fun k => wz.heap.size ≤ k) _ (famParts x) from hn4)
                clear hn4
                obtain ⟨A8, c8, rfl⟩ := Kd.N_slice HN8.out
                go_wp2_with fail
                refine (list86 _ (famParts x) _ (Kd.N_reads HN8.out) HFL.out.1 HFL.out.2).mono ?_
                rintro e w8 ⟨v8, rfl, hn8, hb8⟩
                obtain ⟨B2, d2, rfl⟩ := Kd.N_slice hn8
                have HB8 := Aside0.mk (bb HBW.out hb8)
                have HZ8 := Aside0.mk (show wz.heap.size ≤ wr.heap.size from HBW.out.size)
                have N1 := Aside0.mk (N_litR (B := wr.heap.size) (W := w8) (vs := [.slice B2 (listL (famParts x)).length d2]) (ls := [listL (famParts x)]) rfl (by
                  intro j v l hv hl
                  rcases j with _ | j
                  · simp at hv hl; subst hv hl; exact fkR hn8
                  · simp at hv) hb8.size (by simp))
                clear hn8 hb8 gc7
                go_wp2_with (at_builtin; (refine Kd.N_append_rows kR w1.heap.size rfl (.tmp 133) (.tmp 136) 74 22 (.slice none 0 0) 24 rfl Try.underlying74 info22 rfl (by decide) (by omega) u5 acc [listL (famParts x)] (some ⟨w8.heap.size, 0, none⟩) 1 1 (fun k => w1.heap.size ≤ k) (fun k => wr.heap.size ≤ k) rfl rfl (Kd.N_below HNZ.out (bba HB8.out _)) (Kd.N_F N1.out) (fun k hk => ⟨Nat.le_trans (Nat.le_trans BWZ.out.size HZ8.out) hk, fun he => absurd (Kd.N_lt HNZ.out k he.symm) (by have := HZ8.out; omega)⟩) (fun k hk => Nat.le_trans (Nat.le_trans BWZ.out.size (bba HB8.out _).size) hk) (Below.refl _ _) (Nat.le_trans BWZ.out.size (bba HB8.out _).size) (by have := HLEN.out; simp; omega) ?_); intro v9 w9 ho hb hg9 hat; have HO := Aside0.mk ho; have HB9 := Aside0.mk ((BWZ.out.trans ((bba HB8.out _).mono BWZ.out.size)).trans hb); clear ho hb hg9 hat)
                go_roundg (s.fams.length - (kk + 1))
                case measure => omega
                case rel => exact ⟨kk + 1, by omega, by omega, by go_num, HB9, by rw [HT.out, ← List.append_assoc, HACC.out]; exact HO⟩
    · have hltz : ¬ (kk : Int) < (s.fams.length : Int) := by omega
      obtain rfl : kk = s.fams.length := by omega
      have hn4 := HN.out
      rw [List.take_length] at hn4
      have HN := Aside0.mk hn4
      clear hn4
      obtain ⟨wy, rfl⟩ : ∃ wy : World, wy = wr := ⟨_, rfl⟩
      have K0Y := Aside0.mk (blk_keep BW.out K0.out)
      have K1Y := Aside0.mk (blk_keep BW.out K1.out)
      have HESM := Aside0.mk (encParts_len q1 (by omega) (by omega) HNN.out)
      have HENC := Aside0.mk (show encParts s = [numL s.ver] ++ s.fams.map (fun f => listL (famParts f)) ++ [numL s.kind, s.fam.data.toList, s.qual.data.toList, numL s.typ, numL s.grp, numL s.vers, numL s.life, numL s.step] from rfl)
      have HLEN := Aside0.mk (show ([numL s.ver] ++ s.fams.map (fun f => listL (famParts f))).length ≤ 1000 by
        rw [List.length_append, List.length_map]; simp; omega)
      generalize [numL s.ver] ++ s.fams.map (fun f => listL (famParts f)) = acc at HN HENC HLEN
      have hm3 : s.kind ≤ 9223372036854775807 := by have := HF.out.2.2.2.1; omega
      have hm12 : s.typ ≤ 9223372036854775807 := HNN.out.1
      have hm15 : s.grp ≤ 9223372036854775807 := HNN.out.2.1
      have hm18 : s.vers ≤ 9223372036854775807 := HNN.out.2.2.1
      have hm21 : s.life ≤ 9223372036854775807 := HNN.out.2.2.2
      have hm24 : s.step ≤ 9223372036854775807 := by have := HF.out.2.2.2.2; omega
      have hz6 : s.fam.size ≤ 1000000 := by omega
      have hz9 : s.qual.size ≤ 1000000 := by omega
      have HKB6 := Aside0.mk (fun W => print_bytes (P := Try.prog) 9 22 5 Try.underlying9 Try.underlying22 Try.underlying5 s.fam W)
      have HKB9 := Aside0.mk (fun W => print_bytes (P := Try.prog) 9 22 5 Try.underlying9 Try.underlying22 Try.underlying5 s.qual W)
      skip
      go_upto_region 19 with fail
      have HM := Aside0.mk (And.intro hm3 (And.intro hm12 (And.intro hm15 (And.intro hm18 (And.intro hm21 (And.intro hm24 (And.intro hz6 hz9)))))))
      clear hm3 hm12 hm15 hm18 hm21 hm24 hz6 hz9 c2 c2' c3 c3' c4 c5 c6 c7 hfl hkk hg hzf
      go_cut [5] (fun s5 wx => Aside0 (Below w1.heap.size w1 wx) ∧ Aside0 (Kd.N kR 22 wx w1.heap.size (fun k => w1.heap.size ≤ k) s5 (encParts s)))
      case first =>
        refine reg19 _ (s := s) BW HN HLEN HENC K0Y K1Y HM rfl rfl rfl rfl ?_
        intro A3 d3 A6 d6 A9 d9 A12 d12 A15 d15 A18 d18 A21 d21 A24 d24 A25 v26 wx hnx hbx
        simp only [Act.put, List.setIfInBounds_toArray, List.set_cons_zero, List.set_cons_succ]
        go_wp2
        go_meet
        exact ⟨⟨hbx⟩, ⟨hnx⟩⟩
      case rest =>
        obtain ⟨BY, HNY⟩ := hcut
        have HBX := Aside0.mk (bb HB.out BY.out)
        go_wp2_with fail
        refine (list86 _ (encParts s) _ (Kd.N_reads HNY.out) HESM.out.1 HESM.out.2).mono ?_
        rintro e w9 ⟨v9, rfl, hn9, hb9⟩
        have HN9 := Aside0.mk (Nw.lower hn9 HBX.out.size)
        have HB9 := Aside0.mk (bb HBX.out hb9)
        clear hn9 hb9
        go_wp2
        go_ret2
        exact ⟨_, _, _, rfl, HN9.out, HB9.out, by rw [HE.out]; rfl, HE.out.symm⟩
end Go.Proofs.Ytmgpoafoljkknaa.My
