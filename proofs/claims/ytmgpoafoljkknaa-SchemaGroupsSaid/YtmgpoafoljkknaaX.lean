/- The law SchemaGroups returns true. Conditions: the arguments are of their types. -/
import Derived.Test.YtmgpoafoljkknaaV
import Derived.Test.YtmgpoafoljkknaaQ
namespace Go.Proofs.Ytmgpoafoljkknaa.My
open Go.RowKit Go.Proofs.YtmgpoafoljkknaaW.PrintWords Go.Proofs.YtmgpoafoljkknaaW.PrintLast Go.Proofs.YtmgpoafoljkknaaW.PrintMore PSchemaReads
theorem lay_states {l : List S60} (h : layoutsB l = true) : ∀ y ∈ l, 1 ≤ y.f1 ∧ y.f1 ≤ 3 := by
  simp only [layoutsB, Bool.and_eq_true] at h
  intro y hy
  have := List.all_eq_true.1 h.1.1.1 y hy
  simp only [layB, withinB, Bool.and_eq_true, decide_eq_true_eq] at this
  omega
def wrL (x : S40) : List Int := (x.f3.filter fun l => l.f1 == 2 || l.f1 == 3).map (·.f0)
def goL (x : S40) : List Int := (x.f3.filter fun l => l.f1 != 0).map (·.f0)
theorem groups_read {x : S40} (h : (readR x).2 = true) : decide ((readR x).1 ∈ wrL x) = true := by
  unfold readR at h ⊢
  cases hf : x.f3.find? pubB with
  | none => rw [hf] at h; cases h
  | some l =>
    have hm := List.mem_of_find?_eq_some hf
    have hp := List.find?_some hf
    refine decide_eq_true (List.mem_map.2 ⟨l, List.mem_filter.2 ⟨hm, ?_⟩, rfl⟩)
    have : l.f1 = 3 := by simpa [pubB] using hp
    simp [this]
theorem groups_all (x : S40) : AllP (wrL x) (goL x) = true := by
  refine List.all_eq_true.2 fun n hn => decide_eq_true ?_
  obtain ⟨l, hl, rfl⟩ := List.mem_map.1 hn
  obtain ⟨hm, hp⟩ := List.mem_filter.1 hl
  refine List.mem_map.2 ⟨l, List.mem_filter.2 ⟨hm, ?_⟩, rfl⟩
  simp only [Bool.or_eq_true, beq_iff_eq] at hp
  simp only [bne_iff_ne]
  omega
theorem groups_len {x : S40} (h : familyB x = true) : (goL x).length = x.f3.length := by
  have hl : layoutsB x.f3 = true := by
    simp only [familyB, Bool.and_eq_true] at h
    exact h.1.2
  have h2 := lay_states hl
  unfold goL
  rw [List.length_map, List.filter_eq_self.2]
  intro l hm
  have := h2 l hm
  simp only [bne_iff_ne]
  omega
def oneFam (x : S40) : Sch := ⟨0, [x], 0, ⟨#[]⟩, ⟨#[]⟩, 0, 0, 0, 0, 0⟩
set_option maxHeartbeats 4000000 in
set_option maxRecDepth 100000 in
theorem groups5_any (v : Value) (x : S40) (w : World) (h : Fm w v x) : Calls Try.prog 5 #[v] w (RetB w true) := by
  have HF := Aside0.mk h
  obtain ⟨v3, v4, rfl, ⟨A3, c3, rfl, _, _⟩, ⟨A4, c4, rfl, _, _⟩⟩ := h
  have HB0 := Aside0.mk (below_alloc (Below.refl _ w) (.cells #[.string x.f0, .int .i64 x.f1, .int .i64 x.f2, .slice A3 x.f3.length c3, .slice A4 x.f4.length c4] 40))
  have HA0 := Aside0.mk (blk_new w #[.string x.f0, .int .i64 x.f1, .int .i64 x.f2, .slice A3 x.f3.length c3, .slice A4 x.f4.length c4] 40)
  go_enter Try.func5, Try.ntmps5
  go_wp2_with fail
  refine (alive_any _).mono ?_
  rintro e w1 ⟨rfl, hb⟩
  have HA1 := Aside0.mk (blk_keep hb HA0.out)
  have HB1 := Aside0.mk (bb HB0.out hb)
  have ga := blk_cell HA1.out
  clear hb HA0 HB0
  go_wp2_with fail
  clear ga
  have HB2 := Aside0.mk (bba HB1.out (.cells #[.string x.f0, .int .i64 x.f1, .int .i64 x.f2, .slice A3 x.f3.length c3, .slice A4 x.f4.length c4] 40))
  have HA2 := Aside0.mk (blk_old HA1.out (.cells #[.string x.f0, .int .i64 x.f1, .int .i64 x.f2, .slice A3 x.f3.length c3, .slice A4 x.f4.length c4] 40))
  refine (long_any _ (oneFam x) _ ⟨_, rfl, sl40_one (HF.out.below HB1.out) 40⟩).mono ?_
  rintro e w2 ⟨b, rfl, hb, hsm⟩
  have HA3 := Aside0.mk (blk_keep hb HA2.out)
  have HB3 := Aside0.mk (bb HB2.out hb)
  have ga := blk_cell HA3.out
  clear hb HA1 HA2 HB1 HB2
  cases b with
  | true =>
    clear hsm
    go_wp2
    go_ret
    exact ⟨rfl, HB3.out⟩
  | false =>
    have hsx := (hsm rfl).2.2.2 x (List.mem_singleton.2 rfl)
    have HSX := Aside0.mk hsx
    clear hsm hsx
    go_wp2_with fail
    clear ga
    rcases hfb : familyB x with _ | _
    · refine (refFamily_any _ x _ (HF.out.below HB3.out) (by have := HSX.out.1; omega)).mono ?_
      rw [hfb]
      rintro e w3 ⟨rfl, hb⟩
      have HB4 := Aside0.mk (bb HB3.out hb)
      clear hb
      go_wp2
      go_ret
      exact ⟨rfl, HB4.out⟩
    · refine (refFamily_any _ x _ (HF.out.below HB3.out) (by have := HSX.out.1; omega)).mono ?_
      rw [hfb]
      rintro e w3 ⟨rfl, hb⟩
      have HA4 := Aside0.mk (blk_keep hb HA3.out)
      have HB4 := Aside0.mk (bb HB3.out hb)
      have HGL := Aside0.mk (groups_len hfb)
      have ga := blk_cell HA4.out
      clear hb HA3 HB3 hfb
      go_wp2_with fail
      clear ga
      refine (written_any _ x _ (HF.out.below HB4.out) (by have := HSX.out.2.1; omega)).mono ?_
      rintro e w4 ⟨v1, rfl, hn, hb⟩
      have hn : Nw (Kd.int .i64) 3 w3.heap.size w4 v1 (wrL x) := hn
      obtain ⟨A5, c5, rfl⟩ := Kd.N_slice hn
      have HW4 := Aside0.mk hn.sl
      have HA5 := Aside0.mk (blk_keep hb HA4.out)
      have HB5 := Aside0.mk (bb HB4.out hb)
      have ga := blk_cell HA5.out
      clear hb hn HA4 HB4
      go_wp2_with fail
      clear ga
      refine (gone_any _ x _ (HF.out.below HB5.out) (by have := HSX.out.2.1; omega)).mono ?_
      rintro e w5 ⟨v2, rfl, hn, hb⟩
      have hn : Nw (Kd.int .i64) 3 w4.heap.size w5 v2 (goL x) := hn
      obtain ⟨A6, c6, rfl⟩ := Kd.N_slice hn
      have HG5 := Aside0.mk hn.sl
      have HW5 := Aside0.mk (HW4.out.below hb)
      have HA6 := Aside0.mk (blk_keep hb HA5.out)
      have HB6 := Aside0.mk (bb HB5.out hb)
      have ga := blk_cell HA6.out
      clear hb hn HA5 HB5 HW4
      go_wp2_with fail
      clear ga
      refine (read_any _ x _ (HF.out.below HB6.out)).mono ?_
      rintro e w6 ⟨rfl, hb⟩
      have HG6 := Aside0.mk (HG5.out.below hb)
      have HW6 := Aside0.mk (HW5.out.below hb)
      have HA7 := Aside0.mk (blk_keep hb HA6.out)
      have HB7 := Aside0.mk (bb HB6.out hb)
      have HRD := Aside0.mk (fun h => groups_read (x := x) h)
      have HAL := Aside0.mk (groups_all x)
      clear hb HA6 HB6 HG5 HW5
      rcases hr : (readR x).2 with _ | _
      · go_wp2_with fail
        have hcall := all26_any _ _ (wrL x) (goL x) w6 HW6.out HG6.out
        rw [HAL.out] at hcall
        refine hcall.mono ?_
        clear hcall
        rintro e w7 ⟨rfl, hb⟩
        have HA8 := Aside0.mk (blk_keep hb HA7.out)
        have HB8 := Aside0.mk (bb HB7.out hb)
        have ga := blk_cell HA8.out
        clear hb HA7 HB7
        go_wp2
        go_ret
        exact ⟨by simp [HGL.out], HB8.out⟩
      · have HRD2 := Aside0.mk (HRD.out hr)
        go_wp2_with fail
        have hcall := within25_any (readR x).1 _ (wrL x) w6 HW6.out
        rw [HRD2.out] at hcall
        refine hcall.mono ?_
        clear hcall
        rintro e w7 ⟨rfl, hb⟩
        have HG7 := Aside0.mk (HG6.out.below hb)
        have HW7 := Aside0.mk (HW6.out.below hb)
        have HA8 := Aside0.mk (blk_keep hb HA7.out)
        have HB8 := Aside0.mk (bb HB7.out hb)
        clear hb HA7 HB7 HG6 HW6
        go_wp2_with fail
        have hcall := all26_any _ _ (wrL x) (goL x) w7 HW7.out HG7.out
        rw [HAL.out] at hcall
        refine hcall.mono ?_
        clear hcall
        rintro e w8 ⟨rfl, hb⟩
        have HA9 := Aside0.mk (blk_keep hb HA8.out)
        have HB9 := Aside0.mk (bb HB8.out hb)
        have ga := blk_cell HA9.out
        clear hb HA8 HB8
        go_wp2
        go_ret
        exact ⟨by simp [HGL.out], HB9.out⟩
theorem fm_of_K {w : World} {x : S40} {cs : Array Value} (h : k40.K w x cs.toList) : Fm w (.agg cs) x := by
  obtain ⟨A3, c3, A4, c4, e, l3, g3, l4, g4⟩ := k40_open h
  obtain ⟨l⟩ := cs
  have e2 : l = _ := e
  subst e2
  exact ⟨_, _, rfl, ⟨A3, c3, rfl, l3, g3⟩, ⟨A4, c4, rfl, l4, g4⟩⟩
end Go.Proofs.Ytmgpoafoljkknaa.My
