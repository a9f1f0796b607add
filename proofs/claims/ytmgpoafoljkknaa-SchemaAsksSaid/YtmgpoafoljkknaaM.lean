/- Contract of taker.family and what it computes. Conditions: parts of at most a million bytes each. -/
import Derived.Test.YtmgpoafoljkknaaL
namespace Go.Proofs.Ytmgpoafoljkknaa.My
open Go.RowKit Go.Proofs.YtmgpoafoljkknaaW.PrintWords Go.Proofs.YtmgpoafoljkknaaW.PrintLast Go.Proofs.YtmgpoafoljkknaaW.PrintMore PSchemaReads
theorem partsN_small : ∀ (n : Nat) (b : List UInt8) (l : List (List UInt8)), partsN n b = some l → l.length ≤ b.length ∧ ∀ x ∈ l, x.length ≤ b.length
  | 0, b, l, h => by
    rw [partsN] at h
    split at h
    · cases h; exact ⟨Nat.zero_le _, fun x hx => by cases hx⟩
    · cases h
  | n + 1, b, l, h => by
    rw [partsN] at h
    cases hq : takeL b with
    | none => rw [hq] at h; cases h
    | some p =>
      obtain ⟨k, tail⟩ := p
      rw [hq] at h
      simp only at h
      split at h
      · cases h
      · have h1 := takeL_lt hq
        simp only at h1
        cases hr : partsN n (tail.drop k) with
        | none => rw [hr] at h; cases h
        | some m =>
          rw [hr] at h
          cases h
          have h2 := partsN_small n _ m hr
          rw [List.length_drop] at h2
          refine ⟨by rw [List.length_cons]; omega, fun x hx => ?_⟩
          rcases List.mem_cons.1 hx with rfl | hx
          · rw [List.length_take]; omega
          · have := h2.2 x hx; omega
theorem partsL_small {b : List UInt8} {l : List (List UInt8)} (h : partsL b = some l) : l.length ≤ b.length ∧ ∀ x ∈ l, x.length ≤ b.length := by
  unfold partsL at h
  cases hq : takeL b with
  | none => rw [hq] at h; cases h
  | some p =>
    rw [hq] at h
    have h1 := takeL_lt hq
    have h2 := partsN_small p.1 p.2 l h
    exact ⟨by omega, fun x hx => by have := h2.2 x hx; omega⟩
theorem partsD_small (b : List UInt8) : ((partsL b).getD []).length ≤ b.length ∧ ∀ x ∈ (partsL b).getD [], x.length ≤ b.length := by
  cases h : partsL b with
  | none => exact ⟨Nat.zero_le _, fun x hx => by cases hx⟩
  | some l => exact partsL_small h
theorem PartsR.eq {bs : List UInt8} {l : List (List UInt8)} {ok : Bool} (h : PartsR bs l ok) : l = (partsL bs).getD [] ∧ ok = (partsL bs).isSome := by
  unfold PartsR at h
  cases hq : partsL bs with
  | none => rw [hq] at h; exact ⟨h.1, h.2⟩
  | some m => rw [hq] at h; exact ⟨h.1, h.2⟩
def layGo : Nat → List (List UInt8) → List S60 × List (List UInt8)
  | 0, p => ([], p)
  | n + 1, p => (⟨numOf (p.headD []), numOf (p.tail.headD [])⟩ :: (layGo n p.tail.tail).1, (layGo n p.tail.tail).2)
def colGo : List (List UInt8) → List S52
  | [] => []
  | [a] => [⟨strB a, numOf [], numOf []⟩]
  | [a, b] => [⟨strB a, numOf b, numOf []⟩]
  | a :: b :: c :: r => ⟨strB a, numOf b, numOf c⟩ :: colGo r
theorem colGo_step {p : List (List UInt8)} (h : p ≠ []) : colGo p = ⟨strB (p.headD []), numOf (p.tail.headD []), numOf (p.tail.tail.headD [])⟩ :: colGo p.tail.tail.tail := by
  match p, h with
  | [a], _ => rfl
  | [a, b], _ => rfl
  | a :: b :: c :: r, _ => rfl
theorem layGo_len : ∀ (n : Nat) (p : List (List UInt8)), (layGo n p).1.length = n ∧ (layGo n p).2.length ≤ p.length
  | 0, p => ⟨rfl, Nat.le_refl _⟩
  | n + 1, p => by
    have h := layGo_len n p.tail.tail
    simp only [layGo, List.length_cons]
    refine ⟨by omega, Nat.le_trans h.2 (by simp; omega)⟩
/-- The family that a list's bytes may tell, as the program reads it. -/
def famRaw (b : List UInt8) : S40 :=
  let l := (partsL b).getD []
  let r := layGo (min (numOf (l.tail.tail.tail.headD [])).toNat l.tail.tail.tail.tail.length) l.tail.tail.tail.tail
  ⟨strB (l.headD []), numOf (l.tail.headD []), numOf (l.tail.tail.headD []), r.1, colGo r.2⟩
theorem numOf_pos (b : List UInt8) : 0 ≤ numOf b ∧ numOf b < 9223372036854775808 := by
  unfold numOf
  cases hq : takeL b with
  | none => simp
  | some p => have := takeL_lt hq; simp; omega
theorem min_run (a : Int) (n : Nat) (h : 0 ≤ a) : ∀ (ats : Array TypeId) (ty : TypeId), Builtin.min_ ats ty #[.int .i64 a, .int .i64 (n : Int)] = pure (.int .i64 ((min a.toNat n : Nat) : Int)) := by
  intro ats ty
  rw [min_two, min2_int, pure_bind]
  congr 2
  split <;> omega
def FamQ (g : Nat) (w : World) (b : List UInt8) (t : List (List UInt8)) (e : Ending) (w' : World) : Prop := ∃ v, e = .returned v ∧ FmN w.heap.size w' v (famRaw b) ∧ TkR g w w' t
theorem Tk.box {w : World} {A : Option Addr} {c : Nat} {l : List (List UInt8)} (hc : l.length ≤ c) (h : Kd.F kR w (fun _ => True) A l.length l) (hs : ∀ b ∈ l, b.length ≤ 1000000) : Tk w.heap.size (w.alloc (.cells #[.slice A l.length c] 79)) l :=
  ⟨⟨A, c, blk_new w _ _, hc, Kd.F_alloc (Kd.F_mono (Kd.F_bound h) (fun _ hk => hk.2)) _⟩, hs⟩
theorem N_own {α : Type} {d : Kd α} (hf : Flat d) {e base : Nat} {ok : Nat → Prop} {w : World} {v : Value} {xs : List α} (h : Kd.N d e w base ok v xs) : Kd.N d e w base (fun k => v.ownBlock = some k) v xs := by
  obtain ⟨h0, rows, hl, hR, hF⟩ := h
  exact ⟨fun k hk => hk, rows, hl, hR, fun j x c hx hc => fun W2 _ => hf _ _ _ (Kd.FK_now (hF j x c hx hc)) W2⟩
theorem own_ne {α β : Type} {d : Kd α} {d2 : Kd β} {e e2 base base2 : Nat} {ok ok2 : Nat → Prop} {w : World} {v u : Value} {xs : List α} {ys : List β} (h : Kd.N d e w base ok v xs) (h2 : Kd.N d2 e2 w base2 ok2 u ys) (he : e ≠ e2) : ∀ k, v.ownBlock = some k → some k ≠ u.ownBlock := by
  intro k hk hu
  obtain ⟨c1, h1⟩ := Kd.N_typed h k hk
  obtain ⟨c2, h2⟩ := Kd.N_typed h2 k hu.symm
  rw [h1] at h2
  injection h2 with h2
  injection h2 with _ h3
  exact he h3
set_option maxHeartbeats 4000000 in
set_option maxRecDepth 100000 in
theorem tfam_any (g : Nat) (parts : List (List UInt8)) (w : World) (h : Tk g w parts) : Calls Try.prog 54 #[.pointer (some ⟨g, 0, none⟩)] w (FamQ g w (parts.headD []) parts.tail) := by
  have hlt := h.lt
  have HP := Aside0.mk (fun o => part_any g parts (w.alloc o) (h.step (fun k hk => Below.heap_alloc _ _ _ (by omega))))
  have HS := Aside0.mk h.head
  clear h
  generalize parts.headD [] = b at HP HS
  generalize parts.tail = t at HP
  go_enter Try.func54, Try.ntmps54
  go_wp2_with fail
  refine (HP.out _).mono ?_
  rintro e w1 ⟨A, c, rfl, hc, hF, ht⟩
  have HPS := Aside0.mk (parts_any (.slice A b.length c) b w1 ⟨A, c, rfl, hc, Kd.F_now hF⟩ HS.out)
  have a1 := (ht.2.keep w.heap.size (by simp) (by omega)).trans (blk_new w _ _)
  have HA := Aside0.mk a1
  have HT := Aside0.mk ht
  clear ht hF a1
  go_wp2_with fail
  refine HPS.out.mono ?_
  rintro e w2 ⟨v1, l, ok, rfl, hn, hb, hr⟩
  obtain ⟨A1, c1, rfl⟩ := Kd.N_slice hn
  have hc1 := (Kd.N_reads' hn).2.1
  obtain ⟨hl, hok⟩ := hr.eq
  have hsm := partsD_small b
  rw [← hl] at hsm
  have HLL := Aside0.mk (show l.length ≤ 1000000 by have := HS.out; omega)
  have HU := Aside0.mk (Tk.box hc1 (Kd.F_mono (Kd.N_F hn) (fun _ _ => trivial)) (fun x hx => Nat.le_trans (hsm.2 x hx) HS.out))
  have HT2 := Aside0.mk (HT.out.below hb)
  have HA2 := Aside0.mk (blk_keep hb HA.out)
  have HSZ := Aside0.mk (show w.heap.size < w2.heap.size from blk_lt HA2.out)
  have HL := Aside0.mk hl
  obtain ⟨u, hu⟩ : ∃ u, u = w2.heap.size := ⟨_, rfl⟩
  have HUU := Aside0.mk hu
  clear hn hb hr hok hsm hc hc1 HT HA hl hu
  have hul := HU.out.lt
  obtain ⟨q0, hq0⟩ : ∃ x, l.headD [] = x := ⟨_, rfl⟩
  obtain ⟨q1, hq1⟩ : ∃ x, l.tail.headD [] = x := ⟨_, rfl⟩
  obtain ⟨q2, hq2⟩ : ∃ x, l.tail.tail.headD [] = x := ⟨_, rfl⟩
  obtain ⟨q3, hq3⟩ : ∃ x, l.tail.tail.tail.headD [] = x := ⟨_, rfl⟩
  obtain ⟨l4, hl4⟩ : ∃ x, l.tail.tail.tail.tail = x := ⟨_, rfl⟩
  have HX0 := Aside0.mk (fun W (h : Tk w2.heap.size W l) => hq0 ▸ ttext_any w2.heap.size l W h)
  have HX1 := Aside0.mk (fun W (h : Tk w2.heap.size W l.tail) => hq1 ▸ tnum_any w2.heap.size l.tail W h)
  have HX2 := Aside0.mk (fun W (h : Tk w2.heap.size W l.tail.tail) => hq2 ▸ tnum_any w2.heap.size l.tail.tail W h)
  have HX3 := Aside0.mk (fun W (h : Tk w2.heap.size W l.tail.tail.tail) => hl4 ▸ hq3 ▸ tnum_any w2.heap.size l.tail.tail.tail W h)
  have HL4 := Aside0.mk (show l4.length ≤ 1000000 by have := HLL.out; rw [← hl4]; simp; omega)
  have HFR := Aside0.mk (show famRaw b = ⟨strB q0, numOf q1, numOf q2, (layGo (min (numOf q3).toNat l4.length) l4).1, colGo (layGo (min (numOf q3).toNat l4.length) l4).2⟩ by
    unfold famRaw
    simp only [← HL.out]
    rw [hq0, hq1, hq2, hq3, hl4])
  clear hq0 hq1 hq2 hq3 hl4 HL
  go_wp2_with fail
  refine (HX0.out _ HU.out).mono ?_
  rintro e w3 ⟨rfl, ht3⟩
  have HT3 := Aside0.mk ht3
  clear ht3
  go_wp2_with fail
  refine (HX1.out _ HT3.out.1).mono ?_
  rintro e w4 ⟨rfl, ht4⟩
  have HT4 := Aside0.mk (HT3.out.trans ht4)
  clear ht4 HT3
  go_wp2_with fail
  refine (HX2.out _ HT4.out.1).mono ?_
  rintro e w5 ⟨rfl, ht5⟩
  have HT5 := Aside0.mk (HT4.out.trans ht5)
  clear ht5 HT4
  have HSF := Aside0.mk (show w2.heap.size < w5.heap.size from HT5.out.1.lt)
  go_wp2_with fail
  refine (HX3.out _ (HT5.out.1.below (below_alloc (Below.refl _ _) _ |>.mono (by have := HSF.out; omega)))).mono ?_
  rintro e w6 ⟨rfl, ht6⟩
  have f6 := (ht6.2.keep w5.heap.size (by simp) (by have := HSF.out; omega)).trans (blk_new w5 _ _)
  have HT6 := Aside0.mk ((HT5.out.below (below_alloc (Below.refl _ _) _)).trans ht6)
  have HF6 := Aside0.mk f6
  clear ht6 f6 HT5 HX0 HX1 HX2 HX3
  obtain ⟨n, hn⟩ : ∃ n, min (numOf q3).toNat l4.length = n := ⟨_, rfl⟩
  have hmin := min_run (numOf q3) l4.length (numOf_pos q3).1
  rw [hn] at hmin HFR
  have HNL := Aside0.mk (show n ≤ 1000000 by have := HL4.out; omega)
  have hn9 : n ≤ 9223372036854775807 := by have := HNL.out; omega
  obtain ⟨A6, c6, hb6, hcc6, hF6⟩ := HT6.out.1.out
  have gc6 := blk_cell hb6
  clear hb6 hF6
  go_wp2
  clear gc6
  obtain ⟨f, hf⟩ : ∃ f, w5.heap.size = f := ⟨_, rfl⟩
  rw [hf] at HSF HF6 ⊢
  clear hf
  go_loopg [8, 9] n (fun gg s8 _ wr => ∃ (k : Nat) (rest : List (List UInt8)) (acc : List S60) (v3 : Value), k ≤ gg ∧ k ≤ n ∧ s8 = .int .i64 k ∧ Aside0 (layGo n l4 = (acc ++ (layGo k rest).1, (layGo k rest).2)) ∧ Aside0 (acc.length + k = n) ∧ Aside0 (Tk w2.heap.size wr rest) ∧ Aside0 (Below w2.heap.size w2 wr) ∧ Aside0 (wr.heap[f]? = some (.cells #[.string (strB q0), .int .i64 (numOf q1), .int .i64 (numOf q2), v3, .slice none 0 0] 40 (0, 0))) ∧ Aside0 (Kd.N k60 60 wr (w2.heap.size + 1) (fun k => w2.heap.size + 1 ≤ k ∧ k ≠ f) v3 acc))
  case atStart => exact ⟨n, l4, [], .slice none 0 0, Nat.le_refl _, Nat.le_refl _, rfl, ⟨rfl⟩, ⟨by simp⟩, ⟨HT6.out.1⟩, ⟨(below_alloc (Below.refl _ _) _).trans HT6.out.2.below⟩, HF6, ⟨Kd.N_nil _ _ _ _ _⟩⟩
  case round =>
    obtain ⟨k, rest, acc, v3, hkg, hkn, rfl, HLG, HAC, HTR, HBR, HFR2, HNR⟩ := hrel
    have HSF2 := Aside0.mk (blk_lt HFR2.out)
    by_cases hk0 : 0 < k
    · have hkz : 0 < (k : Int) := by omega
      obtain ⟨j, rfl⟩ : ∃ j, k = j + 1 := ⟨k - 1, by omega⟩
      obtain ⟨y0, hy0⟩ : ∃ x, rest.headD [] = x := ⟨_, rfl⟩
      obtain ⟨y1, hy1⟩ : ∃ x, rest.tail.headD [] = x := ⟨_, rfl⟩
      obtain ⟨r2, hr2⟩ : ∃ x, rest.tail.tail = x := ⟨_, rfl⟩
      have HY0 := Aside0.mk (hy0 ▸ tnum_any w2.heap.size rest wr HTR.out)
      have HY1 := Aside0.mk (fun W (h : Tk w2.heap.size W rest.tail) => hr2 ▸ hy1 ▸ tnum_any w2.heap.size rest.tail W h)
      have HL2 := Aside0.mk (show layGo n l4 = ((acc ++ [(⟨numOf y0, numOf y1⟩ : S60)]) ++ (layGo j r2).1, (layGo j r2).2) by
        rw [HLG.out, layGo, hy0, hy1, hr2]; simp)
      have HLEN := Aside0.mk (show acc.length ≤ 1000000 by have := HNL.out; have := HAC.out; omega)
      clear hy0 hy1 hr2
      obtain ⟨x0, hx0⟩ : ∃ x, numOf y0 = x := ⟨_, rfl⟩
      obtain ⟨x1, hx1⟩ : ∃ x, numOf y1 = x := ⟨_, rfl⟩
      rw [hx0] at HY0 HL2
      rw [hx1] at HY1 HL2
      clear hx0 hx1
      go_wp2_with fail
      refine HY0.out.mono ?_
      rintro e w7 ⟨rfl, ht7⟩
      have f7 := ht7.2.blk HFR2.out (by have := HSF.out; omega)
      have HF7 := Aside0.mk f7
      have gc7 := fun o => blk_cell (w := w7.drew) (i := o) f7
      have HN7 := Aside0.mk (Kd.N_keep HNR.out ht7.2.but (fun k hk => by omega))
      have HT7 := Aside0.mk ht7
      have HB7 := Aside0.mk (HBR.out.trans ht7.2.below)
      clear ht7 f7
      go_wp2
      go_region_law (first
        | (go_simp; go_at_call 53; refine (HY1.out _ (Tk.drew HT7.out.1)).mono ?_; rintro e w8 ⟨rfl, ht8⟩; have HT8 := Aside0.mk ht8; have f8 := ht8.2.blk (w := w7.drew) HF7.out (by have := HSF.out; omega); have HF8 := Aside0.mk f8; have gc8 := blk_cell f8; have gf8 := blk_frozen f8; have gc8' := fun o => blk_cell (blk_old f8 o); have HN8 := Aside0.mk (Kd.N_keep (Kd.N_drew HN7.out) ht8.2.but (fun k hk => by omega)); have HS8 := Aside0.mk (show f < w8.heap.size from blk_lt f8); clear ht8 f8)
        | (refine Kd.N_append_step k60 (w0 := w8) (w2.heap.size + 1) rfl (.tmp 43) (.tmp 48) 37 60 (.agg #[.int .i64 0, .int .i64 0]) 16 rfl Try.underlying37 info60 rfl (by decide) (by omega) v3 acc (⟨x0, x1⟩ : S60) [.int .i64 x0, .int .i64 x1] (fun k => w2.heap.size + 1 ≤ k ∧ k ≠ f) (fun _ => False) rfl rfl (k60_mkF _ _ _) (fun _ hk => hk.elim) (fun k hk => by have := HSF.out; have := HS8.out; omega) HN8.out (Below.refl _ _) (by have := HSF.out; have := HS8.out; omega) (by have := HLEN.out; omega) ?_; intro v3' w9 ho hb hg9 hat; obtain ⟨A9, c9, rfl⟩ := Kd.N_slice ho; have HO := Aside0.mk ho; have HB9 := Aside0.mk hb; have f9 := blk_grown HF8.out hg9 (Kd.N_ne HN8.out HF8.out (by decide)); have HF9 := Aside0.mk f9; have gc9 := blk_cell f9; have gf9 := blk_frozen f9; clear ho hb hg9 hat f9))
      all_goals
        go_wp2
        go_roundg j
        case measure => omega
        case rel =>
          refine ⟨j, r2, acc ++ [⟨x0, x1⟩], .slice A9 (acc.length + 1) c9, by omega, by omega, by go_num, HL2, ⟨by have := HAC.out; simp; omega⟩, ⟨(HT8.out.1.below HB9.out).step (fun k hk => Below.heap_setCell _ _ _ _ (by have := HSF.out; show k ≠ f; omega))⟩, ⟨?_⟩, ⟨blk_set HF9.out 3 _⟩, ⟨?_⟩⟩
          rotate_left
          · refine Kd.N_far ?_ (fun k hk => hk.2) _
            have h1 := HO.out
            rw [List.length_append, List.length_singleton] at h1
            exact h1
          have h1 := ((HB7.out.drew).trans HT8.out.2.below).trans (HB9.out.mono (Nat.le_succ _))
          exact h1.setCell (by have := HSF.out; show _ ≤ f; omega) _
    · have hkz : ¬ 0 < (k : Int) := by omega
      obtain rfl : k = 0 := by omega
      have HL5 := Aside0.mk (show layGo n l4 = (acc, rest) by rw [HLG.out]; simp [layGo])
      have HLE := Aside0.mk (show rest.length ≤ 1000000 by have := (layGo_len n l4).2; rw [HL5.out] at this; have := HL4.out; simp only at *; omega)
      have HN3 := Aside0.mk (N_own flat60 HNR.out)
      obtain ⟨l5, hl5⟩ : ∃ l5, l5 = rest := ⟨_, rfl⟩
      obtain ⟨acc3, hacc3⟩ : ∃ l5, l5 = acc := ⟨_, rfl⟩
      obtain ⟨vv3, hv3⟩ : ∃ l5, l5 = v3 := ⟨_, rfl⟩
      rw [← hl5, ← hacc3] at HL5
      rw [← hl5] at HTR HLE
      rw [← hacc3, ← hv3] at HN3
      rw [← hv3] at HFR2
      obtain ⟨wl, hwl⟩ : ∃ l5, l5 = wr := ⟨_, rfl⟩
      subst hwl
      clear hl5 hacc3 hv3 HLG HAC HNR
      go_wp2
      go_loopg [10] l5.length (fun gg _ wr => ∃ (rest : List (List UInt8)) (acc : List S52) (v4 : Value), rest.length ≤ gg ∧ Aside0 (colGo l5 = acc ++ colGo rest) ∧ Aside0 (acc.length + rest.length ≤ 1000000) ∧ Aside0 (Tk w2.heap.size wr rest) ∧ Aside0 (Below w2.heap.size w2 wr) ∧ Aside0 (wr.heap[f]? = some (.cells #[.string (strB q0), .int .i64 (numOf q1), .int .i64 (numOf q2), vv3, v4] 40 (0, 0))) ∧ Aside0 (Kd.N k60 60 wr (w2.heap.size + 1) (fun k => vv3.ownBlock = some k) vv3 acc3) ∧ Aside0 (Kd.N k52 52 wr (w2.heap.size + 1) (fun k => v4.ownBlock = some k) v4 acc))
      case atStart => exact ⟨l5, [], .slice none 0 0, Nat.le_refl _, ⟨rfl⟩, ⟨by simpa using HLE.out⟩, HTR, HBR, HFR2, HN3, ⟨Kd.N_nil _ _ _ _ _⟩⟩
      case round =>
        obtain ⟨rest, acc, v4, hgg, HCG, HAL, HTR, HBR, HFR2, HN3, HN4⟩ := hrel
        obtain ⟨Au, cu, hbu, hcu, hFu⟩ := HTR.out.out
        have gcu := blk_cell hbu
        have HSF2 := Aside0.mk (blk_lt HFR2.out)
        clear hbu hFu
        have hrm : rest.length ≤ 9223372036854775807 := by have := HAL.out; omega
        by_cases hr0 : rest = []
        · subst hr0
          simp only [List.length_nil] at gcu
          have gcf := blk_cell HFR2.out
          obtain ⟨A3', c3', rfl⟩ := Kd.N_slice HN3.out
          obtain ⟨A4', c4', rfl⟩ := Kd.N_slice HN4.out
          have HAW := Aside0.mk ((HBR.out.block w.heap.size (by have := HSZ.out; omega)).trans HA2.out)
          have gca := blk_cell HAW.out
          have gfa := blk_frozen HAW.out
          have HRW := Aside0.mk (show famRaw b = ⟨strB q0, numOf q1, numOf q2, acc3, acc⟩ by
            rw [HFR.out, HL5.out]
            simp only [HCG.out, colGo, List.append_nil])
          go_wp2
          refine bodyPost_ret (v := .agg #[.string (strB q0), .int .i64 (numOf q1), .int .i64 (numOf q2), .slice A3' acc3.length c3', .slice A4' acc.length c4']) (by simp [results, Try.results54, go_sem, gca]) rfl ⟨_, rfl, ⟨_, _, by rw [HRW.out], ?_, ?_⟩, ?_, ?_⟩
          · rw [HRW.out]
            refine Nw.lower (B := w2.heap.size + 1) ?_ (by have := HSZ.out; omega)
            have h3 := N_flat flat60 HN3.out
            with_reducible repeat (first | exact h3 | refine Kd.N_far ?_ (fun k hk => by have := HSZ.out; simp at hk ⊢; omega) _)
          · rw [HRW.out]
            refine Nw.lower (B := w2.heap.size + 1) ?_ (by have := HSZ.out; omega)
            have h3 := N_flat flat52 HN4.out
            with_reducible repeat (first | exact h3 | refine Kd.N_far ?_ (fun k hk => by have := HSZ.out; simp at hk ⊢; omega) _)
          · refine (HT2.out.1.below (w' := wr) (HBR.out.mono (by have := HSZ.out; omega))).step (fun k hk => ?_)
            with_reducible repeat (first | rfl | refine (Below.heap_setCell _ _ _ _ (by simp; omega)).trans ?_)
          · refine ⟨fun k hk hg => ?_, ?_⟩
            · have h1 := HT2.out.2.keep k (by simp; omega) hg
              have h2 := HBR.out.block k (by have := HSZ.out; omega)
              refine Eq.trans ?_ (h2.trans (h1.trans (Below.heap_alloc _ _ _ hk)))
              with_reducible repeat (first | rfl | refine (Below.heap_setCell _ _ _ _ (by simp; omega)).trans ?_)
            · have h1 := ((below_alloc (Below.refl _ w) (.cells #[.string ⟨#[]⟩, .int .i64 0, .int .i64 0, .slice none 0 0, .slice none 0 0] 40)).mono (Nat.le_of_lt hlt) |>.trans HT2.out.2.below).trans (HBR.out.mono (show g ≤ w2.heap.size by have := HSZ.out; omega))
              with_reducible repeat (first | exact h1 | refine Below.setCell ?_ (by simp; omega) _)
        · have hrp : 0 < (rest.length : Int) := by
            have := List.length_pos_iff.2 hr0
            omega
          obtain ⟨y0, hy0⟩ : ∃ x, rest.headD [] = x := ⟨_, rfl⟩
          obtain ⟨y1, hy1⟩ : ∃ x, rest.tail.headD [] = x := ⟨_, rfl⟩
          obtain ⟨y2, hy2⟩ : ∃ x, rest.tail.tail.headD [] = x := ⟨_, rfl⟩
          obtain ⟨r3, hr3⟩ : ∃ x, rest.tail.tail.tail = x := ⟨_, rfl⟩
          have HY0 := Aside0.mk (hy0 ▸ ttext_any w2.heap.size rest wr HTR.out)
          have HY1 := Aside0.mk (fun W (h : Tk w2.heap.size W rest.tail) => hy1 ▸ tnum_any w2.heap.size rest.tail W h)
          have HY2 := Aside0.mk (fun W (h : Tk w2.heap.size W rest.tail.tail) => hr3 ▸ hy2 ▸ tnum_any w2.heap.size rest.tail.tail W h)
          have HC2 := Aside0.mk (show colGo l5 = (acc ++ [(⟨strB y0, numOf y1, numOf y2⟩ : S52)]) ++ colGo r3 by
            rw [HCG.out, colGo_step hr0, hy0, hy1, hy2, hr3]; simp)
          have HLE3 := Aside0.mk (show r3.length + 1 ≤ rest.length by
            rw [← hr3]; simp; have := List.length_pos_iff.2 hr0; omega)
          clear hy0 hy1 hy2 hr3
          obtain ⟨x0, hx0⟩ : ∃ x, strB y0 = x := ⟨_, rfl⟩
          obtain ⟨x1, hx1⟩ : ∃ x, numOf y1 = x := ⟨_, rfl⟩
          obtain ⟨x2, hx2⟩ : ∃ x, numOf y2 = x := ⟨_, rfl⟩
          rw [hx0] at HY0 HC2
          rw [hx1] at HY1 HC2
          rw [hx2] at HY2 HC2
          clear hx0 hx1 hx2
          go_wp2_with fail
          clear gcu
          refine HY0.out.mono ?_
          rintro e w7 ⟨rfl, ht7⟩
          have HT7 := Aside0.mk ht7
          clear ht7
          go_wp2_with fail
          refine (HY1.out _ HT7.out.1).mono ?_
          rintro e w8 ⟨rfl, ht8⟩
          have HT8 := Aside0.mk (HT7.out.trans ht8)
          clear ht8 HT7
          have HUS := Aside0.mk (show w2.heap.size < w8.heap.size from HT8.out.1.lt)
          go_wp2_with fail
          refine (HY2.out _ (HT8.out.1.below (below_alloc (Below.refl _ _) _ |>.mono (by have := HUS.out; omega)))).mono ?_
          rintro e w9 ⟨rfl, ht9⟩
          have c9 := (ht9.2.keep w8.heap.size (by simp) (by have := HUS.out; omega)).trans (blk_new w8 _ _)
          have HT9 := Aside0.mk ((HT8.out.below (below_alloc (Below.refl _ _) _)).trans ht9)
          have HC9 := Aside0.mk c9
          have f9 := HT9.out.2.blk HFR2.out (by have := HSF.out; omega)
          have HF9 := Aside0.mk f9
          have HN39 := Aside0.mk (Kd.N_keep HN3.out HT9.out.2.but (fun k hk => by have := Kd.N_base HN3.out k hk; omega))
          have HN49 := Aside0.mk (Kd.N_keep HN4.out HT9.out.2.but (fun k hk => by have := Kd.N_base HN4.out k hk; omega))
          have HSC := Aside0.mk (show f < w8.heap.size by have := HSF2.out; have := HT8.out.2.below.size; omega)
          have HS9 := Aside0.mk (show w8.heap.size < w9.heap.size from blk_lt c9)
          have HO3 := Aside0.mk (fun k (hk : vv3.ownBlock = some k) => show k < w8.heap.size by have := Kd.N_lt HN3.out k hk; have := HT8.out.2.below.size; omega)
          have HO4 := Aside0.mk (fun k (hk : v4.ownBlock = some k) => show k < w8.heap.size by have := Kd.N_lt HN4.out k hk; have := HT8.out.2.below.size; omega)
          have gc9 := blk_cell c9
          have gf9 := blk_frozen c9
          clear ht9 c9 f9 HT8
          have gcf9 := blk_cell HF9.out
          have gff9 := blk_frozen HF9.out
          have HFW := Aside0.mk (blk_far HF9.out (p := ⟨w8.heap.size, 2, none⟩) (by have := HSC.out; show f ≠ w8.heap.size; omega) (.int .i64 x2))
          have HN3W := Aside0.mk (Kd.N_far HN39.out (p := ⟨w8.heap.size, 2, none⟩) (fun k hk => by have := HO3.out k hk; show k ≠ w8.heap.size; omega) (.int .i64 x2))
          have HN4V := Aside0.mk (Kd.N_far HN49.out (p := ⟨w8.heap.size, 2, none⟩) (fun k hk => by have := HO4.out k hk; show k ≠ w8.heap.size; omega) (.int .i64 x2))
          have HN4W := Aside0.mk (Kd.N_mono (ok' := fun k => w2.heap.size + 1 ≤ k ∧ k ≠ f) HN4V.out (fun k hk => ⟨Kd.N_base HN4V.out k hk, fun he => by
            have := Kd.N_ne HN4V.out HFW.out (by decide)
            rw [hk, he] at this
            exact this rfl⟩))
          have HLEN := Aside0.mk (show acc.length ≤ 1000000 by have := HAL.out; omega)
          have HSW := Aside0.mk (show (w9.setCell ⟨w8.heap.size, 2, none⟩ (.int .i64 x2)).heap.size = w9.heap.size by simp [World.setCell])
          have HFRESH := Aside0.mk (fun k (hk : (w9.setCell ⟨w8.heap.size, 2, none⟩ (.int .i64 x2)).heap.size ≤ k) => show w2.heap.size + 1 ≤ k ∧ k ≠ f by rw [HSW.out] at hk; have := HSC.out; have := HS9.out; have := HUS.out; omega)
          have HBASE := Aside0.mk (show w2.heap.size + 1 ≤ (w9.setCell ⟨w8.heap.size, 2, none⟩ (.int .i64 x2)).heap.size by rw [HSW.out]; have := HUS.out; have := HS9.out; omega)
          go_wp2_with (at_builtin; refine Kd.N_append k52 (w0 := w9.setCell ⟨w8.heap.size, 2, none⟩ (.int .i64 x2)) (w2.heap.size + 1) rfl (.tmp 66) (.tmp 68) 38 52 (.agg #[.string ⟨#[]⟩, .int .i64 0, .int .i64 0]) 32 rfl Try.underlying38 info52 rfl (by decide) (by omega) v4 acc (⟨x0, x1, x2⟩ : S52) [.string x0, .int .i64 x1, .int .i64 x2] (fun k => w2.heap.size + 1 ≤ k ∧ k ≠ f) (fun _ => False) rfl (by simp [go_sem, World.setCell]) (k52_mkF _ _ _) (fun _ hk => hk.elim) HFRESH.out HN4W.out (Below.refl _ _) HBASE.out (by have := HLEN.out; omega) ?_; intro v4' w10 ho hb hg10 hat; obtain ⟨A9, c9, rfl⟩ := Kd.N_slice ho; have HO := Aside0.mk ho; have HB10 := Aside0.mk hb; have f10 := blk_grown HFW.out hg10 (Kd.N_ne HN4W.out HFW.out (by decide)); have HF10 := Aside0.mk f10; have HN310 := Aside0.mk (Kd.N_grown HN3W.out hg10 (own_ne HN3W.out HN4W.out (by decide))); have gc10 := blk_cell f10; have gf10 := blk_frozen f10; clear ho hb hg10 hat f10)
          go_roundg r3.length
          case measure => have := HLE3.out; omega
          case rel =>
            refine ⟨r3, acc ++ [⟨x0, x1, x2⟩], .slice A9 (acc.length + 1) c9, Nat.le_refl _, HC2, ⟨by have := HLE3.out; have := HAL.out; simp; omega⟩, ⟨((HT9.out.1.step (fun k hk => Below.heap_setCell _ _ _ _ (by have := HUS.out; show k ≠ w8.heap.size; omega))).below HB10.out).step (fun k hk => Below.heap_setCell _ _ _ _ (by have := HSF.out; show k ≠ f; omega))⟩, ⟨?_⟩, ⟨blk_set HF10.out 4 _⟩, ⟨?_⟩, ⟨?_⟩⟩
            · have h1 := ((HBR.out.trans HT9.out.2.below).setCell (p := ⟨w8.heap.size, 2, none⟩) (by have := HUS.out; show _ ≤ w8.heap.size; omega) (.int .i64 x2)).trans (HB10.out.mono (Nat.le_succ _))
              exact h1.setCell (by have := HSF.out; show _ ≤ f; omega) _
            · refine Kd.N_far HN310.out (fun k hk he => ?_) _
              have := Kd.N_ne HN310.out HF10.out (by decide)
              rw [hk, he] at this
              exact this rfl
            · have h1 := HO.out
              rw [List.length_append, List.length_singleton] at h1
              exact N_own flat52 (Kd.N_far h1 (p := ⟨f, 4, none⟩) (fun k hk => hk.2) _)
end Go.Proofs.Ytmgpoafoljkknaa.My
