/- Contract of the schema's Clone (30): what comes back is memory of the call's own, row by row. Conditions: slices have at most a million elements. -/
import Derived.Test.YtmgpoafoljkknaaV
import Derived.Deep.DeepCutAuto
import Derived.Deep.RegionLaw
namespace Go.Proofs.Ytmgpoafoljkknaa.My
open Go.RowKit Go.Proofs.YtmgpoafoljkknaaW.PrintWords Go.Proofs.YtmgpoafoljkknaaW.PrintLast Go.Proofs.YtmgpoafoljkknaaW.PrintMore PSchemaReads
/-- Five cells from p on. -/
def Cells5 (W : World) (p : Addr) (u0 u1 u2 u3 u4 : Value) : Prop :=
  W.cell? p = some u0 ∧ W.cell? ⟨p.block, p.off + 1, none⟩ = some u1 ∧ W.cell? ⟨p.block, p.off + 2, none⟩ = some u2 ∧ W.cell? ⟨p.block, p.off + 3, none⟩ = some u3 ∧ W.cell? ⟨p.block, p.off + 4, none⟩ = some u4
abbrev set5 (W : World) (p : Addr) (u0 u1 u2 u3 u4 : Value) : World :=
  ((((W.setCell p u0).setCell ⟨p.block, p.off + 1, none⟩ u1).setCell ⟨p.block, p.off + 2, none⟩ u2).setCell ⟨p.block, p.off + 3, none⟩ u3).setCell ⟨p.block, p.off + 4, none⟩ u4
theorem set5_other {w : World} {p : Addr} {k : Nat} (u0 u1 u2 u3 u4 : Value) (h : k ≠ p.block) : (set5 w p u0 u1 u2 u3 u4).heap[k]? = w.heap[k]? :=
  (Below.heap_setCell _ ⟨p.block, p.off + 4, none⟩ _ _ h).trans ((Below.heap_setCell _ ⟨p.block, p.off + 3, none⟩ _ _ h).trans ((Below.heap_setCell _ ⟨p.block, p.off + 2, none⟩ _ _ h).trans ((Below.heap_setCell _ ⟨p.block, p.off + 1, none⟩ _ _ h).trans (Below.heap_setCell _ p _ _ h))))
theorem set5_below {B : Nat} {w0 w : World} {p : Addr} (h : Below B w0 w) (hg : B ≤ p.block) (u0 u1 u2 u3 u4 : Value) : Below B w0 (set5 w p u0 u1 u2 u3 u4) :=
  ((((h.setCell hg u0).setCell (p := ⟨p.block, p.off + 1, none⟩) hg u1).setCell (p := ⟨p.block, p.off + 2, none⟩) hg u2).setCell (p := ⟨p.block, p.off + 3, none⟩) hg u3).setCell (p := ⟨p.block, p.off + 4, none⟩) hg u4
theorem far1 {w : World} {g a o : Nat} {v : Value} (h : a ≠ o) : (w.setCell ⟨g, a, none⟩ v).cell? ⟨g, o, none⟩ = w.cell? ⟨g, o, none⟩ :=
  World.cell?_setCell_other _ _ _ _ (fun he => h (by injection he))
theorem same1 {w : World} {p : Addr} {u v : Value} (h : w.cell? p = some u) : (w.setCell p v).cell? p = some v := World.cell?_setCell_same _ _ _ h
theorem set5_far {w : World} {g a : Nat} (u0 u1 u2 u3 u4 : Value) {o : Nat} (h : o < a ∨ a + 5 ≤ o) : (set5 w ⟨g, a, none⟩ u0 u1 u2 u3 u4).cell? ⟨g, o, none⟩ = w.cell? ⟨g, o, none⟩ :=
  (far1 (a := a + 4) (by omega)).trans ((far1 (a := a + 3) (by omega)).trans ((far1 (a := a + 2) (by omega)).trans ((far1 (a := a + 1) (by omega)).trans (far1 (by omega)))))
theorem set5_at {w : World} {g a : Nat} {t0 t1 t2 t3 t4 : Value} (u0 u1 u2 u3 u4 : Value) (h : Cells5 w ⟨g, a, none⟩ t0 t1 t2 t3 t4) : Cells5 (set5 w ⟨g, a, none⟩ u0 u1 u2 u3 u4) ⟨g, a, none⟩ u0 u1 u2 u3 u4 := by
  obtain ⟨h0, h1, h2, h3, h4⟩ := h
  refine ⟨?_, ?_, ?_, ?_, ?_⟩
  · exact (far1 (a := a + 4) (by omega)).trans ((far1 (a := a + 3) (by omega)).trans ((far1 (a := a + 2) (by omega)).trans ((far1 (a := a + 1) (by omega)).trans (same1 h0))))
  · exact (far1 (a := a + 4) (o := a + 1) (by omega)).trans ((far1 (a := a + 3) (by omega)).trans ((far1 (a := a + 2) (by omega)).trans (same1 (u := t1) ((far1 (a := a) (o := a + 1) (by omega)).trans h1))))
  · exact (far1 (a := a + 4) (o := a + 2) (by omega)).trans ((far1 (a := a + 3) (by omega)).trans (same1 (u := t2) ((far1 (a := a + 1) (o := a + 2) (by omega)).trans ((far1 (a := a) (o := a + 2) (by omega)).trans h2))))
  · exact (far1 (a := a + 4) (o := a + 3) (by omega)).trans (same1 (u := t3) ((far1 (a := a + 2) (o := a + 3) (by omega)).trans ((far1 (a := a + 1) (o := a + 3) (by omega)).trans ((far1 (a := a) (o := a + 3) (by omega)).trans h3))))
  · exact same1 (u := t4) ((far1 (a := a + 3) (o := a + 4) (by omega)).trans ((far1 (a := a + 2) (o := a + 4) (by omega)).trans ((far1 (a := a + 1) (o := a + 4) (by omega)).trans ((far1 (a := a) (o := a + 4) (by omega)).trans h4))))
/-- Row j of a row of families in block g: its cells; its slices lead to blocks other than g and b; up to i they are the call's own. -/
def RowQ (W : World) (B b g i j : Nat) (x : S40) : Prop := ∃ A3 c3 A4 c4, Cells5 W ⟨g, j * 5, none⟩ (.string x.f0) (.int .i64 x.f1) (.int .i64 x.f2) (.slice A3 x.f3.length c3) (.slice A4 x.f4.length c4) ∧
  x.f3.length ≤ c3 ∧ Kd.F k60 W (fun k => k ≠ g ∧ k ≠ b) A3 x.f3.length x.f3 ∧ x.f4.length ≤ c4 ∧ Kd.F k52 W (fun k => k ≠ g ∧ k ≠ b) A4 x.f4.length x.f4 ∧
  (j < i → Nw k60 60 B W (.slice A3 x.f3.length c3) x.f3 ∧ Nw k52 52 B W (.slice A4 x.f4.length c4) x.f4)
def RowsQ (W : World) (B b g i : Nat) (xs : List S40) : Prop := (∃ cur, W.heap[g]? = some (.cells cur 40 (0, 0))) ∧ (∃ cur, W.heap[b]? = some (.cells cur 28 (0, 0))) ∧ ∀ j (hj : j < xs.length), RowQ W B b g i j xs[j]
theorem cells5_block {W W' : World} {p : Addr} {u0 u1 u2 u3 u4 : Value} (h : Cells5 W p u0 u1 u2 u3 u4) (hb : W'.heap[p.block]? = W.heap[p.block]?) : Cells5 W' p u0 u1 u2 u3 u4 := by
  unfold Cells5 World.cell? at h ⊢
  simp only [hb]
  exact h
theorem rowQ_step {W W' : World} {B b g i j : Nat} {x : S40} (h : RowQ W B b g i j x) (hb : ∀ k, k ≠ g → k ≠ b → k < W.heap.size → W'.heap[k]? = W.heap[k]?) (hg : ∀ u0 u1 u2 u3 u4, Cells5 W ⟨g, j * 5, none⟩ u0 u1 u2 u3 u4 → Cells5 W' ⟨g, j * 5, none⟩ u0 u1 u2 u3 u4)
    (hne : ∃ cur, W.heap[g]? = some (.cells cur 40 (0, 0))) (hne2 : ∃ cur, W.heap[b]? = some (.cells cur 28 (0, 0))) : RowQ W' B b g i j x := by
  obtain ⟨A3, c3, A4, c4, hc, l3, f3, l4, f4, hn⟩ := h
  obtain ⟨cur, hcur⟩ := hne
  obtain ⟨cub, hcub⟩ := hne2
  refine ⟨A3, c3, A4, c4, hg _ _ _ _ _ hc, l3, f3.step (fun k hk => hb k hk.1 hk.2), l4, f4.step (fun k hk => hb k hk.1 hk.2), fun hj => ?_⟩
  obtain ⟨n3, n4⟩ := hn hj
  constructor
  · exact N_flat flat60 (Kd.N_step (N_own flat60 n3) (fun k hk hlt => hb k (fun he => Kd.N_ne n3 hcur (by decide) (he ▸ hk.symm)) (fun he => Kd.N_ne n3 hcub (by decide) (he ▸ hk.symm)) hlt))
  · exact N_flat flat52 (Kd.N_step (N_own flat52 n4) (fun k hk hlt => hb k (fun he => Kd.N_ne n4 hcur (by decide) (he ▸ hk.symm)) (fun he => Kd.N_ne n4 hcub (by decide) (he ▸ hk.symm)) hlt))
theorem RowsQ.below {W W' : World} {B b g i : Nat} {xs : List S40} (h : RowsQ W B b g i xs) (hb : Below W.heap.size W W') : RowsQ W' B b g i xs := by
  obtain ⟨⟨cur, hcur⟩, ⟨cub, hcub⟩, h⟩ := h
  exact ⟨⟨cur, blk_keep hb hcur⟩, ⟨cub, blk_keep hb hcub⟩, fun j hj => rowQ_step (h j hj) (fun k _ _ hlt => hb.block k hlt) (fun _ _ _ _ _ hc => cells5_block hc (hb.block g (blk_lt hcur))) ⟨cur, hcur⟩ ⟨cub, hcub⟩⟩
theorem RowsQ.gb {W : World} {B b g i : Nat} {xs : List S40} (h : RowsQ W B b g i xs) : b ≠ g := by
  obtain ⟨⟨cur, hcur⟩, ⟨cub, hcub⟩, _⟩ := h
  intro he
  rw [he, hcur] at hcub
  injection hcub with hcub
  injection hcub with _ h2 _
  exact absurd h2 (by decide)
theorem RowsQ.far {W : World} {B b g i : Nat} {xs : List S40} (h : RowsQ W B b g i xs) (o : Nat) (u : Value) : RowsQ (W.setCell ⟨b, o, none⟩ u) B b g i xs := by
  have hgb := h.gb
  obtain ⟨⟨cur, hcur⟩, ⟨cub, hcub⟩, h⟩ := h
  refine ⟨⟨cur, blk_far hcur (by exact hgb.symm) _⟩, ⟨_, blk_set hcub _ _⟩, fun j hj => rowQ_step (h j hj) (fun k _ hk _ => Below.heap_setCell _ _ _ _ hk) (fun _ _ _ _ _ hc => cells5_block hc (Below.heap_setCell _ _ _ _ hgb.symm)) ⟨cur, hcur⟩ ⟨cub, hcub⟩⟩
theorem RowsQ.put {W : World} {B b g i : Nat} {xs : List S40} (h : RowsQ W B b g i xs) (hi : i < xs.length) {x : S40} (hx : xs[i] = x) {A3 A4 : Option Addr} {c3 c4 : Nat} (n3 : Nw k60 60 B W (.slice A3 x.f3.length c3) x.f3) (n4 : Nw k52 52 B W (.slice A4 x.f4.length c4) x.f4) :
    RowsQ (set5 W ⟨g, i * 5, none⟩ (.string x.f0) (.int .i64 x.f1) (.int .i64 x.f2) (.slice A3 x.f3.length c3) (.slice A4 x.f4.length c4)) B b g (i + 1) xs := by
  have hgb := h.gb
  obtain ⟨⟨cur, hcur⟩, ⟨cub, hcub⟩, h⟩ := h
  have hfar : ∀ k, k ≠ g → (set5 W ⟨g, i * 5, none⟩ (.string x.f0) (.int .i64 x.f1) (.int .i64 x.f2) (.slice A3 x.f3.length c3) (.slice A4 x.f4.length c4)).heap[k]? = W.heap[k]? := fun k hk => set5_other _ _ _ _ _ hk
  refine ⟨?_, ⟨cub, (hfar b hgb).trans hcub⟩, fun j hj => ?_⟩
  · exact ⟨_, blk_set (blk_set (blk_set (blk_set (blk_set hcur _ _) _ _) _ _) _ _) _ _⟩
  · by_cases hji : j = i
    · subst hji
      obtain ⟨_, _, _, _, hc, _⟩ := h j hj
      rw [hx] at hc ⊢
      have e3 : ∀ k, (Value.slice A3 x.f3.length c3).ownBlock = some k → k ≠ g := fun k hk he => Kd.N_ne n3 hcur (by decide) (he ▸ hk.symm)
      have e4 : ∀ k, (Value.slice A4 x.f4.length c4).ownBlock = some k → k ≠ g := fun k hk he => Kd.N_ne n4 hcur (by decide) (he ▸ hk.symm)
      have b3 : ∀ k, (Value.slice A3 x.f3.length c3).ownBlock = some k → k ≠ b := fun k hk he => Kd.N_ne n3 hcub (by decide) (he ▸ hk.symm)
      have b4 : ∀ k, (Value.slice A4 x.f4.length c4).ownBlock = some k → k ≠ b := fun k hk he => Kd.N_ne n4 hcub (by decide) (he ▸ hk.symm)
      have m3 := Kd.N_step (N_own flat60 n3) (fun k hk _ => hfar k (e3 k hk))
      have m4 := Kd.N_step (N_own flat52 n4) (fun k hk _ => hfar k (e4 k hk))
      exact ⟨A3, c3, A4, c4, set5_at _ _ _ _ _ hc, (Kd.N_reads' n3).2.1, Kd.N_F (Kd.N_mono m3 (fun k hk => ⟨e3 k hk, b3 k hk⟩)), (Kd.N_reads' n4).2.1, Kd.N_F (Kd.N_mono m4 (fun k hk => ⟨e4 k hk, b4 k hk⟩)), fun _ => ⟨N_flat flat60 m3, N_flat flat52 m4⟩⟩
    · have h1 := rowQ_step (h j hj) (fun k hk _ _ => hfar k hk) (fun _ _ _ _ _ hc => by
        obtain ⟨h0, h1, h2, h3, h4⟩ := hc
        refine ⟨(set5_far _ _ _ _ _ ?_).trans h0, (set5_far _ _ _ _ _ ?_).trans h1, (set5_far _ _ _ _ _ ?_).trans h2, (set5_far _ _ _ _ _ ?_).trans h3, (set5_far _ _ _ _ _ ?_).trans h4⟩
        all_goals (first | omega | (show j * 5 + 1 < _ ∨ _ ≤ j * 5 + 1; omega) | (show j * 5 + 2 < _ ∨ _ ≤ j * 5 + 2; omega) | (show j * 5 + 3 < _ ∨ _ ≤ j * 5 + 3; omega) | (show j * 5 + 4 < _ ∨ _ ≤ j * 5 + 4; omega))) ⟨cur, hcur⟩ ⟨cub, hcub⟩
      obtain ⟨A3', c3', A4', c4', q1, q2, q3, q4, q5, q6⟩ := h1
      exact ⟨A3', c3', A4', c4', q1, q2, q3, q4, q5, fun hlt => q6 (by omega)⟩
theorem rowsQ_of_N {W : World} {B b g c : Nat} {ok : Nat → Prop} {xs : List S40} (h : Kd.N k40 40 W B ok (.slice (some ⟨g, 0, none⟩) xs.length c) xs) (hok : ∀ k, ok k → k ≠ b) (hne2 : ∃ cur, W.heap[b]? = some (.cells cur 28 (0, 0))) : RowsQ W B b g 0 xs := by
  refine ⟨Kd.N_typed h g (by simp [Value.ownBlock]), hne2, fun j hj => ?_⟩
  obtain ⟨cs, _, hF, hcc, _⟩ := Kd.N_elem h z40 (j : Int) (by omega) (by omega)
  rw [List.getD_eq_getElem?_getD, Int.toNat_natCast, List.getElem?_eq_getElem hj, Option.getD_some] at hF
  simp only [Int.toNat_natCast] at hcc
  obtain ⟨A3, c3, A4, c4, rfl, l3, f3, l4, f4⟩ := k40_openF hF
  exact ⟨A3, c3, A4, c4, ⟨hcc 0 _ rfl, hcc 1 _ rfl, hcc 2 _ rfl, hcc 3 _ rfl, hcc 4 _ rfl⟩, l3, f3.mono (fun _ hk => ⟨hk.2, hok _ hk.1⟩), l4, f4.mono (fun _ hk => ⟨hk.2, hok _ hk.1⟩), fun h => absurd h (by omega)⟩
theorem rowsQ_lower {W : World} {B B' b g i : Nat} {xs : List S40} (h : RowsQ W B b g i xs) (hb : B' ≤ B) : RowsQ W B' b g i xs := by
  refine ⟨h.1, h.2.1, fun j hj => ?_⟩
  obtain ⟨A3, c3, A4, c4, q1, q2, q3, q4, q5, q6⟩ := h.2.2 j hj
  exact ⟨A3, c3, A4, c4, q1, q2, q3, q4, q5, fun hlt => ⟨(q6 hlt).1.lower hb, (q6 hlt).2.lower hb⟩⟩
/-- A row of families of the call's own, with all that hangs on it. -/
def Own40 (W : World) (B b i : Nat) (v : Value) (xs : List S40) : Prop := ∃ A c, v = .slice A xs.length c ∧ xs.length ≤ c ∧ (xs = [] ∨ ∃ g, A = some ⟨g, 0, none⟩ ∧ B ≤ g ∧ RowsQ W B b g i xs)
theorem own40_of_N {W : World} {B b : Nat} {ok : Nat → Prop} {v : Value} {xs : List S40} (h : Kd.N k40 40 W B ok v xs) (hok : ∀ k, ok k → k ≠ b) (hne2 : ∃ cur, W.heap[b]? = some (.cells cur 28 (0, 0))) : Own40 W B b 0 v xs := by
  obtain ⟨A, c, rfl⟩ := Kd.N_slice h
  refine ⟨A, c, rfl, (Kd.N_reads' h).2.1, ?_⟩
  by_cases hx : xs = []
  · exact .inl hx
  · obtain ⟨g, cap, he, hb, _⟩ := Kd.N_form h (by cases xs <;> simp_all)
    injection he with he _ hc
    subst he hc
    exact .inr ⟨g, rfl, hb, rowsQ_of_N h hok hne2⟩
theorem Own40.below {W W' : World} {B b i : Nat} {v : Value} {xs : List S40} (h : Own40 W B b i v xs) (hb : Below W.heap.size W W') : Own40 W' B b i v xs := by
  obtain ⟨A, c, rfl, hl, h⟩ := h
  refine ⟨A, c, rfl, hl, ?_⟩
  rcases h with h | ⟨g, rfl, hg, h⟩
  · exact .inl h
  · exact .inr ⟨g, rfl, hg, h.below hb⟩
theorem Own40.lower {W : World} {B B' b i : Nat} {v : Value} {xs : List S40} (h : Own40 W B b i v xs) (hb : B' ≤ B) : Own40 W B' b i v xs := by
  obtain ⟨A, c, rfl, hl, h⟩ := h
  refine ⟨A, c, rfl, hl, ?_⟩
  rcases h with h | ⟨g, rfl, hg, h⟩
  · exact .inl h
  · exact .inr ⟨g, rfl, Nat.le_trans hb hg, rowsQ_lower h hb⟩
theorem Own40.far {W : World} {B b i : Nat} {v : Value} {xs : List S40} (h : Own40 W B b i v xs) (o : Nat) (u : Value) : Own40 (W.setCell ⟨b, o, none⟩ u) B b i v xs := by
  obtain ⟨A, c, rfl, hl, h⟩ := h
  refine ⟨A, c, rfl, hl, ?_⟩
  rcases h with h | ⟨g, rfl, hg, h⟩
  · exact .inl h
  · exact .inr ⟨g, rfl, hg, h.far _ _⟩
theorem Own40.at_ {W : World} {B b i : Nat} {A : Option Addr} {c n : Nat} {xs : List S40} (h : Own40 W B b i (.slice A n c) xs) {j : Nat} (hj : j < xs.length) :
    ∃ ad g A3 c3 A4 c4, A = some ad ∧ ad.add (j * 5) = ⟨g, j * 5, none⟩ ∧ Aside0 (ad = ⟨g, 0, none⟩) ∧ Aside0 (B ≤ g ∧ xs.length ≤ c ∧ RowsQ W B b g i xs) ∧ Aside0 (Cells5 W ⟨g, j * 5, none⟩ (.string xs[j].f0) (.int .i64 xs[j].f1) (.int .i64 xs[j].f2) (.slice A3 xs[j].f3.length c3) (.slice A4 xs[j].f4.length c4)) ∧
      Fm W (.agg #[.string xs[j].f0, .int .i64 xs[j].f1, .int .i64 xs[j].f2, .slice A3 xs[j].f3.length c3, .slice A4 xs[j].f4.length c4]) xs[j] := by
  obtain ⟨A', c', he, hl, h⟩ := h
  injection he with he _ hc
  subst he hc
  rcases h with h | ⟨g, rfl, hB, h⟩
  · subst h
    exact absurd hj (by simp)
  · obtain ⟨A3, c3, A4, c4, h0, l3, f3, l4, f4, _⟩ := h.2.2 j hj
    refine ⟨⟨g, 0, none⟩, g, A3, c3, A4, c4, rfl, ?_, ⟨rfl⟩, ⟨hB, hl, h⟩, ⟨h0⟩, _, _, rfl, ⟨A3, c3, rfl, l3, Kd.F_now f3⟩, ⟨A4, c4, rfl, l4, Kd.F_now f4⟩⟩
    rw [add_at, Nat.zero_add]
set_option maxHeartbeats 1000000 in
set_option maxRecDepth 100000 in
/-- The clone of a row of families, what is in it being of an elder world. -/
theorem clone81w (w0 : World) (v : Value) (xs : List S40) (w : World) (hs : Sl k40 w0 v xs) (hb0 : Below w0.heap.size w0 w) (hl : xs.length ≤ 1000000) :
    Calls Try.prog 81 #[v] w fun e w' => ∃ v1, e = .returned v1 ∧ Kd.N k40 40 w' w.heap.size (fun k => k < w0.heap.size ∨ w.heap.size ≤ k) v1 xs ∧ Below w.heap.size w w' := by
  have HB0 := Aside0.mk hb0
  obtain ⟨A, c, rfl, _, hC⟩ := hs
  have HL := Aside0.mk hl
  clear hl hb0
  rcases A with _ | ad
  · have h := fun W => Lib.run_eql_slice_nil (P := Try.prog) W 24 40 none 0 c 0 0 Try.underlying24
    obtain rfl := C_none hC
    clear hC HL
    show Calls Try.prog 81 #[.slice none 0 c] w _
    go_enter Try.func81, Try.ntmps81
    go_wp2
    go_ret
    exact ⟨_, rfl, Kd.N_nil _ _ _ _ _, Below.refl _ _⟩
  · have h := fun W => Lib.run_eql_slice_nil (P := Try.prog) W 24 40 (some ad) xs.length c 0 0 Try.underlying24
    have HC := Aside0.mk hC
    clear hC
    go_enter Try.func81, Try.ntmps81
    go_wp2_with (at_builtin; (refine Kd.N_append_rows k40 (w0 := w) w.heap.size rfl (.tmp 5) (.tmp 6) 24 40 (.agg #[.string ⟨#[]⟩, .int .i64 0, .int .i64 0, .slice none 0 0, .slice none 0 0]) 80 rfl Try.underlying24 info40 rfl (by decide) (by omega) (.slice (some ⟨w.heap.size, 0, none⟩) 0 0) [] xs (some ad) xs.length c (fun k => k < w0.heap.size ∨ w.heap.size ≤ k) (fun k => k < w0.heap.size) rfl rfl (N_empty _ _ _ _ (.inr (Nat.le_refl _))) (F_old heap40 HC.out (bba HB0.out _)) (fun k hk => ⟨.inl hk, fun he => by have := HB0.out.size; simp [Value.ownBlock] at he; omega⟩) (fun k hk => .inr (by simp at hk; omega)) ((Below.refl _ _).alloc (Nat.le_refl _) _) (by simp) (by have := HL.out; simp; omega) ?_); intro v1 w1 ho hb hg2 hat; have HO := Aside0.mk ho; have HB := Aside0.mk hb; clear ho hb hg2 hat)
    go_ret
    exact ⟨_, rfl, HO.out, HB.out⟩
theorem RowsQ.fr {W : World} {B b g i : Nat} {xs : List S40} (h : RowsQ W B b g i xs) : ∀ o, W.frozen? ⟨g, o, none⟩ = false := by
  obtain ⟨⟨cur, hcur⟩, _⟩ := h
  exact fun o => blk_frozen hcur o
theorem RowsQ.ne {W : World} {B b g i : Nat} {xs : List S40} (h : RowsQ W B b g i xs) {k : Nat} {cs : Array Value} (hk : W.heap[k]? = some (.cells cs 28 (0, 0))) : k ≠ g := by
  obtain ⟨⟨cur, hcur⟩, _⟩ := h
  intro he
  rw [he, hcur] at hk
  injection hk with hk
  injection hk with _ h2 _
  exact absurd h2 (by decide)
/-- A row of families of the call's own, and each family's rows. -/
def OwnF (W : World) (B : Nat) (v : Value) (xs : List S40) : Prop := ∃ A c, v = .slice A xs.length c ∧ xs.length ≤ c ∧ (xs = [] ∨ ∃ g, A = some ⟨g, 0, none⟩ ∧ B ≤ g ∧ (∃ cur, W.heap[g]? = some (.cells cur 40 (0, 0))) ∧
  ∀ j (hj : j < xs.length), ∃ A3 c3 A4 c4, Cells5 W ⟨g, j * 5, none⟩ (.string xs[j].f0) (.int .i64 xs[j].f1) (.int .i64 xs[j].f2) (.slice A3 xs[j].f3.length c3) (.slice A4 xs[j].f4.length c4) ∧ Nw k60 60 B W (.slice A3 xs[j].f3.length c3) xs[j].f3 ∧ Nw k52 52 B W (.slice A4 xs[j].f4.length c4) xs[j].f4)
theorem OwnF.of {W : World} {B b : Nat} {v : Value} {xs : List S40} (h : Own40 W B b xs.length v xs) : OwnF W B v xs := by
  obtain ⟨A, c, rfl, hl, h⟩ := h
  refine ⟨A, c, rfl, hl, ?_⟩
  rcases h with h | ⟨g, rfl, hg, h1, _, h⟩
  · exact .inl h
  · refine .inr ⟨g, rfl, hg, h1, fun j hj => ?_⟩
    obtain ⟨A3, c3, A4, c4, hc, _, _, _, _, hn⟩ := h j hj
    exact ⟨A3, c3, A4, c4, hc, hn hj⟩
theorem OwnF.step {W W' : World} {B b : Nat} {v : Value} {xs : List S40} (h : OwnF W B v xs) {cs : Array Value} (hbt : W.heap[b]? = some (.cells cs 28 (0, 0))) (hb : ∀ k, k ≠ b → W'.heap[k]? = W.heap[k]?) : OwnF W' B v xs := by
  obtain ⟨A, c, rfl, hl, h⟩ := h
  refine ⟨A, c, rfl, hl, ?_⟩
  rcases h with h | ⟨g, rfl, hg, ⟨cur, hcur⟩, h⟩
  · exact .inl h
  · have hgb : g ≠ b := by
      intro he
      rw [← he, hcur] at hbt
      injection hbt with hbt
      injection hbt with _ h2 _
      exact absurd h2 (by decide)
    refine .inr ⟨g, rfl, hg, ⟨cur, (hb g hgb).trans hcur⟩, fun j hj => ?_⟩
    obtain ⟨A3, c3, A4, c4, hc, n3, n4⟩ := h j hj
    exact ⟨A3, c3, A4, c4, cells5_block hc (hb g hgb), N_flat flat60 (Kd.N_step (N_own flat60 n3) (fun k hk _ => hb k (fun he => Kd.N_ne n3 hbt (by decide) (he ▸ hk.symm)))),
      N_flat flat52 (Kd.N_step (N_own flat52 n4) (fun k hk _ => hb k (fun he => Kd.N_ne n4 hbt (by decide) (he ▸ hk.symm))))⟩
set_option maxHeartbeats 4000000 in
set_option maxRecDepth 100000 in
theorem clone30 (v : Value) (s : Sch) (w : World) (h : Sc w v s) (hl : ∀ f ∈ s.fams, f.f3.length ≤ 1000000 ∧ f.f4.length ≤ 1000000) (hlf : s.fams.length ≤ 1000000) :
    Calls Try.prog 30 #[v] w fun e w' => ∃ vf, e = .returned (Vs s vf) ∧ OwnF w' w.heap.size vf s.fams ∧ Below w.heap.size w w' := by
  obtain ⟨vf, rfl, hs⟩ := h
  have HCL := Aside0.mk (fun W hb => clone81w w vf s.fams W hs hb hlf)
  have hmax := hs.len
  have HL := Aside0.mk hl
  obtain ⟨A, c, rfl, _, _⟩ := hs
  clear hl hlf
  have HB0 := Aside0.mk (bba (below_alloc (Below.refl _ w) (.cells #[.int .i64 s.ver, .slice A s.fams.length c, .int .i64 s.kind, .string s.fam, .string s.qual, .int .i64 s.typ, .int .i64 s.grp, .int .i64 s.vers, .int .i64 s.life, .int .i64 s.step] 28)) (.cells #[.int .i64 0, .slice none 0 0, .int .i64 0, .string ⟨#[]⟩, .string ⟨#[]⟩, .int .i64 0, .int .i64 0, .int .i64 0, .int .i64 0, .int .i64 0] 28))
  have G1 := Aside0.mk (blk_old (blk_new w #[.int .i64 s.ver, .slice A s.fams.length c, .int .i64 s.kind, .string s.fam, .string s.qual, .int .i64 s.typ, .int .i64 s.grp, .int .i64 s.vers, .int .i64 s.life, .int .i64 s.step] 28) (.cells #[.int .i64 0, .slice none 0 0, .int .i64 0, .string ⟨#[]⟩, .string ⟨#[]⟩, .int .i64 0, .int .i64 0, .int .i64 0, .int .i64 0, .int .i64 0] 28))
  have g2 := blk_new (w.alloc (.cells #[.int .i64 s.ver, .slice A s.fams.length c, .int .i64 s.kind, .string s.fam, .string s.qual, .int .i64 s.typ, .int .i64 s.grp, .int .i64 s.vers, .int .i64 s.life, .int .i64 s.step] 28)) #[.int .i64 0, .slice none 0 0, .int .i64 0, .string ⟨#[]⟩, .string ⟨#[]⟩, .int .i64 0, .int .i64 0, .int .i64 0, .int .i64 0, .int .i64 0] 28
  rw [World.size_alloc] at g2
  have G2 := Aside0.mk g2
  clear g2
  go_enter Try.func30, Try.ntmps30
  go_wp2_with fail
  refine (HCL.out _ HB0.out).mono ?_
  rintro e w1 ⟨v1, rfl, hn, hb⟩
  obtain ⟨A1, c1, rfl⟩ := Kd.N_slice hn
  have HB1 := Aside0.mk (bb HB0.out hb)
  have K1 := Aside0.mk (blk_keep hb G1.out)
  have K2 := Aside0.mk (blk_keep hb G2.out)
  have HO := Aside0.mk ((own40_of_N (b := w.heap.size) hn (fun k hk => by have := HB0.out.size; simp at hk; omega) ⟨_, blk_keep hb G1.out⟩).lower (B' := w.heap.size) HB0.out.size)
  clear hb hn G1 G2 HB0
  have gc1 := blk_cell K1.out
  have gf1 := blk_frozen K1.out
  go_wp2
  go_loopg [12] s.fams.length (fun gg s12 wr => ∃ kk : Nat, kk ≤ s.fams.length ∧ s.fams.length - kk ≤ gg ∧ s12 = .int .i64 kk ∧ Aside0 (Below w.heap.size w wr) ∧ Aside0 (wr.heap[w.heap.size]? = some (.cells #[.int .i64 s.ver, .slice A1 s.fams.length c1, .int .i64 s.kind, .string s.fam, .string s.qual, .int .i64 s.typ, .int .i64 s.grp, .int .i64 s.vers, .int .i64 s.life, .int .i64 s.step] 28 (0, 0))) ∧ Aside0 (wr.heap[w.heap.size + 1]? = some (.cells #[.int .i64 0, .slice none 0 0, .int .i64 0, .string ⟨#[]⟩, .string ⟨#[]⟩, .int .i64 0, .int .i64 0, .int .i64 0, .int .i64 0, .int .i64 0] 28 (0, 0))) ∧ Aside0 (Own40 wr w.heap.size w.heap.size kk (.slice A1 s.fams.length c1) s.fams))
  case atStart =>
    refine ⟨0, by omega, by omega, rfl, ⟨HB1.out.setCell (by show w.heap.size ≤ w.heap.size; omega) _⟩, ⟨blk_set K1.out 1 _⟩, ⟨blk_far K2.out (by show w.heap.size + 1 ≠ w.heap.size; omega) _⟩, ⟨HO.out.far _ _⟩⟩
  case round =>
    clear HB1 K1 K2 HO gc1 gf1
    obtain ⟨kk, hkk, hg, rfl, BW, G1, G2, HO⟩ := hrel
    have gc1 := blk_cell G1.out
    by_cases hlt : kk < s.fams.length
    · have hltz : (kk : Int) < (s.fams.length : Int) := by omega
      have HXL := Aside0.mk (HL.out _ (List.getElem_mem hlt))
      obtain ⟨ad, g, A3, c3, A4, c4, rfl, hadd, HAD, HQ, HC5, hfm⟩ := HO.out.at_ hlt
      generalize hx : s.fams[kk] = x at HC5 hfm HXL
      have HX := Aside0.mk hx
      clear hx
      have HCP := Aside0.mk (fun W (hb : Below wr.heap.size wr W) => (cloneF_any _ x W (hfm.below hb) HXL.out.1 HXL.out.2).mono (R' := fun e w' => ∃ v1, e = .returned v1 ∧ FmN w.heap.size w' v1 x ∧ Below W.heap.size W w') (by rintro e w' ⟨v1, h1, h2, h3⟩; exact ⟨v1, h1, h2.lower (Nat.le_trans BW.out.size hb.size), h3⟩))
      clear hfm
      obtain ⟨h0, h1, h2, h3, h4⟩ := HC5.out
      have ga := fun o => blk_cell (blk_old (w := wr) G1.out o)
      go_wp2
      go_region_law (go_simp; go_at_call 78; refine (HCP.out _ (by with_reducible repeat (first | exact Below.refl _ _ | refine Below.drew ?_ | refine bba ?_ _))).mono ?_; rintro e w8 ⟨v8, rfl, ⟨u3, u4, rfl, n3, n4⟩, hb2⟩; obtain ⟨B3, d3, rfl⟩ := Kd.N_slice n3; obtain ⟨B4, d4, rfl⟩ := Kd.N_slice n4; have HB8 := Aside0.mk (show Below wr.heap.size wr w8 from bb (by with_reducible repeat (first | exact Below.refl _ _ | refine Below.drew ?_ | refine bba ?_ _)) hb2); have HN3 := Aside0.mk n3; have HN4 := Aside0.mk n4; have G18 := Aside0.mk (blk_keep HB8.out G1.out); have gc8 := blk_cell G18.out; have q0 := pw_cell_below HB8.out h0; have q1 := pw_cell_below HB8.out h1; have q2 := pw_cell_below HB8.out h2; have q3 := pw_cell_below HB8.out h3; have q4 := pw_cell_below HB8.out h4; have HQ8 := Aside0.mk (HQ.out.2.2.below HB8.out); have hf1 := HQ8.out.fr; have HC8 := Aside0.mk (And.intro q0 (And.intro q1 (And.intro q2 (And.intro q3 q4)))); clear hb2 n3 n4)
      all_goals
        go_wp2
        go_roundg (s.fams.length - (kk + 1))
        case measure => omega
        case rel =>
          have hgb := HQ8.out.gb
          have hsz := HB8.out.size
          refine ⟨kk + 1, by omega, by omega, by go_num, ⟨?_⟩, ⟨?_⟩, ⟨?_⟩, ⟨?_⟩⟩
          · exact set5_below (p := ⟨g, kk * 5, none⟩) (bb BW.out HB8.out) HQ.out.1 _ _ _ _ _
          · exact (set5_other (p := ⟨g, kk * 5, none⟩) _ _ _ _ _ hgb).trans G18.out
          · exact (set5_other (p := ⟨g, kk * 5, none⟩) _ _ _ _ _ (HQ8.out.ne (blk_keep HB8.out G2.out))).trans (blk_keep HB8.out G2.out)
          · exact ⟨_, _, rfl, HQ.out.2.1, .inr ⟨g, by rw [HAD.out], HQ.out.1, HQ8.out.put hlt HX.out HN3.out HN4.out⟩⟩
    · have hltz : ¬ (kk : Int) < (s.fams.length : Int) := by omega
      obtain rfl : kk = s.fams.length := by omega
      have gc2 := blk_cell G2.out
      have gf2 := blk_frozen G2.out
      go_wp2
      refine bodyPost_ret (v := Vs s (.slice A1 s.fams.length c1)) (by simp [results, Try.results30, go_sem, gc2]) rfl ⟨_, rfl, ?_, ?_⟩
      · refine (OwnF.of HO.out).step G2.out (fun k hk => ?_)
        with_reducible repeat (first | rfl | refine (Below.heap_setCell _ _ _ _ hk).trans ?_)
      · have h1 := BW.out
        with_reducible repeat (first | exact h1 | refine Below.setCell ?_ (by simp) _)
end Go.Proofs.Ytmgpoafoljkknaa.My
