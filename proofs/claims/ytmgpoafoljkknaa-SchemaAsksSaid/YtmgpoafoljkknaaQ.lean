/- How the arguments of the schema laws are opened. Conditions: none. -/
import Derived.Test.YtmgpoafoljkknaaP
import Derived.WalkKit
import Derived.ProofKit
import Derived.OpenShut
import Derived.Deep.Slices
import Derived.ChangeOld
import Derived.SizedLaws
namespace Go.Proofs.Ytmgpoafoljkknaa.My
open Go.ChangeShapes Go.WideShapes Go.ChangeAt Go.RowKit Go.Proofs.YtmgpoafoljkknaaW.PrintWords Go.Proofs.YtmgpoafoljkknaaW.PrintLast Go.Proofs.YtmgpoafoljkknaaW.PrintMore PSchemaReads
section
variable {H : Type} {enc : TypeId × Value → H} {w : World} {base : Nat} {sp : Nat → Bool} {held : Bool}
def I64 (n : Int) : Prop := -9223372036854775808 ≤ n ∧ n ≤ 9223372036854775807
theorem o_int {fuel : Nat} {cs : List Value} {x : DataW H × List MemPlace} (h : DataW.trod enc Try.prog w base sp held fuel 3 cs = some x) : ∃ n, cs = [.int .i64 n] ∧ I64 n := by
  obtain ⟨n, h1, _, h2⟩ := DataW.trod_int Try.underlying3 h
  refine ⟨n, h1, ?_⟩
  simp only [Lit.wf, Bool.and_eq_true, decide_eq_true_eq] at h2
  exact h2
theorem o_str {fuel : Nat} {cs : List Value} {x : DataW H × List MemPlace} (h : DataW.trod enc Try.prog w base sp held fuel 9 cs = some x) : ∃ s : ByteArray, cs = [.string s] := by
  obtain ⟨s, h1, _⟩ := DataW.trod_string Try.underlying9 h
  exact ⟨s, h1⟩
theorem o_slice {α : Type} [Inhabited α] (d : Kd α) (good : α → Prop) {t e : TypeId} (ht : Try.prog.underlying t = some (.slice e)) (hc : Try.prog.cellsOf e = d.sz)
    (he : ∀ (fuel : Nat) (cs : List Value) (x : DataW H × List MemPlace), DataW.trod enc Try.prog w base sp held fuel e cs = some x → ∃ y, d.K w y cs ∧ good y)
    {fuel : Nat} {cs : List Value} {x : DataW H × List MemPlace} (h : DataW.trod enc Try.prog w base sp held fuel t cs = some x) :
    ∃ (ys : List α) (A : Option Addr) (c : Nat), cs = [.slice A ys.length c] ∧ ys.length ≤ c ∧ d.C w A ys.length ys ∧ ∀ y ∈ ys, good y := by
  rcases Deep.open_slice ht h with ⟨rfl, _⟩ | ⟨a, len, cap, m, n, D, Pl, rfl, _, hl, hm, hmm, _, hx⟩
  · exact ⟨[], none, 0, rfl, Nat.le_refl _, Kd.C_nil _ _, fun y hy => by cases hy⟩
  · have hlm : len ≤ m := by rw [hmm]; split <;> omega
    obtain ⟨Y, hY⟩ := Deep.choose_lt (α := α) (n := len) (p := fun i y => good y ∧ ∃ cs', cs'.length = d.sz ∧ d.K w y cs' ∧ ∀ k u, cs'[k]? = some u → w.cell? (a.add (i * d.sz + k)) = some u) (fun i hi => by
      obtain ⟨cs', h1, h2⟩ := hx i (by omega)
      obtain ⟨y, hy, hg⟩ := he _ _ _ h2
      rw [hc] at h1
      obtain ⟨_, hlen, hcell⟩ := World.cells?_some h1
      refine ⟨y, hg, cs', hlen, hy, fun k u hk => ?_⟩
      have hkl := (List.getElem?_eq_some_iff.1 hk).1
      have := hcell k (by omega)
      rw [hk] at this
      rw [← Addr.add_add]
      exact this)
    refine ⟨(List.range len).map Y, some a, cap, by simp, by simpa using hl, ⟨rfl, by simp; unfold maxLen at hm; omega, fun _ => ⟨a, rfl, fun j p hj => ?_⟩⟩, fun y hy => ?_⟩
    · rw [List.getElem?_map] at hj
      obtain ⟨i, hi, rfl⟩ := Option.map_eq_some_iff.1 hj
      have hi2 := List.getElem?_eq_some_iff.1 hi
      obtain ⟨hi3, hi4⟩ := hi2
      rw [List.length_range] at hi3
      rw [List.getElem_range] at hi4
      subst hi4
      obtain ⟨_, cs', h1, h2, h3⟩ := hY j hi3
      exact ⟨cs', h1, h2, h3⟩
    · obtain ⟨i, hi, rfl⟩ := List.mem_map.1 hy
      exact (hY i (List.mem_range.1 hi)).1
theorem cells3 : Try.prog.cellsOf 3 = 1 := by kernel_rfl
theorem cells9 : Try.prog.cellsOf 9 = 1 := by kernel_rfl
theorem cells37 : Try.prog.cellsOf 37 = 1 := by kernel_rfl
theorem cells38 : Try.prog.cellsOf 38 = 1 := by kernel_rfl
theorem cells24 : Try.prog.cellsOf 24 = 1 := by kernel_rfl
theorem cells60 : Try.prog.cellsOf 60 = 2 := by kernel_rfl
theorem cells52 : Try.prog.cellsOf 52 = 3 := by kernel_rfl
theorem cells40 : Try.prog.cellsOf 40 = 5 := by kernel_rfl
theorem cells26 : Try.prog.cellsOf 26 = 7 := by kernel_rfl
theorem cells28 : Try.prog.cellsOf 28 = 10 := by kernel_rfl
instance : Inhabited S60 := ⟨z60⟩
instance : Inhabited S52 := ⟨z52⟩
instance : Inhabited S40 := ⟨z40⟩
def g60 (y : S60) : Prop := I64 y.f0 ∧ I64 y.f1
def g52 (y : S52) : Prop := I64 y.f1 ∧ I64 y.f2
def g40 (y : S40) : Prop := (I64 y.f1 ∧ I64 y.f2) ∧ (∀ l ∈ y.f3, g60 l) ∧ ∀ c ∈ y.f4, g52 c
set_option maxRecDepth 10000 in
theorem o60 (fuel : Nat) (cs : List Value) (x : DataW H × List MemPlace) (h : DataW.trod enc Try.prog w base sp held fuel 60 cs = some x) : ∃ y, k60.K w y cs ∧ g60 y := by
  obtain ⟨xs, n, _, _, hl, hxl, hf⟩ := DataW.trod_struct Try.underlying60 h
  rw [cells60] at hl
  obtain ⟨x0, x1, rfl⟩ : ∃ a b, xs = [a, b] := by
    match xs, hxl with
    | [a, b], _ => exact ⟨a, b, rfl⟩
  obtain ⟨c0, c1, rfl⟩ : ∃ a b, cs = [a, b] := by
    match cs, hl with
    | [a, b], _ => exact ⟨a, b, rfl⟩
  ·
    have h0 : DataW.trod enc Try.prog w base sp held n 3 (([c0, c1].drop 0).take (Try.prog.cellsOf 3)) = some x0 := hf 0 _ rfl
    have h1 : DataW.trod enc Try.prog w base sp held n 3 (([c0, c1].drop 1).take (Try.prog.cellsOf 3)) = some x1 := hf 1 _ rfl
    simp only [cells3] at h0 h1
    obtain ⟨n0, e0, i0⟩ := o_int h0
    obtain ⟨n1, e1, i1⟩ := o_int h1
    simp at e0 e1
    subst e0; subst e1
    exact ⟨⟨n0, n1⟩, k60_mk _ ⟨n0, n1⟩, i0, i1⟩
set_option maxRecDepth 10000 in
theorem o52 (fuel : Nat) (cs : List Value) (x : DataW H × List MemPlace) (h : DataW.trod enc Try.prog w base sp held fuel 52 cs = some x) : ∃ y, k52.K w y cs ∧ g52 y := by
  obtain ⟨xs, n, _, _, hl, hxl, hf⟩ := DataW.trod_struct Try.underlying52 h
  rw [cells52] at hl
  obtain ⟨x0, x1, x2, rfl⟩ : ∃ a b c, xs = [a, b, c] := by
    match xs, hxl with
    | [a, b, c], _ => exact ⟨a, b, c, rfl⟩
  obtain ⟨c0, c1, c2, rfl⟩ : ∃ a b c, cs = [a, b, c] := by
    match cs, hl with
    | [a, b, c], _ => exact ⟨a, b, c, rfl⟩
  ·
    have h0 : DataW.trod enc Try.prog w base sp held n 9 (([c0, c1, c2].drop 0).take (Try.prog.cellsOf 9)) = some x0 := hf 0 _ rfl
    have h1 : DataW.trod enc Try.prog w base sp held n 3 (([c0, c1, c2].drop 1).take (Try.prog.cellsOf 3)) = some x1 := hf 1 _ rfl
    have h2 : DataW.trod enc Try.prog w base sp held n 3 (([c0, c1, c2].drop 2).take (Try.prog.cellsOf 3)) = some x2 := hf 2 _ rfl
    simp only [cells3, cells9] at h0 h1 h2
    obtain ⟨n0, e0⟩ := o_str h0
    obtain ⟨n1, e1, i1⟩ := o_int h1
    obtain ⟨n2, e2, i2⟩ := o_int h2
    simp at e0 e1 e2
    subst e0; subst e1; subst e2
    exact ⟨⟨n0, n1, n2⟩, k52_mk _ ⟨n0, n1, n2⟩, i1, i2⟩
set_option maxRecDepth 10000 in
theorem o40 (fuel : Nat) (cs : List Value) (x : DataW H × List MemPlace) (h : DataW.trod enc Try.prog w base sp held fuel 40 cs = some x) : ∃ y, k40.K w y cs ∧ g40 y := by
  obtain ⟨xs, n, _, _, hl, hxl, hf⟩ := DataW.trod_struct Try.underlying40 h
  rw [cells40] at hl
  obtain ⟨x0, x1, x2, x3, x4, rfl⟩ : ∃ a b c d e, xs = [a, b, c, d, e] := by
    match xs, hxl with
    | [a, b, c, d, e], _ => exact ⟨a, b, c, d, e, rfl⟩
  obtain ⟨c0, c1, c2, c3, c4, rfl⟩ : ∃ a b c d e, cs = [a, b, c, d, e] := by
    match cs, hl with
    | [a, b, c, d, e], _ => exact ⟨a, b, c, d, e, rfl⟩
  ·
    have h0 : DataW.trod enc Try.prog w base sp held n 9 (([c0, c1, c2, c3, c4].drop 0).take (Try.prog.cellsOf 9)) = some x0 := hf 0 _ rfl
    have h1 : DataW.trod enc Try.prog w base sp held n 3 (([c0, c1, c2, c3, c4].drop 1).take (Try.prog.cellsOf 3)) = some x1 := hf 1 _ rfl
    have h2 : DataW.trod enc Try.prog w base sp held n 3 (([c0, c1, c2, c3, c4].drop 2).take (Try.prog.cellsOf 3)) = some x2 := hf 2 _ rfl
    have h3 : DataW.trod enc Try.prog w base sp held n 37 (([c0, c1, c2, c3, c4].drop 3).take (Try.prog.cellsOf 37)) = some x3 := hf 3 _ rfl
    have h4 : DataW.trod enc Try.prog w base sp held n 38 (([c0, c1, c2, c3, c4].drop 4).take (Try.prog.cellsOf 38)) = some x4 := hf 4 _ rfl
    simp only [cells3, cells9, cells37, cells38] at h0 h1 h2 h3 h4
    obtain ⟨n0, e0⟩ := o_str h0
    obtain ⟨n1, e1, i1⟩ := o_int h1
    obtain ⟨n2, e2, i2⟩ := o_int h2
    obtain ⟨l3, A3, k3, e3, hl3, hC3, hg3⟩ := o_slice k60 g60 Try.underlying37 cells60 o60 h3
    obtain ⟨l4, A4, k4, e4, hl4, hC4, hg4⟩ := o_slice k52 g52 Try.underlying38 cells52 o52 h4
    simp at e0 e1 e2 e3 e4
    subst e0; subst e1; subst e2; subst e3; subst e4
    exact ⟨⟨n0, n1, n2, l3, l4⟩, k40_mk _ ⟨n0, n1, n2, l3, l4⟩ hl3 hC3 hl4 hC4, ⟨i1, i2⟩, hg3, hg4⟩
/-- What a schema's numbers are. -/
def gSch (s : Sch) : Prop := (I64 s.ver ∧ I64 s.kind ∧ I64 s.typ ∧ I64 s.grp ∧ I64 s.vers ∧ I64 s.life ∧ I64 s.step) ∧ ∀ f ∈ s.fams, g40 f
set_option maxRecDepth 10000 in
theorem o28 (fuel : Nat) (cs : List Value) (x : DataW H × List MemPlace) (h : DataW.trod enc Try.prog w base sp held fuel 28 cs = some x) : ∃ s, Sc w (.agg cs.toArray) s ∧ gSch s := by
  obtain ⟨xs, n, _, _, hl, hxl, hf⟩ := DataW.trod_struct Try.underlying28 h
  rw [cells28] at hl
  obtain ⟨x0, x1, x2, x3, rfl⟩ : ∃ a b c d, xs = [a, b, c, d] := by
    match xs, hxl with
    | [a, b, c, d], _ => exact ⟨a, b, c, d, rfl⟩
  obtain ⟨c0, c1, c2, c3, c4, c5, c6, c7, c8, c9, rfl⟩ : ∃ a b c d e f g h i j, cs = [a, b, c, d, e, f, g, h, i, j] := by
    match cs, hl with
    | [a, b, c, d, e, f, g, h, i, j], _ => exact ⟨a, b, c, d, e, f, g, h, i, j, rfl⟩
  ·
    have h0 : DataW.trod enc Try.prog w base sp held n 3 (([c0, c1, c2, c3, c4, c5, c6, c7, c8, c9].drop 0).take (Try.prog.cellsOf 3)) = some x0 := hf 0 _ rfl
    have h1 : DataW.trod enc Try.prog w base sp held n 24 (([c0, c1, c2, c3, c4, c5, c6, c7, c8, c9].drop 1).take (Try.prog.cellsOf 24)) = some x1 := hf 1 _ rfl
    have h2 : DataW.trod enc Try.prog w base sp held n 26 (([c0, c1, c2, c3, c4, c5, c6, c7, c8, c9].drop 2).take (Try.prog.cellsOf 26)) = some x2 := hf 2 _ rfl
    have h3 : DataW.trod enc Try.prog w base sp held n 3 (([c0, c1, c2, c3, c4, c5, c6, c7, c8, c9].drop 9).take (Try.prog.cellsOf 3)) = some x3 := hf 3 _ rfl
    simp only [cells3, cells24, cells26] at h0 h1 h2 h3
    obtain ⟨n0, e0, i0⟩ := o_int h0
    obtain ⟨fs, A, k, e1, hl1, hC1, hg1⟩ := o_slice k40 g40 Try.underlying24 cells40 o40 h1
    obtain ⟨n9, e9, i9⟩ := o_int h3
    obtain ⟨ys, m, _, _, _, hyl, hy⟩ := DataW.trod_struct Try.underlying26 h2
    obtain ⟨y0, y1, y2, y3, y4, y5, y6, rfl⟩ : ∃ a b c d e f g, ys = [a, b, c, d, e, f, g] := by
      match ys, hyl with
      | [a, b, c, d, e, f, g], _ => exact ⟨a, b, c, d, e, f, g, rfl⟩
    ·
      have j0 : DataW.trod enc Try.prog w base sp held m 3 (((([c0, c1, c2, c3, c4, c5, c6, c7, c8, c9].drop 2).take 7).drop 0).take (Try.prog.cellsOf 3)) = some y0 := hy 0 _ rfl
      have j1 : DataW.trod enc Try.prog w base sp held m 9 (((([c0, c1, c2, c3, c4, c5, c6, c7, c8, c9].drop 2).take 7).drop 1).take (Try.prog.cellsOf 9)) = some y1 := hy 1 _ rfl
      have j2 : DataW.trod enc Try.prog w base sp held m 9 (((([c0, c1, c2, c3, c4, c5, c6, c7, c8, c9].drop 2).take 7).drop 2).take (Try.prog.cellsOf 9)) = some y2 := hy 2 _ rfl
      have j3 : DataW.trod enc Try.prog w base sp held m 3 (((([c0, c1, c2, c3, c4, c5, c6, c7, c8, c9].drop 2).take 7).drop 3).take (Try.prog.cellsOf 3)) = some y3 := hy 3 _ rfl
      have j4 : DataW.trod enc Try.prog w base sp held m 3 (((([c0, c1, c2, c3, c4, c5, c6, c7, c8, c9].drop 2).take 7).drop 4).take (Try.prog.cellsOf 3)) = some y4 := hy 4 _ rfl
      have j5 : DataW.trod enc Try.prog w base sp held m 3 (((([c0, c1, c2, c3, c4, c5, c6, c7, c8, c9].drop 2).take 7).drop 5).take (Try.prog.cellsOf 3)) = some y5 := hy 5 _ rfl
      have j6 : DataW.trod enc Try.prog w base sp held m 3 (((([c0, c1, c2, c3, c4, c5, c6, c7, c8, c9].drop 2).take 7).drop 6).take (Try.prog.cellsOf 3)) = some y6 := hy 6 _ rfl
      simp only [cells3, cells9] at j0 j1 j2 j3 j4 j5 j6
      obtain ⟨m0, f0, i2⟩ := o_int j0
      obtain ⟨m1, f1⟩ := o_str j1
      obtain ⟨m2, f2⟩ := o_str j2
      obtain ⟨m3, f3, i3⟩ := o_int j3
      obtain ⟨m4, f4, i4⟩ := o_int j4
      obtain ⟨m5, f5, i5⟩ := o_int j5
      obtain ⟨m6, f6, i6⟩ := o_int j6
      simp at e0 e1 e9 f0 f1 f2 f3 f4 f5 f6
      subst e0; subst e1; subst e9; subst f0; subst f1; subst f2; subst f3; subst f4; subst f5; subst f6
      exact ⟨⟨n0, fs, m0, m1, m2, m3, m4, m5, m6, n9⟩, ⟨_, rfl, A, k, rfl, hl1, hC1⟩, ⟨i0, i2, i3, i4, i5, i6, i9⟩, hg1⟩
end
end Go.Proofs.Ytmgpoafoljkknaa.My
