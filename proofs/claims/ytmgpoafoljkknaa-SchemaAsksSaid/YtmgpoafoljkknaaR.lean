/- The contract of LongSchema. Conditions: none. -/
import Derived.Test.YtmgpoafoljkknaaP
namespace Go.Proofs.Ytmgpoafoljkknaa.My
open Go.RowKit Go.Proofs.YtmgpoafoljkknaaW.PrintWords Go.Proofs.YtmgpoafoljkknaaW.PrintLast Go.Proofs.YtmgpoafoljkknaaW.PrintMore PSchemaReads
def SmallF (f : S40) : Prop := f.f0.size ≤ 100 ∧ f.f3.length ≤ 10 ∧ f.f4.length ≤ 30 ∧ ∀ c ∈ f.f4, c.f0.size ≤ 100
def SmallS (s : Sch) : Prop := s.fams.length ≤ 20 ∧ s.fam.size ≤ 100 ∧ s.qual.size ≤ 100 ∧ ∀ f ∈ s.fams, SmallF f
def LongP (w : World) (s : Sch) (e : Ending) (w' : World) : Prop := ∃ b, e = .returned (.bool b) ∧ Below w.heap.size w w' ∧ (b = false → SmallS s)
theorem LongP.yes {w w' : World} {s : Sch} (hb : Below w.heap.size w w') : LongP w s (.returned (.bool true)) w' := ⟨true, rfl, hb, fun h => by cases h⟩
theorem all_take {α : Type} {p : α → Prop} {l : List α} {k : Nat} (hk : k < l.length) (h : ∀ x ∈ l.take k, p x) (h2 : p l[k]) : ∀ x ∈ l.take (k + 1), p x := by
  intro x hx
  rw [List.take_succ_eq_append_getElem hk, List.mem_append, List.mem_singleton] at hx
  rcases hx with hx | rfl
  · exact h x hx
  · exact h2
set_option maxHeartbeats 4000000 in
set_option maxRecDepth 100000 in
theorem long_any (v : Value) (s : Sch) (w : World) (h : Sc w v s) : Calls Try.prog 18 #[v] w (LongP w s) := by
  obtain ⟨vf, rfl, hs⟩ := h
  have hmax := hs.len
  obtain ⟨A, c, rfl, hc, hC⟩ := hs
  have HC := Aside0.mk hC
  clear hC
  have HBX := Aside0.mk (fun (o : Obj) => (Below.refl w.heap.size w).alloc (Nat.le_refl _) o)
  by_cases c1 : (s.fams.length : Int) ≤ 20
  rotate_left
  · have c1' : 20 < (s.fams.length : Int) := by omega
    go_enter Try.func18, Try.ntmps18
    go_wp2
    go_ret
    exact LongP.yes (HBX.out _)
  have c1' : ¬ 20 < (s.fams.length : Int) := by omega
  by_cases c2 : (s.fam.size : Int) ≤ 100
  rotate_left
  · have c2' : 100 < (s.fam.size : Int) := by omega
    go_enter Try.func18, Try.ntmps18
    go_wp2
    go_ret
    exact LongP.yes (HBX.out _)
  have c2' : ¬ 100 < (s.fam.size : Int) := by omega
  by_cases c3 : (s.qual.size : Int) ≤ 100
  rotate_left
  · have c3' : 100 < (s.qual.size : Int) := by omega
    go_enter Try.func18, Try.ntmps18
    go_wp2
    go_ret
    exact LongP.yes (HBX.out _)
  have c3' : ¬ 100 < (s.qual.size : Int) := by omega
  have HD := Aside0.mk (show s.fams.length ≤ 20 ∧ s.fam.size ≤ 100 ∧ s.qual.size ≤ 100 by omega)
  have HA0 := Aside0.mk (blk_new w #[.int .i64 s.ver, .slice A s.fams.length c, .int .i64 s.kind, .string s.fam, .string s.qual, .int .i64 s.typ, .int .i64 s.grp, .int .i64 s.vers, .int .i64 s.life, .int .i64 s.step] 28)
  go_enter Try.func18, Try.ntmps18
  go_wp2
  clear c1 c1' c2 c2' c3 c3'
  have HC2 := Aside0.mk (Kd.C_below HC.out (HBX.out (.cells #[.int .i64 s.ver, .slice A s.fams.length c, .int .i64 s.kind, .string s.fam, .string s.qual, .int .i64 s.typ, .int .i64 s.grp, .int .i64 s.vers, .int .i64 s.life, .int .i64 s.step] 28)))
  have HBW := Aside0.mk (HBX.out (.cells #[.int .i64 s.ver, .slice A s.fams.length c, .int .i64 s.kind, .string s.fam, .string s.qual, .int .i64 s.typ, .int .i64 s.grp, .int .i64 s.vers, .int .i64 s.life, .int .i64 s.step] 28))
  generalize w.alloc (.cells #[.int .i64 s.ver, .slice A s.fams.length c, .int .i64 s.kind, .string s.fam, .string s.qual, .int .i64 s.typ, .int .i64 s.grp, .int .i64 s.vers, .int .i64 s.life, .int .i64 s.step] 28) = wa at HC2 HA0 HBW ⊢
  have ga := blk_cell HA0.out
  have gx := blk_frozen HA0.out
  go_loopg [3, 4] s.fams.length (fun gg s3 _ wr => ∃ kk : Nat, kk ≤ s.fams.length ∧ s.fams.length - kk ≤ gg ∧ s3 = .int .i64 kk ∧ Aside0 (∀ f ∈ s.fams.take kk, SmallF f) ∧ wr = wa)
  case atStart => exact ⟨0, by omega, by omega, rfl, ⟨by simp⟩, rfl⟩
  case round =>
    obtain ⟨kk, hkk, hg, rfl, HS, rfl⟩ := hrel
    by_cases hlt : kk < s.fams.length
    · have hltz : (kk : Int) < (s.fams.length : Int) := by omega
      obtain ⟨ad, A3, c3, A4, c4, rfl, h0, h1, h2, h3, h4, hfm⟩ := get40 HC2.out kk hlt
      have HK := Aside0.mk (fun h2 => all_take (p := SmallF) hlt HS.out h2)
      generalize s.fams[kk] = x at h0 h1 h2 h3 h4 hfm HK
      obtain ⟨_, _, he, hs3, hs4⟩ := hfm
      injection he with he
      injection he with he
      simp only [List.cons.injEq, and_true, true_and] at he
      obtain ⟨rfl, rfl⟩ := he
      obtain ⟨_, _, he4, _, hC4⟩ := hs4
      injection he4 with he4 _ he5
      subst he4
      have HC4 := Aside0.mk hC4
      have hm4 := Kd.C_max hC4
      have hm3 := hs3.len
      clear hs3 hC4
      by_cases d1 : (x.f0.size : Int) ≤ 100
      rotate_left
      · have d1' : 100 < (x.f0.size : Int) := by omega
        go_wp2
        go_ret
        exact LongP.yes HBW.out
      have d1' : ¬ 100 < (x.f0.size : Int) := by omega
      by_cases d2 : (x.f3.length : Int) ≤ 10
      rotate_left
      · have d2' : 10 < (x.f3.length : Int) := by omega
        go_wp2
        go_ret
        exact LongP.yes HBW.out
      have d2' : ¬ 10 < (x.f3.length : Int) := by omega
      by_cases d3 : (x.f4.length : Int) ≤ 30
      rotate_left
      · have d3' : 30 < (x.f4.length : Int) := by omega
        go_wp2
        go_ret
        exact LongP.yes HBW.out
      have d3' : ¬ 30 < (x.f4.length : Int) := by omega
      have HX := Aside0.mk (show x.f0.size ≤ 100 ∧ x.f3.length ≤ 10 ∧ x.f4.length ≤ 30 by omega)
      go_wp2
      clear d1 d1' d2 d2' d3 d3'
      go_loopg [4] x.f4.length (fun gg s4 w2 => ∃ jj : Nat, jj ≤ x.f4.length ∧ x.f4.length - jj ≤ gg ∧ s4 = .int .i64 jj ∧ Aside0 (∀ c ∈ x.f4.take jj, c.f0.size ≤ 100) ∧ w2 = wr)
      case atStart => exact ⟨0, by omega, by omega, rfl, ⟨by simp⟩, rfl⟩
      case round =>
        obtain ⟨jj, hjj, hg2, rfl, HS2, rfl⟩ := hrel
        by_cases hlt2 : jj < x.f4.length
        · have hltz2 : (jj : Int) < (x.f4.length : Int) := by omega
          obtain ⟨ad4, rfl, q0, q1, q2⟩ := get52 HC4.out jj hlt2
          have HK2 := Aside0.mk (fun h2 => all_take (p := fun c : S52 => c.f0.size ≤ 100) hlt2 HS2.out h2)
          generalize x.f4[jj] = y at q0 q1 q2 HK2
          by_cases d1 : (y.f0.size : Int) ≤ 100
          rotate_left
          · have d1' : 100 < (y.f0.size : Int) := by omega
            go_wp2
            go_ret
            exact LongP.yes HBW.out
          have d1' : ¬ 100 < (y.f0.size : Int) := by omega
          have HY := Aside0.mk (show y.f0.size ≤ 100 by omega)
          go_wp2
          go_roundg (x.f4.length - (jj + 1))
          case measure => omega
          case rel => exact ⟨jj + 1, by omega, by omega, by go_num, ⟨HK2.out HY.out⟩, rfl⟩
        · have hltz2 : ¬ (jj : Int) < (x.f4.length : Int) := by omega
          obtain rfl : jj = x.f4.length := by omega
          have HS3 := Aside0.mk (HK.out ⟨HX.out.1, HX.out.2.1, HX.out.2.2, by have := HS2.out; rwa [List.take_length] at this⟩)
          go_wp2
          go_roundg (s.fams.length - (kk + 1))
          case measure => omega
          case rel => exact ⟨kk + 1, by omega, by omega, by go_num, HS3, rfl⟩
    · have hltz : ¬ (kk : Int) < (s.fams.length : Int) := by omega
      obtain rfl : kk = s.fams.length := by omega
      have HS3 := Aside0.mk (show SmallS s from ⟨HD.out.1, HD.out.2.1, HD.out.2.2, by have := HS.out; rwa [List.take_length] at this⟩)
      go_wp2
      go_ret
      exact ⟨false, rfl, HBW.out, fun _ => HS3.out⟩
end Go.Proofs.Ytmgpoafoljkknaa.My
