/- The law SchemaApart returns true. Conditions: the arguments are of their types. -/
import Derived.Test.YtmgpoafoljkknaaV
import Derived.Test.YtmgpoafoljkknaaY
import Derived.Test.YtmgpoafoljkknaaK1
import Derived.Test.YtmgpoafoljkknaaK2
import Derived.Deep.RegionHeld3
import Derived.Deep.DeepCutAuto
import Derived.Test.YtmgpoafoljkknaaPSchemaReadsx2
namespace Go.Proofs.Ytmgpoafoljkknaa.My
open Go.RowKit Go.Proofs.YtmgpoafoljkknaaW.PrintWords Go.Proofs.YtmgpoafoljkknaaW.PrintLast Go.Proofs.YtmgpoafoljkknaaW.PrintMore PSchemaReads
/-- n elements of type t lie there, from B on: what they are is not told. -/
def WkA (W : World) (B : Nat) (A : Option Addr) (n t sz : Nat) : Prop := n = 0 ∨ ∃ g cs, A = some ⟨g, 0, none⟩ ∧ B ≤ g ∧ W.heap[g]? = some (.cells cs t (0, 0)) ∧ n * sz ≤ cs.size
theorem WkA.below {W W' : World} {B n t sz : Nat} {A : Option Addr} (h : WkA W B A n t sz) (hb : Below W.heap.size W W') : WkA W' B A n t sz := by
  rcases h with h | ⟨g, cs, rfl, hB, hg, hs⟩
  · exact .inl h
  · exact .inr ⟨g, cs, rfl, hB, blk_keep hb hg, hs⟩
theorem WkA.set {W : World} {B n t sz : Nat} {A : Option Addr} (h : WkA W B A n t sz) (k o : Nat) (u : Value) : WkA (W.setCell ⟨k, o, none⟩ u) B A n t sz := by
  rcases h with h | ⟨g, cs, rfl, hB, hg, hs⟩
  · exact .inl h
  · by_cases hk : g = k
    · subst hk
      exact .inr ⟨g, _, rfl, hB, blk_set hg o u, by simpa using hs⟩
    · exact .inr ⟨g, cs, rfl, hB, blk_far hg hk u, hs⟩
theorem WkA.ofN {α : Type} {d : Kd α} {W : World} {B : Nat} {t : Nat} {ok : Nat → Prop} {A : Option Addr} {n c : Nat} {xs : List α} (h : Kd.N d t W B ok (.slice A n c) xs) : WkA W B A n t d.sz := by
  have hn := (Kd.N_reads' h).1
  obtain ⟨_, rows, hl, hR, _⟩ := h
  obtain ⟨inner, ho⟩ := Kd.R_own hR
  rcases ho.2 with ⟨_, h0⟩ | ⟨g, cap, cur, he, hB, hg, hc, _, hcs, _⟩
  · exact .inl (by omega)
  · injection he with he hn2 _
    subst he
    refine .inr ⟨g, cur, rfl, hB, hg, ?_⟩
    rw [hcs, hn2]
    exact Nat.mul_le_mul_right _ hc
theorem WkA.at_ {W : World} {B n t sz : Nat} {A : Option Addr} (h : WkA W B A n t sz) {k : Nat} (hk : k < n) (l : Nat) (hl : l < sz) :
    ∃ ad g u, A = some ad ∧ ad.add (k * sz) = ⟨g, k * sz, none⟩ ∧ Aside0 (B ≤ g) ∧ Aside0 (∃ cs, W.heap[g]? = some (.cells cs t (0, 0))) ∧ W.cell? ⟨g, k * sz + l, none⟩ = some u ∧ W.frozen? ⟨g, k * sz + l, none⟩ = false := by
  rcases h with h | ⟨g, cs, rfl, hB, hg, hs⟩
  · omega
  · have h1 : k * sz + l < cs.size := by
      have : (k + 1) * sz ≤ n * sz := Nat.mul_le_mul_right _ (by omega)
      rw [Nat.add_mul, Nat.one_mul] at this
      omega
    exact ⟨⟨g, 0, none⟩, g, cs[k * sz + l], rfl, by rw [add_at, Nat.zero_add], ⟨hB⟩, ⟨cs, hg⟩, by rw [blk_cell hg]; exact Array.getElem?_eq_getElem h1, blk_frozen hg _⟩
/-- The clone's rows from i on: what is read of them. -/
def CW (W : World) (B g i : Nat) (xs : List S40) : Prop := (∃ cur, W.heap[g]? = some (.cells cur 40 (0, 0))) ∧ ∀ j (hj : j < xs.length), i ≤ j → ∃ v1 A3 c3 A4 c4,
  Cells5 W ⟨g, j * 5, none⟩ (.string xs[j].f0) v1 (.int .i64 xs[j].f2) (.slice A3 xs[j].f3.length c3) (.slice A4 xs[j].f4.length c4) ∧ WkA W B A3 xs[j].f3.length 60 2 ∧ WkA W B A4 xs[j].f4.length 52 3
theorem CW.below {W W' : World} {B g i : Nat} {xs : List S40} (h : CW W B g i xs) (hb : Below W.heap.size W W') : CW W' B g i xs := by
  obtain ⟨⟨cur, hcur⟩, h⟩ := h
  refine ⟨⟨cur, blk_keep hb hcur⟩, fun j hj hi => ?_⟩
  obtain ⟨v1, A3, c3, A4, c4, hc, h3, h4⟩ := h j hj hi
  exact ⟨v1, A3, c3, A4, c4, cells5_block hc (hb.block g (blk_lt hcur)), h3.below hb, h4.below hb⟩
theorem CW.set {W : World} {B g i : Nat} {xs : List S40} (h : CW W B g i xs) {k t : Nat} {cs : Array Value} (hk : W.heap[k]? = some (.cells cs t (0, 0))) (ht : t ≠ 40) (o : Nat) (u : Value) : CW (W.setCell ⟨k, o, none⟩ u) B g i xs := by
  obtain ⟨⟨cur, hcur⟩, h⟩ := h
  have hne : g ≠ k := (blk_ne hk hcur ht).symm
  refine ⟨⟨cur, blk_far hcur hne u⟩, fun j hj hi => ?_⟩
  obtain ⟨v1, A3, c3, A4, c4, hc, h3, h4⟩ := h j hj hi
  exact ⟨v1, A3, c3, A4, c4, cells5_block hc (Below.heap_setCell _ _ _ _ hne), h3.set k o u, h4.set k o u⟩
theorem CW.put {W : World} {B g i : Nat} {xs : List S40} (h : CW W B g i xs) (u : Value) : CW (W.setCell ⟨g, i * 5 + 1, none⟩ u) B g (i + 1) xs := by
  obtain ⟨⟨cur, hcur⟩, h⟩ := h
  refine ⟨⟨_, blk_set hcur _ u⟩, fun j hj hi => ?_⟩
  obtain ⟨v1, A3, c3, A4, c4, ⟨h0, h1, h2, h3', h4'⟩, h3, h4⟩ := h j hj (by omega)
  refine ⟨v1, A3, c3, A4, c4, ⟨?_, ?_, ?_, ?_, ?_⟩, h3.set _ _ u, h4.set _ _ u⟩
  · exact (far1 (by omega)).trans h0
  · exact (far1 (o := j * 5 + 1) (by omega)).trans h1
  · exact (far1 (o := j * 5 + 2) (by omega)).trans h2
  · exact (far1 (o := j * 5 + 3) (by omega)).trans h3'
  · exact (far1 (o := j * 5 + 4) (by omega)).trans h4'
/-- What the law's world holds while the clone is written to: nothing before B is. -/
def Inv (wo W : World) (b4 : Nat) (s : Sch) (A : Option Addr) (c i : Nat) : Prop := Below wo.heap.size wo W ∧ W.heap[b4]? = some (Oc s A c) ∧ (s.fams = [] ∨ ∃ g, A = some ⟨g, 0, none⟩ ∧ wo.heap.size ≤ g ∧ CW W wo.heap.size g i s.fams)
theorem Inv.below {wo W W' : World} {b4 c i : Nat} {s : Sch} {A : Option Addr} (h : Inv wo W b4 s A c i) (hb : Below W.heap.size W W') : Inv wo W' b4 s A c i := by
  obtain ⟨h1, h2, h3⟩ := h
  refine ⟨bb h1 hb, blk_keep hb h2, ?_⟩
  rcases h3 with h3 | ⟨g, rfl, hg, h3⟩
  · exact .inl h3
  · exact .inr ⟨g, rfl, hg, h3.below hb⟩
theorem Inv.set {wo W : World} {b4 c i : Nat} {s : Sch} {A : Option Addr} (h : Inv wo W b4 s A c i) {k t : Nat} {cs : Array Value} (hB : wo.heap.size ≤ k) (hk : W.heap[k]? = some (.cells cs t (0, 0))) (ht : t ≠ 40 ∧ t ≠ 28) (o : Nat) (u : Value) : Inv wo (W.setCell ⟨k, o, none⟩ u) b4 s A c i := by
  obtain ⟨h1, h2, h3⟩ := h
  refine ⟨h1.setCell hB u, blk_far h2 (blk_ne hk h2 ht.2).symm u, ?_⟩
  rcases h3 with h3 | ⟨g, rfl, hg, h3⟩
  · exact .inl h3
  · exact .inr ⟨g, rfl, hg, h3.set hk ht.1 o u⟩
theorem Inv.at_ {wo W : World} {b4 c i : Nat} {s : Sch} {A : Option Addr} (h : Inv wo W b4 s A c i) (hi : i < s.fams.length) :
    ∃ ad g v1 A3 c3 A4 c4, A = some ad ∧ ad.add (i * 5) = ⟨g, i * 5, none⟩ ∧ Aside0 (∀ u, Inv wo (W.setCell ⟨g, i * 5 + 1, none⟩ u) b4 s A c (i + 1)) ∧
      Cells5 W ⟨g, i * 5, none⟩ (.string s.fams[i].f0) v1 (.int .i64 s.fams[i].f2) (.slice A3 s.fams[i].f3.length c3) (.slice A4 s.fams[i].f4.length c4) ∧ (∀ o, W.frozen? ⟨g, o, none⟩ = false) ∧ Aside0 (WkA W wo.heap.size A3 s.fams[i].f3.length 60 2) ∧ Aside0 (WkA W wo.heap.size A4 s.fams[i].f4.length 52 3) := by
  obtain ⟨h1, h2, h3⟩ := h
  rcases h3 with h3 | ⟨g, rfl, hg, h3⟩
  · rw [h3] at hi
    exact absurd hi (by simp)
  · obtain ⟨cur, hcur⟩ := h3.1
    obtain ⟨v1, A3, c3, A4, c4, hc, k3, k4⟩ := h3.2 i hi (Nat.le_refl _)
    refine ⟨⟨g, 0, none⟩, g, v1, A3, c3, A4, c4, rfl, by rw [add_at, Nat.zero_add], ⟨fun u => ⟨h1.setCell hg u, blk_far h2 (blk_ne hcur h2 (by decide)).symm u, .inr ⟨g, rfl, hg, h3.put u⟩⟩⟩, hc, blk_frozen hcur, ⟨k3⟩, ⟨k4⟩⟩
theorem Inv.start {wo W : World} {b4 c : Nat} {s : Sch} {A : Option Addr} (h1 : Below wo.heap.size wo W) (h2 : W.heap[b4]? = some (Oc s A c)) (h3 : OwnF W wo.heap.size (.slice A s.fams.length c) s.fams) : Inv wo W b4 s A c 0 := by
  refine ⟨h1, h2, ?_⟩
  obtain ⟨A', c', he, _, h3⟩ := h3
  injection he with he _ _
  subst he
  rcases h3 with h3 | ⟨g, rfl, hg, hcur, h3⟩
  · exact .inl h3
  · refine .inr ⟨g, rfl, hg, hcur, fun j hj _ => ?_⟩
    obtain ⟨A3, c3, A4, c4, hc, n3, n4⟩ := h3 j hj
    exact ⟨_, A3, c3, A4, c4, hc, WkA.ofN n3, WkA.ofN n4⟩
theorem OwnF.below {W W' : World} {B : Nat} {v : Value} {xs : List S40} (h : OwnF W B v xs) (hb : Below W.heap.size W W') : OwnF W' B v xs := by
  obtain ⟨A, c, rfl, hl, h⟩ := h
  refine ⟨A, c, rfl, hl, ?_⟩
  rcases h with h | ⟨g, rfl, hg, ⟨cur, hcur⟩, h⟩
  · exact .inl h
  · refine .inr ⟨g, rfl, hg, ⟨cur, blk_keep hb hcur⟩, fun j hj => ?_⟩
    obtain ⟨A3, c3, A4, c4, hc, n3, n4⟩ := h j hj
    exact ⟨A3, c3, A4, c4, cells5_block hc (hb.block g (blk_lt hcur)), Kd.N_below n3 hb, Kd.N_below n4 hb⟩
theorem findR_hit {l : List S40} {i : Nat} (hi : i < l.length) : ∃ y ∈ l, findR l l[i].f0 = (y, true) := by
  rcases h : l.find? (fun f : S40 => f.f0.toList == l[i].f0.toList) with _ | y
  · exact absurd (List.find?_eq_none.1 h _ (List.getElem_mem hi)) (by simp)
  · exact ⟨y, List.mem_of_find?_eq_some h, by unfold findR; rw [h]⟩
/-- A box that holds a family whose rows may be written. -/
def FBox (w : World) (B : Nat) (p : Value) (n3 n4 : Nat) : Prop := ∃ g B3 d3 B4 d4 z0 z1 z2, p = .pointer (some ⟨g, 0, none⟩) ∧ w.heap[g]? = some (.cells #[z0, z1, z2, .slice B3 n3 d3, .slice B4 n4 d4] 40 (0, 0)) ∧ WkA w B B3 n3 60 2 ∧ WkA w B B4 n4 52 3
theorem fbox_new {w : World} {B n3 d3 n4 d4 : Nat} {B3 B4 : Option Addr} {z0 z1 z2 : Value} (h3 : WkA w B B3 n3 60 2) (h4 : WkA w B B4 n4 52 3) :
    FBox (w.alloc (.cells #[z0, z1, z2, .slice B3 n3 d3, .slice B4 n4 d4] 40)) B (.pointer (some ⟨w.heap.size, 0, none⟩)) n3 n4 :=
  ⟨_, B3, d3, B4, d4, z0, z1, z2, rfl, blk_new _ _ _, h3.below (below_alloc (Below.refl _ _) _), h4.below (below_alloc (Below.refl _ _) _)⟩
theorem fbox_old {w : World} {B g n3 d3 n4 d4 : Nat} {B3 B4 : Option Addr} {y0 y1 y2 y3 y4 z0 z1 z2 : Value} (hg : w.heap[g]? = some (.cells #[y0, y1, y2, y3, y4] 40 (0, 0))) (h3 : WkA w B B3 n3 60 2) (h4 : WkA w B B4 n4 52 3) :
    FBox (put5 w g z0 z1 z2 (.slice B3 n3 d3) (.slice B4 n4 d4)) B (.pointer (some ⟨g, 0, none⟩)) n3 n4 :=
  ⟨g, B3, d3, B4, d4, z0, z1, z2, rfl, blk_set (blk_set (blk_set (blk_set (blk_set hg 0 _) 1 _) 2 _) 3 _) 4 _, ((((h3.set g 0 _).set g 1 _).set g 2 _).set g 3 _).set g 4 _, ((((h4.set g 0 _).set g 1 _).set g 2 _).set g 3 _).set g 4 _⟩
theorem inv_put5 {wo W : World} {b4 c i g : Nat} {s : Sch} {A : Option Addr} {W0 : World} (hI0 : Inv wo W0 b4 s A c i) (hb : Below W0.heap.size W0 W) (hg : W0.heap.size ≤ g) (u0 u1 u2 u3 u4 : Value) : Inv wo (put5 W g u0 u1 u2 u3 u4) b4 s A c i :=
  hI0.below (put5_below hb hg _ _ _ _ _)
set_option maxHeartbeats 4000000 in
set_option maxRecDepth 100000 in
theorem apart8_any (v : Value) (s : Sch) (w : World) (h : Sc w v s) : Calls Try.prog 8 #[v] w (RetB w true) := by
  have HSC := Aside0.mk h
  obtain ⟨vf, rfl, hs⟩ := h
  have hmax := hs.len
  obtain ⟨A, c, rfl, _, _⟩ := hs
  have HB0 := Aside0.mk (below_alloc (Below.refl _ w) (Oc s A c))
  have HA0 := Aside0.mk (blk_new w #[.int .i64 s.ver, .slice A s.fams.length c, .int .i64 s.kind, .string s.fam, .string s.qual, .int .i64 s.typ, .int .i64 s.grp, .int .i64 s.vers, .int .i64 s.life, .int .i64 s.step] 28)
  go_enter Try.func8, Try.ntmps8
  go_wp2_with fail
  refine (alive_any _).mono ?_
  rintro e w1 ⟨rfl, hb⟩
  have HA1 := Aside0.mk (blk_keep hb HA0.out)
  have HB1 := Aside0.mk (bb HB0.out hb)
  have ga := blk_cell HA1.out
  clear hb HA0 HB0
  go_wp2_with fail
  clear ga
  refine (long_any _ s _ (HSC.out.below HB1.out)).mono ?_
  rintro e w2 ⟨b, rfl, hb, hsm⟩
  have HA2 := Aside0.mk (blk_keep hb HA1.out)
  have HB2 := Aside0.mk (bb HB1.out hb)
  have ga := blk_cell HA2.out
  clear hb HA1 HB1
  cases b with
  | true =>
    clear hsm
    go_wp2
    go_ret
    exact ⟨rfl, HB2.out⟩
  | false =>
    have HSM := Aside0.mk (hsm rfl)
    have HL := Aside0.mk (show ∀ f ∈ s.fams, f.f3.length ≤ 1000000 ∧ f.f4.length ≤ 1000000 from fun f hf => by have := HSM.out.2.2.2 f hf; have := this.2; omega)
    clear hsm
    go_wp2_with fail
    clear ga
    refine (copyS41 _ s _ (HSC.out.below HB2.out) HL.out (by have := HSM.out.1; omega)).mono ?_
    rintro e w3 ⟨vo, rfl, hso, hb⟩
    obtain ⟨vq, rfl, hsl⟩ := hso
    have hso : Sc w3 (Vs s vq) s := ⟨vq, rfl, hsl⟩
    obtain ⟨Aq, cq, rfl, _, _⟩ := hsl
    have HB3 := Aside0.mk (bb HB2.out hb)
    have HA3 := Aside0.mk (blk_keep hb HA2.out)
    have HSO := Aside0.mk (hso.below (below_alloc (Below.refl _ w3) (Oc s Aq cq)))
    have HBO := Aside0.mk (bb HB3.out (below_alloc (Below.refl _ w3) (Oc s Aq cq)))
    have HG1 := Aside0.mk (blk_old HA3.out (Oc s Aq cq))
    have HG3 := Aside0.mk (blk_new w3 #[.int .i64 s.ver, .slice Aq s.fams.length cq, .int .i64 s.kind, .string s.fam, .string s.qual, .int .i64 s.typ, .int .i64 s.grp, .int .i64 s.vers, .int .i64 s.life, .int .i64 s.step] 28)
    have HN3 := Aside0.mk (show w3.heap.size < (w3.alloc (Oc s Aq cq)).heap.size by simp)
    clear hb hso HA2 HB2 HB3 HA3
    go_wp2_with fail
    obtain ⟨wo, hwo⟩ : ∃ wo, w3.alloc (Oc s Aq cq) = wo := ⟨_, rfl⟩
    rw [hwo] at HSO HBO HG1 HG3 HN3
    rw [hwo]
    refine (clone30 _ s _ HSO.out HL.out (by have := HSM.out.1; omega)).mono ?_
    rintro e w4 ⟨vc, rfl, hown, hb⟩
    obtain ⟨Ac, cc, rfl, hcc, hown⟩ := hown
    have HI0 := Aside0.mk (Inv.start (b4 := w4.heap.size) (bb hb (below_alloc (Below.refl _ w4) (Oc s Ac cc))) (blk_new w4 _ _) (OwnF.below (W := w4) ⟨Ac, cc, rfl, hcc, hown⟩ (below_alloc (Below.refl _ w4) (Oc s Ac cc))))
    have HN4 := Aside0.mk (show wo.heap.size ≤ w4.heap.size from hb.size)
    clear hb hown hwo hcc
    generalize w3.heap.size = b3 at HG3 HN3
    go_wp2
    go_loopg [5, 6, 7, 8, 9, 10, 11] s.fams.length (fun gg s5 _ _ _ _ _ _ wr => ∃ kk : Nat, kk ≤ s.fams.length ∧ s.fams.length - kk ≤ gg ∧ s5 = .int .i64 kk ∧ Aside0 (Inv wo wr w4.heap.size s Ac cc kk))
    case atStart => exact ⟨0, by omega, by omega, rfl, HI0⟩
    case round =>
      clear HI0
      obtain ⟨kk, hkk, hg, rfl, HI⟩ := hrel
      have g1 := blk_cell (blk_keep HI.out.1 HG1.out)
      have g3 := blk_cell (blk_keep HI.out.1 HG3.out)
      have g4 := blk_cell HI.out.2.1
      by_cases hlt : kk < s.fams.length
      · have hltz : (kk : Int) < (s.fams.length : Int) := by omega
        obtain ⟨ad, g, v1, A3, c3, A4, c4, rfl, hadd, HPUT, ⟨h0, h1, h2, h3, h4⟩, hfr, HK3, HK4⟩ := HI.out.at_ hlt
        obtain ⟨y, hy, hfy⟩ := findR_hit hlt
        have HYL := Aside0.mk (HL.out y hy)
        have HFIND := Aside0.mk (fun W (hb : Below wo.heap.size wo W) => (find_any (Vs s (Value.slice Aq s.fams.length cq)) s s.fams[kk].f0 W (HSO.out.below hb) HL.out).mono (R' := fun e w' => ∃ v1, e = .returned (.tuple #[v1, .bool true]) ∧ FmN wo.heap.size w' v1 y ∧ Below W.heap.size W w') (by rintro e w' ⟨v1, q1, q2, q3⟩; rw [hfy] at q1 q2; exact ⟨v1, q1, q2.lower hb.size, q3⟩))
        clear hy hfy h1 h2 h3 h4 hfr HK3 HK4
        go_upto_region 10 with fail
        go_cut [6, 7] (fun s6 s7 wx => s7 = .bool true ∧ Aside0 (FBox wx wo.heap.size s6 y.f3.length y.f4.length) ∧ Aside0 (Inv wo wx w4.heap.size s (some ad) cc kk))
        case first =>
          clear g1
          have gb := fun o => blk_cell (blk_old (w := wr) (blk_keep HI.out.1 HG3.out) o)
          have gd := fun o => blk_cell (blk_old (w := wr) HI.out.2.1 o)
          have ha0 := fun o => pw_cell_below (w1 := wr.alloc o) (below_alloc (Below.refl _ wr) o) h0
          go_region_law (go_simp; go_at_call 27; refine (HFIND.out _ (bb HI.out.1 (by with_reducible repeat (first | exact Below.refl _ _ | refine Below.drew ?_ | refine bba ?_ _)))).mono ?_; rintro e w8 ⟨v1, rfl, ⟨u3, u4, rfl, n3, n4⟩, hb2⟩; obtain ⟨B3, d3, rfl⟩ := Kd.N_slice n3; obtain ⟨B4, d4, rfl⟩ := Kd.N_slice n4; have HBR := Aside0.mk (show Below wr.heap.size wr w8 from bb (by with_reducible repeat (first | exact Below.refl _ _ | refine Below.drew ?_ | refine bba ?_ _)) hb2); have HK3 := Aside0.mk (show WkA w8 wo.heap.size B3 y.f3.length 60 2 from WkA.ofN n3); have HK4 := Aside0.mk (show WkA w8 wo.heap.size B4 y.f4.length 52 3 from WkA.ofN n4); (first | (have g8 : w8.heap[wr.heap.size]? = some (.cells #[.string ⟨#[]⟩, .int .i64 0, .int .i64 0, .slice none 0 0, .slice none 0 0] 40 (0, 0)) := blk_keep hb2 (blk_new wr _ _); have gc8 := blk_cell g8; have gf8 := blk_frozen g8; have HG8 := Aside0.mk g8; clear g8) | skip); clear hb2 n3 n4)
          all_goals
            go_wp2
            go_meet
            refine ⟨rfl, ⟨?_⟩, ⟨?_⟩⟩
          all_goals with_reducible first
            | exact fbox_new HK3.out HK4.out
            | exact fbox_old HG8.out HK3.out HK4.out
            | exact HI.out.below (bba HBR.out _)
            | exact HI.out.below (put5_below HBR.out (Nat.le_refl _) _ _ _ _ _)
        case rest =>
          obtain ⟨rfl, HFB, HIC⟩ := hcut
          obtain ⟨g6, B3, d3, B4, d4, z0, z1, z2, rfl, hg6, k3, k4⟩ := HFB.out
          have HG6 := Aside0.mk hg6
          have HK3 := Aside0.mk k3
          have HK4 := Aside0.mk k4
          clear g1 g3 g4 hadd h0 HPUT HFIND HI HFB hg6 k3 k4
          go_wp2
          go_loopg [8] y.f3.length (fun gg s8 wr => ∃ k2 : Nat, k2 ≤ y.f3.length ∧ y.f3.length - k2 ≤ gg ∧ s8 = .int .i64 k2 ∧ Aside0 (Inv wo wr w4.heap.size s (some ad) cc kk) ∧ Aside0 (wr.heap[g6]? = some (.cells #[z0, z1, z2, .slice B3 y.f3.length d3, .slice B4 y.f4.length d4] 40 (0, 0))) ∧ Aside0 (WkA wr wo.heap.size B3 y.f3.length 60 2) ∧ Aside0 (WkA wr wo.heap.size B4 y.f4.length 52 3))
          case atStart => exact ⟨0, by omega, by omega, rfl, HIC, HG6, HK3, HK4⟩
          case round =>
            clear HIC HG6 HK3 HK4
            obtain ⟨k2, hk2, hg2, rfl, HI, HG6, HK3, HK4⟩ := hrel
            have hyl := HYL.out
            have g6c := blk_cell HG6.out
            by_cases hlt2 : k2 < y.f3.length
            · have hlt2z : (k2 : Int) < (y.f3.length : Int) := by omega
              obtain ⟨ad3, q, u, rfl, hadd3, HBQ, HCS, hc3, hf3⟩ := HK3.out.at_ hlt2 0 (by omega)
              rw [Nat.add_zero] at hc3 hf3
              go_wp2
              go_roundg (y.f3.length - (k2 + 1))
              case measure => omega
              case rel =>
                obtain ⟨cs, hcs⟩ := HCS.out
                exact ⟨k2 + 1, by omega, by omega, by go_num, ⟨HI.out.set HBQ.out hcs (by decide) _ _⟩, ⟨blk_far HG6.out (blk_ne HG6.out hcs (by decide)) _⟩, ⟨HK3.out.set _ _ _⟩, ⟨HK4.out.set _ _ _⟩⟩
            · have hlt2z : ¬ (k2 : Int) < (y.f3.length : Int) := by omega
              clear HK3
              go_wp2
              go_loopg [9] y.f4.length (fun gg s9 wr => ∃ k3 : Nat, k3 ≤ y.f4.length ∧ y.f4.length - k3 ≤ gg ∧ s9 = .int .i64 k3 ∧ Aside0 (Inv wo wr w4.heap.size s (some ad) cc kk) ∧ Aside0 (wr.heap[g6]? = some (.cells #[z0, z1, z2, .slice B3 y.f3.length d3, .slice B4 y.f4.length d4] 40 (0, 0))) ∧ Aside0 (WkA wr wo.heap.size B4 y.f4.length 52 3))
              case atStart => exact ⟨0, by omega, by omega, rfl, HI, HG6, HK4⟩
              case round =>
                clear HI HG6 HK4 g6c hlt2z hlt2 hk2 hg2
                obtain ⟨k3, hk3, hg3, rfl, HI, HG6, HK4⟩ := hrel
                have g6c := blk_cell HG6.out
                by_cases hlt3 : k3 < y.f4.length
                · have hlt3z : (k3 : Int) < (y.f4.length : Int) := by omega
                  obtain ⟨ad4, q, u, rfl, hadd4, HBQ, HCS, hc4, hf4⟩ := HK4.out.at_ hlt3 1 (by omega)
                  go_wp2
                  go_roundg (y.f4.length - (k3 + 1))
                  case measure => omega
                  case rel =>
                    obtain ⟨cs, hcs⟩ := HCS.out
                    exact ⟨k3 + 1, by omega, by omega, by go_num, ⟨HI.out.set HBQ.out hcs (by decide) _ _⟩, ⟨blk_far HG6.out (blk_ne HG6.out hcs (by decide)) _⟩, ⟨HK4.out.set _ _ _⟩⟩
                · have hlt3z : ¬ (k3 : Int) < (y.f4.length : Int) := by omega
                  clear HK4
                  go_wp2
                  clear g6c hlt3z hlt3 hk3 hg3 HG6 HYL hyl
                  have HXL := Aside0.mk (HL.out _ (List.getElem_mem hlt))
                  go_loopg [10] s.fams[kk].f3.length (fun gg s10 wr => ∃ k4 : Nat, k4 ≤ s.fams[kk].f3.length ∧ s.fams[kk].f3.length - k4 ≤ gg ∧ s10 = .int .i64 k4 ∧ Aside0 (Inv wo wr w4.heap.size s (some ad) cc kk))
                  case atStart => exact ⟨0, by omega, by omega, rfl, HI⟩
                  case round =>
                    clear HI
                    obtain ⟨k4, hk4, hg4, rfl, HI⟩ := hrel
                    obtain ⟨ad', g', v1', A3, c3, A4, c4, he, hadd, HPUT, ⟨_, _, _, h3, _⟩, _, HK3, _⟩ := HI.out.at_ hlt
                    injection he with he
                    subst he
                    have g4 := blk_cell HI.out.2.1
                    have hxl := HXL.out
                    generalize hm : s.fams[kk].f3.length = m at h3 HK3 hk4 hg4 hxl
                    have HM := Aside0.mk hm
                    clear hm
                    by_cases hlt4 : k4 < m
                    · have hlt4z : (k4 : Int) < (m : Int) := by omega
                      obtain ⟨ad3, q, u, rfl, hadd3, HBQ, HCS, hc3, hf3⟩ := HK3.out.at_ hlt4 1 (by omega)
                      go_wp2
                      go_roundg (m - (k4 + 1))
                      case measure => omega
                      case rel =>
                        obtain ⟨cs, hcs⟩ := HCS.out
                        refine ⟨k4 + 1, ?_, ?_, by go_num, ⟨HI.out.set HBQ.out hcs (by decide) _ _⟩⟩
                        · rw [HM.out]; omega
                        · rw [HM.out]; omega
                    · have hlt4z : ¬ (k4 : Int) < (m : Int) := by omega
                      go_wp2
                      clear hlt4 hlt4z hk4 hg4 HM h3 HK3 HPUT hadd g4 hxl
                      go_loopg [11] s.fams[kk].f4.length (fun gg s11 wr => ∃ k5 : Nat, k5 ≤ s.fams[kk].f4.length ∧ s.fams[kk].f4.length - k5 ≤ gg ∧ s11 = .int .i64 k5 ∧ Aside0 (Inv wo wr w4.heap.size s (some ad) cc kk))
                      case atStart => exact ⟨0, by omega, by omega, rfl, HI⟩
                      case round =>
                        clear HI
                        obtain ⟨k5, hk5, hg5, rfl, HI⟩ := hrel
                        obtain ⟨ad', g', v1', A3, c3, A4, c4, he, hadd, HPUT, ⟨_, h1, _, _, h4⟩, hfr, _, HK4⟩ := HI.out.at_ hlt
                        injection he with he
                        subst he
                        have g4 := blk_cell HI.out.2.1
                        have hxl := HXL.out
                        generalize hm : s.fams[kk].f4.length = m at h4 HK4 hk5 hg5 hxl
                        have HM := Aside0.mk hm
                        clear hm
                        by_cases hlt5 : k5 < m
                        · have hlt5z : (k5 : Int) < (m : Int) := by omega
                          obtain ⟨ad4, q, u, rfl, hadd4, HBQ, HCS, hc4, hf4⟩ := HK4.out.at_ hlt5 2 (by omega)
                          go_wp2
                          go_roundg (m - (k5 + 1))
                          case measure => omega
                          case rel =>
                            obtain ⟨cs, hcs⟩ := HCS.out
                            refine ⟨k5 + 1, ?_, ?_, by go_num, ⟨HI.out.set HBQ.out hcs (by decide) _ _⟩⟩
                            · rw [HM.out]; omega
                            · rw [HM.out]; omega
                        · have hlt5z : ¬ (k5 : Int) < (m : Int) := by omega
                          go_wp2
                          go_roundg (s.fams.length - (kk + 1))
                          case measure => omega
                          case rel => exact ⟨kk + 1, by omega, by omega, by go_num, ⟨HPUT.out _⟩⟩
      · have hltz : ¬ (kk : Int) < (s.fams.length : Int) := by omega
        have HSAME := Aside0.mk (fun W (hb : Below wo.heap.size wo W) => same17_any (Vs s (Value.slice Aq s.fams.length cq)) (Vs s (Value.slice A s.fams.length c)) s s W (HSO.out.below hb) (HSC.out.below (HBO.out.trans (hb.mono HBO.out.size))))
        go_wp2_with fail
        refine (HSAME.out _ HI.out.1).mono ?_
        rintro e w9 ⟨rfl, hb⟩
        have HB9 := Aside0.mk (bb (HBO.out.trans (HI.out.1.mono HBO.out.size)) hb)
        rw [(eqSch_iff s s).2 rfl]
        go_wp2
        go_ret
        exact ⟨rfl, HB9.out⟩
end Go.Proofs.Ytmgpoafoljkknaa.My
