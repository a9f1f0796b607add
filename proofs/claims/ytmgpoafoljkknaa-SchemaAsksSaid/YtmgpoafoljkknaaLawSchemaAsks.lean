/- joistlaw14.SchemaAsks returns true and leaves its arguments as they read. Conditions: none beyond the row's own. -/
import Derived.Test.YtmgpoafoljkknaaRows
import Derived.Test.YtmgpoafoljkknaaAsk1
import Derived.Test.YtmgpoafoljkknaaK2
import Derived.Test.YtmgpoafoljkknaaK6
import Derived.Test.YtmgpoafoljkknaaQ
import Derived.WalkKit
import Derived.ProofKit
import Derived.OpenShut
import Derived.ShutString
import Derived.ChangeOld
import Derived.Below
import Derived.SizedLaws
namespace Go.Proofs.Ytmgpoafoljkknaa.My
open Go.RowKit Go.Proofs.YtmgpoafoljkknaaW.PrintWords Go.Proofs.YtmgpoafoljkknaaW.PrintLast Go.Proofs.YtmgpoafoljkknaaW.PrintMore PSchemaReads
abbrev Os (s : Sch) (A : Option Addr) (c : Nat) : Obj := .cells #[.int .i64 s.ver, .slice A s.fams.length c, .int .i64 s.kind, .string s.fam, .string s.qual, .int .i64 s.typ, .int .i64 s.grp, .int .i64 s.vers, .int .i64 s.life, .int .i64 s.step] 28
theorem findR_small {l : List S40} {q : ByteArray} (hl : ∀ f ∈ l, f.f3.length ≤ 1000000 ∧ f.f4.length ≤ 1000000) : (findR l q).1.f3.length ≤ 1000000 ∧ (findR l q).1.f4.length ≤ 1000000 := by
  unfold findR
  cases h : l.find? (fun f => f.f0.toList == q.toList) with
  | none => exact ⟨Nat.zero_le _, Nat.zero_le _⟩
  | some f => exact hl f (List.mem_of_find?_eq_some h)
theorem wr_eq (x : S40) : ((x.f3.filter fun l => decide ((2 : Int) ≤ l.f1) && decide (l.f1 ≤ 3)).map (·.f0)) = wrL x := by
  unfold wrL
  congr 1
  apply List.filter_congr
  intro l _
  rw [Bool.eq_iff_iff]
  simp
  omega
theorem OwnF.sl {W : World} {B : Nat} {v : Value} {xs : List S40} (h : OwnF W B v xs) (hm : xs.length ≤ 1000000) : Sl k40 W v xs := by
  obtain ⟨A, c, rfl, hc, h⟩ := h
  rcases h with rfl | ⟨g, rfl, _, _, hj⟩
  · exact ⟨A, c, rfl, hc, rfl, by simp, fun h => absurd h (by simp)⟩
  · refine ⟨_, c, rfl, hc, rfl, by omega, fun _ => ⟨_, rfl, fun j p hp => ?_⟩⟩
    obtain ⟨hjl, rfl⟩ := List.getElem?_eq_some_iff.1 hp
    obtain ⟨A3, c3, A4, c4, ⟨h0, h1, h2, h3, h4⟩, n3, n4⟩ := hj j hjl
    obtain ⟨B3, d3, e3, l3, C3⟩ := n3.sl
    obtain ⟨B4, d4, e4, l4, C4⟩ := n4.sl
    injection e3 with e3 _ e3'
    injection e4 with e4 _ e4'
    subst e3; subst e3'; subst e4; subst e4'
    refine ⟨[.string xs[j].f0, .int .i64 xs[j].f1, .int .i64 xs[j].f2, .slice A3 xs[j].f3.length c3, .slice A4 xs[j].f4.length c4], rfl, k40_mk _ xs[j] l3 C3 l4 C4, fun i u hi => ?_⟩
    have e5 : k40.sz = 5 := rfl
    rw [e5]
    have ea : (⟨g, 0, none⟩ : Addr).add (j * 5 + i) = ⟨g, j * 5 + i, none⟩ := by rw [add_plain]
    rw [ea]
    rcases i with _ | _ | _ | _ | _ | i <;> simp at hi <;> subst hi
    · exact h0
    · exact h1
    · exact h2
    · exact h3
    · exact h4
set_option maxHeartbeats 8000000 in
set_option maxRecDepth 100000 in
theorem asks_any (v u : Value) (s t : Sch) (q r : ByteArray) (w : World) (h : Sc w v s) (k : Sc w u t) (hg : gSch s) : Calls Try.prog 7 #[v, u, .string q, .string r] w (RetB w true) := by
  have HNN := Aside0.mk (show s.typ ≤ 9223372036854775807 ∧ s.grp ≤ 9223372036854775807 ∧ s.vers ≤ 9223372036854775807 ∧ s.life ≤ 9223372036854775807 from ⟨hg.1.2.2.1.2, hg.1.2.2.2.1.2, hg.1.2.2.2.2.1.2, hg.1.2.2.2.2.2.1.2⟩)
  have HSC := Aside0.mk h
  have HTC := Aside0.mk k
  clear hg
  obtain ⟨vf, rfl, hs⟩ := h
  obtain ⟨vt, rfl, ht⟩ := k
  have hmax := hs.len
  have hmaxt := ht.len
  obtain ⟨A, c, rfl, _, _⟩ := hs
  obtain ⟨D, d, rfl, _, _⟩ := ht
  have HB := Aside0.mk (((Below.refl w.heap.size w).alloc (Nat.le_refl _) (Os s A c)).alloc (by simp) (Os t D d))
  have K4 := Aside0.mk (blk_old (blk_new w #[.int .i64 s.ver, .slice A s.fams.length c, .int .i64 s.kind, .string s.fam, .string s.qual, .int .i64 s.typ, .int .i64 s.grp, .int .i64 s.vers, .int .i64 s.life, .int .i64 s.step] 28) (Os t D d))
  have K5 := Aside0.mk (blk_new2 w (Os s A c) #[.int .i64 t.ver, .slice D t.fams.length d, .int .i64 t.kind, .string t.fam, .string t.qual, .int .i64 t.typ, .int .i64 t.grp, .int .i64 t.vers, .int .i64 t.life, .int .i64 t.step] 28)
  have HSC := Aside0.mk (HSC.out.below HB.out)
  have HTC := Aside0.mk (HTC.out.below HB.out)
  go_enter Try.func7, Try.ntmps7
  go_wp2_with fail
  refine (alive_any _).mono ?_
  rintro e w1 ⟨rfl, hb⟩
  have K4 := Aside0.mk (blk_keep hb K4.out)
  have K5 := Aside0.mk (blk_keep hb K5.out)
  have HB := Aside0.mk (bb HB.out hb)
  have HSC := Aside0.mk (HSC.out.below hb)
  have HTC := Aside0.mk (HTC.out.below hb)
  clear hb
  have gK4 := blk_cell K4.out
  have gK5 := blk_cell K5.out
  go_wp2_with fail
  clear gK4 gK5
  refine (long_any _ s _ HSC.out).mono ?_
  rintro e w2 ⟨b, rfl, hb, hsm⟩
  have K4 := Aside0.mk (blk_keep hb K4.out)
  have K5 := Aside0.mk (blk_keep hb K5.out)
  have HB := Aside0.mk (bb HB.out hb)
  have HSC := Aside0.mk (HSC.out.below hb)
  have HTC := Aside0.mk (HTC.out.below hb)
  clear hb
  have gK4 := blk_cell K4.out
  have gK5 := blk_cell K5.out
  cases b with
  | true =>
    clear hsm
    go_wp2
    go_ret
    exact ⟨rfl, HB.out⟩
  | false =>
    have HSM := Aside0.mk (hsm rfl)
    clear hsm
    go_wp2_with fail
    clear gK4 gK5
    refine (long_any _ t _ HTC.out).mono ?_
    rintro e w3 ⟨b, rfl, hb, hsm⟩
    clear hsm
    have K4 := Aside0.mk (blk_keep hb K4.out)
    have K5 := Aside0.mk (blk_keep hb K5.out)
    have HB := Aside0.mk (bb HB.out hb)
    have HSC := Aside0.mk (HSC.out.below hb)
    have HTC := Aside0.mk (HTC.out.below hb)
    clear hb
    have gK4 := blk_cell K4.out
    have gK5 := blk_cell K5.out
    cases b with
    | true =>
      go_wp2
      go_ret
      exact ⟨rfl, HB.out⟩
    | false =>
      by_cases c1 : 100 < (q.size : Int)
      · go_wp2
        go_ret
        exact ⟨rfl, HB.out⟩
      · skip
        by_cases c2 : 100 < (r.size : Int)
        · go_wp2
          go_ret
          exact ⟨rfl, HB.out⟩
        · skip
          have HL := Aside0.mk (show ∀ f ∈ s.fams, f.f3.length ≤ 1000000 ∧ f.f4.length ≤ 1000000 from fun f hf => by have := HSM.out.2.2.2 f hf; have := this.2; omega)
          have HSZ := Aside0.mk (show ∀ f ∈ s.fams, f.f0.size ≤ 1000000 from fun f hf => by have := HSM.out.2.2.2 f hf; have := this.1; omega)
          have HFL := Aside0.mk (show s.fams.length ≤ 1000000 by have := HSM.out.1; omega)
          have HX := findR_small (q := q) HL.out
          have HFI := Aside0.mk (fun W v (h : Sc W v s) => find_any v s q W h HL.out)
          have HFR := Aside0.mk (fun W v (h : Sc W v s) => find31 v s q W h HL.out)
          generalize findR s.fams q = fr at HX HFI HFR
          obtain ⟨x, ok⟩ := fr
          simp only at HX HFI HFR
          have HX := Aside0.mk HX
          obtain ⟨y, ok2, hy⟩ : ∃ y ok2, colR x.f4 r = (y, ok2) := ⟨_, _, rfl⟩
          have HC1 := Aside0.mk (fun W v (h : Fm W v x) => column_any v x r W h)
          have HC2 := Aside0.mk (fun W v (h : Fm W v x) => column34 v x r W h)
          rw [hy] at HC1 HC2
          simp only at HC1 HC2
          clear hy
          obtain ⟨n, rd, hn⟩ : ∃ n rd, readR x = (n, rd) := ⟨_, _, rfl⟩
          have HR1 := Aside0.mk (fun W v (h : Fm W v x) => read_any v x W h)
          have HR2 := Aside0.mk (fun W v (h : Fm W v x) => read35 v x W h)
          rw [hn] at HR1 HR2
          simp only at HR1 HR2
          clear hn
          go_wp2_with fail
          clear gK4 gK5
          refine (clone30 _ s _ HSC.out HL.out HFL.out).mono ?_
          rintro e w4 ⟨vo, rfl, hown, hb⟩
          obtain ⟨Ao, co, rfl, hco, hCo⟩ := OwnF.sl hown HFL.out
          clear hown
          have K9 := Aside0.mk (blk_new w4 #[.int .i64 s.ver, .slice Ao s.fams.length co, .int .i64 s.kind, .string s.fam, .string s.qual, .int .i64 s.typ, .int .i64 s.grp, .int .i64 s.vers, .int .i64 s.life, .int .i64 s.step] 28)
          have HSO := Aside0.mk (show Sc (w4.alloc (Os s Ao co)) (Vs s (.slice Ao s.fams.length co)) s from Sc.below ⟨_, rfl, Ao, co, rfl, hco, hCo⟩ (below_alloc (Below.refl _ _) (Os s Ao co)))
          have K4 := Aside0.mk (blk_old (blk_keep hb K4.out) (Os s Ao co))
          have K5 := Aside0.mk (blk_old (blk_keep hb K5.out) (Os s Ao co))
          have HB := Aside0.mk (bba (bb HB.out hb) (Os s Ao co))
          have HSC := Aside0.mk ((HSC.out.below hb).below (below_alloc (Below.refl _ _) (Os s Ao co)))
          have HTC := Aside0.mk ((HTC.out.below hb).below (below_alloc (Below.refl _ _) (Os s Ao co)))
          clear hb hco hCo
          have gK4 := blk_cell K4.out
          have gK5 := blk_cell K5.out
          have gK9 := blk_cell K9.out
          go_wp2_with fail
          clear gK4 gK5 gK9
          refine (HFI.out _ _ HSO.out).mono ?_
          rintro e w5 ⟨vx, rfl, hfn, hb⟩
          obtain ⟨v3, v4, rfl, n3, n4⟩ := hfn
          obtain ⟨A3, c3, rfl⟩ := Kd.N_slice n3
          obtain ⟨A4, c4, rfl⟩ := Kd.N_slice n4
          have K10 := Aside0.mk (blk_new w5 #[.string x.f0, .int .i64 x.f1, .int .i64 x.f2, .slice A3 x.f3.length c3, .slice A4 x.f4.length c4] 40)
          have FF := Aside0.mk (show Fm (w5.alloc (.cells #[.string x.f0, .int .i64 x.f1, .int .i64 x.f2, .slice A3 x.f3.length c3, .slice A4 x.f4.length c4] 40)) (.agg #[.string x.f0, .int .i64 x.f1, .int .i64 x.f2, .slice A3 x.f3.length c3, .slice A4 x.f4.length c4]) x from Fm.below ⟨_, _, rfl, n3.sl, n4.sl⟩ (below_alloc (Below.refl _ _) (.cells #[.string x.f0, .int .i64 x.f1, .int .i64 x.f2, .slice A3 x.f3.length c3, .slice A4 x.f4.length c4] 40)))
          have K4 := Aside0.mk (blk_old (blk_keep hb K4.out) (.cells #[.string x.f0, .int .i64 x.f1, .int .i64 x.f2, .slice A3 x.f3.length c3, .slice A4 x.f4.length c4] 40))
          have K5 := Aside0.mk (blk_old (blk_keep hb K5.out) (.cells #[.string x.f0, .int .i64 x.f1, .int .i64 x.f2, .slice A3 x.f3.length c3, .slice A4 x.f4.length c4] 40))
          have HB := Aside0.mk (bba (bb HB.out hb) (.cells #[.string x.f0, .int .i64 x.f1, .int .i64 x.f2, .slice A3 x.f3.length c3, .slice A4 x.f4.length c4] 40))
          have HSC := Aside0.mk ((HSC.out.below hb).below (below_alloc (Below.refl _ _) (.cells #[.string x.f0, .int .i64 x.f1, .int .i64 x.f2, .slice A3 x.f3.length c3, .slice A4 x.f4.length c4] 40)))
          have HTC := Aside0.mk ((HTC.out.below hb).below (below_alloc (Below.refl _ _) (.cells #[.string x.f0, .int .i64 x.f1, .int .i64 x.f2, .slice A3 x.f3.length c3, .slice A4 x.f4.length c4] 40)))
          have K9 := Aside0.mk (blk_old (blk_keep hb K9.out) (.cells #[.string x.f0, .int .i64 x.f1, .int .i64 x.f2, .slice A3 x.f3.length c3, .slice A4 x.f4.length c4] 40))
          have HSO := Aside0.mk ((HSO.out.below hb).below (below_alloc (Below.refl _ _) (.cells #[.string x.f0, .int .i64 x.f1, .int .i64 x.f2, .slice A3 x.f3.length c3, .slice A4 x.f4.length c4] 40)))
          clear hb n3 n4
          have gK4 := blk_cell K4.out
          have gK5 := blk_cell K5.out
          have gK9 := blk_cell K9.out
          have gK10 := blk_cell K10.out
          go_wp2_with fail
          clear gK4 gK5 gK9 gK10
          refine (HFR.out _ _ HSC.out).mono ?_
          rintro e w6 ⟨vx, rfl, hfn, hb⟩
          obtain ⟨v3, v4, rfl, n3, n4⟩ := hfn
          obtain ⟨B3, d3, rfl⟩ := Kd.N_slice n3
          obtain ⟨B4, d4, rfl⟩ := Kd.N_slice n4
          have K12 := Aside0.mk (blk_new w6 #[.string x.f0, .int .i64 x.f1, .int .i64 x.f2, .slice B3 x.f3.length d3, .slice B4 x.f4.length d4] 40)
          have FG := Aside0.mk (show Fm (w6.alloc (.cells #[.string x.f0, .int .i64 x.f1, .int .i64 x.f2, .slice B3 x.f3.length d3, .slice B4 x.f4.length d4] 40)) (.agg #[.string x.f0, .int .i64 x.f1, .int .i64 x.f2, .slice B3 x.f3.length d3, .slice B4 x.f4.length d4]) x from Fm.below ⟨_, _, rfl, n3.sl, n4.sl⟩ (below_alloc (Below.refl _ _) (.cells #[.string x.f0, .int .i64 x.f1, .int .i64 x.f2, .slice B3 x.f3.length d3, .slice B4 x.f4.length d4] 40)))
          have K4 := Aside0.mk (blk_old (blk_keep hb K4.out) (.cells #[.string x.f0, .int .i64 x.f1, .int .i64 x.f2, .slice B3 x.f3.length d3, .slice B4 x.f4.length d4] 40))
          have K5 := Aside0.mk (blk_old (blk_keep hb K5.out) (.cells #[.string x.f0, .int .i64 x.f1, .int .i64 x.f2, .slice B3 x.f3.length d3, .slice B4 x.f4.length d4] 40))
          have HB := Aside0.mk (bba (bb HB.out hb) (.cells #[.string x.f0, .int .i64 x.f1, .int .i64 x.f2, .slice B3 x.f3.length d3, .slice B4 x.f4.length d4] 40))
          have HSC := Aside0.mk ((HSC.out.below hb).below (below_alloc (Below.refl _ _) (.cells #[.string x.f0, .int .i64 x.f1, .int .i64 x.f2, .slice B3 x.f3.length d3, .slice B4 x.f4.length d4] 40)))
          have HTC := Aside0.mk ((HTC.out.below hb).below (below_alloc (Below.refl _ _) (.cells #[.string x.f0, .int .i64 x.f1, .int .i64 x.f2, .slice B3 x.f3.length d3, .slice B4 x.f4.length d4] 40)))
          have K9 := Aside0.mk (blk_old (blk_keep hb K9.out) (.cells #[.string x.f0, .int .i64 x.f1, .int .i64 x.f2, .slice B3 x.f3.length d3, .slice B4 x.f4.length d4] 40))
          have HSO := Aside0.mk ((HSO.out.below hb).below (below_alloc (Below.refl _ _) (.cells #[.string x.f0, .int .i64 x.f1, .int .i64 x.f2, .slice B3 x.f3.length d3, .slice B4 x.f4.length d4] 40)))
          have K10 := Aside0.mk (blk_old (blk_keep hb K10.out) (.cells #[.string x.f0, .int .i64 x.f1, .int .i64 x.f2, .slice B3 x.f3.length d3, .slice B4 x.f4.length d4] 40))
          have FF := Aside0.mk ((FF.out.below hb).below (below_alloc (Below.refl _ _) (.cells #[.string x.f0, .int .i64 x.f1, .int .i64 x.f2, .slice B3 x.f3.length d3, .slice B4 x.f4.length d4] 40)))
          clear hb n3 n4
          have gK4 := blk_cell K4.out
          have gK5 := blk_cell K5.out
          have gK9 := blk_cell K9.out
          have gK10 := blk_cell K10.out
          have gK12 := blk_cell K12.out
          go_upto_region 8 with fail
          clear gK4 gK5 gK9 gK10 gK12
          refine reg7_8 _ K4 K5 K9 K10 K12 ⟨fun W hb => (eq40_iff x x).2 rfl ▸ same28_any _ _ x x W (FF.out.below hb) (FG.out.below hb)⟩ ⟨fun W hb => right_any _ s W (HSO.out.below hb)⟩ ⟨fun W hb => right32_any _ s W (HSC.out.below hb) HSZ.out⟩ ⟨fun W hb => same33_any _ _ s t W (HSO.out.below hb) (HTC.out.below hb)⟩ ⟨fun W hb => same17_any _ _ s t W (HSC.out.below hb) (HTC.out.below hb)⟩ ⟨fun W hb => (eqSch_iff s s).2 rfl ▸ same33_any _ _ s s W (HSC.out.below hb) (HSC.out.below hb)⟩ rfl rfl rfl rfl rfl rfl rfl rfl ?_
          intro w7 hb
          have K4 := Aside0.mk (blk_keep hb K4.out)
          have K5 := Aside0.mk (blk_keep hb K5.out)
          have HB := Aside0.mk (bb HB.out hb)
          have HSC := Aside0.mk (HSC.out.below hb)
          have HTC := Aside0.mk (HTC.out.below hb)
          have K9 := Aside0.mk (blk_keep hb K9.out)
          have HSO := Aside0.mk (HSO.out.below hb)
          have K10 := Aside0.mk (blk_keep hb K10.out)
          have FF := Aside0.mk (FF.out.below hb)
          have K12 := Aside0.mk (blk_keep hb K12.out)
          have FG := Aside0.mk (FG.out.below hb)
          clear hb
          have gK4 := blk_cell K4.out
          have gK5 := blk_cell K5.out
          have gK9 := blk_cell K9.out
          have gK10 := blk_cell K10.out
          have gK12 := blk_cell K12.out
          simp only [Act.put, List.setIfInBounds_toArray, List.set_cons_zero, List.set_cons_succ]
          go_wp2_with fail
          clear gK4 gK5 gK9 gK10 gK12
          refine (HC1.out _ _ FF.out).mono ?_
          rintro e w8 ⟨rfl, hb⟩
          have K14 := Aside0.mk (blk_new w8 #[.string y.f0, .int .i64 y.f1, .int .i64 y.f2] 52)
          have K4 := Aside0.mk (blk_old (blk_keep hb K4.out) (.cells #[.string y.f0, .int .i64 y.f1, .int .i64 y.f2] 52))
          have K5 := Aside0.mk (blk_old (blk_keep hb K5.out) (.cells #[.string y.f0, .int .i64 y.f1, .int .i64 y.f2] 52))
          have HB := Aside0.mk (bba (bb HB.out hb) (.cells #[.string y.f0, .int .i64 y.f1, .int .i64 y.f2] 52))
          have HSC := Aside0.mk ((HSC.out.below hb).below (below_alloc (Below.refl _ _) (.cells #[.string y.f0, .int .i64 y.f1, .int .i64 y.f2] 52)))
          have HTC := Aside0.mk ((HTC.out.below hb).below (below_alloc (Below.refl _ _) (.cells #[.string y.f0, .int .i64 y.f1, .int .i64 y.f2] 52)))
          have K9 := Aside0.mk (blk_old (blk_keep hb K9.out) (.cells #[.string y.f0, .int .i64 y.f1, .int .i64 y.f2] 52))
          have HSO := Aside0.mk ((HSO.out.below hb).below (below_alloc (Below.refl _ _) (.cells #[.string y.f0, .int .i64 y.f1, .int .i64 y.f2] 52)))
          have K10 := Aside0.mk (blk_old (blk_keep hb K10.out) (.cells #[.string y.f0, .int .i64 y.f1, .int .i64 y.f2] 52))
          have FF := Aside0.mk ((FF.out.below hb).below (below_alloc (Below.refl _ _) (.cells #[.string y.f0, .int .i64 y.f1, .int .i64 y.f2] 52)))
          have K12 := Aside0.mk (blk_old (blk_keep hb K12.out) (.cells #[.string y.f0, .int .i64 y.f1, .int .i64 y.f2] 52))
          have FG := Aside0.mk ((FG.out.below hb).below (below_alloc (Below.refl _ _) (.cells #[.string y.f0, .int .i64 y.f1, .int .i64 y.f2] 52)))
          clear hb
          have gK4 := blk_cell K4.out
          have gK5 := blk_cell K5.out
          have gK9 := blk_cell K9.out
          have gK10 := blk_cell K10.out
          have gK12 := blk_cell K12.out
          have gK14 := blk_cell K14.out
          go_wp2_with fail
          clear gK4 gK5 gK9 gK10 gK12 gK14
          refine (HC2.out _ _ FG.out).mono ?_
          rintro e w9 ⟨rfl, hb⟩
          have K15 := Aside0.mk (blk_new w9 #[.string y.f0, .int .i64 y.f1, .int .i64 y.f2] 52)
          have K4 := Aside0.mk (blk_old (blk_keep hb K4.out) (.cells #[.string y.f0, .int .i64 y.f1, .int .i64 y.f2] 52))
          have K5 := Aside0.mk (blk_old (blk_keep hb K5.out) (.cells #[.string y.f0, .int .i64 y.f1, .int .i64 y.f2] 52))
          have HB := Aside0.mk (bba (bb HB.out hb) (.cells #[.string y.f0, .int .i64 y.f1, .int .i64 y.f2] 52))
          have HSC := Aside0.mk ((HSC.out.below hb).below (below_alloc (Below.refl _ _) (.cells #[.string y.f0, .int .i64 y.f1, .int .i64 y.f2] 52)))
          have HTC := Aside0.mk ((HTC.out.below hb).below (below_alloc (Below.refl _ _) (.cells #[.string y.f0, .int .i64 y.f1, .int .i64 y.f2] 52)))
          have K9 := Aside0.mk (blk_old (blk_keep hb K9.out) (.cells #[.string y.f0, .int .i64 y.f1, .int .i64 y.f2] 52))
          have HSO := Aside0.mk ((HSO.out.below hb).below (below_alloc (Below.refl _ _) (.cells #[.string y.f0, .int .i64 y.f1, .int .i64 y.f2] 52)))
          have K10 := Aside0.mk (blk_old (blk_keep hb K10.out) (.cells #[.string y.f0, .int .i64 y.f1, .int .i64 y.f2] 52))
          have FF := Aside0.mk ((FF.out.below hb).below (below_alloc (Below.refl _ _) (.cells #[.string y.f0, .int .i64 y.f1, .int .i64 y.f2] 52)))
          have K12 := Aside0.mk (blk_old (blk_keep hb K12.out) (.cells #[.string y.f0, .int .i64 y.f1, .int .i64 y.f2] 52))
          have FG := Aside0.mk ((FG.out.below hb).below (below_alloc (Below.refl _ _) (.cells #[.string y.f0, .int .i64 y.f1, .int .i64 y.f2] 52)))
          have K14 := Aside0.mk (blk_old (blk_keep hb K14.out) (.cells #[.string y.f0, .int .i64 y.f1, .int .i64 y.f2] 52))
          clear hb
          have gK4 := blk_cell K4.out
          have gK5 := blk_cell K5.out
          have gK9 := blk_cell K9.out
          have gK10 := blk_cell K10.out
          have gK12 := blk_cell K12.out
          have gK14 := blk_cell K14.out
          have gK15 := blk_cell K15.out
          go_wp2_with fail
          clear gK4 gK5 gK9 gK10 gK12 gK14 gK15
          refine (HR1.out _ _ FF.out).mono ?_
          rintro e w10 ⟨rfl, hb⟩
          have K4 := Aside0.mk (blk_keep hb K4.out)
          have K5 := Aside0.mk (blk_keep hb K5.out)
          have HB := Aside0.mk (bb HB.out hb)
          have HSC := Aside0.mk (HSC.out.below hb)
          have HTC := Aside0.mk (HTC.out.below hb)
          have K9 := Aside0.mk (blk_keep hb K9.out)
          have HSO := Aside0.mk (HSO.out.below hb)
          have K10 := Aside0.mk (blk_keep hb K10.out)
          have FF := Aside0.mk (FF.out.below hb)
          have K12 := Aside0.mk (blk_keep hb K12.out)
          have FG := Aside0.mk (FG.out.below hb)
          have K14 := Aside0.mk (blk_keep hb K14.out)
          have K15 := Aside0.mk (blk_keep hb K15.out)
          clear hb
          have gK4 := blk_cell K4.out
          have gK5 := blk_cell K5.out
          have gK9 := blk_cell K9.out
          have gK10 := blk_cell K10.out
          have gK12 := blk_cell K12.out
          have gK14 := blk_cell K14.out
          have gK15 := blk_cell K15.out
          go_wp2_with fail
          clear gK4 gK5 gK9 gK10 gK12 gK14 gK15
          refine (HR2.out _ _ FG.out).mono ?_
          rintro e w11 ⟨rfl, hb⟩
          have K4 := Aside0.mk (blk_keep hb K4.out)
          have K5 := Aside0.mk (blk_keep hb K5.out)
          have HB := Aside0.mk (bb HB.out hb)
          have HSC := Aside0.mk (HSC.out.below hb)
          have HTC := Aside0.mk (HTC.out.below hb)
          have K9 := Aside0.mk (blk_keep hb K9.out)
          have HSO := Aside0.mk (HSO.out.below hb)
          have K10 := Aside0.mk (blk_keep hb K10.out)
          have FF := Aside0.mk (FF.out.below hb)
          have K12 := Aside0.mk (blk_keep hb K12.out)
          have FG := Aside0.mk (FG.out.below hb)
          have K14 := Aside0.mk (blk_keep hb K14.out)
          have K15 := Aside0.mk (blk_keep hb K15.out)
          clear hb
          have gK4 := blk_cell K4.out
          have gK5 := blk_cell K5.out
          have gK9 := blk_cell K9.out
          have gK10 := blk_cell K10.out
          have gK12 := blk_cell K12.out
          have gK14 := blk_cell K14.out
          have gK15 := blk_cell K15.out
          go_wp2_with fail
          clear gK4 gK5 gK9 gK10 gK12 gK14 gK15
          refine (encode_any _ s _ HSO.out HNN.out).mono ?_
          rintro e w12 ⟨v12, l12, ok12, rfl, hn, hb, hl12, hok12⟩
          obtain ⟨A20, c20, rfl⟩ := Kd.N_slice hn
          have HL1 := Aside0.mk hn.sl
          have K4 := Aside0.mk (blk_keep hb K4.out)
          have K5 := Aside0.mk (blk_keep hb K5.out)
          have HB := Aside0.mk (bb HB.out hb)
          have HSC := Aside0.mk (HSC.out.below hb)
          have HTC := Aside0.mk (HTC.out.below hb)
          have K9 := Aside0.mk (blk_keep hb K9.out)
          have HSO := Aside0.mk (HSO.out.below hb)
          have K10 := Aside0.mk (blk_keep hb K10.out)
          have FF := Aside0.mk (FF.out.below hb)
          have K12 := Aside0.mk (blk_keep hb K12.out)
          have FG := Aside0.mk (FG.out.below hb)
          have K14 := Aside0.mk (blk_keep hb K14.out)
          have K15 := Aside0.mk (blk_keep hb K15.out)
          have HQ := Aside0.mk (And.intro hl12 hok12)
          clear hb hn hl12 hok12
          have gK4 := blk_cell K4.out
          have gK5 := blk_cell K5.out
          have gK9 := blk_cell K9.out
          have gK10 := blk_cell K10.out
          have gK12 := blk_cell K12.out
          have gK14 := blk_cell K14.out
          have gK15 := blk_cell K15.out
          go_wp2_with fail
          clear gK4 gK5 gK9 gK10 gK12 gK14 gK15
          refine (refEnc36 _ s _ HSC.out HSZ.out HNN.out).mono ?_
          rintro e w13 ⟨v13, l13, ok13, rfl, hn, hb, hl13, hok13⟩
          obtain ⟨A22, c22, rfl⟩ := Kd.N_slice hn
          obtain rfl : l13 = l12 := hl13.trans HQ.out.1.symm
          obtain rfl : ok13 = ok12 := hok13.trans HQ.out.2.symm
          have HL2 := Aside0.mk hn.sl
          have K4 := Aside0.mk (blk_keep hb K4.out)
          have K5 := Aside0.mk (blk_keep hb K5.out)
          have HB := Aside0.mk (bb HB.out hb)
          have HSC := Aside0.mk (HSC.out.below hb)
          have HTC := Aside0.mk (HTC.out.below hb)
          have K9 := Aside0.mk (blk_keep hb K9.out)
          have HSO := Aside0.mk (HSO.out.below hb)
          have K10 := Aside0.mk (blk_keep hb K10.out)
          have FF := Aside0.mk (FF.out.below hb)
          have K12 := Aside0.mk (blk_keep hb K12.out)
          have FG := Aside0.mk (FG.out.below hb)
          have K14 := Aside0.mk (blk_keep hb K14.out)
          have K15 := Aside0.mk (blk_keep hb K15.out)
          have HL1 := Aside0.mk (HL1.out.below hb)
          clear hb hn hl13 hok13 HQ
          have gK4 := blk_cell K4.out
          have gK5 := blk_cell K5.out
          have gK9 := blk_cell K9.out
          have gK10 := blk_cell K10.out
          have gK12 := blk_cell K12.out
          have gK14 := blk_cell K14.out
          have gK15 := blk_cell K15.out
          go_upto_region 16 with fail
          clear gK4 gK5 gK9 gK10 gK12 gK14 gK15
          refine reg7_16 _ K4 K9 K10 K12 K14 K15 ⟨fun W hb => written_any _ x W (FF.out.below hb) HX.out.1⟩ ⟨fun W hb => wr_eq x ▸ groups38 _ x 2 W (FG.out.below hb) HX.out.1⟩ ⟨fun W hb => gone_any _ x W (FF.out.below hb) HX.out.1⟩ ⟨fun W hb => gone39 _ x W (FG.out.below hb) HX.out.1⟩ ⟨fun W hb => (decide_eq_true (rfl : l13 = l13)) ▸ same40_any _ _ l13 l13 W (HL1.out.below hb) (HL2.out.below hb)⟩ ⟨fun W hb => (eqSch_iff s s).2 rfl ▸ same17_any _ _ s s W (HSO.out.below hb) (HSC.out.below hb)⟩ rfl rfl rfl rfl rfl rfl rfl rfl rfl rfl rfl rfl rfl rfl rfl rfl rfl ?_
          intro A_20 c_20 A_22 c_22 A_27 c_27 A_29 c_29 w14 hb _ _ _ _
          have K4 := Aside0.mk (blk_keep hb K4.out)
          have K5 := Aside0.mk (blk_keep hb K5.out)
          have HB := Aside0.mk (bb HB.out hb)
          have HSC := Aside0.mk (HSC.out.below hb)
          have HTC := Aside0.mk (HTC.out.below hb)
          have K9 := Aside0.mk (blk_keep hb K9.out)
          have HSO := Aside0.mk (HSO.out.below hb)
          have K10 := Aside0.mk (blk_keep hb K10.out)
          have FF := Aside0.mk (FF.out.below hb)
          have K12 := Aside0.mk (blk_keep hb K12.out)
          have FG := Aside0.mk (FG.out.below hb)
          have K14 := Aside0.mk (blk_keep hb K14.out)
          have K15 := Aside0.mk (blk_keep hb K15.out)
          have HL1 := Aside0.mk (HL1.out.below hb)
          have HL2 := Aside0.mk (HL2.out.below hb)
          clear hb
          simp only [Act.put, List.setIfInBounds_toArray, List.set_cons_zero, List.set_cons_succ]
          go_wp2
          go_ret
          exact ⟨rfl, HB.out⟩
end Go.Proofs.Ytmgpoafoljkknaa.My
namespace Go.Proofs.Ytmgpoafoljkknaa.schemaAsks
open Go.ChangeShapes Go.WideShapes Go.ChangeAt Go.RowKit
theorem own : ownKnob Try.prog.godebug = none := by kernel_rfl
theorem laidOut : laidOutB Try.prog = true := by kernel_rfl
set_option maxRecDepth 100000 in
theorem lifted (os : Os) (started : os.Started) (H : Type) (enc : TypeId × Value → H) :
    ReturnsInHanded {} Try.checked os 7 .any (Rows.schemaAsksSpec.pre6 enc Try.prog Try.f7 Rows.schemaAsksRow.domain false) (Rows.schemaAsksSpec.post enc Try.prog Try.f7 false true false false) := by
  refine returnsInHanded_of_change_sized (C := Try.checked) own started (by kernel_rfl) Try.func7
    (ChangeSpec.witness6 (enc := enc) (C := Try.checked) false ⟨#[], #[.agg #[.int .i64 0, .slice none 0 0, .int .i64 0, .string ByteArray.empty, .string ByteArray.empty, .int .i64 0, .int .i64 0, .int .i64 0, .int .i64 0, .int .i64 0], .agg #[.int .i64 0, .slice none 0 0, .int .i64 0, .string ByteArray.empty, .string ByteArray.empty, .int .i64 0, .int .i64 0, .int .i64 0, .int .i64 0, .int .i64 0], .string ByteArray.empty, .string ByteArray.empty], []⟩ 8 (by kernel_rfl) (by kernel_rfl) (by kernel_rfl) (by kernel_rfl)) ?_
  intro W base args ds gs before hval0 hW hcnd hsz0 _
  have hval : ∀ (j : Nat) t v, Try.f7.params[j]? = some t → args[j]? = some v → Value.okWide Try.prog W .any base t v := hval0
  have hW' := hW
  obtain ⟨p, q, hA0, hV, rfl, hfz, hnd⟩ := hW
  have hA : DataW.TrodAll enc Try.prog W 0 (fun _ => true) true Try.f7.params.toList args.toList ds p := hA0
  rw [Try.params7] at hA hval
  obtain ⟨v0, vs0, d0, ds0, p0, q0, hargs, rfl, rfl, h0, r0⟩ := trodAll_cons hA
  obtain ⟨v1, vs1, d1, ds1, p1, q1, rfl, rfl, rfl, h1, r1⟩ := trodAll_cons r0
  obtain ⟨v2, vs2, d2, ds2, p2, q2, rfl, rfl, rfl, h2, r2⟩ := trodAll_cons r1
  obtain ⟨v3, vs3, d3, ds3, p3, q3, rfl, rfl, rfl, h3, r3⟩ := trodAll_cons r2
  obtain ⟨rfl, rfl, rfl⟩ := trodAll_nil r3
  obtain rfl : args = #[v0, v1, v2, v3] := by cases args; simp_all
  obtain ⟨rfl, rfl⟩ := trodVars_none hV
  obtain ⟨cs0, rfl, hcs0⟩ := okWide_struct Try.underlying28 (hval 0 28 v0 rfl rfl)
  obtain ⟨cs1, rfl, hcs1⟩ := okWide_struct Try.underlying28 (hval 1 28 v1 rfl rfl)
  have k0 := h0
  have k1 := h1
  have k2 := h2
  have k3 := h3
  have lt0 : ∀ x ∈ p0, x.block < W.heap.size := by obtain ⟨m, hm⟩ := k0; exact DataW.trod_lt m _ _ _ hm
  have lt1 : ∀ x ∈ p1, x.block < W.heap.size := by obtain ⟨m, hm⟩ := k1; exact DataW.trod_lt m _ _ _ hm
  have lt2 : ∀ x ∈ p2, x.block < W.heap.size := by obtain ⟨m, hm⟩ := k2; exact DataW.trod_lt m _ _ _ hm
  have lt3 : ∀ x ∈ p3, x.block < W.heap.size := by obtain ⟨m, hm⟩ := k3; exact DataW.trod_lt m _ _ _ hm
  obtain ⟨s, hs, hg⟩ : ∃ s, My.Sc W (.agg cs0) s ∧ My.gSch s := by
    obtain ⟨fuel, hf⟩ := h0
    exact My.o28 fuel cs0.toList _ hf
  obtain ⟨t, ht, hgt⟩ : ∃ s, My.Sc W (.agg cs1) s ∧ My.gSch s := by
    obtain ⟨fuel, hf⟩ := h1
    exact My.o28 fuel cs1.toList _ hf
  obtain ⟨f, rfl⟩ := okWide_string Try.underlying9 (hval 2 9 v2 rfl rfl)
  obtain ⟨u, rfl⟩ := okWide_string Try.underlying9 (hval 3 9 v3 rfl rfl)
  clear hA0 hval0 hsz0
  refine (My.asks_any (.agg cs0) (.agg cs1) s t f u W hs ht hg).mono fun e W' ⟨he, bel⟩ => ?_
  subst he
  exact ⟨_, rfl, _, _, _, [], _, [], hW', trodAll_mk1 (shut_bool Try.underlying4 _), trodAll_cons_mk (Below.trod laidOut (by kernel_rfl) (of_decide_eq_true (by kernel_rfl)) k0 bel lt0) (trodAll_cons_mk (Below.trod laidOut (by kernel_rfl) (of_decide_eq_true (by kernel_rfl)) k1 bel lt1) (trodAll_cons_mk (Below.trod laidOut (by kernel_rfl) (of_decide_eq_true (by kernel_rfl)) k2 bel lt2) (trodAll_cons_mk (Below.trod laidOut (by kernel_rfl) (of_decide_eq_true (by kernel_rfl)) k3 bel lt3) trodAll_mk0))), rfl, bel.frame _, fun h => by cases h⟩
theorem over : Rows.schemaAsksRow.holds Try.pinned (OpenSpec.ofChange Rows.schemaAsksSpec) :=
  OpenClaim.holds_of_wide 7 Try.f7 rfl rfl rfl rfl rfl rfl rfl ⟨rfl, rfl, rfl, rfl, rfl⟩ rfl rfl rfl rfl rfl (by kernel_rfl) Try.func7 (by kernel_rfl)
    (of_decide_eq_true (by kernel_rfl)) (by unfold Func.isWrapper; first | (rw [if_pos (by decide +kernel)]; kernel_rfl) | (rw [if_neg (by decide +kernel)]; exact ⟨rfl, rfl⟩))
    (fun os started H enc _ => lifted os started H enc)
theorem proved : Rows.SchemaAsksSaid := over
end Go.Proofs.Ytmgpoafoljkknaa.schemaAsks
namespace Go.Proofs.Ytmgpoafoljkknaa
/-- The row, under a short name, for the claim. -/
theorem schemaAsks_holds : Rows.SchemaAsksSaid := schemaAsks.proved
end Go.Proofs.Ytmgpoafoljkknaa
