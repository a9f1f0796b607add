/- joistlaw14.SchemaReads returns true and leaves its arguments as they read. Conditions: none beyond the row's own. -/
import Derived.Test.YtmgpoafoljkknaaRows
import Derived.Test.YtmgpoafoljkknaaK8
import Derived.WalkKit
import Derived.ProofKit
import Derived.OpenShut
import Derived.ShutString
import Derived.ChangeOld
import Derived.Below
import Derived.SizedLaws
namespace Go.Proofs.Ytmgpoafoljkknaa.My
open Go.RowKit Go.Proofs.YtmgpoafoljkknaaW.PrintWords Go.Proofs.YtmgpoafoljkknaaW.PrintLast Go.Proofs.YtmgpoafoljkknaaW.PrintMore PSchemaReads
theorem cells5 : Try.prog.cellsOf 5 = 1 := by kernel_rfl
section
variable {H : Type} {enc : TypeId × Value → H} {w : World} {base : Nat} {sp : Nat → Bool} {held : Bool}
theorem o5 (fuel : Nat) (cs : List Value) (x : DataW H × List MemPlace) (h : DataW.trod enc Try.prog w base sp held fuel 5 cs = some x) : ∃ y, kB.K w y cs ∧ True := by
  obtain ⟨n, h1, _, h2⟩ := DataW.trod_int Try.underlying5 h
  simp only [Lit.wf, Bool.and_eq_true, decide_eq_true_eq] at h2
  have h3 : 0 ≤ n ∧ n ≤ 255 := h2
  refine ⟨UInt8.ofNat n.toNat, ?_, trivial⟩
  show cs = [.int .u8 ((UInt8.ofNat n.toNat).toNat : Int)]
  have h4 : ((UInt8.ofNat n.toNat).toNat : Int) = n := by simp; omega
  rw [h1, h4]
theorem o22 {fuel : Nat} {v : Value} {x : DataW H × List MemPlace} (h : DataW.trod enc Try.prog w base sp held fuel 22 [v] = some x) : ∃ b, Sl kB w v b := by
  obtain ⟨b, A, c, e, h1, h2, _⟩ := o_slice kB (fun _ => True) Try.underlying22 cells5 o5 h
  injection e with e
  subst e
  exact ⟨b, A, c, rfl, h1, h2⟩
end
set_option maxHeartbeats 4000000 in
set_option maxRecDepth 100000 in
theorem reads_any (v : Value) (b : List UInt8) (w : World) (hs : Sl kB w v b) : Calls Try.prog 3 #[v] w (RetB w true) := by
  have hmax := hs.len
  obtain ⟨A, c, rfl, hc, hC⟩ := hs
  have HV := Aside0.mk (show Sl kB w (.slice A b.length c) b from ⟨A, c, rfl, hc, hC⟩)
  clear hc hC
  go_enter Try.func3, Try.ntmps3
  go_wp2_with fail
  refine (alive_any _).mono ?_
  rintro e w1 ⟨rfl, hb⟩
  have HB1 := Aside0.mk hb
  clear hb
  by_cases hlong : 2000 < (b.length : Int)
  · go_wp2
    go_ret
    exact ⟨rfl, HB1.out⟩
  · have hl : b.length ≤ 1000000 := by omega
    have HD1 := Aside0.mk (decode_any _ b w1 (HV.out.below HB1.out) hl)
    have HD2 := Aside0.mk (fun W (hb : Below w.heap.size w W) => refDec16 _ b W (HV.out.below hb) hl)
    clear hl
    go_wp2_with fail
    refine HD1.out.mono ?_
    rintro e w2 ⟨v2, ok2, s2, rfl, hs2, hb, e1, e2⟩
    have HE := Aside0.mk (And.intro e1 e2)
    obtain ⟨vf2, rfl, hsl2⟩ := hs2
    obtain ⟨A2, c2, rfl, hc2, hC2⟩ := hsl2
    have HS2 := Aside0.mk (show Sc w2 (Vs s2 (.slice A2 s2.fams.length c2)) s2 from ⟨_, rfl, A2, c2, rfl, hc2, hC2⟩)
    have HA2 := Aside0.mk (blk_new w2 #[.int .i64 s2.ver, .slice A2 s2.fams.length c2, .int .i64 s2.kind, .string s2.fam, .string s2.qual, .int .i64 s2.typ, .int .i64 s2.grp, .int .i64 s2.vers, .int .i64 s2.life, .int .i64 s2.step] 28)
    have HB2 := Aside0.mk (bba (bb HB1.out hb) (.cells #[.int .i64 s2.ver, .slice A2 s2.fams.length c2, .int .i64 s2.kind, .string s2.fam, .string s2.qual, .int .i64 s2.typ, .int .i64 s2.grp, .int .i64 s2.vers, .int .i64 s2.life, .int .i64 s2.step] 28))
    have HC2 := Aside0.mk (below_alloc (Below.refl w2.heap.size w2) (.cells #[.int .i64 s2.ver, .slice A2 s2.fams.length c2, .int .i64 s2.kind, .string s2.fam, .string s2.qual, .int .i64 s2.typ, .int .i64 s2.grp, .int .i64 s2.vers, .int .i64 s2.life, .int .i64 s2.step] 28))
    clear hb hc2 hC2 e1 e2
    go_wp2_with fail
    refine (HD2.out _ HB2.out).mono ?_
    rintro e w3 ⟨v3, ok3, s3, rfl, hs3, hb, e3, e4⟩
    obtain rfl : s3 = s2 := e3.trans HE.out.1.symm
    obtain rfl : ok3 = ok2 := e4.trans HE.out.2.symm
    obtain ⟨vf3, rfl, hsl3⟩ := hs3
    obtain ⟨A3, c3, rfl, hc3, hC3⟩ := hsl3
    have HS3 := Aside0.mk (show Sc w3 (Vs s3 (.slice A3 s3.fams.length c3)) s3 from ⟨_, rfl, A3, c3, rfl, hc3, hC3⟩)
    have HA3 := Aside0.mk (blk_new w3 #[.int .i64 s3.ver, .slice A3 s3.fams.length c3, .int .i64 s3.kind, .string s3.fam, .string s3.qual, .int .i64 s3.typ, .int .i64 s3.grp, .int .i64 s3.vers, .int .i64 s3.life, .int .i64 s3.step] 28)
    have HA23 := Aside0.mk (blk_old (blk_keep hb HA2.out) (.cells #[.int .i64 s3.ver, .slice A3 s3.fams.length c3, .int .i64 s3.kind, .string s3.fam, .string s3.qual, .int .i64 s3.typ, .int .i64 s3.grp, .int .i64 s3.vers, .int .i64 s3.life, .int .i64 s3.step] 28))
    have HB3 := Aside0.mk (bba (bb HB2.out hb) (.cells #[.int .i64 s3.ver, .slice A3 s3.fams.length c3, .int .i64 s3.kind, .string s3.fam, .string s3.qual, .int .i64 s3.typ, .int .i64 s3.grp, .int .i64 s3.vers, .int .i64 s3.life, .int .i64 s3.step] 28))
    have HC23 := Aside0.mk (bba (bb HC2.out hb) (.cells #[.int .i64 s3.ver, .slice A3 s3.fams.length c3, .int .i64 s3.kind, .string s3.fam, .string s3.qual, .int .i64 s3.typ, .int .i64 s3.grp, .int .i64 s3.vers, .int .i64 s3.life, .int .i64 s3.step] 28))
    have HC3 := Aside0.mk (below_alloc (Below.refl w3.heap.size w3) (.cells #[.int .i64 s3.ver, .slice A3 s3.fams.length c3, .int .i64 s3.kind, .string s3.fam, .string s3.qual, .int .i64 s3.typ, .int .i64 s3.grp, .int .i64 s3.vers, .int .i64 s3.life, .int .i64 s3.step] 28))
    have HS17 := Aside0.mk (fun v u W (h : Sc W v s3) (h2 : Sc W u s3) => (eqSch_iff s3 s3).2 rfl ▸ same17_any v u s3 s3 W h h2)
    have gc2 := blk_cell HA23.out
    have gc3 := blk_cell HA3.out
    clear hb hc3 hC3 e3 e4 HE
    cases ok3
    all_goals
      go_wp2_with fail
      refine (HS17.out _ _ _ (HS2.out.below HC23.out) (HS3.out.below HC3.out)).mono ?_
      rintro e w4 ⟨rfl, hb⟩
      have HB4 := Aside0.mk (bb HB3.out hb)
      clear hb
      go_wp2
      go_ret
      exact ⟨rfl, HB4.out⟩
end Go.Proofs.Ytmgpoafoljkknaa.My
namespace Go.Proofs.Ytmgpoafoljkknaa.schemaReads
open Go.ChangeShapes Go.WideShapes Go.ChangeAt Go.RowKit
theorem own : ownKnob Try.prog.godebug = none := by kernel_rfl
theorem laidOut : laidOutB Try.prog = true := by kernel_rfl
set_option maxRecDepth 100000 in
theorem lifted (os : Os) (started : os.Started) (H : Type) (enc : TypeId × Value → H) :
    ReturnsInHanded {} Try.checked os 3 .any (Rows.schemaReadsSpec.pre6 enc Try.prog Try.f3 Rows.schemaReadsRow.domain false) (Rows.schemaReadsSpec.post enc Try.prog Try.f3 false true false false) := by
  refine returnsInHanded_of_change_sized (C := Try.checked) own started (by kernel_rfl) Try.func3
    (ChangeSpec.witness6 (enc := enc) (C := Try.checked) false ⟨#[], #[.slice none 0 0], []⟩ 8 (by kernel_rfl) (by kernel_rfl) (by kernel_rfl) (by kernel_rfl)) ?_
  intro W base args ds gs before hval0 hW hcnd hsz0 _
  have hval : ∀ (j : Nat) t v, Try.f3.params[j]? = some t → args[j]? = some v → Value.okWide Try.prog W .any base t v := hval0
  have hW' := hW
  obtain ⟨p, q, hA0, hV, rfl, hfz, hnd⟩ := hW
  have hA : DataW.TrodAll enc Try.prog W 0 (fun _ => true) true Try.f3.params.toList args.toList ds p := hA0
  rw [Try.params3] at hA hval
  obtain ⟨v0, vs0, d0, ds0, p0, q0, hargs, rfl, rfl, h0, r0⟩ := trodAll_cons hA
  obtain ⟨rfl, rfl, rfl⟩ := trodAll_nil r0
  obtain rfl : args = #[v0] := by cases args; simp_all
  obtain ⟨rfl, rfl⟩ := trodVars_none hV
  obtain ⟨a0, len0, cap0, rfl⟩ := Go.WideShapes.okWide_slice Try.underlying22 (hval 0 22 v0 rfl rfl)
  have k0 := h0
  have lt0 : ∀ x ∈ p0, x.block < W.heap.size := by obtain ⟨m, hm⟩ := k0; exact DataW.trod_lt m _ _ _ hm
  obtain ⟨b, hb⟩ : ∃ b, My.Sl My.kB W (.slice a0 len0 cap0) b := by
    obtain ⟨fuel, hf⟩ := h0
    exact My.o22 hf
  clear hA0 hval0 hsz0
  refine (My.reads_any (.slice a0 len0 cap0) b W hb).mono fun e W' ⟨he, bel⟩ => ?_
  subst he
  exact ⟨_, rfl, _, _, _, [], _, [], hW', trodAll_mk1 (shut_bool Try.underlying4 _), trodAll_cons_mk (Below.trod laidOut (by kernel_rfl) (of_decide_eq_true (by kernel_rfl)) k0 bel lt0) trodAll_mk0, rfl, bel.frame _, fun h => by cases h⟩
theorem over : Rows.schemaReadsRow.holds Try.pinned (OpenSpec.ofChange Rows.schemaReadsSpec) :=
  OpenClaim.holds_of_wide 3 Try.f3 rfl rfl rfl rfl rfl rfl rfl ⟨rfl, rfl, rfl, rfl, rfl⟩ rfl rfl rfl rfl rfl (by kernel_rfl) Try.func3 (by kernel_rfl)
    (of_decide_eq_true (by kernel_rfl)) (by unfold Func.isWrapper; first | (rw [if_pos (by decide +kernel)]; kernel_rfl) | (rw [if_neg (by decide +kernel)]; exact ⟨rfl, rfl⟩))
    (fun os started H enc _ => lifted os started H enc)
theorem proved : Rows.SchemaReadsSaid := over
end Go.Proofs.Ytmgpoafoljkknaa.schemaReads
namespace Go.Proofs.Ytmgpoafoljkknaa
/-- The row, under a short name, for the claim. -/
theorem schemaReads_holds : Rows.SchemaReadsSaid := schemaReads.proved
end Go.Proofs.Ytmgpoafoljkknaa
