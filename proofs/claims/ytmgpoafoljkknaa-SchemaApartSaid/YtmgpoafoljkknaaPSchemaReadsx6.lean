-- PRINTED BY print.sh 35421559b90ae4d0a3588c463048766b98c2df88dd9212a6774a882060cdf62d: not written by this session
import Derived.Test.YtmgpoafoljkknaaPSchemaReadsx0
import Derived.Test.YtmgpoafoljkknaaPSchemaReadsx1
import Derived.Test.YtmgpoafoljkknaaPSchemaReadsx5
namespace Go.Proofs.Ytmgpoafoljkknaa.PSchemaReads
open Go.RowKit Go.Proofs.YtmgpoafoljkknaaW.PrintWords Go.Proofs.YtmgpoafoljkknaaW.PrintLast Go.Proofs.YtmgpoafoljkknaaW.PrintMore
attribute [local go_sem] max2_int min2_int max_two min_two max_three min_three max_four min_four   -- for this text's walks alone
set_option linter.unusedVariables false
set_option linter.unusedSimpArgs false

attribute [local go_sem high] eqA26
/-! ### joistref00_SameSchema: function 17 -/
mutual
def joistref00_SameSchema.j0 : Nat → Bool → Int → List (S40) → Int → ByteArray → ByteArray → Int → Int → Int → Int → Int → Int → List (S40) → Int → ByteArray → ByteArray → Int → Int → Int → Int → Int → Option (Bool)
  | 0, _, _, _, _, _, _, _, _, _, _, _, _, _, _, _, _, _, _, _, _, _ => none
  | k + 1, x33, x140000, x140001, x140002, x140003, x140004, x140005, x140006, x140007, x140008, x140009, x141000, x141001, x141002, x141003, x141004, x141005, x141006, x141007, x141008, x141009 => if x33 = true then (some false) else (joistref00_SameSchema.l0 k 0 x140000 x140001 x140002 x140003 x140004 x140005 x140006 x140007 x140008 x140009 x141000 x141001 x141002 x141003 x141004 x141005 x141006 x141007 x141008 x141009)
def joistref00_SameSchema.l0 : Nat → Int → Int → List (S40) → Int → ByteArray → ByteArray → Int → Int → Int → Int → Int → Int → List (S40) → Int → ByteArray → ByteArray → Int → Int → Int → Int → Int → Option (Bool)
  | 0, _, _, _, _, _, _, _, _, _, _, _, _, _, _, _, _, _, _, _, _, _ => none
  | k + 1, x5, x140000, x140001, x140002, x140003, x140004, x140005, x140006, x140007, x140008, x140009, x141000, x141001, x141002, x141003, x141004, x141005, x141006, x141007, x141008, x141009 => if x5 < (x140001.length : Int) then (if 0 ≤ x5 then (if x5 < (x141001.length : Int) then ((joistref00_SameFamily.f k ((rd_T40 x140001 x5).f0) ((rd_T40 x140001 x5).f1) ((rd_T40 x140001 x5).f2) ((rd_T40 x140001 x5).f3) ((rd_T40 x140001 x5).f4) ((rd_T40 x141001 x5).f0) ((rd_T40 x141001 x5).f1) ((rd_T40 x141001 x5).f2) ((rd_T40 x141001 x5).f3) ((rd_T40 x141001 x5).f4)).bind fun t143 => (if t143 = true then (joistref00_SameSchema.l0 k (wrap64 (x5 + 1)) x140000 x140001 x140002 x140003 x140004 x140005 x140006 x140007 x140008 x140009 x141000 x141001 x141002 x141003 x141004 x141005 x141006 x141007 x141008 x141009) else (some false))) else (none)) else (none)) else (some true)
end
def joistref00_SameSchema.f (k : Nat) (a0_0 : Int) (l0_1 : List (S40)) (a0_2 : Int) (a0_3 : ByteArray) (a0_4 : ByteArray) (a0_5 : Int) (a0_6 : Int) (a0_7 : Int) (a0_8 : Int) (a0_9 : Int) (a1_0 : Int) (l1_1 : List (S40)) (a1_2 : Int) (a1_3 : ByteArray) (a1_4 : ByteArray) (a1_5 : Int) (a1_6 : Int) (a1_7 : Int) (a1_8 : Int) (a1_9 : Int) : Option (Bool) := if a0_0 = a1_0 then (if (!(a0_2 == a1_2) || (!(a0_3.toList == a1_3.toList) || (!(a0_4.toList == a1_4.toList) || (!(a0_5 == a1_5) || (!(a0_6 == a1_6) || (!(a0_7 == a1_7) || (!(a0_8 == a1_8)))))))) = true then (joistref00_SameSchema.j0 k true a0_0 l0_1 a0_2 a0_3 a0_4 a0_5 a0_6 a0_7 a0_8 a0_9 a1_0 l1_1 a1_2 a1_3 a1_4 a1_5 a1_6 a1_7 a1_8 a1_9) else (if a0_9 = a1_9 then (joistref00_SameSchema.j0 k ((l0_1.length : Int) != (l1_1.length : Int)) a0_0 l0_1 a0_2 a0_3 a0_4 a0_5 a0_6 a0_7 a0_8 a0_9 a1_0 l1_1 a1_2 a1_3 a1_4 a1_5 a1_6 a1_7 a1_8 a1_9) else (joistref00_SameSchema.j0 k true a0_0 l0_1 a0_2 a0_3 a0_4 a0_5 a0_6 a0_7 a0_8 a0_9 a1_0 l1_1 a1_2 a1_3 a1_4 a1_5 a1_6 a1_7 a1_8 a1_9))) else (joistref00_SameSchema.j0 k true a0_0 l0_1 a0_2 a0_3 a0_4 a0_5 a0_6 a0_7 a0_8 a0_9 a1_0 l1_1 a1_2 a1_3 a1_4 a1_5 a1_6 a1_7 a1_8 a1_9)
theorem joistref00_SameSchema.mono_l : ∀ k, (∀ y0 y1 y2 y3 y4 y5 y6 y7 y8 y9 y10 y11 y12 y13 y14 y15 y16 y17 y18 y19 y20, LeO (joistref00_SameSchema.j0 k y0 y1 y2 y3 y4 y5 y6 y7 y8 y9 y10 y11 y12 y13 y14 y15 y16 y17 y18 y19 y20) (joistref00_SameSchema.j0 (k + 1) y0 y1 y2 y3 y4 y5 y6 y7 y8 y9 y10 y11 y12 y13 y14 y15 y16 y17 y18 y19 y20)) ∧ (∀ y0 y1 y2 y3 y4 y5 y6 y7 y8 y9 y10 y11 y12 y13 y14 y15 y16 y17 y18 y19 y20, LeO (joistref00_SameSchema.l0 k y0 y1 y2 y3 y4 y5 y6 y7 y8 y9 y10 y11 y12 y13 y14 y15 y16 y17 y18 y19 y20) (joistref00_SameSchema.l0 (k + 1) y0 y1 y2 y3 y4 y5 y6 y7 y8 y9 y10 y11 y12 y13 y14 y15 y16 y17 y18 y19 y20))
  | 0 => ⟨fun _ _ _ _ _ _ _ _ _ _ _ _ _ _ _ _ _ _ _ _ _ r h => by simp [joistref00_SameSchema.j0] at h, fun _ _ _ _ _ _ _ _ _ _ _ _ _ _ _ _ _ _ _ _ _ r h => by simp [joistref00_SameSchema.l0] at h⟩
  | k + 1 => by
    obtain ⟨ih0, ih1⟩ := joistref00_SameSchema.mono_l k
    refine ⟨?_, ?_⟩
    · intro y0 y1 y2 y3 y4 y5 y6 y7 y8 y9 y10 y11 y12 y13 y14 y15 y16 y17 y18 y19 y20
      unfold joistref00_SameSchema.j0
      repeat' first
      | (with_reducible exact ih0 _ _ _ _ _ _ _ _ _ _ _ _ _ _ _ _ _ _ _ _ _)
      | (with_reducible exact ih1 _ _ _ _ _ _ _ _ _ _ _ _ _ _ _ _ _ _ _ _ _)
      | (with_reducible exact joistref00_SameFamily.mono _ _ _ _ _ _ _ _ _ _ _)
      | (with_reducible exact LeO.refl _)
      | (with_reducible exact LeO.none _)
      | (with_reducible refine LeO.ite ?_ ?_)
      | (with_reducible refine LeO.bind ?_ (fun _ => ?_))
      | exact ih0 _ _ _ _ _ _ _ _ _ _ _ _ _ _ _ _ _ _ _ _ _
      | exact ih1 _ _ _ _ _ _ _ _ _ _ _ _ _ _ _ _ _ _ _ _ _
      | exact joistref00_SameFamily.mono _ _ _ _ _ _ _ _ _ _ _
      | exact LeO.none _
      | refine LeO.ite ?_ ?_
      | refine LeO.bind ?_ (fun _ => ?_)
    · intro y0 y1 y2 y3 y4 y5 y6 y7 y8 y9 y10 y11 y12 y13 y14 y15 y16 y17 y18 y19 y20
      unfold joistref00_SameSchema.l0
      repeat' first
      | (with_reducible exact ih0 _ _ _ _ _ _ _ _ _ _ _ _ _ _ _ _ _ _ _ _ _)
      | (with_reducible exact ih1 _ _ _ _ _ _ _ _ _ _ _ _ _ _ _ _ _ _ _ _ _)
      | (with_reducible exact joistref00_SameFamily.mono _ _ _ _ _ _ _ _ _ _ _)
      | (with_reducible exact LeO.refl _)
      | (with_reducible exact LeO.none _)
      | (with_reducible refine LeO.ite ?_ ?_)
      | (with_reducible refine LeO.bind ?_ (fun _ => ?_))
      | exact ih0 _ _ _ _ _ _ _ _ _ _ _ _ _ _ _ _ _ _ _ _ _
      | exact ih1 _ _ _ _ _ _ _ _ _ _ _ _ _ _ _ _ _ _ _ _ _
      | exact joistref00_SameFamily.mono _ _ _ _ _ _ _ _ _ _ _
      | exact LeO.none _
      | refine LeO.ite ?_ ?_
      | refine LeO.bind ?_ (fun _ => ?_)
theorem joistref00_SameSchema.mono : ∀ a0 a1 a2 a3 a4 a5 a6 a7 a8 a9 a10 a11 a12 a13 a14 a15 a16 a17 a18 a19 k, LeO (joistref00_SameSchema.f k a0 a1 a2 a3 a4 a5 a6 a7 a8 a9 a10 a11 a12 a13 a14 a15 a16 a17 a18 a19) (joistref00_SameSchema.f (k + 1) a0 a1 a2 a3 a4 a5 a6 a7 a8 a9 a10 a11 a12 a13 a14 a15 a16 a17 a18 a19) := by
  intro a0 a1 a2 a3 a4 a5 a6 a7 a8 a9 a10 a11 a12 a13 a14 a15 a16 a17 a18 a19 k
  obtain ⟨ih0, ih1⟩ := joistref00_SameSchema.mono_l k
  unfold joistref00_SameSchema.f
  repeat' first
      | (with_reducible exact ih0 _ _ _ _ _ _ _ _ _ _ _ _ _ _ _ _ _ _ _ _ _)
      | (with_reducible exact ih1 _ _ _ _ _ _ _ _ _ _ _ _ _ _ _ _ _ _ _ _ _)
      | (with_reducible exact joistref00_SameFamily.mono _ _ _ _ _ _ _ _ _ _ _)
      | (with_reducible exact LeO.refl _)
      | (with_reducible exact LeO.none _)
      | (with_reducible refine LeO.ite ?_ ?_)
      | (with_reducible refine LeO.bind ?_ (fun _ => ?_))
      | exact ih0 _ _ _ _ _ _ _ _ _ _ _ _ _ _ _ _ _ _ _ _ _
      | exact ih1 _ _ _ _ _ _ _ _ _ _ _ _ _ _ _ _ _ _ _ _ _
      | exact joistref00_SameFamily.mono _ _ _ _ _ _ _ _ _ _ _
      | exact LeO.none _
      | refine LeO.ite ?_ ?_
      | refine LeO.bind ?_ (fun _ => ?_)
def joistref00_SameSchema.T6 : Bool × List (List Nat × List Nat) := (true, [([], []), ([0], [0]), ([], []), ([1, 2], [1, 2]), ([3], [3]), ([], []), ([5], [5]), ([], []), ([6, 7], [6, 7]), ([8], [8]), ([4, 9], [4, 9]), ([10], [10])])
def joistref00_SameSchema.B6 : List Nat := [0, 1, 0, 7, 15, 0, 32, 0, 224, 480, 1023, 2047]
theorem joistref00_SameSchema.tab6 : rtab .any (opsOf Try.f17 6) = joistref00_SameSchema.T6 := by kernel_rfl
theorem joistref00_SameSchema.bits6 : waitsOk joistref00_SameSchema.T6.2 joistref00_SameSchema.B6 = true := by kernel_rfl
set_option maxHeartbeats 8000000 in
set_option maxRecDepth 100000 in
theorem joistref00_SameSchema.calls (k : Nat) (a0_0 : Int) (A0_1 : Option Addr) (c0_1 : Nat) (l0_1 : List (S40)) (a0_2 : Int) (a0_3 : ByteArray) (a0_4 : ByteArray) (a0_5 : Int) (a0_6 : Int) (a0_7 : Int) (a0_8 : Int) (a0_9 : Int) (a1_0 : Int) (A1_1 : Option Addr) (c1_1 : Nat) (l1_1 : List (S40)) (a1_2 : Int) (a1_3 : ByteArray) (a1_4 : ByteArray) (a1_5 : Int) (a1_6 : Int) (a1_7 : Int) (a1_8 : Int) (a1_9 : Int) (r : Bool) (w : World) (hr0_1 : Kd.C k40 w A0_1 l0_1.length l0_1) (hc0_1 : l0_1.length ≤ c0_1) (hr1_1 : Kd.C k40 w A1_1 l1_1.length l1_1) (hc1_1 : l1_1.length ≤ c1_1) (h : joistref00_SameSchema.f k a0_0 l0_1 a0_2 a0_3 a0_4 a0_5 a0_6 a0_7 a0_8 a0_9 a1_0 l1_1 a1_2 a1_3 a1_4 a1_5 a1_6 a1_7 a1_8 a1_9 = some r) :
    Calls Try.prog 17 #[.agg #[.int .i64 a0_0, .slice A0_1 l0_1.length c0_1, .int .i64 a0_2, .string a0_3, .string a0_4, .int .i64 a0_5, .int .i64 a0_6, .int .i64 a0_7, .int .i64 a0_8, .int .i64 a0_9], .agg #[.int .i64 a1_0, .slice A1_1 l1_1.length c1_1, .int .i64 a1_2, .string a1_3, .string a1_4, .int .i64 a1_5, .int .i64 a1_6, .int .i64 a1_7, .int .i64 a1_8, .int .i64 a1_9]] w fun e w' => e = .returned (.bool r) ∧ Below w.heap.size w w' := by
  have hu28 := Try.underlying28
  have hu26 := Try.underlying26
  have hu40 := Try.underlying40
  have HR0_1 := Aside0.mk hr0_1
  have HC0_1 := Aside0.mk hc0_1
  clear hr0_1 hc0_1
  have HR1_1 := Aside0.mk hr1_1
  have HC1_1 := Aside0.mk hc1_1
  clear hr1_1 hc1_1
  have HB := Aside0.mk (Below.refl w.heap.size w)
  have H : (if a0_0 = a1_0 then (if (!(a0_2 == a1_2) || (!(a0_3.toList == a1_3.toList) || (!(a0_4.toList == a1_4.toList) || (!(a0_5 == a1_5) || (!(a0_6 == a1_6) || (!(a0_7 == a1_7) || (!(a0_8 == a1_8)))))))) = true then (joistref00_SameSchema.j0 k true a0_0 l0_1 a0_2 a0_3 a0_4 a0_5 a0_6 a0_7 a0_8 a0_9 a1_0 l1_1 a1_2 a1_3 a1_4 a1_5 a1_6 a1_7 a1_8 a1_9) else (if a0_9 = a1_9 then (joistref00_SameSchema.j0 k ((l0_1.length : Int) != (l1_1.length : Int)) a0_0 l0_1 a0_2 a0_3 a0_4 a0_5 a0_6 a0_7 a0_8 a0_9 a1_0 l1_1 a1_2 a1_3 a1_4 a1_5 a1_6 a1_7 a1_8 a1_9) else (joistref00_SameSchema.j0 k true a0_0 l0_1 a0_2 a0_3 a0_4 a0_5 a0_6 a0_7 a0_8 a0_9 a1_0 l1_1 a1_2 a1_3 a1_4 a1_5 a1_6 a1_7 a1_8 a1_9))) else (joistref00_SameSchema.j0 k true a0_0 l0_1 a0_2 a0_3 a0_4 a0_5 a0_6 a0_7 a0_8 a0_9 a1_0 l1_1 a1_2 a1_3 a1_4 a1_5 a1_6 a1_7 a1_8 a1_9)) = some r := h
  clear h
  have HC3 := Aside0.mk H
  clear H
  go_enter Try.func17, Try.ntmps17
  go_upto_region 1 with (first | ((with_reducible refine gate_dst (N := 2) rfl ?_); (try (refine gate_guard (by rfl) ?_; dsimp only)); refine box_event ?hg (N := 2) ?hd (cs := #[.int .i64 a0_0, .slice A0_1 l0_1.length c0_1, .int .i64 a0_2, .string a0_3, .string a0_4, .int .i64 a0_5, .int .i64 a0_6, .int .i64 a0_7, .int .i64 a0_8, .int .i64 a0_9]) (t := 28) ?hr ?_; (case hd => rfl); (case hg => rfl); (case hr => first | (go_simp; done) | (go_simp; rfl)); intro gb139 hg w4 hbox hb; have n0_ := Aside0.mk (below_step (by repeat (first | (with_reducible first | exact HB.out | apply below_alloc | apply pw_below_drewN | apply below_drew1) | exact HB.out)) hb); have n1_ := Aside0.mk (hbox); have n2_ := Aside0.mk ((by rw [hg]; exact (below_size (by repeat (first | (with_reducible first | exact HB.out | apply below_alloc | apply pw_below_drewN | apply below_drew1) | exact HB.out))) : w.heap.size ≤ gb139)); have n3_ := Aside0.mk ((by rw [hg]; exact (below_size (by repeat (first | (with_reducible first | exact HB.out | apply below_alloc | apply pw_below_drewN | apply below_drew1) | exact HB.out))) : w.heap.size ≤ gb139)); clear HB; have HB := n0_; have BK139 := n1_; have GW139 := n2_; have GE139 := n3_; clear n0_ n1_ n2_ n3_; clear hb hbox hg) | ((with_reducible refine gate_dst (N := 3) rfl ?_); (try (refine gate_guard (by rfl) ?_; dsimp only)); refine box_event ?hg (N := 3) ?hd (cs := #[.int .i64 a1_0, .slice A1_1 l1_1.length c1_1, .int .i64 a1_2, .string a1_3, .string a1_4, .int .i64 a1_5, .int .i64 a1_6, .int .i64 a1_7, .int .i64 a1_8, .int .i64 a1_9]) (t := 28) ?hr ?_; (case hd => rfl); (case hg => rfl); (case hr => first | (go_simp; done) | (go_simp; rfl)); intro gb140 hg w5 hbox hb; have n0_ := Aside0.mk (blk_below (g := gb139) (o := .cells #[.int .i64 a0_0, .slice A0_1 l0_1.length c0_1, .int .i64 a0_2, .string a0_3, .string a0_4, .int .i64 a0_5, .int .i64 a0_6, .int .i64 a0_7, .int .i64 a0_8, .int .i64 a0_9] 28 (0, 0)) (by (with_reducible repeat (first | refine blk_drewN ?_ _ | refine blk_drew ?_ | refine blk_alloc ?_ _)); exact BK139.out) hb); have n1_ := Aside0.mk (below_step (by repeat (first | (with_reducible first | exact HB.out | apply below_alloc | apply pw_below_drewN | apply below_drew1 | refine below_set ?_ GE139.out) | exact HB.out)) hb); have n2_ := Aside0.mk (hbox); have n3_ := Aside0.mk ((by rw [hg]; exact (below_size (by repeat (first | (with_reducible first | exact HB.out | apply below_alloc | apply pw_below_drewN | apply below_drew1 | refine below_set ?_ GE139.out) | exact HB.out))) : w.heap.size ≤ gb140)); have n4_ := Aside0.mk ((by rw [hg]; exact (below_size (by repeat (first | (with_reducible first | exact HB.out | apply below_alloc | apply pw_below_drewN | apply below_drew1 | refine below_set ?_ GE139.out) | exact HB.out))) : w.heap.size ≤ gb140)); have n5_ := Aside0.mk ((by rw [hg]; exact Nat.ne_of_lt (blk_lt (g := gb139) (o := .cells #[.int .i64 a0_0, .slice A0_1 l0_1.length c0_1, .int .i64 a0_2, .string a0_3, .string a0_4, .int .i64 a0_5, .int .i64 a0_6, .int .i64 a0_7, .int .i64 a0_8, .int .i64 a0_9] 28 (0, 0)) (by (with_reducible repeat (first | refine blk_drewN ?_ _ | refine blk_drew ?_ | refine blk_alloc ?_ _)); exact BK139.out)) : gb139 ≠ gb140)); have n6_ := Aside0.mk ((by rw [hg]; exact Nat.ne_of_gt (blk_lt (g := gb139) (o := .cells #[.int .i64 a0_0, .slice A0_1 l0_1.length c0_1, .int .i64 a0_2, .string a0_3, .string a0_4, .int .i64 a0_5, .int .i64 a0_6, .int .i64 a0_7, .int .i64 a0_8, .int .i64 a0_9] 28 (0, 0)) (by (with_reducible repeat (first | refine blk_drewN ?_ _ | refine blk_drew ?_ | refine blk_alloc ?_ _)); exact BK139.out)) : gb140 ≠ gb139)); clear BK139; clear HB; have BK139 := n0_; have HB := n1_; have BK140 := n2_; have GW140 := n3_; have GE140 := n4_; have NB139_140 := n5_; have NB140_139 := n6_; clear n0_ n1_ n2_ n3_ n4_ n5_ n6_; clear hb hbox hg))
  (try simp only [Act.put, List.setIfInBounds_toArray, List.set_cons_zero, List.set_cons_succ])
  go_cut [33] (fun v33 wc => ∃ (kq : Nat) (x33_2 : Bool), v33 = .bool x33_2 ∧ Aside0 (joistref00_SameSchema.j0 kq x33_2 a0_0 l0_1 a0_2 a0_3 a0_4 a0_5 a0_6 a0_7 a0_8 a0_9 a1_0 l1_1 a1_2 a1_3 a1_4 a1_5 a1_6 a1_7 a1_8 a1_9 = some r) ∧ Aside0 (kq ≤ k) ∧ Aside0 (wc.heap[gb139]? = some (.cells #[.int .i64 a0_0, (.slice A0_1 l0_1.length c0_1), .int .i64 a0_2, .string a0_3, .string a0_4, .int .i64 a0_5, .int .i64 a0_6, .int .i64 a0_7, .int .i64 a0_8, .int .i64 a0_9] 28 (0, 0))) ∧ Aside0 (wc.heap[gb140]? = some (.cells #[.int .i64 a1_0, (.slice A1_1 l1_1.length c1_1), .int .i64 a1_2, .string a1_3, .string a1_4, .int .i64 a1_5, .int .i64 a1_6, .int .i64 a1_7, .int .i64 a1_8, .int .i64 a1_9] 28 (0, 0))) ∧ Aside0 (Below w.heap.size w wc))
  case first =>
    have H := HC3.out
    clear HC3
    by_cases c6 : a0_0 = a1_0
    · rw [if_pos c6] at H
      have c6b0 : (a0_0 == a1_0) = true := beq_iff_eq.mpr c6
      have c6b1 : (a0_0 != a1_0) = false := bne_eq_false_iff_eq.mpr c6
      clear c6
      (first | rw [c6b0] | (simp only [i64_w, i32_w]; rw [c6b0]) | skip)
      by_cases c7 : (!(a0_2 == a1_2) || (!(a0_3.toList == a1_3.toList) || (!(a0_4.toList == a1_4.toList) || (!(a0_5 == a1_5) || (!(a0_6 == a1_6) || (!(a0_7 == a1_7) || (!(a0_8 == a1_8)))))))) = true
      · rw [if_pos c7] at H
        have c7b0 : (!(a0_2 == a1_2) || (!(a0_3.toList == a1_3.toList) || (!(a0_4.toList == a1_4.toList) || (!(a0_5 == a1_5) || (!(a0_6 == a1_6) || (!(a0_7 == a1_7) || (!(a0_8 == a1_8)))))))) = true := c7
        clear c7
        have H' := Aside0.mk H
        clear H
        have hnb8 := NB139_140.out
        have hnc8 := NB140_139.out
        have hcz9_0 : w5.cell? ⟨gb139, 0, none⟩ = some (.int .i64 a0_0) := (blk_cell BK139.out 0).trans rfl
        have hcz9_1 : w5.cell? ⟨gb139, 1, none⟩ = some (.slice A0_1 l0_1.length c0_1) := (blk_cell BK139.out 1).trans rfl
        have hcz9_2 : w5.cell? ⟨gb139, 2, none⟩ = some (.int .i64 a0_2) := (blk_cell BK139.out 2).trans rfl
        have hcz9_3 : w5.cell? ⟨gb139, 3, none⟩ = some (.string a0_3) := (blk_cell BK139.out 3).trans rfl
        have hcz9_4 : w5.cell? ⟨gb139, 4, none⟩ = some (.string a0_4) := (blk_cell BK139.out 4).trans rfl
        have hcz9_5 : w5.cell? ⟨gb139, 5, none⟩ = some (.int .i64 a0_5) := (blk_cell BK139.out 5).trans rfl
        have hcz9_6 : w5.cell? ⟨gb139, 6, none⟩ = some (.int .i64 a0_6) := (blk_cell BK139.out 6).trans rfl
        have hcz9_7 : w5.cell? ⟨gb139, 7, none⟩ = some (.int .i64 a0_7) := (blk_cell BK139.out 7).trans rfl
        have hcz9_8 : w5.cell? ⟨gb139, 8, none⟩ = some (.int .i64 a0_8) := (blk_cell BK139.out 8).trans rfl
        have hcz9_9 : w5.cell? ⟨gb139, 9, none⟩ = some (.int .i64 a0_9) := (blk_cell BK139.out 9).trans rfl
        have hfz9_0 := blk_frozen BK139.out 0
        have hfz9_1 := blk_frozen BK139.out 1
        have hfz9_2 := blk_frozen BK139.out 2
        have hfz9_3 := blk_frozen BK139.out 3
        have hfz9_4 := blk_frozen BK139.out 4
        have hfz9_5 := blk_frozen BK139.out 5
        have hfz9_6 := blk_frozen BK139.out 6
        have hfz9_7 := blk_frozen BK139.out 7
        have hfz9_8 := blk_frozen BK139.out 8
        have hfz9_9 := blk_frozen BK139.out 9
        have hcz10_0 : w5.cell? ⟨gb140, 0, none⟩ = some (.int .i64 a1_0) := (blk_cell BK140.out 0).trans rfl
        have hcz10_1 : w5.cell? ⟨gb140, 1, none⟩ = some (.slice A1_1 l1_1.length c1_1) := (blk_cell BK140.out 1).trans rfl
        have hcz10_2 : w5.cell? ⟨gb140, 2, none⟩ = some (.int .i64 a1_2) := (blk_cell BK140.out 2).trans rfl
        have hcz10_3 : w5.cell? ⟨gb140, 3, none⟩ = some (.string a1_3) := (blk_cell BK140.out 3).trans rfl
        have hcz10_4 : w5.cell? ⟨gb140, 4, none⟩ = some (.string a1_4) := (blk_cell BK140.out 4).trans rfl
        have hcz10_5 : w5.cell? ⟨gb140, 5, none⟩ = some (.int .i64 a1_5) := (blk_cell BK140.out 5).trans rfl
        have hcz10_6 : w5.cell? ⟨gb140, 6, none⟩ = some (.int .i64 a1_6) := (blk_cell BK140.out 6).trans rfl
        have hcz10_7 : w5.cell? ⟨gb140, 7, none⟩ = some (.int .i64 a1_7) := (blk_cell BK140.out 7).trans rfl
        have hcz10_8 : w5.cell? ⟨gb140, 8, none⟩ = some (.int .i64 a1_8) := (blk_cell BK140.out 8).trans rfl
        have hcz10_9 : w5.cell? ⟨gb140, 9, none⟩ = some (.int .i64 a1_9) := (blk_cell BK140.out 9).trans rfl
        have hfz10_0 := blk_frozen BK140.out 0
        have hfz10_1 := blk_frozen BK140.out 1
        have hfz10_2 := blk_frozen BK140.out 2
        have hfz10_3 := blk_frozen BK140.out 3
        have hfz10_4 := blk_frozen BK140.out 4
        have hfz10_5 := blk_frozen BK140.out 5
        have hfz10_6 := blk_frozen BK140.out 6
        have hfz10_7 := blk_frozen BK140.out 7
        have hfz10_8 := blk_frozen BK140.out 8
        have hfz10_9 := blk_frozen BK140.out 9
        go_wp2
        go_meet
        case rel => exact ⟨_, (true), (by first | rfl | (simp; done) | (simp [*]; done)), H', ⟨by first | omega | exact Nat.le_refl _⟩, ⟨by (with_reducible repeat (first | refine blk_drewN ?_ _ | refine blk_drew ?_ | refine blk_alloc ?_ _)); exact BK139.out⟩, ⟨by (with_reducible repeat (first | refine blk_drewN ?_ _ | refine blk_drew ?_ | refine blk_alloc ?_ _)); exact BK140.out⟩, ⟨by repeat (first | (with_reducible first | exact HB.out | apply below_alloc | apply pw_below_drewN | apply below_drew1 | refine below_set ?_ GE139.out | refine below_set ?_ GE140.out) | exact HB.out)⟩⟩
      · rw [if_neg c7] at H
        have c7b0 : (!(a0_2 == a1_2) || (!(a0_3.toList == a1_3.toList) || (!(a0_4.toList == a1_4.toList) || (!(a0_5 == a1_5) || (!(a0_6 == a1_6) || (!(a0_7 == a1_7) || (!(a0_8 == a1_8)))))))) = false := by simpa using c7
        clear c7
        by_cases c11 : a0_9 = a1_9
        · rw [if_pos c11] at H
          have c11b0 : (a0_9 == a1_9) = true := beq_iff_eq.mpr c11
          have c11b1 : (a0_9 != a1_9) = false := bne_eq_false_iff_eq.mpr c11
          clear c11
          have H' := Aside0.mk H
          clear H
          have hnb12 := NB139_140.out
          have hnc12 := NB140_139.out
          have hcz13_0 : w5.cell? ⟨gb139, 0, none⟩ = some (.int .i64 a0_0) := (blk_cell BK139.out 0).trans rfl
          have hcz13_1 : w5.cell? ⟨gb139, 1, none⟩ = some (.slice A0_1 l0_1.length c0_1) := (blk_cell BK139.out 1).trans rfl
          have hcz13_2 : w5.cell? ⟨gb139, 2, none⟩ = some (.int .i64 a0_2) := (blk_cell BK139.out 2).trans rfl
          have hcz13_3 : w5.cell? ⟨gb139, 3, none⟩ = some (.string a0_3) := (blk_cell BK139.out 3).trans rfl
          have hcz13_4 : w5.cell? ⟨gb139, 4, none⟩ = some (.string a0_4) := (blk_cell BK139.out 4).trans rfl
          have hcz13_5 : w5.cell? ⟨gb139, 5, none⟩ = some (.int .i64 a0_5) := (blk_cell BK139.out 5).trans rfl
          have hcz13_6 : w5.cell? ⟨gb139, 6, none⟩ = some (.int .i64 a0_6) := (blk_cell BK139.out 6).trans rfl
          have hcz13_7 : w5.cell? ⟨gb139, 7, none⟩ = some (.int .i64 a0_7) := (blk_cell BK139.out 7).trans rfl
          have hcz13_8 : w5.cell? ⟨gb139, 8, none⟩ = some (.int .i64 a0_8) := (blk_cell BK139.out 8).trans rfl
          have hcz13_9 : w5.cell? ⟨gb139, 9, none⟩ = some (.int .i64 a0_9) := (blk_cell BK139.out 9).trans rfl
          have hfz13_0 := blk_frozen BK139.out 0
          have hfz13_1 := blk_frozen BK139.out 1
          have hfz13_2 := blk_frozen BK139.out 2
          have hfz13_3 := blk_frozen BK139.out 3
          have hfz13_4 := blk_frozen BK139.out 4
          have hfz13_5 := blk_frozen BK139.out 5
          have hfz13_6 := blk_frozen BK139.out 6
          have hfz13_7 := blk_frozen BK139.out 7
          have hfz13_8 := blk_frozen BK139.out 8
          have hfz13_9 := blk_frozen BK139.out 9
          have hcz14_0 : w5.cell? ⟨gb140, 0, none⟩ = some (.int .i64 a1_0) := (blk_cell BK140.out 0).trans rfl
          have hcz14_1 : w5.cell? ⟨gb140, 1, none⟩ = some (.slice A1_1 l1_1.length c1_1) := (blk_cell BK140.out 1).trans rfl
          have hcz14_2 : w5.cell? ⟨gb140, 2, none⟩ = some (.int .i64 a1_2) := (blk_cell BK140.out 2).trans rfl
          have hcz14_3 : w5.cell? ⟨gb140, 3, none⟩ = some (.string a1_3) := (blk_cell BK140.out 3).trans rfl
          have hcz14_4 : w5.cell? ⟨gb140, 4, none⟩ = some (.string a1_4) := (blk_cell BK140.out 4).trans rfl
          have hcz14_5 : w5.cell? ⟨gb140, 5, none⟩ = some (.int .i64 a1_5) := (blk_cell BK140.out 5).trans rfl
          have hcz14_6 : w5.cell? ⟨gb140, 6, none⟩ = some (.int .i64 a1_6) := (blk_cell BK140.out 6).trans rfl
          have hcz14_7 : w5.cell? ⟨gb140, 7, none⟩ = some (.int .i64 a1_7) := (blk_cell BK140.out 7).trans rfl
          have hcz14_8 : w5.cell? ⟨gb140, 8, none⟩ = some (.int .i64 a1_8) := (blk_cell BK140.out 8).trans rfl
          have hcz14_9 : w5.cell? ⟨gb140, 9, none⟩ = some (.int .i64 a1_9) := (blk_cell BK140.out 9).trans rfl
          have hfz14_0 := blk_frozen BK140.out 0
          have hfz14_1 := blk_frozen BK140.out 1
          have hfz14_2 := blk_frozen BK140.out 2
          have hfz14_3 := blk_frozen BK140.out 3
          have hfz14_4 := blk_frozen BK140.out 4
          have hfz14_5 := blk_frozen BK140.out 5
          have hfz14_6 := blk_frozen BK140.out 6
          have hfz14_7 := blk_frozen BK140.out 7
          have hfz14_8 := blk_frozen BK140.out 8
          have hfz14_9 := blk_frozen BK140.out 9
          go_wp2
          go_meet
          case rel => exact ⟨_, (((l0_1.length : Int) != (l1_1.length : Int))), (by first | rfl | (simp; done) | (simp [*]; done)), H', ⟨by first | omega | exact Nat.le_refl _⟩, ⟨by (with_reducible repeat (first | refine blk_drewN ?_ _ | refine blk_drew ?_ | refine blk_alloc ?_ _)); exact BK139.out⟩, ⟨by (with_reducible repeat (first | refine blk_drewN ?_ _ | refine blk_drew ?_ | refine blk_alloc ?_ _)); exact BK140.out⟩, ⟨by repeat (first | (with_reducible first | exact HB.out | apply below_alloc | apply pw_below_drewN | apply below_drew1 | refine below_set ?_ GE139.out | refine below_set ?_ GE140.out) | exact HB.out)⟩⟩
        · rw [if_neg c11] at H
          have c11b0 : (a0_9 == a1_9) = false := beq_eq_false_iff_ne.mpr c11
          have c11b1 : (a0_9 != a1_9) = true := bne_iff_ne.mpr c11
          have H' := Aside0.mk H
          clear H
          have hnb15 := NB139_140.out
          have hnc15 := NB140_139.out
          have hcz16_0 : w5.cell? ⟨gb139, 0, none⟩ = some (.int .i64 a0_0) := (blk_cell BK139.out 0).trans rfl
          have hcz16_1 : w5.cell? ⟨gb139, 1, none⟩ = some (.slice A0_1 l0_1.length c0_1) := (blk_cell BK139.out 1).trans rfl
          have hcz16_2 : w5.cell? ⟨gb139, 2, none⟩ = some (.int .i64 a0_2) := (blk_cell BK139.out 2).trans rfl
          have hcz16_3 : w5.cell? ⟨gb139, 3, none⟩ = some (.string a0_3) := (blk_cell BK139.out 3).trans rfl
          have hcz16_4 : w5.cell? ⟨gb139, 4, none⟩ = some (.string a0_4) := (blk_cell BK139.out 4).trans rfl
          have hcz16_5 : w5.cell? ⟨gb139, 5, none⟩ = some (.int .i64 a0_5) := (blk_cell BK139.out 5).trans rfl
          have hcz16_6 : w5.cell? ⟨gb139, 6, none⟩ = some (.int .i64 a0_6) := (blk_cell BK139.out 6).trans rfl
          have hcz16_7 : w5.cell? ⟨gb139, 7, none⟩ = some (.int .i64 a0_7) := (blk_cell BK139.out 7).trans rfl
          have hcz16_8 : w5.cell? ⟨gb139, 8, none⟩ = some (.int .i64 a0_8) := (blk_cell BK139.out 8).trans rfl
          have hcz16_9 : w5.cell? ⟨gb139, 9, none⟩ = some (.int .i64 a0_9) := (blk_cell BK139.out 9).trans rfl
          have hfz16_0 := blk_frozen BK139.out 0
          have hfz16_1 := blk_frozen BK139.out 1
          have hfz16_2 := blk_frozen BK139.out 2
          have hfz16_3 := blk_frozen BK139.out 3
          have hfz16_4 := blk_frozen BK139.out 4
          have hfz16_5 := blk_frozen BK139.out 5
          have hfz16_6 := blk_frozen BK139.out 6
          have hfz16_7 := blk_frozen BK139.out 7
          have hfz16_8 := blk_frozen BK139.out 8
          have hfz16_9 := blk_frozen BK139.out 9
          have hcz17_0 : w5.cell? ⟨gb140, 0, none⟩ = some (.int .i64 a1_0) := (blk_cell BK140.out 0).trans rfl
          have hcz17_1 : w5.cell? ⟨gb140, 1, none⟩ = some (.slice A1_1 l1_1.length c1_1) := (blk_cell BK140.out 1).trans rfl
          have hcz17_2 : w5.cell? ⟨gb140, 2, none⟩ = some (.int .i64 a1_2) := (blk_cell BK140.out 2).trans rfl
          have hcz17_3 : w5.cell? ⟨gb140, 3, none⟩ = some (.string a1_3) := (blk_cell BK140.out 3).trans rfl
          have hcz17_4 : w5.cell? ⟨gb140, 4, none⟩ = some (.string a1_4) := (blk_cell BK140.out 4).trans rfl
          have hcz17_5 : w5.cell? ⟨gb140, 5, none⟩ = some (.int .i64 a1_5) := (blk_cell BK140.out 5).trans rfl
          have hcz17_6 : w5.cell? ⟨gb140, 6, none⟩ = some (.int .i64 a1_6) := (blk_cell BK140.out 6).trans rfl
          have hcz17_7 : w5.cell? ⟨gb140, 7, none⟩ = some (.int .i64 a1_7) := (blk_cell BK140.out 7).trans rfl
          have hcz17_8 : w5.cell? ⟨gb140, 8, none⟩ = some (.int .i64 a1_8) := (blk_cell BK140.out 8).trans rfl
          have hcz17_9 : w5.cell? ⟨gb140, 9, none⟩ = some (.int .i64 a1_9) := (blk_cell BK140.out 9).trans rfl
          have hfz17_0 := blk_frozen BK140.out 0
          have hfz17_1 := blk_frozen BK140.out 1
          have hfz17_2 := blk_frozen BK140.out 2
          have hfz17_3 := blk_frozen BK140.out 3
          have hfz17_4 := blk_frozen BK140.out 4
          have hfz17_5 := blk_frozen BK140.out 5
          have hfz17_6 := blk_frozen BK140.out 6
          have hfz17_7 := blk_frozen BK140.out 7
          have hfz17_8 := blk_frozen BK140.out 8
          have hfz17_9 := blk_frozen BK140.out 9
          go_wp2
          go_meet
          case rel => exact ⟨_, (true), (by first | rfl | (simp; done) | (simp [*]; done)), H', ⟨by first | omega | exact Nat.le_refl _⟩, ⟨by (with_reducible repeat (first | refine blk_drewN ?_ _ | refine blk_drew ?_ | refine blk_alloc ?_ _)); exact BK139.out⟩, ⟨by (with_reducible repeat (first | refine blk_drewN ?_ _ | refine blk_drew ?_ | refine blk_alloc ?_ _)); exact BK140.out⟩, ⟨by repeat (first | (with_reducible first | exact HB.out | apply below_alloc | apply pw_below_drewN | apply below_drew1 | refine below_set ?_ GE139.out | refine below_set ?_ GE140.out) | exact HB.out)⟩⟩
    · rw [if_neg c6] at H
      have c6b0 : (a0_0 == a1_0) = false := beq_eq_false_iff_ne.mpr c6
      have c6b1 : (a0_0 != a1_0) = true := bne_iff_ne.mpr c6
      (first | rw [c6b0] | (simp only [i64_w, i32_w]; rw [c6b0]) | skip)
      have H' := Aside0.mk H
      clear H
      have hnb18 := NB139_140.out
      have hnc18 := NB140_139.out
      have hcz19_0 : w5.cell? ⟨gb139, 0, none⟩ = some (.int .i64 a0_0) := (blk_cell BK139.out 0).trans rfl
      have hcz19_1 : w5.cell? ⟨gb139, 1, none⟩ = some (.slice A0_1 l0_1.length c0_1) := (blk_cell BK139.out 1).trans rfl
      have hcz19_2 : w5.cell? ⟨gb139, 2, none⟩ = some (.int .i64 a0_2) := (blk_cell BK139.out 2).trans rfl
      have hcz19_3 : w5.cell? ⟨gb139, 3, none⟩ = some (.string a0_3) := (blk_cell BK139.out 3).trans rfl
      have hcz19_4 : w5.cell? ⟨gb139, 4, none⟩ = some (.string a0_4) := (blk_cell BK139.out 4).trans rfl
      have hcz19_5 : w5.cell? ⟨gb139, 5, none⟩ = some (.int .i64 a0_5) := (blk_cell BK139.out 5).trans rfl
      have hcz19_6 : w5.cell? ⟨gb139, 6, none⟩ = some (.int .i64 a0_6) := (blk_cell BK139.out 6).trans rfl
      have hcz19_7 : w5.cell? ⟨gb139, 7, none⟩ = some (.int .i64 a0_7) := (blk_cell BK139.out 7).trans rfl
      have hcz19_8 : w5.cell? ⟨gb139, 8, none⟩ = some (.int .i64 a0_8) := (blk_cell BK139.out 8).trans rfl
      have hcz19_9 : w5.cell? ⟨gb139, 9, none⟩ = some (.int .i64 a0_9) := (blk_cell BK139.out 9).trans rfl
      have hfz19_0 := blk_frozen BK139.out 0
      have hfz19_1 := blk_frozen BK139.out 1
      have hfz19_2 := blk_frozen BK139.out 2
      have hfz19_3 := blk_frozen BK139.out 3
      have hfz19_4 := blk_frozen BK139.out 4
      have hfz19_5 := blk_frozen BK139.out 5
      have hfz19_6 := blk_frozen BK139.out 6
      have hfz19_7 := blk_frozen BK139.out 7
      have hfz19_8 := blk_frozen BK139.out 8
      have hfz19_9 := blk_frozen BK139.out 9
      have hcz20_0 : w5.cell? ⟨gb140, 0, none⟩ = some (.int .i64 a1_0) := (blk_cell BK140.out 0).trans rfl
      have hcz20_1 : w5.cell? ⟨gb140, 1, none⟩ = some (.slice A1_1 l1_1.length c1_1) := (blk_cell BK140.out 1).trans rfl
      have hcz20_2 : w5.cell? ⟨gb140, 2, none⟩ = some (.int .i64 a1_2) := (blk_cell BK140.out 2).trans rfl
      have hcz20_3 : w5.cell? ⟨gb140, 3, none⟩ = some (.string a1_3) := (blk_cell BK140.out 3).trans rfl
      have hcz20_4 : w5.cell? ⟨gb140, 4, none⟩ = some (.string a1_4) := (blk_cell BK140.out 4).trans rfl
      have hcz20_5 : w5.cell? ⟨gb140, 5, none⟩ = some (.int .i64 a1_5) := (blk_cell BK140.out 5).trans rfl
      have hcz20_6 : w5.cell? ⟨gb140, 6, none⟩ = some (.int .i64 a1_6) := (blk_cell BK140.out 6).trans rfl
      have hcz20_7 : w5.cell? ⟨gb140, 7, none⟩ = some (.int .i64 a1_7) := (blk_cell BK140.out 7).trans rfl
      have hcz20_8 : w5.cell? ⟨gb140, 8, none⟩ = some (.int .i64 a1_8) := (blk_cell BK140.out 8).trans rfl
      have hcz20_9 : w5.cell? ⟨gb140, 9, none⟩ = some (.int .i64 a1_9) := (blk_cell BK140.out 9).trans rfl
      have hfz20_0 := blk_frozen BK140.out 0
      have hfz20_1 := blk_frozen BK140.out 1
      have hfz20_2 := blk_frozen BK140.out 2
      have hfz20_3 := blk_frozen BK140.out 3
      have hfz20_4 := blk_frozen BK140.out 4
      have hfz20_5 := blk_frozen BK140.out 5
      have hfz20_6 := blk_frozen BK140.out 6
      have hfz20_7 := blk_frozen BK140.out 7
      have hfz20_8 := blk_frozen BK140.out 8
      have hfz20_9 := blk_frozen BK140.out 9
      go_wp2
      go_meet
      case rel => exact ⟨_, (true), (by first | rfl | (simp; done) | (simp [*]; done)), H', ⟨by first | omega | exact Nat.le_refl _⟩, ⟨by (with_reducible repeat (first | refine blk_drewN ?_ _ | refine blk_drew ?_ | refine blk_alloc ?_ _)); exact BK139.out⟩, ⟨by (with_reducible repeat (first | refine blk_drewN ?_ _ | refine blk_drew ?_ | refine blk_alloc ?_ _)); exact BK140.out⟩, ⟨by repeat (first | (with_reducible first | exact HB.out | apply below_alloc | apply pw_below_drewN | apply below_drew1 | refine below_set ?_ GE139.out | refine below_set ?_ GE140.out) | exact HB.out)⟩⟩
  case rest =>
    clear HC3
    try clear c1
    try clear p2
    try clear c6
    try clear c6b0
    try clear c6b1
    try clear c7
    try clear c7b0
    try clear c8
    try clear c11
    try clear c11b0
    try clear c11b1
    try clear c12
    try clear c15
    try clear c17
    try clear c18
    try clear hcz10_0
    try clear hcz10_1
    try clear hcz10_2
    try clear hcz10_3
    try clear hcz10_4
    try clear hcz10_5
    try clear hcz10_6
    try clear hcz10_7
    try clear hcz10_8
    try clear hcz10_9
    try clear hcz13_0
    try clear hcz13_1
    try clear hcz13_2
    try clear hcz13_3
    try clear hcz13_4
    try clear hcz13_5
    try clear hcz13_6
    try clear hcz13_7
    try clear hcz13_8
    try clear hcz13_9
    try clear hcz14_0
    try clear hcz14_1
    try clear hcz14_2
    try clear hcz14_3
    try clear hcz14_4
    try clear hcz14_5
    try clear hcz14_6
    try clear hcz14_7
    try clear hcz14_8
    try clear hcz14_9
    try clear hcz16_0
    try clear hcz16_1
    try clear hcz16_2
    try clear hcz16_3
    try clear hcz16_4
    try clear hcz16_5
    try clear hcz16_6
    try clear hcz16_7
    try clear hcz16_8
    try clear hcz16_9
    try clear hcz17_0
    try clear hcz17_1
    try clear hcz17_2
    try clear hcz17_3
    try clear hcz17_4
    try clear hcz17_5
    try clear hcz17_6
    try clear hcz17_7
    try clear hcz17_8
    try clear hcz17_9
    try clear hcz19_0
    try clear hcz19_1
    try clear hcz19_2
    try clear hcz19_3
    try clear hcz19_4
    try clear hcz19_5
    try clear hcz19_6
    try clear hcz19_7
    try clear hcz19_8
    try clear hcz19_9
    try clear hcz20_0
    try clear hcz20_1
    try clear hcz20_2
    try clear hcz20_3
    try clear hcz20_4
    try clear hcz20_5
    try clear hcz20_6
    try clear hcz20_7
    try clear hcz20_8
    try clear hcz20_9
    try clear hcz9_0
    try clear hcz9_1
    try clear hcz9_2
    try clear hcz9_3
    try clear hcz9_4
    try clear hcz9_5
    try clear hcz9_6
    try clear hcz9_7
    try clear hcz9_8
    try clear hcz9_9
    try clear hfz10_0
    try clear hfz10_1
    try clear hfz10_2
    try clear hfz10_3
    try clear hfz10_4
    try clear hfz10_5
    try clear hfz10_6
    try clear hfz10_7
    try clear hfz10_8
    try clear hfz10_9
    try clear hfz13_0
    try clear hfz13_1
    try clear hfz13_2
    try clear hfz13_3
    try clear hfz13_4
    try clear hfz13_5
    try clear hfz13_6
    try clear hfz13_7
    try clear hfz13_8
    try clear hfz13_9
    try clear hfz14_0
    try clear hfz14_1
    try clear hfz14_2
    try clear hfz14_3
    try clear hfz14_4
    try clear hfz14_5
    try clear hfz14_6
    try clear hfz14_7
    try clear hfz14_8
    try clear hfz14_9
    try clear hfz16_0
    try clear hfz16_1
    try clear hfz16_2
    try clear hfz16_3
    try clear hfz16_4
    try clear hfz16_5
    try clear hfz16_6
    try clear hfz16_7
    try clear hfz16_8
    try clear hfz16_9
    try clear hfz17_0
    try clear hfz17_1
    try clear hfz17_2
    try clear hfz17_3
    try clear hfz17_4
    try clear hfz17_5
    try clear hfz17_6
    try clear hfz17_7
    try clear hfz17_8
    try clear hfz17_9
    try clear hfz19_0
    try clear hfz19_1
    try clear hfz19_2
    try clear hfz19_3
    try clear hfz19_4
    try clear hfz19_5
    try clear hfz19_6
    try clear hfz19_7
    try clear hfz19_8
    try clear hfz19_9
    try clear hfz20_0
    try clear hfz20_1
    try clear hfz20_2
    try clear hfz20_3
    try clear hfz20_4
    try clear hfz20_5
    try clear hfz20_6
    try clear hfz20_7
    try clear hfz20_8
    try clear hfz20_9
    try clear hfz9_0
    try clear hfz9_1
    try clear hfz9_2
    try clear hfz9_3
    try clear hfz9_4
    try clear hfz9_5
    try clear hfz9_6
    try clear hfz9_7
    try clear hfz9_8
    try clear hfz9_9
    obtain ⟨kq, x33_2, rfl, HA, HJ2, BK139, BK140, HB⟩ := hcut
    cases kq with
    | zero => exact absurd HA.out (by simp [joistref00_SameSchema.j0])
    | succ kj2 =>
      have H := HA.out
      clear HA
      simp only [joistref00_SameSchema.j0] at H
      by_cases c21 : x33_2 = true
      · subst c21
        have H1 : (some false) = some r := by rw [if_pos rfl] at H; exact H
        clear H
        have H := H1
        clear H1
        obtain rfl := Option.some.inj H
        go_wp2
        go_ret
        exact ⟨by first | rfl | (simp [errW_none, errW_some] <;> rfl) | (simp [*, errW_none, errW_some] <;> rfl), by repeat (first | (with_reducible first | exact HB.out | apply below_alloc | apply pw_below_drewN | apply below_drew1 | refine below_set ?_ GE139.out | refine below_set ?_ GE140.out) | exact HB.out)⟩
      · replace c21 := Bool.eq_false_iff.mpr c21
        subst c21
        have H1 : (joistref00_SameSchema.l0 kj2 0 a0_0 l0_1 a0_2 a0_3 a0_4 a0_5 a0_6 a0_7 a0_8 a0_9 a1_0 l1_1 a1_2 a1_3 a1_4 a1_5 a1_6 a1_7 a1_8 a1_9) = some r := by rw [if_neg (show ¬ (false = true) by decide)] at H; exact H
        clear H
        have H := H1
        clear H1
        have H' := Aside0.mk H
        clear H
        go_wp2
        go_loopg [5] kj2 (fun kq v5 w' => ∃ (x5_2 : Int), v5 = .int .i64 x5_2 ∧ Aside0 (joistref00_SameSchema.l0 kq x5_2 a0_0 l0_1 a0_2 a0_3 a0_4 a0_5 a0_6 a0_7 a0_8 a0_9 a1_0 l1_1 a1_2 a1_3 a1_4 a1_5 a1_6 a1_7 a1_8 a1_9 = some r) ∧ Aside0 (kq ≤ kj2) ∧ Aside0 (w'.heap[gb139]? = some (.cells #[.int .i64 a0_0, (.slice A0_1 l0_1.length c0_1), .int .i64 a0_2, .string a0_3, .string a0_4, .int .i64 a0_5, .int .i64 a0_6, .int .i64 a0_7, .int .i64 a0_8, .int .i64 a0_9] 28 (0, 0))) ∧ Aside0 (w'.heap[gb140]? = some (.cells #[.int .i64 a1_0, (.slice A1_1 l1_1.length c1_1), .int .i64 a1_2, .string a1_3, .string a1_4, .int .i64 a1_5, .int .i64 a1_6, .int .i64 a1_7, .int .i64 a1_8, .int .i64 a1_9] 28 (0, 0))) ∧ Aside0 (Below w.heap.size w w'))
        case atStart => exact ⟨(0), (by first | rfl | (simp; done) | (simp [*]; done)), H', ⟨Nat.le_refl _⟩, ⟨by (with_reducible repeat (first | refine blk_drewN ?_ _ | refine blk_drew ?_ | refine blk_alloc ?_ _)); exact BK139.out⟩, ⟨by (with_reducible repeat (first | refine blk_drewN ?_ _ | refine blk_drew ?_ | refine blk_alloc ?_ _)); exact BK140.out⟩, ⟨by repeat (first | (with_reducible first | exact HB.out | apply below_alloc | apply pw_below_drewN | apply below_drew1 | refine below_set ?_ GE139.out | refine below_set ?_ GE140.out) | exact HB.out)⟩⟩
        case round =>
          clear H'
          try clear c1
          try clear c2
          try clear p2
          try clear c6
          try clear c6b0
          try clear c6b1
          try clear c7
          try clear c7b0
          try clear c8
          try clear c11
          try clear c11b0
          try clear c11b1
          try clear c12
          try clear c15
          try clear c17
          try clear c18
          try clear c21
          try clear hcz10_0
          try clear hcz10_1
          try clear hcz10_2
          try clear hcz10_3
          try clear hcz10_4
          try clear hcz10_5
          try clear hcz10_6
          try clear hcz10_7
          try clear hcz10_8
          try clear hcz10_9
          try clear hcz13_0
          try clear hcz13_1
          try clear hcz13_2
          try clear hcz13_3
          try clear hcz13_4
          try clear hcz13_5
          try clear hcz13_6
          try clear hcz13_7
          try clear hcz13_8
          try clear hcz13_9
          try clear hcz14_0
          try clear hcz14_1
          try clear hcz14_2
          try clear hcz14_3
          try clear hcz14_4
          try clear hcz14_5
          try clear hcz14_6
          try clear hcz14_7
          try clear hcz14_8
          try clear hcz14_9
          try clear hcz16_0
          try clear hcz16_1
          try clear hcz16_2
          try clear hcz16_3
          try clear hcz16_4
          try clear hcz16_5
          try clear hcz16_6
          try clear hcz16_7
          try clear hcz16_8
          try clear hcz16_9
          try clear hcz17_0
          try clear hcz17_1
          try clear hcz17_2
          try clear hcz17_3
          try clear hcz17_4
          try clear hcz17_5
          try clear hcz17_6
          try clear hcz17_7
          try clear hcz17_8
          try clear hcz17_9
          try clear hcz19_0
          try clear hcz19_1
          try clear hcz19_2
          try clear hcz19_3
          try clear hcz19_4
          try clear hcz19_5
          try clear hcz19_6
          try clear hcz19_7
          try clear hcz19_8
          try clear hcz19_9
          try clear hcz20_0
          try clear hcz20_1
          try clear hcz20_2
          try clear hcz20_3
          try clear hcz20_4
          try clear hcz20_5
          try clear hcz20_6
          try clear hcz20_7
          try clear hcz20_8
          try clear hcz20_9
          try clear hcz9_0
          try clear hcz9_1
          try clear hcz9_2
          try clear hcz9_3
          try clear hcz9_4
          try clear hcz9_5
          try clear hcz9_6
          try clear hcz9_7
          try clear hcz9_8
          try clear hcz9_9
          try clear hfz10_0
          try clear hfz10_1
          try clear hfz10_2
          try clear hfz10_3
          try clear hfz10_4
          try clear hfz10_5
          try clear hfz10_6
          try clear hfz10_7
          try clear hfz10_8
          try clear hfz10_9
          try clear hfz13_0
          try clear hfz13_1
          try clear hfz13_2
          try clear hfz13_3
          try clear hfz13_4
          try clear hfz13_5
          try clear hfz13_6
          try clear hfz13_7
          try clear hfz13_8
          try clear hfz13_9
          try clear hfz14_0
          try clear hfz14_1
          try clear hfz14_2
          try clear hfz14_3
          try clear hfz14_4
          try clear hfz14_5
          try clear hfz14_6
          try clear hfz14_7
          try clear hfz14_8
          try clear hfz14_9
          try clear hfz16_0
          try clear hfz16_1
          try clear hfz16_2
          try clear hfz16_3
          try clear hfz16_4
          try clear hfz16_5
          try clear hfz16_6
          try clear hfz16_7
          try clear hfz16_8
          try clear hfz16_9
          try clear hfz17_0
          try clear hfz17_1
          try clear hfz17_2
          try clear hfz17_3
          try clear hfz17_4
          try clear hfz17_5
          try clear hfz17_6
          try clear hfz17_7
          try clear hfz17_8
          try clear hfz17_9
          try clear hfz19_0
          try clear hfz19_1
          try clear hfz19_2
          try clear hfz19_3
          try clear hfz19_4
          try clear hfz19_5
          try clear hfz19_6
          try clear hfz19_7
          try clear hfz19_8
          try clear hfz19_9
          try clear hfz20_0
          try clear hfz20_1
          try clear hfz20_2
          try clear hfz20_3
          try clear hfz20_4
          try clear hfz20_5
          try clear hfz20_6
          try clear hfz20_7
          try clear hfz20_8
          try clear hfz20_9
          try clear hfz9_0
          try clear hfz9_1
          try clear hfz9_2
          try clear hfz9_3
          try clear hfz9_4
          try clear hfz9_5
          try clear hfz9_6
          try clear hfz9_7
          try clear hfz9_8
          try clear hfz9_9
          try clear p2
          obtain ⟨x5_2, rfl, HA, HK2, BK139, BK140, HB⟩ := hrel
          cases gk with
          | zero => exact absurd HA.out (by simp [joistref00_SameSchema.l0])
          | succ k2 =>
            have H := HA.out
            clear HA
            simp only [joistref00_SameSchema.l0] at H
            by_cases c22 : x5_2 < (l0_1.length : Int)
            · rw [if_pos c22] at H
              have c22b0 : decide (x5_2 < (l0_1.length : Int)) = true := decide_eq_true c22
              clear c22
              by_cases c23 : 0 ≤ x5_2
              · rw [if_pos c23] at H
                have c23b0 : decide (0 ≤ x5_2) = true := decide_eq_true c23
                clear c23
                by_cases c24 : x5_2 < (l1_1.length : Int)
                · rw [if_pos c24] at H
                  have c24b0 : decide (x5_2 < (l1_1.length : Int)) = true := decide_eq_true c24
                  clear c24
                  replace H := Option.bind_eq_some_iff.mp H
                  obtain ⟨t143, A250, H⟩ := H
                  replace H : (if t143 = true then (joistref00_SameSchema.l0 k2 (wrap64 (x5_2 + 1)) a0_0 l0_1 a0_2 a0_3 a0_4 a0_5 a0_6 a0_7 a0_8 a0_9 a1_0 l1_1 a1_2 a1_3 a1_4 a1_5 a1_6 a1_7 a1_8 a1_9) else (some false)) = some r := H
                  have A25 := Aside0.mk A250
                  clear A250
                  by_cases c26 : t143 = true
                  · subst c26
                    have H1 : (joistref00_SameSchema.l0 k2 (wrap64 (x5_2 + 1)) a0_0 l0_1 a0_2 a0_3 a0_4 a0_5 a0_6 a0_7 a0_8 a0_9 a1_0 l1_1 a1_2 a1_3 a1_4 a1_5 a1_6 a1_7 a1_8 a1_9) = some r := by rw [if_pos rfl] at H; exact H
                    clear H
                    have H := H1
                    clear H1
                    have H' := Aside0.mk H
                    clear H
                    have hnb27 := NB139_140.out
                    have hnc27 := NB140_139.out
                    have hcz28_0 : wr.cell? ⟨gb139, 0, none⟩ = some (.int .i64 a0_0) := (blk_cell BK139.out 0).trans rfl
                    have hcz28_1 : wr.cell? ⟨gb139, 1, none⟩ = some (.slice A0_1 l0_1.length c0_1) := (blk_cell BK139.out 1).trans rfl
                    have hcz28_2 : wr.cell? ⟨gb139, 2, none⟩ = some (.int .i64 a0_2) := (blk_cell BK139.out 2).trans rfl
                    have hcz28_3 : wr.cell? ⟨gb139, 3, none⟩ = some (.string a0_3) := (blk_cell BK139.out 3).trans rfl
                    have hcz28_4 : wr.cell? ⟨gb139, 4, none⟩ = some (.string a0_4) := (blk_cell BK139.out 4).trans rfl
                    have hcz28_5 : wr.cell? ⟨gb139, 5, none⟩ = some (.int .i64 a0_5) := (blk_cell BK139.out 5).trans rfl
                    have hcz28_6 : wr.cell? ⟨gb139, 6, none⟩ = some (.int .i64 a0_6) := (blk_cell BK139.out 6).trans rfl
                    have hcz28_7 : wr.cell? ⟨gb139, 7, none⟩ = some (.int .i64 a0_7) := (blk_cell BK139.out 7).trans rfl
                    have hcz28_8 : wr.cell? ⟨gb139, 8, none⟩ = some (.int .i64 a0_8) := (blk_cell BK139.out 8).trans rfl
                    have hcz28_9 : wr.cell? ⟨gb139, 9, none⟩ = some (.int .i64 a0_9) := (blk_cell BK139.out 9).trans rfl
                    have hfz28_0 := blk_frozen BK139.out 0
                    have hfz28_1 := blk_frozen BK139.out 1
                    have hfz28_2 := blk_frozen BK139.out 2
                    have hfz28_3 := blk_frozen BK139.out 3
                    have hfz28_4 := blk_frozen BK139.out 4
                    have hfz28_5 := blk_frozen BK139.out 5
                    have hfz28_6 := blk_frozen BK139.out 6
                    have hfz28_7 := blk_frozen BK139.out 7
                    have hfz28_8 := blk_frozen BK139.out 8
                    have hfz28_9 := blk_frozen BK139.out 9
                    try go_wp2
                    have n0_ := Aside0.mk (blk_drew BK139.out)
                    have n1_ := Aside0.mk (blk_drew BK140.out)
                    have n2_ := Aside0.mk (below_drew1 HB.out)
                    clear BK139
                    clear BK140
                    clear HB
                    have BK139 := n0_
                    have BK140 := n1_
                    have HB := n2_
                    clear n0_ n1_ n2_
                    have p141 : 0 ≤ (x5_2 : Int) := of_decide_eq_true (by first | (with_reducible assumption) | assumption)
                    have q141 : x5_2 < (l0_1.length : Int) := of_decide_eq_true (by first | (with_reducible assumption) | assumption)
                    obtain ⟨ad141, A141_3, c141_3, A141_4, c141_4, e141, hx141_0, hx141_1, hx141_2, hx141_3, hx141_4, hl141_3, hi141_3, hl141_4, hi141_4⟩ := at_T40 HR0_1.out x5_2 p141 q141
                    have hw141_4 := hx141_4
                    have hw141_3 := hx141_3
                    have hw141_2 := hx141_2
                    have hw141_1 := hx141_1
                    have hw141_0 := hx141_0
                    cases e141
                    replace hx141_0 := (HB.out.cell (World.block_lt_of_cell? w _ hx141_0)).trans hx141_0
                    replace hx141_1 := (HB.out.cell (World.block_lt_of_cell? w _ hx141_1)).trans hx141_1
                    replace hx141_2 := (HB.out.cell (World.block_lt_of_cell? w _ hx141_2)).trans hx141_2
                    replace hx141_3 := (HB.out.cell (World.block_lt_of_cell? w _ hx141_3)).trans hx141_3
                    replace hx141_4 := (HB.out.cell (World.block_lt_of_cell? w _ hx141_4)).trans hx141_4
                    have HR141_3 := Aside0.mk hi141_3
                    have HC141_3 := Aside0.mk hl141_3
                    clear hi141_3 hl141_3
                    have HR141_4 := Aside0.mk hi141_4
                    have HC141_4 := Aside0.mk hl141_4
                    clear hi141_4 hl141_4
                    replace p141 := eq_true p141
                    replace q141 := eq_true q141
                    have p142 : 0 ≤ (x5_2 : Int) := of_decide_eq_true (by first | (with_reducible assumption) | assumption)
                    have q142 : x5_2 < (l1_1.length : Int) := of_decide_eq_true (by first | (with_reducible assumption) | assumption)
                    obtain ⟨ad142, A142_3, c142_3, A142_4, c142_4, e142, hx142_0, hx142_1, hx142_2, hx142_3, hx142_4, hl142_3, hi142_3, hl142_4, hi142_4⟩ := at_T40 HR1_1.out x5_2 p142 q142
                    have hw142_4 := hx142_4
                    have hw142_3 := hx142_3
                    have hw142_2 := hx142_2
                    have hw142_1 := hx142_1
                    have hw142_0 := hx142_0
                    cases e142
                    replace hx142_0 := (HB.out.cell (World.block_lt_of_cell? w _ hx142_0)).trans hx142_0
                    replace hx142_1 := (HB.out.cell (World.block_lt_of_cell? w _ hx142_1)).trans hx142_1
                    replace hx142_2 := (HB.out.cell (World.block_lt_of_cell? w _ hx142_2)).trans hx142_2
                    replace hx142_3 := (HB.out.cell (World.block_lt_of_cell? w _ hx142_3)).trans hx142_3
                    replace hx142_4 := (HB.out.cell (World.block_lt_of_cell? w _ hx142_4)).trans hx142_4
                    have HR142_3 := Aside0.mk hi142_3
                    have HC142_3 := Aside0.mk hl142_3
                    clear hi142_3 hl142_3
                    have HR142_4 := Aside0.mk hi142_4
                    have HC142_4 := Aside0.mk hl142_4
                    clear hi142_4 hl142_4
                    replace p142 := eq_true p142
                    replace q142 := eq_true q142
                    refine start_ (n := 12) (S := fun w' => w'.cell? ⟨gb139, 0, none⟩ = some (.int .i64 a0_0) ∧ w'.cell? ⟨gb139, 1, none⟩ = some (.slice (some ad141) l0_1.length c0_1) ∧ w'.cell? ⟨gb139, 2, none⟩ = some (.int .i64 a0_2) ∧ w'.cell? ⟨gb139, 3, none⟩ = some (.string a0_3) ∧ w'.cell? ⟨gb139, 4, none⟩ = some (.string a0_4) ∧ w'.cell? ⟨gb139, 5, none⟩ = some (.int .i64 a0_5) ∧ w'.cell? ⟨gb139, 6, none⟩ = some (.int .i64 a0_6) ∧ w'.cell? ⟨gb139, 7, none⟩ = some (.int .i64 a0_7) ∧ w'.cell? ⟨gb139, 8, none⟩ = some (.int .i64 a0_8) ∧ w'.cell? ⟨gb139, 9, none⟩ = some (.int .i64 a0_9) ∧ w'.cell? ⟨gb140, 0, none⟩ = some (.int .i64 a1_0) ∧ w'.cell? ⟨gb140, 1, none⟩ = some (.slice (some ad142) l1_1.length c1_1) ∧ w'.cell? ⟨gb140, 2, none⟩ = some (.int .i64 a1_2) ∧ w'.cell? ⟨gb140, 3, none⟩ = some (.string a1_3) ∧ w'.cell? ⟨gb140, 4, none⟩ = some (.string a1_4) ∧ w'.cell? ⟨gb140, 5, none⟩ = some (.int .i64 a1_5) ∧ w'.cell? ⟨gb140, 6, none⟩ = some (.int .i64 a1_6) ∧ w'.cell? ⟨gb140, 7, none⟩ = some (.int .i64 a1_7) ∧ w'.cell? ⟨gb140, 8, none⟩ = some (.int .i64 a1_8) ∧ w'.cell? ⟨gb140, 9, none⟩ = some (.int .i64 a1_9) ∧ w'.cell? (ad141.add ((x5_2).toNat * 5)) = some (.string ((rd_T40 l0_1 x5_2).f0)) ∧ w'.cell? ⟨(ad141.add ((x5_2).toNat * 5)).block, (ad141.add ((x5_2).toNat * 5)).off + 1, none⟩ = some (.int .i64 ((rd_T40 l0_1 x5_2).f1)) ∧ w'.cell? ⟨(ad141.add ((x5_2).toNat * 5)).block, (ad141.add ((x5_2).toNat * 5)).off + 2, none⟩ = some (.int .i64 ((rd_T40 l0_1 x5_2).f2)) ∧ w'.cell? ⟨(ad141.add ((x5_2).toNat * 5)).block, (ad141.add ((x5_2).toNat * 5)).off + 3, none⟩ = some (.slice A141_3 ((rd_T40 l0_1 x5_2).f3).length c141_3) ∧ w'.cell? ⟨(ad141.add ((x5_2).toNat * 5)).block, (ad141.add ((x5_2).toNat * 5)).off + 4, none⟩ = some (.slice A141_4 ((rd_T40 l0_1 x5_2).f4).length c141_4) ∧ w'.cell? (ad142.add ((x5_2).toNat * 5)) = some (.string ((rd_T40 l1_1 x5_2).f0)) ∧ w'.cell? ⟨(ad142.add ((x5_2).toNat * 5)).block, (ad142.add ((x5_2).toNat * 5)).off + 1, none⟩ = some (.int .i64 ((rd_T40 l1_1 x5_2).f1)) ∧ w'.cell? ⟨(ad142.add ((x5_2).toNat * 5)).block, (ad142.add ((x5_2).toNat * 5)).off + 2, none⟩ = some (.int .i64 ((rd_T40 l1_1 x5_2).f2)) ∧ w'.cell? ⟨(ad142.add ((x5_2).toNat * 5)).block, (ad142.add ((x5_2).toNat * 5)).off + 3, none⟩ = some (.slice A142_3 ((rd_T40 l1_1 x5_2).f3).length c142_3) ∧ w'.cell? ⟨(ad142.add ((x5_2).toNat * 5)).block, (ad142.add ((x5_2).toNat * 5)).off + 4, none⟩ = some (.slice A142_4 ((rd_T40 l1_1 x5_2).f4).length c142_4)) (ds := []) #[false, false, false, false, false, false, false, false, false, false, false, false] (by kernel_rfl) rfl rfl ⟨(blk_cell BK139.out 0).trans rfl, (blk_cell BK139.out 1).trans rfl, (blk_cell BK139.out 2).trans rfl, (blk_cell BK139.out 3).trans rfl, (blk_cell BK139.out 4).trans rfl, (blk_cell BK139.out 5).trans rfl, (blk_cell BK139.out 6).trans rfl, (blk_cell BK139.out 7).trans rfl, (blk_cell BK139.out 8).trans rfl, (blk_cell BK139.out 9).trans rfl, (blk_cell BK140.out 0).trans rfl, (blk_cell BK140.out 1).trans rfl, (blk_cell BK140.out 2).trans rfl, (blk_cell BK140.out 3).trans rfl, (blk_cell BK140.out 4).trans rfl, (blk_cell BK140.out 5).trans rfl, (blk_cell BK140.out 6).trans rfl, (blk_cell BK140.out 7).trans rfl, (blk_cell BK140.out 8).trans rfl, (blk_cell BK140.out 9).trans rfl, ((HB.out.cell (World.block_lt_of_cell? w _ hw141_0)).trans hw141_0), ((HB.out.cell (World.block_lt_of_cell? w _ hw141_1)).trans hw141_1), ((HB.out.cell (World.block_lt_of_cell? w _ hw141_2)).trans hw141_2), ((HB.out.cell (World.block_lt_of_cell? w _ hw141_3)).trans hw141_3), ((HB.out.cell (World.block_lt_of_cell? w _ hw141_4)).trans hw141_4), ((HB.out.cell (World.block_lt_of_cell? w _ hw142_0)).trans hw142_0), ((HB.out.cell (World.block_lt_of_cell? w _ hw142_1)).trans hw142_1), ((HB.out.cell (World.block_lt_of_cell? w _ hw142_2)).trans hw142_2), ((HB.out.cell (World.block_lt_of_cell? w _ hw142_3)).trans hw142_3), ((HB.out.cell (World.block_lt_of_cell? w _ hw142_4)).trans hw142_4)⟩ (fun hHeld => ?_); refine with_tabW joistref00_SameSchema.tab6 joistref00_SameSchema.bits6 (fun HT_ HW_ => ?_)
                    generalize wr.drew = w29 at BK139 BK140 HB HR141_3 HR141_4 HR142_3 HR142_4 hx141_0 hx141_1 hx141_2 hx141_3 hx141_4 hx142_0 hx142_1 hx142_2 hx142_3 hx142_4 hHeld ⊢
                    refine pure_ (i := 0) (N := some 41) (v := ?_) (a' := ?_) #[true, false, false, false, false, false, false, false, false, false, false, false] rfl rfl (any_of HT_.out (by kernel_rfl)) (fun _ _ _ h => h) (Or.inl ⟨by rfl, ?_⟩) ?_ ?_
                    rotate_left
                    · intro w'
                      go_simp
                      with_reducible rfl
                    rotate_left
                    · simp only [Act.put, List.setIfInBounds_toArray, List.set_cons_zero, List.set_cons_succ, i64_w, i32_w]
                      rfl
                    refine pure_ (i := 2) (N := some 43) (v := ?_) (a' := ?_) #[true, false, true, false, false, false, false, false, false, false, false, false] rfl rfl (any_of HT_.out (by kernel_rfl)) (fun _ _ _ h => h) (Or.inl ⟨by rfl, ?_⟩) ?_ ?_
                    rotate_left
                    · intro w'
                      go_simp
                      with_reducible rfl
                    rotate_left
                    · simp only [Act.put, List.setIfInBounds_toArray, List.set_cons_zero, List.set_cons_succ, i64_w, i32_w]
                      rfl
                    refine pure_ (i := 5) (N := some 46) (v := ?_) (a' := ?_) #[true, false, true, false, false, true, false, false, false, false, false, false] rfl rfl (any_of HT_.out (by kernel_rfl)) (fun _ _ _ h => h) (Or.inl ⟨by rfl, ?_⟩) ?_ ?_
                    rotate_left
                    · intro w'
                      go_simp
                      with_reducible rfl
                    rotate_left
                    · simp only [Act.put, List.setIfInBounds_toArray, List.set_cons_zero, List.set_cons_succ, i64_w, i32_w]
                      rfl
                    refine pure_ (i := 7) (N := some 48) (v := ?_) (a' := ?_) #[true, false, true, false, false, true, false, true, false, false, false, false] rfl rfl (any_of HT_.out (by kernel_rfl)) (fun _ _ _ h => h) (Or.inl ⟨by rfl, ?_⟩) ?_ ?_
                    rotate_left
                    · intro w'
                      go_simp
                      with_reducible rfl
                    rotate_left
                    · simp only [Act.put, List.setIfInBounds_toArray, List.set_cons_zero, List.set_cons_succ, i64_w, i32_w]
                      rfl
                    refine take_ (i := 1) (N := some 42) (v := ?_) (a' := ?_) #[true, true, true, false, false, true, false, true, false, false, false, false] rfl rfl (take_ofW HT_.out HW_.out (by kernel_rfl)) (fun _ _ _ h => h) (Or.inl ⟨by rfl, ?_⟩) hHeld ?_ ?_
                    rotate_left
                    · rintro w' ⟨s0, s1, s2, s3, s4, s5, s6, s7, s8, s9, s10, s11, s12, s13, s14, s15, s16, s17, s18, s19, s20, s21, s22, s23, s24, s25, s26, s27, s28, s29⟩
                      go_simp
                      with_reducible rfl
                    rotate_left
                    · simp only [Act.put, List.setIfInBounds_toArray, List.set_cons_zero, List.set_cons_succ, i64_w, i32_w]
                      rfl
                    refine pure_ (i := 3) (N := some 44) (v := ?_) (a' := ?_) #[true, true, true, true, false, true, false, true, false, false, false, false] rfl rfl (any_of HT_.out (by kernel_rfl)) (fun _ _ _ h => h) (Or.inl ⟨by rfl, ?_⟩) ?_ ?_
                    rotate_left
                    · intro w'
                      go_simp
                      with_reducible rfl
                    rotate_left
                    · simp only [Act.put, List.setIfInBounds_toArray, List.set_cons_zero, List.set_cons_succ, i64_w, i32_w]
                      rfl
                    refine take_ (i := 4) (N := some 45) (v := ?_) (a' := ?_) #[true, true, true, true, true, true, false, true, false, false, false, false] rfl rfl (take_ofW HT_.out HW_.out (by kernel_rfl)) (fun _ _ _ h => h) (Or.inl ⟨by rfl, ?_⟩) hHeld ?_ ?_
                    rotate_left
                    · rintro w' ⟨s0, s1, s2, s3, s4, s5, s6, s7, s8, s9, s10, s11, s12, s13, s14, s15, s16, s17, s18, s19, s20, s21, s22, s23, s24, s25, s26, s27, s28, s29⟩
                      go_simp
                      with_reducible rfl
                    rotate_left
                    · simp only [Act.put, List.setIfInBounds_toArray, List.set_cons_zero, List.set_cons_succ, i64_w, i32_w]
                      rfl
                    refine take_ (i := 6) (N := some 47) (v := ?_) (a' := ?_) #[true, true, true, true, true, true, true, true, false, false, false, false] rfl rfl (take_ofW HT_.out HW_.out (by kernel_rfl)) (fun _ _ _ h => h) (Or.inl ⟨by rfl, ?_⟩) hHeld ?_ ?_
                    rotate_left
                    · rintro w' ⟨s0, s1, s2, s3, s4, s5, s6, s7, s8, s9, s10, s11, s12, s13, s14, s15, s16, s17, s18, s19, s20, s21, s22, s23, s24, s25, s26, s27, s28, s29⟩
                      go_simp
                      with_reducible rfl
                    rotate_left
                    · simp only [Act.put, List.setIfInBounds_toArray, List.set_cons_zero, List.set_cons_succ, i64_w, i32_w]
                      rfl
                    refine pure_ (i := 8) (N := some 49) (v := ?_) (a' := ?_) #[true, true, true, true, true, true, true, true, true, false, false, false] rfl rfl (any_of HT_.out (by kernel_rfl)) (fun _ _ _ h => h) (Or.inl ⟨by rfl, ?_⟩) ?_ ?_
                    rotate_left
                    · intro w'
                      go_simp
                      with_reducible rfl
                    rotate_left
                    · simp only [Act.put, List.setIfInBounds_toArray, List.set_cons_zero, List.set_cons_succ, i64_w, i32_w]
                      rfl
                    refine take_ (i := 9) (N := some 50) (v := ?_) (a' := ?_) #[true, true, true, true, true, true, true, true, true, true, false, false] rfl rfl (take_ofW HT_.out HW_.out (by kernel_rfl)) (fun _ _ _ h => h) (Or.inl ⟨by rfl, ?_⟩) hHeld ?_ ?_
                    rotate_left
                    · rintro w' ⟨s0, s1, s2, s3, s4, s5, s6, s7, s8, s9, s10, s11, s12, s13, s14, s15, s16, s17, s18, s19, s20, s21, s22, s23, s24, s25, s26, s27, s28, s29⟩
                      go_simp
                      with_reducible rfl
                    rotate_left
                    · simp only [Act.put, List.setIfInBounds_toArray, List.set_cons_zero, List.set_cons_succ, i64_w, i32_w]
                      rfl
                    refine one_ (i := 10) (N := some 51) #[true, true, true, true, true, true, true, true, true, true, true, false] rfl rfl (one_of HT_.out (by kernel_rfl)) (by decide) (fun K hK => ?_)
                    refine goes_ Try.func28 (by kernel_rfl) rfl #[.agg #[.string ((rd_T40 l0_1 x5_2).f0), .int .i64 ((rd_T40 l0_1 x5_2).f1), .int .i64 ((rd_T40 l0_1 x5_2).f2), .slice A141_3 ((rd_T40 l0_1 x5_2).f3).length c141_3, .slice A141_4 ((rd_T40 l0_1 x5_2).f4).length c141_4], .agg #[.string ((rd_T40 l1_1 x5_2).f0), .int .i64 ((rd_T40 l1_1 x5_2).f1), .int .i64 ((rd_T40 l1_1 x5_2).f2), .slice A142_3 ((rd_T40 l1_1 x5_2).f3).length c142_3, .slice A142_4 ((rd_T40 l1_1 x5_2).f4).length c142_4]] (by rfl) rfl rfl (by (try simp only [List.map_toArray, List.map_cons, List.map_nil]); first | done | rfl | (simp only [List.length_drop, List.length_take]; rfl)) ?_
                    with_reducible refine (joistref00_SameFamily.calls k2 ((rd_T40 l0_1 x5_2).f0) ((rd_T40 l0_1 x5_2).f1) ((rd_T40 l0_1 x5_2).f2) _ _ ((rd_T40 l0_1 x5_2).f3) _ _ ((rd_T40 l0_1 x5_2).f4) ((rd_T40 l1_1 x5_2).f0) ((rd_T40 l1_1 x5_2).f1) ((rd_T40 l1_1 x5_2).f2) _ _ ((rd_T40 l1_1 x5_2).f3) _ _ ((rd_T40 l1_1 x5_2).f4) true _ ?side1 ?side2 ?side3 ?side4 ?side5 ?side6 ?side7 ?side8 A25.out).mono ?_
                    (case side1 => repeat (first | exact (Kd.C_below HR141_3.out HB.out) | (with_reducible refine Kd.C_alloc ?_ _) | (with_reducible refine Kd.C_drewN ?_ _) | (with_reducible refine Kd.C_drew ?_)))
                    (case side2 => exact HC141_3.out)
                    (case side3 => repeat (first | exact (Kd.C_below HR141_4.out HB.out) | (with_reducible refine Kd.C_alloc ?_ _) | (with_reducible refine Kd.C_drewN ?_ _) | (with_reducible refine Kd.C_drew ?_)))
                    (case side4 => exact HC141_4.out)
                    (case side5 => repeat (first | exact (Kd.C_below HR142_3.out HB.out) | (with_reducible refine Kd.C_alloc ?_ _) | (with_reducible refine Kd.C_drewN ?_ _) | (with_reducible refine Kd.C_drew ?_)))
                    (case side6 => exact HC142_3.out)
                    (case side7 => repeat (first | exact (Kd.C_below HR142_4.out HB.out) | (with_reducible refine Kd.C_alloc ?_ _) | (with_reducible refine Kd.C_drewN ?_ _) | (with_reducible refine Kd.C_drew ?_)))
                    (case side8 => exact HC142_4.out)
                    rintro e w30 ⟨rfl, hb⟩
                    refine ⟨_, rfl, ?_⟩
                    have n0_ := Aside0.mk (blk_below (g := gb139) (o := .cells #[.int .i64 a0_0, .slice (some ad141) l0_1.length c0_1, .int .i64 a0_2, .string a0_3, .string a0_4, .int .i64 a0_5, .int .i64 a0_6, .int .i64 a0_7, .int .i64 a0_8, .int .i64 a0_9] 28 (0, 0)) (by (with_reducible repeat (first | refine blk_drewN ?_ _ | refine blk_drew ?_ | refine blk_alloc ?_ _)); exact BK139.out) hb)
                    have n1_ := Aside0.mk (blk_below (g := gb140) (o := .cells #[.int .i64 a1_0, .slice (some ad142) l1_1.length c1_1, .int .i64 a1_2, .string a1_3, .string a1_4, .int .i64 a1_5, .int .i64 a1_6, .int .i64 a1_7, .int .i64 a1_8, .int .i64 a1_9] 28 (0, 0)) (by (with_reducible repeat (first | refine blk_drewN ?_ _ | refine blk_drew ?_ | refine blk_alloc ?_ _)); exact BK140.out) hb)
                    have n2_ := Aside0.mk (below_step (by repeat (first | (with_reducible first | exact HB.out | apply below_alloc | apply pw_below_drewN | apply below_drew1 | refine below_set ?_ GE139.out | refine below_set ?_ GE140.out) | exact HB.out)) hb)
                    clear BK139
                    clear BK140
                    clear HB
                    have BK139 := n0_
                    have BK140 := n1_
                    have HB := n2_
                    clear n0_ n1_ n2_
                    (try clear hb)
                    (try clear hb2)
                    (try clear hk)
                    (try clear hi)
                    refine hK.out _ _ ⟨(blk_cell BK139.out 0).trans rfl, (blk_cell BK139.out 1).trans rfl, (blk_cell BK139.out 2).trans rfl, (blk_cell BK139.out 3).trans rfl, (blk_cell BK139.out 4).trans rfl, (blk_cell BK139.out 5).trans rfl, (blk_cell BK139.out 6).trans rfl, (blk_cell BK139.out 7).trans rfl, (blk_cell BK139.out 8).trans rfl, (blk_cell BK139.out 9).trans rfl, (blk_cell BK140.out 0).trans rfl, (blk_cell BK140.out 1).trans rfl, (blk_cell BK140.out 2).trans rfl, (blk_cell BK140.out 3).trans rfl, (blk_cell BK140.out 4).trans rfl, (blk_cell BK140.out 5).trans rfl, (blk_cell BK140.out 6).trans rfl, (blk_cell BK140.out 7).trans rfl, (blk_cell BK140.out 8).trans rfl, (blk_cell BK140.out 9).trans rfl, ((HB.out.cell (World.block_lt_of_cell? w _ hw141_0)).trans hw141_0), ((HB.out.cell (World.block_lt_of_cell? w _ hw141_1)).trans hw141_1), ((HB.out.cell (World.block_lt_of_cell? w _ hw141_2)).trans hw141_2), ((HB.out.cell (World.block_lt_of_cell? w _ hw141_3)).trans hw141_3), ((HB.out.cell (World.block_lt_of_cell? w _ hw141_4)).trans hw141_4), ((HB.out.cell (World.block_lt_of_cell? w _ hw142_0)).trans hw142_0), ((HB.out.cell (World.block_lt_of_cell? w _ hw142_1)).trans hw142_1), ((HB.out.cell (World.block_lt_of_cell? w _ hw142_2)).trans hw142_2), ((HB.out.cell (World.block_lt_of_cell? w _ hw142_3)).trans hw142_3), ((HB.out.cell (World.block_lt_of_cell? w _ hw142_4)).trans hw142_4)⟩ (fun hHeld => ?_)
                    clear hK K
                    refine norm_ (a' := ?_) ?_ ?_
                    rotate_left
                    · show Act.put _ (some 51) _ = _
                      simp only [Act.put, List.setIfInBounds_toArray, List.set_cons_zero, List.set_cons_succ, i64_w, i32_w]
                      rfl
                    refine pure_ (i := 11) (N := some 52) (v := ?_) (a' := ?_) #[true, true, true, true, true, true, true, true, true, true, true, true] rfl rfl (any_of HT_.out (by kernel_rfl)) (fun _ _ _ h => h) (Or.inl ⟨by rfl, ?_⟩) ?_ ?_
                    rotate_left
                    · intro w'
                      go_simp
                      with_reducible rfl
                    rotate_left
                    · simp only [Act.put, List.setIfInBounds_toArray, List.set_cons_zero, List.set_cons_succ, i64_w, i32_w]
                      rfl
                    refine done_ (done_of HT_.out (by kernel_rfl)) ?_
                    try go_wp2
                    go_roundg k2
                    case measure => have := HJ2.out; have := HK2.out; omega
                    case rel => exact ⟨(wrap64 (x5_2 + 1)), (by first | rfl | (simp; done) | (simp [*]; done)), H', ⟨by have := HJ2.out; have := HK2.out; omega⟩, ⟨by (with_reducible repeat (first | refine blk_drewN ?_ _ | refine blk_drew ?_ | refine blk_alloc ?_ _)); exact BK139.out⟩, ⟨by (with_reducible repeat (first | refine blk_drewN ?_ _ | refine blk_drew ?_ | refine blk_alloc ?_ _)); exact BK140.out⟩, ⟨by repeat (first | (with_reducible first | exact HB.out | apply below_alloc | apply pw_below_drewN | apply below_drew1 | refine below_set ?_ GE139.out | refine below_set ?_ GE140.out) | exact HB.out)⟩⟩
                  · replace c26 := Bool.eq_false_iff.mpr c26
                    subst c26
                    have H1 : (some false) = some r := by rw [if_neg (show ¬ (false = true) by decide)] at H; exact H
                    clear H
                    have H := H1
                    clear H1
                    obtain rfl := Option.some.inj H
                    have hnb31 := NB139_140.out
                    have hnc31 := NB140_139.out
                    have hcz32_0 : wr.cell? ⟨gb139, 0, none⟩ = some (.int .i64 a0_0) := (blk_cell BK139.out 0).trans rfl
                    have hcz32_1 : wr.cell? ⟨gb139, 1, none⟩ = some (.slice A0_1 l0_1.length c0_1) := (blk_cell BK139.out 1).trans rfl
                    have hcz32_2 : wr.cell? ⟨gb139, 2, none⟩ = some (.int .i64 a0_2) := (blk_cell BK139.out 2).trans rfl
                    have hcz32_3 : wr.cell? ⟨gb139, 3, none⟩ = some (.string a0_3) := (blk_cell BK139.out 3).trans rfl
                    have hcz32_4 : wr.cell? ⟨gb139, 4, none⟩ = some (.string a0_4) := (blk_cell BK139.out 4).trans rfl
                    have hcz32_5 : wr.cell? ⟨gb139, 5, none⟩ = some (.int .i64 a0_5) := (blk_cell BK139.out 5).trans rfl
                    have hcz32_6 : wr.cell? ⟨gb139, 6, none⟩ = some (.int .i64 a0_6) := (blk_cell BK139.out 6).trans rfl
                    have hcz32_7 : wr.cell? ⟨gb139, 7, none⟩ = some (.int .i64 a0_7) := (blk_cell BK139.out 7).trans rfl
                    have hcz32_8 : wr.cell? ⟨gb139, 8, none⟩ = some (.int .i64 a0_8) := (blk_cell BK139.out 8).trans rfl
                    have hcz32_9 : wr.cell? ⟨gb139, 9, none⟩ = some (.int .i64 a0_9) := (blk_cell BK139.out 9).trans rfl
                    have hfz32_0 := blk_frozen BK139.out 0
                    have hfz32_1 := blk_frozen BK139.out 1
                    have hfz32_2 := blk_frozen BK139.out 2
                    have hfz32_3 := blk_frozen BK139.out 3
                    have hfz32_4 := blk_frozen BK139.out 4
                    have hfz32_5 := blk_frozen BK139.out 5
                    have hfz32_6 := blk_frozen BK139.out 6
                    have hfz32_7 := blk_frozen BK139.out 7
                    have hfz32_8 := blk_frozen BK139.out 8
                    have hfz32_9 := blk_frozen BK139.out 9
                    try go_wp2
                    have n0_ := Aside0.mk (blk_drew BK139.out)
                    have n1_ := Aside0.mk (blk_drew BK140.out)
                    have n2_ := Aside0.mk (below_drew1 HB.out)
                    clear BK139
                    clear BK140
                    clear HB
                    have BK139 := n0_
                    have BK140 := n1_
                    have HB := n2_
                    clear n0_ n1_ n2_
                    have p141 : 0 ≤ (x5_2 : Int) := of_decide_eq_true (by first | (with_reducible assumption) | assumption)
                    have q141 : x5_2 < (l0_1.length : Int) := of_decide_eq_true (by first | (with_reducible assumption) | assumption)
                    obtain ⟨ad141, A141_3, c141_3, A141_4, c141_4, e141, hx141_0, hx141_1, hx141_2, hx141_3, hx141_4, hl141_3, hi141_3, hl141_4, hi141_4⟩ := at_T40 HR0_1.out x5_2 p141 q141
                    have hw141_4 := hx141_4
                    have hw141_3 := hx141_3
                    have hw141_2 := hx141_2
                    have hw141_1 := hx141_1
                    have hw141_0 := hx141_0
                    cases e141
                    replace hx141_0 := (HB.out.cell (World.block_lt_of_cell? w _ hx141_0)).trans hx141_0
                    replace hx141_1 := (HB.out.cell (World.block_lt_of_cell? w _ hx141_1)).trans hx141_1
                    replace hx141_2 := (HB.out.cell (World.block_lt_of_cell? w _ hx141_2)).trans hx141_2
                    replace hx141_3 := (HB.out.cell (World.block_lt_of_cell? w _ hx141_3)).trans hx141_3
                    replace hx141_4 := (HB.out.cell (World.block_lt_of_cell? w _ hx141_4)).trans hx141_4
                    have HR141_3 := Aside0.mk hi141_3
                    have HC141_3 := Aside0.mk hl141_3
                    clear hi141_3 hl141_3
                    have HR141_4 := Aside0.mk hi141_4
                    have HC141_4 := Aside0.mk hl141_4
                    clear hi141_4 hl141_4
                    replace p141 := eq_true p141
                    replace q141 := eq_true q141
                    have p142 : 0 ≤ (x5_2 : Int) := of_decide_eq_true (by first | (with_reducible assumption) | assumption)
                    have q142 : x5_2 < (l1_1.length : Int) := of_decide_eq_true (by first | (with_reducible assumption) | assumption)
                    obtain ⟨ad142, A142_3, c142_3, A142_4, c142_4, e142, hx142_0, hx142_1, hx142_2, hx142_3, hx142_4, hl142_3, hi142_3, hl142_4, hi142_4⟩ := at_T40 HR1_1.out x5_2 p142 q142
                    have hw142_4 := hx142_4
                    have hw142_3 := hx142_3
                    have hw142_2 := hx142_2
                    have hw142_1 := hx142_1
                    have hw142_0 := hx142_0
                    cases e142
                    replace hx142_0 := (HB.out.cell (World.block_lt_of_cell? w _ hx142_0)).trans hx142_0
                    replace hx142_1 := (HB.out.cell (World.block_lt_of_cell? w _ hx142_1)).trans hx142_1
                    replace hx142_2 := (HB.out.cell (World.block_lt_of_cell? w _ hx142_2)).trans hx142_2
                    replace hx142_3 := (HB.out.cell (World.block_lt_of_cell? w _ hx142_3)).trans hx142_3
                    replace hx142_4 := (HB.out.cell (World.block_lt_of_cell? w _ hx142_4)).trans hx142_4
                    have HR142_3 := Aside0.mk hi142_3
                    have HC142_3 := Aside0.mk hl142_3
                    clear hi142_3 hl142_3
                    have HR142_4 := Aside0.mk hi142_4
                    have HC142_4 := Aside0.mk hl142_4
                    clear hi142_4 hl142_4
                    replace p142 := eq_true p142
                    replace q142 := eq_true q142
                    refine start_ (n := 12) (S := fun w' => w'.cell? ⟨gb139, 0, none⟩ = some (.int .i64 a0_0) ∧ w'.cell? ⟨gb139, 1, none⟩ = some (.slice (some ad141) l0_1.length c0_1) ∧ w'.cell? ⟨gb139, 2, none⟩ = some (.int .i64 a0_2) ∧ w'.cell? ⟨gb139, 3, none⟩ = some (.string a0_3) ∧ w'.cell? ⟨gb139, 4, none⟩ = some (.string a0_4) ∧ w'.cell? ⟨gb139, 5, none⟩ = some (.int .i64 a0_5) ∧ w'.cell? ⟨gb139, 6, none⟩ = some (.int .i64 a0_6) ∧ w'.cell? ⟨gb139, 7, none⟩ = some (.int .i64 a0_7) ∧ w'.cell? ⟨gb139, 8, none⟩ = some (.int .i64 a0_8) ∧ w'.cell? ⟨gb139, 9, none⟩ = some (.int .i64 a0_9) ∧ w'.cell? ⟨gb140, 0, none⟩ = some (.int .i64 a1_0) ∧ w'.cell? ⟨gb140, 1, none⟩ = some (.slice (some ad142) l1_1.length c1_1) ∧ w'.cell? ⟨gb140, 2, none⟩ = some (.int .i64 a1_2) ∧ w'.cell? ⟨gb140, 3, none⟩ = some (.string a1_3) ∧ w'.cell? ⟨gb140, 4, none⟩ = some (.string a1_4) ∧ w'.cell? ⟨gb140, 5, none⟩ = some (.int .i64 a1_5) ∧ w'.cell? ⟨gb140, 6, none⟩ = some (.int .i64 a1_6) ∧ w'.cell? ⟨gb140, 7, none⟩ = some (.int .i64 a1_7) ∧ w'.cell? ⟨gb140, 8, none⟩ = some (.int .i64 a1_8) ∧ w'.cell? ⟨gb140, 9, none⟩ = some (.int .i64 a1_9) ∧ w'.cell? (ad141.add ((x5_2).toNat * 5)) = some (.string ((rd_T40 l0_1 x5_2).f0)) ∧ w'.cell? ⟨(ad141.add ((x5_2).toNat * 5)).block, (ad141.add ((x5_2).toNat * 5)).off + 1, none⟩ = some (.int .i64 ((rd_T40 l0_1 x5_2).f1)) ∧ w'.cell? ⟨(ad141.add ((x5_2).toNat * 5)).block, (ad141.add ((x5_2).toNat * 5)).off + 2, none⟩ = some (.int .i64 ((rd_T40 l0_1 x5_2).f2)) ∧ w'.cell? ⟨(ad141.add ((x5_2).toNat * 5)).block, (ad141.add ((x5_2).toNat * 5)).off + 3, none⟩ = some (.slice A141_3 ((rd_T40 l0_1 x5_2).f3).length c141_3) ∧ w'.cell? ⟨(ad141.add ((x5_2).toNat * 5)).block, (ad141.add ((x5_2).toNat * 5)).off + 4, none⟩ = some (.slice A141_4 ((rd_T40 l0_1 x5_2).f4).length c141_4) ∧ w'.cell? (ad142.add ((x5_2).toNat * 5)) = some (.string ((rd_T40 l1_1 x5_2).f0)) ∧ w'.cell? ⟨(ad142.add ((x5_2).toNat * 5)).block, (ad142.add ((x5_2).toNat * 5)).off + 1, none⟩ = some (.int .i64 ((rd_T40 l1_1 x5_2).f1)) ∧ w'.cell? ⟨(ad142.add ((x5_2).toNat * 5)).block, (ad142.add ((x5_2).toNat * 5)).off + 2, none⟩ = some (.int .i64 ((rd_T40 l1_1 x5_2).f2)) ∧ w'.cell? ⟨(ad142.add ((x5_2).toNat * 5)).block, (ad142.add ((x5_2).toNat * 5)).off + 3, none⟩ = some (.slice A142_3 ((rd_T40 l1_1 x5_2).f3).length c142_3) ∧ w'.cell? ⟨(ad142.add ((x5_2).toNat * 5)).block, (ad142.add ((x5_2).toNat * 5)).off + 4, none⟩ = some (.slice A142_4 ((rd_T40 l1_1 x5_2).f4).length c142_4)) (ds := []) #[false, false, false, false, false, false, false, false, false, false, false, false] (by kernel_rfl) rfl rfl ⟨(blk_cell BK139.out 0).trans rfl, (blk_cell BK139.out 1).trans rfl, (blk_cell BK139.out 2).trans rfl, (blk_cell BK139.out 3).trans rfl, (blk_cell BK139.out 4).trans rfl, (blk_cell BK139.out 5).trans rfl, (blk_cell BK139.out 6).trans rfl, (blk_cell BK139.out 7).trans rfl, (blk_cell BK139.out 8).trans rfl, (blk_cell BK139.out 9).trans rfl, (blk_cell BK140.out 0).trans rfl, (blk_cell BK140.out 1).trans rfl, (blk_cell BK140.out 2).trans rfl, (blk_cell BK140.out 3).trans rfl, (blk_cell BK140.out 4).trans rfl, (blk_cell BK140.out 5).trans rfl, (blk_cell BK140.out 6).trans rfl, (blk_cell BK140.out 7).trans rfl, (blk_cell BK140.out 8).trans rfl, (blk_cell BK140.out 9).trans rfl, ((HB.out.cell (World.block_lt_of_cell? w _ hw141_0)).trans hw141_0), ((HB.out.cell (World.block_lt_of_cell? w _ hw141_1)).trans hw141_1), ((HB.out.cell (World.block_lt_of_cell? w _ hw141_2)).trans hw141_2), ((HB.out.cell (World.block_lt_of_cell? w _ hw141_3)).trans hw141_3), ((HB.out.cell (World.block_lt_of_cell? w _ hw141_4)).trans hw141_4), ((HB.out.cell (World.block_lt_of_cell? w _ hw142_0)).trans hw142_0), ((HB.out.cell (World.block_lt_of_cell? w _ hw142_1)).trans hw142_1), ((HB.out.cell (World.block_lt_of_cell? w _ hw142_2)).trans hw142_2), ((HB.out.cell (World.block_lt_of_cell? w _ hw142_3)).trans hw142_3), ((HB.out.cell (World.block_lt_of_cell? w _ hw142_4)).trans hw142_4)⟩ (fun hHeld => ?_); refine with_tabW joistref00_SameSchema.tab6 joistref00_SameSchema.bits6 (fun HT_ HW_ => ?_)
                    generalize wr.drew = w33 at BK139 BK140 HB HR141_3 HR141_4 HR142_3 HR142_4 hx141_0 hx141_1 hx141_2 hx141_3 hx141_4 hx142_0 hx142_1 hx142_2 hx142_3 hx142_4 hHeld ⊢
                    refine pure_ (i := 0) (N := some 41) (v := ?_) (a' := ?_) #[true, false, false, false, false, false, false, false, false, false, false, false] rfl rfl (any_of HT_.out (by kernel_rfl)) (fun _ _ _ h => h) (Or.inl ⟨by rfl, ?_⟩) ?_ ?_
                    rotate_left
                    · intro w'
                      go_simp
                      with_reducible rfl
                    rotate_left
                    · simp only [Act.put, List.setIfInBounds_toArray, List.set_cons_zero, List.set_cons_succ, i64_w, i32_w]
                      rfl
                    refine pure_ (i := 2) (N := some 43) (v := ?_) (a' := ?_) #[true, false, true, false, false, false, false, false, false, false, false, false] rfl rfl (any_of HT_.out (by kernel_rfl)) (fun _ _ _ h => h) (Or.inl ⟨by rfl, ?_⟩) ?_ ?_
                    rotate_left
                    · intro w'
                      go_simp
                      with_reducible rfl
                    rotate_left
                    · simp only [Act.put, List.setIfInBounds_toArray, List.set_cons_zero, List.set_cons_succ, i64_w, i32_w]
                      rfl
                    refine pure_ (i := 5) (N := some 46) (v := ?_) (a' := ?_) #[true, false, true, false, false, true, false, false, false, false, false, false] rfl rfl (any_of HT_.out (by kernel_rfl)) (fun _ _ _ h => h) (Or.inl ⟨by rfl, ?_⟩) ?_ ?_
                    rotate_left
                    · intro w'
                      go_simp
                      with_reducible rfl
                    rotate_left
                    · simp only [Act.put, List.setIfInBounds_toArray, List.set_cons_zero, List.set_cons_succ, i64_w, i32_w]
                      rfl
                    refine pure_ (i := 7) (N := some 48) (v := ?_) (a' := ?_) #[true, false, true, false, false, true, false, true, false, false, false, false] rfl rfl (any_of HT_.out (by kernel_rfl)) (fun _ _ _ h => h) (Or.inl ⟨by rfl, ?_⟩) ?_ ?_
                    rotate_left
                    · intro w'
                      go_simp
                      with_reducible rfl
                    rotate_left
                    · simp only [Act.put, List.setIfInBounds_toArray, List.set_cons_zero, List.set_cons_succ, i64_w, i32_w]
                      rfl
                    refine take_ (i := 1) (N := some 42) (v := ?_) (a' := ?_) #[true, true, true, false, false, true, false, true, false, false, false, false] rfl rfl (take_ofW HT_.out HW_.out (by kernel_rfl)) (fun _ _ _ h => h) (Or.inl ⟨by rfl, ?_⟩) hHeld ?_ ?_
                    rotate_left
                    · rintro w' ⟨s0, s1, s2, s3, s4, s5, s6, s7, s8, s9, s10, s11, s12, s13, s14, s15, s16, s17, s18, s19, s20, s21, s22, s23, s24, s25, s26, s27, s28, s29⟩
                      go_simp
                      with_reducible rfl
                    rotate_left
                    · simp only [Act.put, List.setIfInBounds_toArray, List.set_cons_zero, List.set_cons_succ, i64_w, i32_w]
                      rfl
                    refine pure_ (i := 3) (N := some 44) (v := ?_) (a' := ?_) #[true, true, true, true, false, true, false, true, false, false, false, false] rfl rfl (any_of HT_.out (by kernel_rfl)) (fun _ _ _ h => h) (Or.inl ⟨by rfl, ?_⟩) ?_ ?_
                    rotate_left
                    · intro w'
                      go_simp
                      with_reducible rfl
                    rotate_left
                    · simp only [Act.put, List.setIfInBounds_toArray, List.set_cons_zero, List.set_cons_succ, i64_w, i32_w]
                      rfl
                    refine take_ (i := 4) (N := some 45) (v := ?_) (a' := ?_) #[true, true, true, true, true, true, false, true, false, false, false, false] rfl rfl (take_ofW HT_.out HW_.out (by kernel_rfl)) (fun _ _ _ h => h) (Or.inl ⟨by rfl, ?_⟩) hHeld ?_ ?_
                    rotate_left
                    · rintro w' ⟨s0, s1, s2, s3, s4, s5, s6, s7, s8, s9, s10, s11, s12, s13, s14, s15, s16, s17, s18, s19, s20, s21, s22, s23, s24, s25, s26, s27, s28, s29⟩
                      go_simp
                      with_reducible rfl
                    rotate_left
                    · simp only [Act.put, List.setIfInBounds_toArray, List.set_cons_zero, List.set_cons_succ, i64_w, i32_w]
                      rfl
                    refine take_ (i := 6) (N := some 47) (v := ?_) (a' := ?_) #[true, true, true, true, true, true, true, true, false, false, false, false] rfl rfl (take_ofW HT_.out HW_.out (by kernel_rfl)) (fun _ _ _ h => h) (Or.inl ⟨by rfl, ?_⟩) hHeld ?_ ?_
                    rotate_left
                    · rintro w' ⟨s0, s1, s2, s3, s4, s5, s6, s7, s8, s9, s10, s11, s12, s13, s14, s15, s16, s17, s18, s19, s20, s21, s22, s23, s24, s25, s26, s27, s28, s29⟩
                      go_simp
                      with_reducible rfl
                    rotate_left
                    · simp only [Act.put, List.setIfInBounds_toArray, List.set_cons_zero, List.set_cons_succ, i64_w, i32_w]
                      rfl
                    refine pure_ (i := 8) (N := some 49) (v := ?_) (a' := ?_) #[true, true, true, true, true, true, true, true, true, false, false, false] rfl rfl (any_of HT_.out (by kernel_rfl)) (fun _ _ _ h => h) (Or.inl ⟨by rfl, ?_⟩) ?_ ?_
                    rotate_left
                    · intro w'
                      go_simp
                      with_reducible rfl
                    rotate_left
                    · simp only [Act.put, List.setIfInBounds_toArray, List.set_cons_zero, List.set_cons_succ, i64_w, i32_w]
                      rfl
                    refine take_ (i := 9) (N := some 50) (v := ?_) (a' := ?_) #[true, true, true, true, true, true, true, true, true, true, false, false] rfl rfl (take_ofW HT_.out HW_.out (by kernel_rfl)) (fun _ _ _ h => h) (Or.inl ⟨by rfl, ?_⟩) hHeld ?_ ?_
                    rotate_left
                    · rintro w' ⟨s0, s1, s2, s3, s4, s5, s6, s7, s8, s9, s10, s11, s12, s13, s14, s15, s16, s17, s18, s19, s20, s21, s22, s23, s24, s25, s26, s27, s28, s29⟩
                      go_simp
                      with_reducible rfl
                    rotate_left
                    · simp only [Act.put, List.setIfInBounds_toArray, List.set_cons_zero, List.set_cons_succ, i64_w, i32_w]
                      rfl
                    refine one_ (i := 10) (N := some 51) #[true, true, true, true, true, true, true, true, true, true, true, false] rfl rfl (one_of HT_.out (by kernel_rfl)) (by decide) (fun K hK => ?_)
                    refine goes_ Try.func28 (by kernel_rfl) rfl #[.agg #[.string ((rd_T40 l0_1 x5_2).f0), .int .i64 ((rd_T40 l0_1 x5_2).f1), .int .i64 ((rd_T40 l0_1 x5_2).f2), .slice A141_3 ((rd_T40 l0_1 x5_2).f3).length c141_3, .slice A141_4 ((rd_T40 l0_1 x5_2).f4).length c141_4], .agg #[.string ((rd_T40 l1_1 x5_2).f0), .int .i64 ((rd_T40 l1_1 x5_2).f1), .int .i64 ((rd_T40 l1_1 x5_2).f2), .slice A142_3 ((rd_T40 l1_1 x5_2).f3).length c142_3, .slice A142_4 ((rd_T40 l1_1 x5_2).f4).length c142_4]] (by rfl) rfl rfl (by (try simp only [List.map_toArray, List.map_cons, List.map_nil]); first | done | rfl | (simp only [List.length_drop, List.length_take]; rfl)) ?_
                    with_reducible refine (joistref00_SameFamily.calls k2 ((rd_T40 l0_1 x5_2).f0) ((rd_T40 l0_1 x5_2).f1) ((rd_T40 l0_1 x5_2).f2) _ _ ((rd_T40 l0_1 x5_2).f3) _ _ ((rd_T40 l0_1 x5_2).f4) ((rd_T40 l1_1 x5_2).f0) ((rd_T40 l1_1 x5_2).f1) ((rd_T40 l1_1 x5_2).f2) _ _ ((rd_T40 l1_1 x5_2).f3) _ _ ((rd_T40 l1_1 x5_2).f4) false _ ?side1 ?side2 ?side3 ?side4 ?side5 ?side6 ?side7 ?side8 A25.out).mono ?_
                    (case side1 => repeat (first | exact (Kd.C_below HR141_3.out HB.out) | (with_reducible refine Kd.C_alloc ?_ _) | (with_reducible refine Kd.C_drewN ?_ _) | (with_reducible refine Kd.C_drew ?_)))
                    (case side2 => exact HC141_3.out)
                    (case side3 => repeat (first | exact (Kd.C_below HR141_4.out HB.out) | (with_reducible refine Kd.C_alloc ?_ _) | (with_reducible refine Kd.C_drewN ?_ _) | (with_reducible refine Kd.C_drew ?_)))
                    (case side4 => exact HC141_4.out)
                    (case side5 => repeat (first | exact (Kd.C_below HR142_3.out HB.out) | (with_reducible refine Kd.C_alloc ?_ _) | (with_reducible refine Kd.C_drewN ?_ _) | (with_reducible refine Kd.C_drew ?_)))
                    (case side6 => exact HC142_3.out)
                    (case side7 => repeat (first | exact (Kd.C_below HR142_4.out HB.out) | (with_reducible refine Kd.C_alloc ?_ _) | (with_reducible refine Kd.C_drewN ?_ _) | (with_reducible refine Kd.C_drew ?_)))
                    (case side8 => exact HC142_4.out)
                    rintro e w34 ⟨rfl, hb⟩
                    refine ⟨_, rfl, ?_⟩
                    have n0_ := Aside0.mk (blk_below (g := gb139) (o := .cells #[.int .i64 a0_0, .slice (some ad141) l0_1.length c0_1, .int .i64 a0_2, .string a0_3, .string a0_4, .int .i64 a0_5, .int .i64 a0_6, .int .i64 a0_7, .int .i64 a0_8, .int .i64 a0_9] 28 (0, 0)) (by (with_reducible repeat (first | refine blk_drewN ?_ _ | refine blk_drew ?_ | refine blk_alloc ?_ _)); exact BK139.out) hb)
                    have n1_ := Aside0.mk (blk_below (g := gb140) (o := .cells #[.int .i64 a1_0, .slice (some ad142) l1_1.length c1_1, .int .i64 a1_2, .string a1_3, .string a1_4, .int .i64 a1_5, .int .i64 a1_6, .int .i64 a1_7, .int .i64 a1_8, .int .i64 a1_9] 28 (0, 0)) (by (with_reducible repeat (first | refine blk_drewN ?_ _ | refine blk_drew ?_ | refine blk_alloc ?_ _)); exact BK140.out) hb)
                    have n2_ := Aside0.mk (below_step (by repeat (first | (with_reducible first | exact HB.out | apply below_alloc | apply pw_below_drewN | apply below_drew1 | refine below_set ?_ GE139.out | refine below_set ?_ GE140.out) | exact HB.out)) hb)
                    clear BK139
                    clear BK140
                    clear HB
                    have BK139 := n0_
                    have BK140 := n1_
                    have HB := n2_
                    clear n0_ n1_ n2_
                    (try clear hb)
                    (try clear hb2)
                    (try clear hk)
                    (try clear hi)
                    refine hK.out _ _ ⟨(blk_cell BK139.out 0).trans rfl, (blk_cell BK139.out 1).trans rfl, (blk_cell BK139.out 2).trans rfl, (blk_cell BK139.out 3).trans rfl, (blk_cell BK139.out 4).trans rfl, (blk_cell BK139.out 5).trans rfl, (blk_cell BK139.out 6).trans rfl, (blk_cell BK139.out 7).trans rfl, (blk_cell BK139.out 8).trans rfl, (blk_cell BK139.out 9).trans rfl, (blk_cell BK140.out 0).trans rfl, (blk_cell BK140.out 1).trans rfl, (blk_cell BK140.out 2).trans rfl, (blk_cell BK140.out 3).trans rfl, (blk_cell BK140.out 4).trans rfl, (blk_cell BK140.out 5).trans rfl, (blk_cell BK140.out 6).trans rfl, (blk_cell BK140.out 7).trans rfl, (blk_cell BK140.out 8).trans rfl, (blk_cell BK140.out 9).trans rfl, ((HB.out.cell (World.block_lt_of_cell? w _ hw141_0)).trans hw141_0), ((HB.out.cell (World.block_lt_of_cell? w _ hw141_1)).trans hw141_1), ((HB.out.cell (World.block_lt_of_cell? w _ hw141_2)).trans hw141_2), ((HB.out.cell (World.block_lt_of_cell? w _ hw141_3)).trans hw141_3), ((HB.out.cell (World.block_lt_of_cell? w _ hw141_4)).trans hw141_4), ((HB.out.cell (World.block_lt_of_cell? w _ hw142_0)).trans hw142_0), ((HB.out.cell (World.block_lt_of_cell? w _ hw142_1)).trans hw142_1), ((HB.out.cell (World.block_lt_of_cell? w _ hw142_2)).trans hw142_2), ((HB.out.cell (World.block_lt_of_cell? w _ hw142_3)).trans hw142_3), ((HB.out.cell (World.block_lt_of_cell? w _ hw142_4)).trans hw142_4)⟩ (fun hHeld => ?_)
                    clear hK K
                    refine norm_ (a' := ?_) ?_ ?_
                    rotate_left
                    · show Act.put _ (some 51) _ = _
                      simp only [Act.put, List.setIfInBounds_toArray, List.set_cons_zero, List.set_cons_succ, i64_w, i32_w]
                      rfl
                    refine pure_ (i := 11) (N := some 52) (v := ?_) (a' := ?_) #[true, true, true, true, true, true, true, true, true, true, true, true] rfl rfl (any_of HT_.out (by kernel_rfl)) (fun _ _ _ h => h) (Or.inl ⟨by rfl, ?_⟩) ?_ ?_
                    rotate_left
                    · intro w'
                      go_simp
                      with_reducible rfl
                    rotate_left
                    · simp only [Act.put, List.setIfInBounds_toArray, List.set_cons_zero, List.set_cons_succ, i64_w, i32_w]
                      rfl
                    refine done_ (done_of HT_.out (by kernel_rfl)) ?_
                    try go_wp2
                    go_ret
                    exact ⟨by first | rfl | (simp [errW_none, errW_some] <;> rfl) | (simp [*, errW_none, errW_some] <;> rfl), by repeat (first | (with_reducible first | exact HB.out | apply below_alloc | apply pw_below_drewN | apply below_drew1 | refine below_set ?_ GE139.out | refine below_set ?_ GE140.out) | exact HB.out)⟩
                · rw [if_neg c24] at H
                  exact absurd H (by simp)
              · rw [if_neg c23] at H
                exact absurd H (by simp)
            · rw [if_neg c22] at H
              have c22b0 : decide (x5_2 < (l0_1.length : Int)) = false := decide_eq_false c22
              clear c22
              obtain rfl := Option.some.inj H
              have hnb35 := NB139_140.out
              have hnc35 := NB140_139.out
              have hcz36_0 : wr.cell? ⟨gb139, 0, none⟩ = some (.int .i64 a0_0) := (blk_cell BK139.out 0).trans rfl
              have hcz36_1 : wr.cell? ⟨gb139, 1, none⟩ = some (.slice A0_1 l0_1.length c0_1) := (blk_cell BK139.out 1).trans rfl
              have hcz36_2 : wr.cell? ⟨gb139, 2, none⟩ = some (.int .i64 a0_2) := (blk_cell BK139.out 2).trans rfl
              have hcz36_3 : wr.cell? ⟨gb139, 3, none⟩ = some (.string a0_3) := (blk_cell BK139.out 3).trans rfl
              have hcz36_4 : wr.cell? ⟨gb139, 4, none⟩ = some (.string a0_4) := (blk_cell BK139.out 4).trans rfl
              have hcz36_5 : wr.cell? ⟨gb139, 5, none⟩ = some (.int .i64 a0_5) := (blk_cell BK139.out 5).trans rfl
              have hcz36_6 : wr.cell? ⟨gb139, 6, none⟩ = some (.int .i64 a0_6) := (blk_cell BK139.out 6).trans rfl
              have hcz36_7 : wr.cell? ⟨gb139, 7, none⟩ = some (.int .i64 a0_7) := (blk_cell BK139.out 7).trans rfl
              have hcz36_8 : wr.cell? ⟨gb139, 8, none⟩ = some (.int .i64 a0_8) := (blk_cell BK139.out 8).trans rfl
              have hcz36_9 : wr.cell? ⟨gb139, 9, none⟩ = some (.int .i64 a0_9) := (blk_cell BK139.out 9).trans rfl
              have hfz36_0 := blk_frozen BK139.out 0
              have hfz36_1 := blk_frozen BK139.out 1
              have hfz36_2 := blk_frozen BK139.out 2
              have hfz36_3 := blk_frozen BK139.out 3
              have hfz36_4 := blk_frozen BK139.out 4
              have hfz36_5 := blk_frozen BK139.out 5
              have hfz36_6 := blk_frozen BK139.out 6
              have hfz36_7 := blk_frozen BK139.out 7
              have hfz36_8 := blk_frozen BK139.out 8
              have hfz36_9 := blk_frozen BK139.out 9
              go_wp2
              go_ret
              exact ⟨by first | rfl | (simp [errW_none, errW_some] <;> rfl) | (simp [*, errW_none, errW_some] <;> rfl), by repeat (first | (with_reducible first | exact HB.out | apply below_alloc | apply pw_below_drewN | apply below_drew1 | refine below_set ?_ GE139.out | refine below_set ?_ GE140.out) | exact HB.out)⟩

end Go.Proofs.Ytmgpoafoljkknaa.PSchemaReads
