/- A drawn region of the reference's Encode. Conditions: the numbers fit an int. -/
import Derived.Test.YtmgpoafoljkknaaK5
import Derived.Test.YtmgpoafoljkknaaO
import Derived.Test.YtmgpoafoljkknaaWInvWords
namespace Go.Proofs.Ytmgpoafoljkknaa.My
open Go.RowKit Go.Proofs.YtmgpoafoljkknaaW.PrintWords Go.Proofs.YtmgpoafoljkknaaW.PrintLast Go.Proofs.YtmgpoafoljkknaaW.PrintMore PSchemaReads
def E36.T19 : Bool × List (List Nat × List Nat) := (true, [([], []), ([], []), ([1], [1]), ([2], [2]), ([], []), ([4], [4]), ([5], [5]), ([], []), ([7], [7]), ([8], [8]), ([], []), ([10], [10]), ([11, 3], [11]), ([], []), ([13], [13]), ([14, 12], [14]), ([], []), ([16], [16]), ([17, 15], [17]), ([], []), ([19], [19]), ([20, 18], [20]), ([], []), ([22], [22]), ([23, 21], [23]), ([3, 6, 9, 12, 15, 18, 21, 24], [3, 6, 9, 12, 15, 18, 21, 24]), ([0, 25, 24], [0, 25]), ([26, 26, 0, 1, 2, 3, 4, 5, 6, 7, 8, 9, 10, 11, 12, 13, 14, 15, 16, 17, 18, 19, 20, 21, 22, 23, 24, 25, 26], [0, 26])])
def E36.B19 : List Nat := [0, 0, 2, 6, 0, 16, 48, 0, 128, 384, 0, 1024, 3086, 0, 8192, 31758, 0, 65536, 261134, 0, 524288, 2096142, 0, 4194304, 16776206, 33554430, 67108863, 134217727]
theorem E36.tab19 : rtab .any (opsOf Try.f36 19) = E36.T19 := by kernel_rfl
theorem E36.bits19 : waitsOk E36.T19.2 E36.B19 = true := by kernel_rfl
structure reg19L where
  A3 : Option Addr
  c3 : Nat
  A6 : Option Addr
  c6 : Nat
  A9 : Option Addr
  c9 : Nat
  A12 : Option Addr
  c12 : Nat
  A15 : Option Addr
  c15 : Nat
  A18 : Option Addr
  c18 : Nat
  A21 : Option Addr
  c21 : Nat
  A24 : Option Addr
  c24 : Nat
  A25 : Option Addr
  v26 : Value
  m3_ : Value
  m6_ : Value
  m9_ : Value
  m12_ : Value
  m15_ : Value
  m18_ : Value
  m21_ : Value
  m24_ : Value
  m25_ : Value
  m27_ : Value
structure reg19F (s : Sch) (w w1 wy : World) (A : Option Addr) (c : Nat) (u5 : Value) (acc : List (List UInt8)) (L_ : reg19L) (b : Nat → Bool) (w' : World) : Prop where
  BY : b 26 = false → Below wy.heap.size wy w'
  F3 : b 3 = true → b 26 = false → Kd.FK kR w' (fun k => wy.heap.size ≤ k) (numL s.kind) [.slice L_.A3 (numL s.kind).length L_.c3]
  F6 : b 6 = true → b 26 = false → Kd.FK kR w' (fun k => wy.heap.size ≤ k) (s.fam.data.toList) [.slice L_.A6 s.fam.size L_.c6]
  F9 : b 9 = true → b 26 = false → Kd.FK kR w' (fun k => wy.heap.size ≤ k) (s.qual.data.toList) [.slice L_.A9 s.qual.size L_.c9]
  F12 : b 12 = true → b 26 = false → Kd.FK kR w' (fun k => wy.heap.size ≤ k) (numL s.typ) [.slice L_.A12 (numL s.typ).length L_.c12]
  F15 : b 15 = true → b 26 = false → Kd.FK kR w' (fun k => wy.heap.size ≤ k) (numL s.grp) [.slice L_.A15 (numL s.grp).length L_.c15]
  F18 : b 18 = true → b 26 = false → Kd.FK kR w' (fun k => wy.heap.size ≤ k) (numL s.vers) [.slice L_.A18 (numL s.vers).length L_.c18]
  F21 : b 21 = true → b 26 = false → Kd.FK kR w' (fun k => wy.heap.size ≤ k) (numL s.life) [.slice L_.A21 (numL s.life).length L_.c21]
  F24 : b 24 = true → b 26 = false → Kd.FK kR w' (fun k => wy.heap.size ≤ k) (numL s.step) [.slice L_.A24 (numL s.step).length L_.c24]
  N25 : b 25 = true → b 26 = false → Kd.N kR 22 w' wy.heap.size (fun k => wy.heap.size ≤ k) (.slice L_.A25 8 8) [numL s.kind, s.fam.data.toList, s.qual.data.toList, numL s.typ, numL s.grp, numL s.vers, numL s.life, numL s.step]
  N26 : b 26 = true → Kd.N kR 22 w' w1.heap.size (fun k => w1.heap.size ≤ k) L_.v26 (encParts s)
  BX : b 26 = true → Below w1.heap.size w1 w'
  X3_ : b 3 = true → (L_.m3_ : Value) = .slice L_.A3 (numL s.kind).length L_.c3
  X6_ : b 6 = true → (L_.m6_ : Value) = .slice L_.A6 s.fam.size L_.c6
  X9_ : b 9 = true → (L_.m9_ : Value) = .slice L_.A9 s.qual.size L_.c9
  X12_ : b 12 = true → (L_.m12_ : Value) = .slice L_.A12 (numL s.typ).length L_.c12
  X15_ : b 15 = true → (L_.m15_ : Value) = .slice L_.A15 (numL s.grp).length L_.c15
  X18_ : b 18 = true → (L_.m18_ : Value) = .slice L_.A18 (numL s.vers).length L_.c18
  X21_ : b 21 = true → (L_.m21_ : Value) = .slice L_.A21 (numL s.life).length L_.c21
  X24_ : b 24 = true → (L_.m24_ : Value) = .slice L_.A24 (numL s.step).length L_.c24
  X25_ : b 25 = true → (L_.m25_ : Value) = .slice L_.A25 8 8
  X27_ : b 27 = true → (L_.m27_ : Value) = L_.v26
set_option maxHeartbeats 8000000 in
set_option maxRecDepth 100000 in
theorem reg19 {Q : Exit → Act → World → Prop} (a0 : Act) {s : Sch} {w w1 wy : World} {A : Option Addr} {c : Nat} {u5 : Value} {acc : List (List UInt8)} (BW : Aside0 (Below w1.heap.size w1 wy)) (HN : Aside0 (Kd.N kR 22 wy w1.heap.size (fun k => w1.heap.size ≤ k) u5 acc)) (HLEN : Aside0 (acc.length ≤ 1000))
    (HENC : Aside0 (encParts s = acc ++ [numL s.kind, s.fam.data.toList, s.qual.data.toList, numL s.typ, numL s.grp, numL s.vers, numL s.life, numL s.step]))
    (K0Y : Aside0 (wy.heap[w.heap.size]? = some (.cells #[.int .i64 s.ver, .slice A s.fams.length c, .int .i64 s.kind, .string s.fam, .string s.qual, .int .i64 s.typ, .int .i64 s.grp, .int .i64 s.vers, .int .i64 s.life, .int .i64 s.step] 28 (0, 0))))
    (K1Y : Aside0 (wy.heap[w.heap.size + 1]? = some (.cells #[.int .i64 s.kind, .string s.fam, .string s.qual, .int .i64 s.typ, .int .i64 s.grp, .int .i64 s.vers, .int .i64 s.life] 26 (0, 0))))
    (HM : Aside0 (s.kind ≤ 9223372036854775807 ∧ s.typ ≤ 9223372036854775807 ∧ s.grp ≤ 9223372036854775807 ∧ s.vers ≤ 9223372036854775807 ∧ s.life ≤ 9223372036854775807 ∧ s.step ≤ 9223372036854775807 ∧ s.fam.size ≤ 1000000 ∧ s.qual.size ≤ 1000000)) (GS : a0.tmps.size = 167) (G5 : a0.tmps[5]? = some (u5)) (G4 : a0.tmps[4]? = some (.pointer (some ⟨w.heap.size + 1, 0, none⟩))) (G1 : a0.tmps[1]? = some (.pointer (some ⟨w.heap.size, 0, none⟩)))
    (hend : ∀ (A3 : Option Addr) (c3 : Nat) (A6 : Option Addr) (c6 : Nat) (A9 : Option Addr) (c9 : Nat) (A12 : Option Addr) (c12 : Nat) (A15 : Option Addr) (c15 : Nat) (A18 : Option Addr) (c18 : Nat) (A21 : Option Addr) (c21 : Nat) (A24 : Option Addr) (c24 : Nat) (A25 : Option Addr) (v26 : Value) (w' : World), (Kd.N kR 22 w' w1.heap.size (fun k => w1.heap.size ≤ k) v26 (encParts s)) → (Below w1.heap.size w1 w') → Q .normal ((((((((((((((((((((((((((((a0.put (some 138) (u5)).put (some 139) (.pointer (some ⟨w.heap.size + 1, 0, none⟩))).put (some 140) (.int .i64 s.kind)).put (some 141) (.slice A3 (numL s.kind).length c3)).put (some 142) (.pointer (some ⟨w.heap.size + 1, 1, none⟩))).put (some 143) (.string s.fam)).put (some 144) (.slice A6 s.fam.size c6)).put (some 145) (.pointer (some ⟨w.heap.size + 1, 2, none⟩))).put (some 146) (.string s.qual)).put (some 147) (.slice A9 s.qual.size c9)).put (some 148) (.pointer (some ⟨w.heap.size + 1, 3, none⟩))).put (some 149) (.int .i64 s.typ)).put (some 150) (.slice A12 (numL s.typ).length c12)).put (some 151) (.pointer (some ⟨w.heap.size + 1, 4, none⟩))).put (some 152) (.int .i64 s.grp)).put (some 153) (.slice A15 (numL s.grp).length c15)).put (some 154) (.pointer (some ⟨w.heap.size + 1, 5, none⟩))).put (some 155) (.int .i64 s.vers)).put (some 156) (.slice A18 (numL s.vers).length c18)).put (some 157) (.pointer (some ⟨w.heap.size + 1, 6, none⟩))).put (some 158) (.int .i64 s.life)).put (some 159) (.slice A21 (numL s.life).length c21)).put (some 160) (.pointer (some ⟨w.heap.size, 9, none⟩))).put (some 161) (.int .i64 s.step)).put (some 162) (.slice A24 (numL s.step).length c24)).put (some 163) (.slice A25 8 8)).put (some 164) (v26)).put (some 5) (v26)) w') :
    Code.wp Try.prog (Code.region 19 (opsOf Try.f36 19) true) Q a0 wy := by
  conv in (opsOf _ _) => whnf
  have HKB6 := Aside0.mk (fun W => print_bytes (P := Try.prog) 9 22 5 Try.underlying9 Try.underlying22 Try.underlying5 s.fam W)
  have HKB9 := Aside0.mk (fun W => print_bytes (P := Try.prog) 9 22 5 Try.underlying9 Try.underlying22 Try.underlying5 s.qual W)
  have BY := Aside0.mk (Below.drew (Below.refl wy.heap.size wy))
  refine start_ (n := 28) (S := fun w' => True) (ds := []) #[false, false, false, false, false, false, false, false, false, false, false, false, false, false, false, false, false, false, false, false, false, false, false, false, false, false, false, false] (by kernel_rfl) rfl rfl trivial (fun hHeld => ?_)
  refine with_tabW E36.tab19 E36.bits19 (fun HT_ HW_ => ?_)
  refine inv_at [0, 1, 2, 3, 4, 5, 6, 7, 8, 9, 10, 11, 12, 13, 14, 15, 16, 17, 18, 19, 20, 21, 22, 23, 24, 25, 26, 27] (fun a0_ b a w' => ∃ L_ : reg19L, a = putSel a0_ b [(0, 138, u5), (1, 139, .pointer (some ⟨w.heap.size + 1, 0, none⟩)), (2, 140, .int .i64 s.kind), (3, 141, L_.m3_), (4, 142, .pointer (some ⟨w.heap.size + 1, 1, none⟩)), (5, 143, .string s.fam), (6, 144, L_.m6_), (7, 145, .pointer (some ⟨w.heap.size + 1, 2, none⟩)), (8, 146, .string s.qual), (9, 147, L_.m9_), (10, 148, .pointer (some ⟨w.heap.size + 1, 3, none⟩)), (11, 149, .int .i64 s.typ), (12, 150, L_.m12_), (13, 151, .pointer (some ⟨w.heap.size + 1, 4, none⟩)), (14, 152, .int .i64 s.grp), (15, 153, L_.m15_), (16, 154, .pointer (some ⟨w.heap.size + 1, 5, none⟩)), (17, 155, .int .i64 s.vers), (18, 156, L_.m18_), (19, 157, .pointer (some ⟨w.heap.size + 1, 6, none⟩)), (20, 158, .int .i64 s.life), (21, 159, L_.m21_), (22, 160, .pointer (some ⟨w.heap.size, 9, none⟩)), (23, 161, .int .i64 s.step), (24, 162, L_.m24_), (25, 163, L_.m25_), (26, 164, L_.v26), (27, 5, L_.m27_)] ∧ reg19F s w w1 wy A c u5 acc L_ b w') HT_.out HW_.out (by kernel_rfl) (by kernel_rfl) ?_ ?_ ?_
  · exact ⟨⟨none, 0, none, 0, none, 0, none, 0, none, 0, none, 0, none, 0, none, 0, none, .bool false, .bool false, .bool false, .bool false, .bool false, .bool false, .bool false, .bool false, .bool false, .bool false, .bool false⟩, by simp only [putSel, Bool.false_eq_true, if_false], ⟨fun _ => BY.out, fun h_ => absurd h_ (by decide), fun h_ => absurd h_ (by decide), fun h_ => absurd h_ (by decide), fun h_ => absurd h_ (by decide), fun h_ => absurd h_ (by decide), fun h_ => absurd h_ (by decide), fun h_ => absurd h_ (by decide), fun h_ => absurd h_ (by decide), fun h_ => absurd h_ (by decide), fun h_ => absurd h_ (by decide), fun h_ => absurd h_ (by decide), fun h_ => absurd h_ (by decide), fun h_ => absurd h_ (by decide), fun h_ => absurd h_ (by decide), fun h_ => absurd h_ (by decide), fun h_ => absurd h_ (by decide), fun h_ => absurd h_ (by decide), fun h_ => absurd h_ (by decide), fun h_ => absurd h_ (by decide), fun h_ => absurd h_ (by decide), fun h_ => absurd h_ (by decide)⟩⟩
  · skip
    clear BY
    refine steps_cons ?_ ?_
    · rintro b a w' ⟨L_, ha, HF_⟩ hb_ hon hoff
      refine ⟨_, rfl, fun K hK => ?_⟩
      have e5 : a.tmps[5]? = some (u5) := by rw [ha]; exact (putSel_not (hoff 27 (by kernel_rfl)) rfl).trans G5
      replace ha := Aside0.mk ha
      have BY := Aside0.mk (HF_.BY (hoff 26 (by kernel_rfl)))
      refine value_ (w1 := w') (v := u5) (by rfl) rfl ?_ ?_
      · go_simp
        (try simp only [i64_w])
        try rfl
      refine hK.out _ _ ⟨⟨L_.A3, L_.c3, L_.A6, L_.c6, L_.A9, L_.c9, L_.A12, L_.c12, L_.A15, L_.c15, L_.A18, L_.c18, L_.A21, L_.c21, L_.A24, L_.c24, L_.A25, L_.v26, L_.m3_, L_.m6_, L_.m9_, L_.m12_, L_.m15_, L_.m18_, L_.m21_, L_.m24_, L_.m25_, L_.m27_⟩, (by rw [ha.out]; exact putSel_upk 0 hb_ rfl rfl rfl), ⟨HF_.BY, HF_.F3, HF_.F6, HF_.F9, HF_.F12, HF_.F15, HF_.F18, HF_.F21, HF_.F24, HF_.N25, fun h0_ => absurd ((hoff 26 (by kernel_rfl)).symm.trans h0_) (by decide), fun h0_ => absurd ((hoff 26 (by kernel_rfl)).symm.trans h0_) (by decide), HF_.X3_, HF_.X6_, HF_.X9_, HF_.X12_, HF_.X15_, HF_.X18_, HF_.X21_, HF_.X24_, HF_.X25_, fun h0_ => absurd ((hoff 27 (by kernel_rfl)).symm.trans h0_) (by decide)⟩⟩
    refine steps_cons ?_ ?_
    · rintro b a w' ⟨L_, ha, HF_⟩ hb_ hon hoff
      refine ⟨_, rfl, fun K hK => ?_⟩
      have e4 : a.tmps[4]? = some (.pointer (some ⟨w.heap.size + 1, 0, none⟩)) := by rw [ha]; exact (putSel_off rfl).trans G4
      replace ha := Aside0.mk ha
      have BY := Aside0.mk (HF_.BY (hoff 26 (by kernel_rfl)))
      refine value_ (w1 := w') (v := .pointer (some ⟨w.heap.size + 1, 0, none⟩)) (by rfl) rfl ?_ ?_
      · go_simp
        (try simp only [i64_w])
        try rfl
      refine hK.out _ _ ⟨⟨L_.A3, L_.c3, L_.A6, L_.c6, L_.A9, L_.c9, L_.A12, L_.c12, L_.A15, L_.c15, L_.A18, L_.c18, L_.A21, L_.c21, L_.A24, L_.c24, L_.A25, L_.v26, L_.m3_, L_.m6_, L_.m9_, L_.m12_, L_.m15_, L_.m18_, L_.m21_, L_.m24_, L_.m25_, L_.m27_⟩, (by rw [ha.out]; exact putSel_upk 1 hb_ rfl rfl rfl), ⟨HF_.BY, fun h0_ _ => absurd ((hoff 3 (by kernel_rfl)).symm.trans h0_) (by decide), HF_.F6, HF_.F9, fun h0_ _ => absurd ((hoff 12 (by kernel_rfl)).symm.trans h0_) (by decide), fun h0_ _ => absurd ((hoff 15 (by kernel_rfl)).symm.trans h0_) (by decide), fun h0_ _ => absurd ((hoff 18 (by kernel_rfl)).symm.trans h0_) (by decide), fun h0_ _ => absurd ((hoff 21 (by kernel_rfl)).symm.trans h0_) (by decide), fun h0_ _ => absurd ((hoff 24 (by kernel_rfl)).symm.trans h0_) (by decide), fun h0_ _ => absurd ((hoff 25 (by kernel_rfl)).symm.trans h0_) (by decide), fun h0_ => absurd ((hoff 26 (by kernel_rfl)).symm.trans h0_) (by decide), fun h0_ => absurd ((hoff 26 (by kernel_rfl)).symm.trans h0_) (by decide), fun h0_ => absurd ((hoff 3 (by kernel_rfl)).symm.trans h0_) (by decide), HF_.X6_, HF_.X9_, fun h0_ => absurd ((hoff 12 (by kernel_rfl)).symm.trans h0_) (by decide), fun h0_ => absurd ((hoff 15 (by kernel_rfl)).symm.trans h0_) (by decide), fun h0_ => absurd ((hoff 18 (by kernel_rfl)).symm.trans h0_) (by decide), fun h0_ => absurd ((hoff 21 (by kernel_rfl)).symm.trans h0_) (by decide), fun h0_ => absurd ((hoff 24 (by kernel_rfl)).symm.trans h0_) (by decide), fun h0_ => absurd ((hoff 25 (by kernel_rfl)).symm.trans h0_) (by decide), fun h0_ => absurd ((hoff 27 (by kernel_rfl)).symm.trans h0_) (by decide)⟩⟩
    refine steps_cons ?_ ?_
    · rintro b a w' ⟨L_, ha, HF_⟩ hb_ hon hoff
      refine ⟨_, rfl, fun K hK => ?_⟩
      have e139 : a.tmps[139]? = some (.pointer (some ⟨w.heap.size + 1, 0, none⟩)) := by rw [ha]; exact putSel_on (e := (1, 139, .pointer (some ⟨w.heap.size + 1, 0, none⟩))) 1 rfl rfl (hon 1 (by kernel_rfl)) (by rw [GS]; rfl)
      replace ha := Aside0.mk ha
      have BY := Aside0.mk (HF_.BY (hoff 26 (by kernel_rfl)))
      have hc2_0 : w'.cell? ⟨w.heap.size + 1, 0, none⟩ = some (.int .i64 s.kind) := (blk_cell (blk_keep BY.out K1Y.out) 0).trans rfl
      refine value_ (w1 := w') (v := .int .i64 s.kind) (by rfl) rfl ?_ ?_
      · go_simp
        (try simp only [i64_w])
        try rfl
      refine hK.out _ _ ⟨⟨L_.A3, L_.c3, L_.A6, L_.c6, L_.A9, L_.c9, L_.A12, L_.c12, L_.A15, L_.c15, L_.A18, L_.c18, L_.A21, L_.c21, L_.A24, L_.c24, L_.A25, L_.v26, L_.m3_, L_.m6_, L_.m9_, L_.m12_, L_.m15_, L_.m18_, L_.m21_, L_.m24_, L_.m25_, L_.m27_⟩, (by rw [ha.out]; exact putSel_upk 2 hb_ rfl rfl rfl), ⟨HF_.BY, fun h0_ _ => absurd ((hoff 3 (by kernel_rfl)).symm.trans h0_) (by decide), HF_.F6, HF_.F9, fun h0_ _ => absurd ((hoff 12 (by kernel_rfl)).symm.trans h0_) (by decide), fun h0_ _ => absurd ((hoff 15 (by kernel_rfl)).symm.trans h0_) (by decide), fun h0_ _ => absurd ((hoff 18 (by kernel_rfl)).symm.trans h0_) (by decide), fun h0_ _ => absurd ((hoff 21 (by kernel_rfl)).symm.trans h0_) (by decide), fun h0_ _ => absurd ((hoff 24 (by kernel_rfl)).symm.trans h0_) (by decide), fun h0_ _ => absurd ((hoff 25 (by kernel_rfl)).symm.trans h0_) (by decide), fun h0_ => absurd ((hoff 26 (by kernel_rfl)).symm.trans h0_) (by decide), fun h0_ => absurd ((hoff 26 (by kernel_rfl)).symm.trans h0_) (by decide), fun h0_ => absurd ((hoff 3 (by kernel_rfl)).symm.trans h0_) (by decide), HF_.X6_, HF_.X9_, fun h0_ => absurd ((hoff 12 (by kernel_rfl)).symm.trans h0_) (by decide), fun h0_ => absurd ((hoff 15 (by kernel_rfl)).symm.trans h0_) (by decide), fun h0_ => absurd ((hoff 18 (by kernel_rfl)).symm.trans h0_) (by decide), fun h0_ => absurd ((hoff 21 (by kernel_rfl)).symm.trans h0_) (by decide), fun h0_ => absurd ((hoff 24 (by kernel_rfl)).symm.trans h0_) (by decide), fun h0_ => absurd ((hoff 25 (by kernel_rfl)).symm.trans h0_) (by decide), fun h0_ => absurd ((hoff 27 (by kernel_rfl)).symm.trans h0_) (by decide)⟩⟩
    refine steps_cons ?_ ?_
    · rintro b a w' ⟨L_, ha, HF_⟩ hb_ hon hoff
      refine ⟨_, rfl, fun K hK => ?_⟩
      have e140 : a.tmps[140]? = some (.int .i64 s.kind) := by rw [ha]; exact putSel_on (e := (2, 140, .int .i64 s.kind)) 2 rfl rfl (hon 2 (by kernel_rfl)) (by rw [GS]; rfl)
      replace ha := Aside0.mk ha
      have BY := Aside0.mk (HF_.BY (hoff 26 (by kernel_rfl)))
      go_simp
      go_at_call 85
      refine (num85 _ _ HM.out.1).mono ?_
      rintro e w8 ⟨v8, rfl, hn8, hb8⟩
      obtain ⟨B8, d8, rfl⟩ := Kd.N_slice hn8
      refine hK.out _ _ ⟨⟨B8, d8, L_.A6, L_.c6, L_.A9, L_.c9, L_.A12, L_.c12, L_.A15, L_.c15, L_.A18, L_.c18, L_.A21, L_.c21, L_.A24, L_.c24, L_.A25, L_.v26, (.slice B8 (numL s.kind).length d8), L_.m6_, L_.m9_, L_.m12_, L_.m15_, L_.m18_, L_.m21_, L_.m24_, L_.m25_, L_.m27_⟩, (by rw [ha.out]; exact putSel_upk 3 hb_ rfl rfl rfl), ⟨fun _ => (bb BY.out hb8), fun _ _ => (fkR (hn8.lower BY.out.size)), fun h0_ h1_ => (Kd.FK_below (HF_.F6 h0_ h1_) hb8), fun h0_ h1_ => (Kd.FK_below (HF_.F9 h0_ h1_) hb8), fun h0_ _ => absurd ((hoff 12 (by kernel_rfl)).symm.trans h0_) (by decide), fun h0_ _ => absurd ((hoff 15 (by kernel_rfl)).symm.trans h0_) (by decide), fun h0_ _ => absurd ((hoff 18 (by kernel_rfl)).symm.trans h0_) (by decide), fun h0_ _ => absurd ((hoff 21 (by kernel_rfl)).symm.trans h0_) (by decide), fun h0_ _ => absurd ((hoff 24 (by kernel_rfl)).symm.trans h0_) (by decide), fun h0_ _ => absurd ((hoff 25 (by kernel_rfl)).symm.trans h0_) (by decide), fun h0_ => absurd ((hoff 26 (by kernel_rfl)).symm.trans h0_) (by decide), fun h0_ => absurd ((hoff 26 (by kernel_rfl)).symm.trans h0_) (by decide), fun _ => rfl, HF_.X6_, HF_.X9_, fun h0_ => absurd ((hoff 12 (by kernel_rfl)).symm.trans h0_) (by decide), fun h0_ => absurd ((hoff 15 (by kernel_rfl)).symm.trans h0_) (by decide), fun h0_ => absurd ((hoff 18 (by kernel_rfl)).symm.trans h0_) (by decide), fun h0_ => absurd ((hoff 21 (by kernel_rfl)).symm.trans h0_) (by decide), fun h0_ => absurd ((hoff 24 (by kernel_rfl)).symm.trans h0_) (by decide), fun h0_ => absurd ((hoff 25 (by kernel_rfl)).symm.trans h0_) (by decide), fun h0_ => absurd ((hoff 27 (by kernel_rfl)).symm.trans h0_) (by decide)⟩⟩
    refine steps_cons ?_ ?_
    · rintro b a w' ⟨L_, ha, HF_⟩ hb_ hon hoff
      refine ⟨_, rfl, fun K hK => ?_⟩
      have e4 : a.tmps[4]? = some (.pointer (some ⟨w.heap.size + 1, 0, none⟩)) := by rw [ha]; exact (putSel_off rfl).trans G4
      replace ha := Aside0.mk ha
      have BY := Aside0.mk (HF_.BY (hoff 26 (by kernel_rfl)))
      refine value_ (w1 := w') (v := .pointer (some ⟨w.heap.size + 1, 1, none⟩)) (by rfl) rfl ?_ ?_
      · go_simp
        (try simp only [i64_w])
        try rfl
      refine hK.out _ _ ⟨⟨L_.A3, L_.c3, L_.A6, L_.c6, L_.A9, L_.c9, L_.A12, L_.c12, L_.A15, L_.c15, L_.A18, L_.c18, L_.A21, L_.c21, L_.A24, L_.c24, L_.A25, L_.v26, L_.m3_, L_.m6_, L_.m9_, L_.m12_, L_.m15_, L_.m18_, L_.m21_, L_.m24_, L_.m25_, L_.m27_⟩, (by rw [ha.out]; exact putSel_upk 4 hb_ rfl rfl rfl), ⟨HF_.BY, HF_.F3, fun h0_ _ => absurd ((hoff 6 (by kernel_rfl)).symm.trans h0_) (by decide), HF_.F9, HF_.F12, HF_.F15, HF_.F18, HF_.F21, HF_.F24, fun h0_ _ => absurd ((hoff 25 (by kernel_rfl)).symm.trans h0_) (by decide), fun h0_ => absurd ((hoff 26 (by kernel_rfl)).symm.trans h0_) (by decide), fun h0_ => absurd ((hoff 26 (by kernel_rfl)).symm.trans h0_) (by decide), HF_.X3_, fun h0_ => absurd ((hoff 6 (by kernel_rfl)).symm.trans h0_) (by decide), HF_.X9_, HF_.X12_, HF_.X15_, HF_.X18_, HF_.X21_, HF_.X24_, fun h0_ => absurd ((hoff 25 (by kernel_rfl)).symm.trans h0_) (by decide), fun h0_ => absurd ((hoff 27 (by kernel_rfl)).symm.trans h0_) (by decide)⟩⟩
    refine steps_cons ?_ ?_
    · rintro b a w' ⟨L_, ha, HF_⟩ hb_ hon hoff
      refine ⟨_, rfl, fun K hK => ?_⟩
      have e142 : a.tmps[142]? = some (.pointer (some ⟨w.heap.size + 1, 1, none⟩)) := by rw [ha]; exact putSel_on (e := (4, 142, .pointer (some ⟨w.heap.size + 1, 1, none⟩))) 4 rfl rfl (hon 4 (by kernel_rfl)) (by rw [GS]; rfl)
      replace ha := Aside0.mk ha
      have BY := Aside0.mk (HF_.BY (hoff 26 (by kernel_rfl)))
      have hc5_1 : w'.cell? ⟨w.heap.size + 1, 1, none⟩ = some (.string s.fam) := (blk_cell (blk_keep BY.out K1Y.out) 1).trans rfl
      refine value_ (w1 := w') (v := .string s.fam) (by rfl) rfl ?_ ?_
      · go_simp
        (try simp only [i64_w])
        try rfl
      refine hK.out _ _ ⟨⟨L_.A3, L_.c3, L_.A6, L_.c6, L_.A9, L_.c9, L_.A12, L_.c12, L_.A15, L_.c15, L_.A18, L_.c18, L_.A21, L_.c21, L_.A24, L_.c24, L_.A25, L_.v26, L_.m3_, L_.m6_, L_.m9_, L_.m12_, L_.m15_, L_.m18_, L_.m21_, L_.m24_, L_.m25_, L_.m27_⟩, (by rw [ha.out]; exact putSel_upk 5 hb_ rfl rfl rfl), ⟨HF_.BY, HF_.F3, fun h0_ _ => absurd ((hoff 6 (by kernel_rfl)).symm.trans h0_) (by decide), HF_.F9, HF_.F12, HF_.F15, HF_.F18, HF_.F21, HF_.F24, fun h0_ _ => absurd ((hoff 25 (by kernel_rfl)).symm.trans h0_) (by decide), fun h0_ => absurd ((hoff 26 (by kernel_rfl)).symm.trans h0_) (by decide), fun h0_ => absurd ((hoff 26 (by kernel_rfl)).symm.trans h0_) (by decide), HF_.X3_, fun h0_ => absurd ((hoff 6 (by kernel_rfl)).symm.trans h0_) (by decide), HF_.X9_, HF_.X12_, HF_.X15_, HF_.X18_, HF_.X21_, HF_.X24_, fun h0_ => absurd ((hoff 25 (by kernel_rfl)).symm.trans h0_) (by decide), fun h0_ => absurd ((hoff 27 (by kernel_rfl)).symm.trans h0_) (by decide)⟩⟩
    refine steps_cons ?_ ?_
    · rintro b a w' ⟨L_, ha, HF_⟩ hb_ hon hoff
      refine ⟨_, rfl, fun K hK => ?_⟩
      have e143 : a.tmps[143]? = some (.string s.fam) := by rw [ha]; exact putSel_on (e := (5, 143, .string s.fam)) 5 rfl rfl (hon 5 (by kernel_rfl)) (by rw [GS]; rfl)
      replace ha := Aside0.mk ha
      have BY := Aside0.mk (HF_.BY (hoff 26 (by kernel_rfl)))
      have hkb := HKB6.out
      refine value_ (w1 := Lib.bytesWorld w' 5 s.fam) (v := .slice (some ⟨w'.heap.size, 0, none⟩) s.fam.size (grownCap w' s.fam.size 0 5)) (by rfl) rfl ?_ ?_
      · go_simp
      clear hkb
      refine hK.out _ _ ⟨⟨L_.A3, L_.c3, (some ⟨w'.heap.size, 0, none⟩), (grownCap w' s.fam.size 0 5), L_.A9, L_.c9, L_.A12, L_.c12, L_.A15, L_.c15, L_.A18, L_.c18, L_.A21, L_.c21, L_.A24, L_.c24, L_.A25, L_.v26, L_.m3_, (.slice (some ⟨w'.heap.size, 0, none⟩) s.fam.size (grownCap w' s.fam.size 0 5)), L_.m9_, L_.m12_, L_.m15_, L_.m18_, L_.m21_, L_.m24_, L_.m25_, L_.m27_⟩, (by rw [ha.out]; exact putSel_upk 6 hb_ rfl rfl rfl), ⟨fun _ => (bytes_below BY.out BY.out.size 5 s.fam), fun h0_ h1_ => (Kd.FK_below (HF_.F3 h0_ h1_) (bytes_below (Below.refl _ _) (Nat.le_refl _) 5 s.fam)), fun _ _ => (Kd.FK_mono (fk_bytes w' s.fam HM.out.2.2.2.2.2.2.1) (fun k hk => Nat.le_trans BY.out.size hk)), fun h0_ h1_ => (Kd.FK_below (HF_.F9 h0_ h1_) (bytes_below (Below.refl _ _) (Nat.le_refl _) 5 s.fam)), fun h0_ h1_ => (Kd.FK_below (HF_.F12 h0_ h1_) (bytes_below (Below.refl _ _) (Nat.le_refl _) 5 s.fam)), fun h0_ h1_ => (Kd.FK_below (HF_.F15 h0_ h1_) (bytes_below (Below.refl _ _) (Nat.le_refl _) 5 s.fam)), fun h0_ h1_ => (Kd.FK_below (HF_.F18 h0_ h1_) (bytes_below (Below.refl _ _) (Nat.le_refl _) 5 s.fam)), fun h0_ h1_ => (Kd.FK_below (HF_.F21 h0_ h1_) (bytes_below (Below.refl _ _) (Nat.le_refl _) 5 s.fam)), fun h0_ h1_ => (Kd.FK_below (HF_.F24 h0_ h1_) (bytes_below (Below.refl _ _) (Nat.le_refl _) 5 s.fam)), fun h0_ _ => absurd ((hoff 25 (by kernel_rfl)).symm.trans h0_) (by decide), fun h0_ => absurd ((hoff 26 (by kernel_rfl)).symm.trans h0_) (by decide), fun h0_ => absurd ((hoff 26 (by kernel_rfl)).symm.trans h0_) (by decide), HF_.X3_, fun _ => rfl, HF_.X9_, HF_.X12_, HF_.X15_, HF_.X18_, HF_.X21_, HF_.X24_, fun h0_ => absurd ((hoff 25 (by kernel_rfl)).symm.trans h0_) (by decide), fun h0_ => absurd ((hoff 27 (by kernel_rfl)).symm.trans h0_) (by decide)⟩⟩
    refine steps_cons ?_ ?_
    · rintro b a w' ⟨L_, ha, HF_⟩ hb_ hon hoff
      refine ⟨_, rfl, fun K hK => ?_⟩
      have e4 : a.tmps[4]? = some (.pointer (some ⟨w.heap.size + 1, 0, none⟩)) := by rw [ha]; exact (putSel_off rfl).trans G4
      replace ha := Aside0.mk ha
      have BY := Aside0.mk (HF_.BY (hoff 26 (by kernel_rfl)))
      refine value_ (w1 := w') (v := .pointer (some ⟨w.heap.size + 1, 2, none⟩)) (by rfl) rfl ?_ ?_
      · go_simp
        (try simp only [i64_w])
        try rfl
      refine hK.out _ _ ⟨⟨L_.A3, L_.c3, L_.A6, L_.c6, L_.A9, L_.c9, L_.A12, L_.c12, L_.A15, L_.c15, L_.A18, L_.c18, L_.A21, L_.c21, L_.A24, L_.c24, L_.A25, L_.v26, L_.m3_, L_.m6_, L_.m9_, L_.m12_, L_.m15_, L_.m18_, L_.m21_, L_.m24_, L_.m25_, L_.m27_⟩, (by rw [ha.out]; exact putSel_upk 7 hb_ rfl rfl rfl), ⟨HF_.BY, HF_.F3, HF_.F6, fun h0_ _ => absurd ((hoff 9 (by kernel_rfl)).symm.trans h0_) (by decide), HF_.F12, HF_.F15, HF_.F18, HF_.F21, HF_.F24, fun h0_ _ => absurd ((hoff 25 (by kernel_rfl)).symm.trans h0_) (by decide), fun h0_ => absurd ((hoff 26 (by kernel_rfl)).symm.trans h0_) (by decide), fun h0_ => absurd ((hoff 26 (by kernel_rfl)).symm.trans h0_) (by decide), HF_.X3_, HF_.X6_, fun h0_ => absurd ((hoff 9 (by kernel_rfl)).symm.trans h0_) (by decide), HF_.X12_, HF_.X15_, HF_.X18_, HF_.X21_, HF_.X24_, fun h0_ => absurd ((hoff 25 (by kernel_rfl)).symm.trans h0_) (by decide), fun h0_ => absurd ((hoff 27 (by kernel_rfl)).symm.trans h0_) (by decide)⟩⟩
    refine steps_cons ?_ ?_
    · rintro b a w' ⟨L_, ha, HF_⟩ hb_ hon hoff
      refine ⟨_, rfl, fun K hK => ?_⟩
      have e145 : a.tmps[145]? = some (.pointer (some ⟨w.heap.size + 1, 2, none⟩)) := by rw [ha]; exact putSel_on (e := (7, 145, .pointer (some ⟨w.heap.size + 1, 2, none⟩))) 7 rfl rfl (hon 7 (by kernel_rfl)) (by rw [GS]; rfl)
      replace ha := Aside0.mk ha
      have BY := Aside0.mk (HF_.BY (hoff 26 (by kernel_rfl)))
      have hc8_2 : w'.cell? ⟨w.heap.size + 1, 2, none⟩ = some (.string s.qual) := (blk_cell (blk_keep BY.out K1Y.out) 2).trans rfl
      refine value_ (w1 := w') (v := .string s.qual) (by rfl) rfl ?_ ?_
      · go_simp
        (try simp only [i64_w])
        try rfl
      refine hK.out _ _ ⟨⟨L_.A3, L_.c3, L_.A6, L_.c6, L_.A9, L_.c9, L_.A12, L_.c12, L_.A15, L_.c15, L_.A18, L_.c18, L_.A21, L_.c21, L_.A24, L_.c24, L_.A25, L_.v26, L_.m3_, L_.m6_, L_.m9_, L_.m12_, L_.m15_, L_.m18_, L_.m21_, L_.m24_, L_.m25_, L_.m27_⟩, (by rw [ha.out]; exact putSel_upk 8 hb_ rfl rfl rfl), ⟨HF_.BY, HF_.F3, HF_.F6, fun h0_ _ => absurd ((hoff 9 (by kernel_rfl)).symm.trans h0_) (by decide), HF_.F12, HF_.F15, HF_.F18, HF_.F21, HF_.F24, fun h0_ _ => absurd ((hoff 25 (by kernel_rfl)).symm.trans h0_) (by decide), fun h0_ => absurd ((hoff 26 (by kernel_rfl)).symm.trans h0_) (by decide), fun h0_ => absurd ((hoff 26 (by kernel_rfl)).symm.trans h0_) (by decide), HF_.X3_, HF_.X6_, fun h0_ => absurd ((hoff 9 (by kernel_rfl)).symm.trans h0_) (by decide), HF_.X12_, HF_.X15_, HF_.X18_, HF_.X21_, HF_.X24_, fun h0_ => absurd ((hoff 25 (by kernel_rfl)).symm.trans h0_) (by decide), fun h0_ => absurd ((hoff 27 (by kernel_rfl)).symm.trans h0_) (by decide)⟩⟩
    refine steps_cons ?_ ?_
    · rintro b a w' ⟨L_, ha, HF_⟩ hb_ hon hoff
      refine ⟨_, rfl, fun K hK => ?_⟩
      have e146 : a.tmps[146]? = some (.string s.qual) := by rw [ha]; exact putSel_on (e := (8, 146, .string s.qual)) 8 rfl rfl (hon 8 (by kernel_rfl)) (by rw [GS]; rfl)
      replace ha := Aside0.mk ha
      have BY := Aside0.mk (HF_.BY (hoff 26 (by kernel_rfl)))
      have hkb := HKB9.out
      refine value_ (w1 := Lib.bytesWorld w' 5 s.qual) (v := .slice (some ⟨w'.heap.size, 0, none⟩) s.qual.size (grownCap w' s.qual.size 0 5)) (by rfl) rfl ?_ ?_
      · go_simp
      clear hkb
      refine hK.out _ _ ⟨⟨L_.A3, L_.c3, L_.A6, L_.c6, (some ⟨w'.heap.size, 0, none⟩), (grownCap w' s.qual.size 0 5), L_.A12, L_.c12, L_.A15, L_.c15, L_.A18, L_.c18, L_.A21, L_.c21, L_.A24, L_.c24, L_.A25, L_.v26, L_.m3_, L_.m6_, (.slice (some ⟨w'.heap.size, 0, none⟩) s.qual.size (grownCap w' s.qual.size 0 5)), L_.m12_, L_.m15_, L_.m18_, L_.m21_, L_.m24_, L_.m25_, L_.m27_⟩, (by rw [ha.out]; exact putSel_upk 9 hb_ rfl rfl rfl), ⟨fun _ => (bytes_below BY.out BY.out.size 5 s.qual), fun h0_ h1_ => (Kd.FK_below (HF_.F3 h0_ h1_) (bytes_below (Below.refl _ _) (Nat.le_refl _) 5 s.qual)), fun h0_ h1_ => (Kd.FK_below (HF_.F6 h0_ h1_) (bytes_below (Below.refl _ _) (Nat.le_refl _) 5 s.qual)), fun _ _ => (Kd.FK_mono (fk_bytes w' s.qual HM.out.2.2.2.2.2.2.2) (fun k hk => Nat.le_trans BY.out.size hk)), fun h0_ h1_ => (Kd.FK_below (HF_.F12 h0_ h1_) (bytes_below (Below.refl _ _) (Nat.le_refl _) 5 s.qual)), fun h0_ h1_ => (Kd.FK_below (HF_.F15 h0_ h1_) (bytes_below (Below.refl _ _) (Nat.le_refl _) 5 s.qual)), fun h0_ h1_ => (Kd.FK_below (HF_.F18 h0_ h1_) (bytes_below (Below.refl _ _) (Nat.le_refl _) 5 s.qual)), fun h0_ h1_ => (Kd.FK_below (HF_.F21 h0_ h1_) (bytes_below (Below.refl _ _) (Nat.le_refl _) 5 s.qual)), fun h0_ h1_ => (Kd.FK_below (HF_.F24 h0_ h1_) (bytes_below (Below.refl _ _) (Nat.le_refl _) 5 s.qual)), fun h0_ _ => absurd ((hoff 25 (by kernel_rfl)).symm.trans h0_) (by decide), fun h0_ => absurd ((hoff 26 (by kernel_rfl)).symm.trans h0_) (by decide), fun h0_ => absurd ((hoff 26 (by kernel_rfl)).symm.trans h0_) (by decide), HF_.X3_, HF_.X6_, fun _ => rfl, HF_.X12_, HF_.X15_, HF_.X18_, HF_.X21_, HF_.X24_, fun h0_ => absurd ((hoff 25 (by kernel_rfl)).symm.trans h0_) (by decide), fun h0_ => absurd ((hoff 27 (by kernel_rfl)).symm.trans h0_) (by decide)⟩⟩
    refine steps_cons ?_ ?_
    · rintro b a w' ⟨L_, ha, HF_⟩ hb_ hon hoff
      refine ⟨_, rfl, fun K hK => ?_⟩
      have e4 : a.tmps[4]? = some (.pointer (some ⟨w.heap.size + 1, 0, none⟩)) := by rw [ha]; exact (putSel_off rfl).trans G4
      replace ha := Aside0.mk ha
      have BY := Aside0.mk (HF_.BY (hoff 26 (by kernel_rfl)))
      refine value_ (w1 := w') (v := .pointer (some ⟨w.heap.size + 1, 3, none⟩)) (by rfl) rfl ?_ ?_
      · go_simp
        (try simp only [i64_w])
        try rfl
      refine hK.out _ _ ⟨⟨L_.A3, L_.c3, L_.A6, L_.c6, L_.A9, L_.c9, L_.A12, L_.c12, L_.A15, L_.c15, L_.A18, L_.c18, L_.A21, L_.c21, L_.A24, L_.c24, L_.A25, L_.v26, L_.m3_, L_.m6_, L_.m9_, L_.m12_, L_.m15_, L_.m18_, L_.m21_, L_.m24_, L_.m25_, L_.m27_⟩, (by rw [ha.out]; exact putSel_upk 10 hb_ rfl rfl rfl), ⟨HF_.BY, HF_.F3, HF_.F6, HF_.F9, fun h0_ _ => absurd ((hoff 12 (by kernel_rfl)).symm.trans h0_) (by decide), fun h0_ _ => absurd ((hoff 15 (by kernel_rfl)).symm.trans h0_) (by decide), fun h0_ _ => absurd ((hoff 18 (by kernel_rfl)).symm.trans h0_) (by decide), fun h0_ _ => absurd ((hoff 21 (by kernel_rfl)).symm.trans h0_) (by decide), fun h0_ _ => absurd ((hoff 24 (by kernel_rfl)).symm.trans h0_) (by decide), fun h0_ _ => absurd ((hoff 25 (by kernel_rfl)).symm.trans h0_) (by decide), fun h0_ => absurd ((hoff 26 (by kernel_rfl)).symm.trans h0_) (by decide), fun h0_ => absurd ((hoff 26 (by kernel_rfl)).symm.trans h0_) (by decide), HF_.X3_, HF_.X6_, HF_.X9_, fun h0_ => absurd ((hoff 12 (by kernel_rfl)).symm.trans h0_) (by decide), fun h0_ => absurd ((hoff 15 (by kernel_rfl)).symm.trans h0_) (by decide), fun h0_ => absurd ((hoff 18 (by kernel_rfl)).symm.trans h0_) (by decide), fun h0_ => absurd ((hoff 21 (by kernel_rfl)).symm.trans h0_) (by decide), fun h0_ => absurd ((hoff 24 (by kernel_rfl)).symm.trans h0_) (by decide), fun h0_ => absurd ((hoff 25 (by kernel_rfl)).symm.trans h0_) (by decide), fun h0_ => absurd ((hoff 27 (by kernel_rfl)).symm.trans h0_) (by decide)⟩⟩
    refine steps_cons ?_ ?_
    · rintro b a w' ⟨L_, ha, HF_⟩ hb_ hon hoff
      refine ⟨_, rfl, fun K hK => ?_⟩
      have e148 : a.tmps[148]? = some (.pointer (some ⟨w.heap.size + 1, 3, none⟩)) := by rw [ha]; exact putSel_on (e := (10, 148, .pointer (some ⟨w.heap.size + 1, 3, none⟩))) 10 rfl rfl (hon 10 (by kernel_rfl)) (by rw [GS]; rfl)
      replace ha := Aside0.mk ha
      have BY := Aside0.mk (HF_.BY (hoff 26 (by kernel_rfl)))
      have hc11_3 : w'.cell? ⟨w.heap.size + 1, 3, none⟩ = some (.int .i64 s.typ) := (blk_cell (blk_keep BY.out K1Y.out) 3).trans rfl
      refine value_ (w1 := w') (v := .int .i64 s.typ) (by rfl) rfl ?_ ?_
      · go_simp
        (try simp only [i64_w])
        try rfl
      refine hK.out _ _ ⟨⟨L_.A3, L_.c3, L_.A6, L_.c6, L_.A9, L_.c9, L_.A12, L_.c12, L_.A15, L_.c15, L_.A18, L_.c18, L_.A21, L_.c21, L_.A24, L_.c24, L_.A25, L_.v26, L_.m3_, L_.m6_, L_.m9_, L_.m12_, L_.m15_, L_.m18_, L_.m21_, L_.m24_, L_.m25_, L_.m27_⟩, (by rw [ha.out]; exact putSel_upk 11 hb_ rfl rfl rfl), ⟨HF_.BY, HF_.F3, HF_.F6, HF_.F9, fun h0_ _ => absurd ((hoff 12 (by kernel_rfl)).symm.trans h0_) (by decide), fun h0_ _ => absurd ((hoff 15 (by kernel_rfl)).symm.trans h0_) (by decide), fun h0_ _ => absurd ((hoff 18 (by kernel_rfl)).symm.trans h0_) (by decide), fun h0_ _ => absurd ((hoff 21 (by kernel_rfl)).symm.trans h0_) (by decide), fun h0_ _ => absurd ((hoff 24 (by kernel_rfl)).symm.trans h0_) (by decide), fun h0_ _ => absurd ((hoff 25 (by kernel_rfl)).symm.trans h0_) (by decide), fun h0_ => absurd ((hoff 26 (by kernel_rfl)).symm.trans h0_) (by decide), fun h0_ => absurd ((hoff 26 (by kernel_rfl)).symm.trans h0_) (by decide), HF_.X3_, HF_.X6_, HF_.X9_, fun h0_ => absurd ((hoff 12 (by kernel_rfl)).symm.trans h0_) (by decide), fun h0_ => absurd ((hoff 15 (by kernel_rfl)).symm.trans h0_) (by decide), fun h0_ => absurd ((hoff 18 (by kernel_rfl)).symm.trans h0_) (by decide), fun h0_ => absurd ((hoff 21 (by kernel_rfl)).symm.trans h0_) (by decide), fun h0_ => absurd ((hoff 24 (by kernel_rfl)).symm.trans h0_) (by decide), fun h0_ => absurd ((hoff 25 (by kernel_rfl)).symm.trans h0_) (by decide), fun h0_ => absurd ((hoff 27 (by kernel_rfl)).symm.trans h0_) (by decide)⟩⟩
    refine steps_cons ?_ ?_
    · rintro b a w' ⟨L_, ha, HF_⟩ hb_ hon hoff
      refine ⟨_, rfl, fun K hK => ?_⟩
      have e149 : a.tmps[149]? = some (.int .i64 s.typ) := by rw [ha]; exact putSel_on (e := (11, 149, .int .i64 s.typ)) 11 rfl rfl (hon 11 (by kernel_rfl)) (by rw [GS]; rfl)
      replace ha := Aside0.mk ha
      have BY := Aside0.mk (HF_.BY (hoff 26 (by kernel_rfl)))
      have F3 := Aside0.mk (HF_.F3 (hon 3 (by kernel_rfl)) (hoff 26 (by kernel_rfl)))
      go_simp
      go_at_call 85
      refine (num85 _ _ HM.out.2.1).mono ?_
      rintro e w8 ⟨v8, rfl, hn8, hb8⟩
      obtain ⟨B8, d8, rfl⟩ := Kd.N_slice hn8
      refine hK.out _ _ ⟨⟨L_.A3, L_.c3, L_.A6, L_.c6, L_.A9, L_.c9, B8, d8, L_.A15, L_.c15, L_.A18, L_.c18, L_.A21, L_.c21, L_.A24, L_.c24, L_.A25, L_.v26, L_.m3_, L_.m6_, L_.m9_, (.slice B8 (numL s.typ).length d8), L_.m15_, L_.m18_, L_.m21_, L_.m24_, L_.m25_, L_.m27_⟩, (by rw [ha.out]; exact putSel_upk 12 hb_ rfl rfl rfl), ⟨fun _ => (bb BY.out hb8), fun _ _ => (Kd.FK_below F3.out hb8), fun h0_ h1_ => (Kd.FK_below (HF_.F6 h0_ h1_) hb8), fun h0_ h1_ => (Kd.FK_below (HF_.F9 h0_ h1_) hb8), fun _ _ => (fkR (hn8.lower BY.out.size)), fun h0_ _ => absurd ((hoff 15 (by kernel_rfl)).symm.trans h0_) (by decide), fun h0_ _ => absurd ((hoff 18 (by kernel_rfl)).symm.trans h0_) (by decide), fun h0_ _ => absurd ((hoff 21 (by kernel_rfl)).symm.trans h0_) (by decide), fun h0_ _ => absurd ((hoff 24 (by kernel_rfl)).symm.trans h0_) (by decide), fun h0_ _ => absurd ((hoff 25 (by kernel_rfl)).symm.trans h0_) (by decide), fun h0_ => absurd ((hoff 26 (by kernel_rfl)).symm.trans h0_) (by decide), fun h0_ => absurd ((hoff 26 (by kernel_rfl)).symm.trans h0_) (by decide), HF_.X3_, HF_.X6_, HF_.X9_, fun _ => rfl, fun h0_ => absurd ((hoff 15 (by kernel_rfl)).symm.trans h0_) (by decide), fun h0_ => absurd ((hoff 18 (by kernel_rfl)).symm.trans h0_) (by decide), fun h0_ => absurd ((hoff 21 (by kernel_rfl)).symm.trans h0_) (by decide), fun h0_ => absurd ((hoff 24 (by kernel_rfl)).symm.trans h0_) (by decide), fun h0_ => absurd ((hoff 25 (by kernel_rfl)).symm.trans h0_) (by decide), fun h0_ => absurd ((hoff 27 (by kernel_rfl)).symm.trans h0_) (by decide)⟩⟩
    refine steps_cons ?_ ?_
    · rintro b a w' ⟨L_, ha, HF_⟩ hb_ hon hoff
      refine ⟨_, rfl, fun K hK => ?_⟩
      have e4 : a.tmps[4]? = some (.pointer (some ⟨w.heap.size + 1, 0, none⟩)) := by rw [ha]; exact (putSel_off rfl).trans G4
      replace ha := Aside0.mk ha
      have BY := Aside0.mk (HF_.BY (hoff 26 (by kernel_rfl)))
      refine value_ (w1 := w') (v := .pointer (some ⟨w.heap.size + 1, 4, none⟩)) (by rfl) rfl ?_ ?_
      · go_simp
        (try simp only [i64_w])
        try rfl
      refine hK.out _ _ ⟨⟨L_.A3, L_.c3, L_.A6, L_.c6, L_.A9, L_.c9, L_.A12, L_.c12, L_.A15, L_.c15, L_.A18, L_.c18, L_.A21, L_.c21, L_.A24, L_.c24, L_.A25, L_.v26, L_.m3_, L_.m6_, L_.m9_, L_.m12_, L_.m15_, L_.m18_, L_.m21_, L_.m24_, L_.m25_, L_.m27_⟩, (by rw [ha.out]; exact putSel_upk 13 hb_ rfl rfl rfl), ⟨HF_.BY, HF_.F3, HF_.F6, HF_.F9, HF_.F12, fun h0_ _ => absurd ((hoff 15 (by kernel_rfl)).symm.trans h0_) (by decide), fun h0_ _ => absurd ((hoff 18 (by kernel_rfl)).symm.trans h0_) (by decide), fun h0_ _ => absurd ((hoff 21 (by kernel_rfl)).symm.trans h0_) (by decide), fun h0_ _ => absurd ((hoff 24 (by kernel_rfl)).symm.trans h0_) (by decide), fun h0_ _ => absurd ((hoff 25 (by kernel_rfl)).symm.trans h0_) (by decide), fun h0_ => absurd ((hoff 26 (by kernel_rfl)).symm.trans h0_) (by decide), fun h0_ => absurd ((hoff 26 (by kernel_rfl)).symm.trans h0_) (by decide), HF_.X3_, HF_.X6_, HF_.X9_, HF_.X12_, fun h0_ => absurd ((hoff 15 (by kernel_rfl)).symm.trans h0_) (by decide), fun h0_ => absurd ((hoff 18 (by kernel_rfl)).symm.trans h0_) (by decide), fun h0_ => absurd ((hoff 21 (by kernel_rfl)).symm.trans h0_) (by decide), fun h0_ => absurd ((hoff 24 (by kernel_rfl)).symm.trans h0_) (by decide), fun h0_ => absurd ((hoff 25 (by kernel_rfl)).symm.trans h0_) (by decide), fun h0_ => absurd ((hoff 27 (by kernel_rfl)).symm.trans h0_) (by decide)⟩⟩
    refine steps_cons ?_ ?_
    · rintro b a w' ⟨L_, ha, HF_⟩ hb_ hon hoff
      refine ⟨_, rfl, fun K hK => ?_⟩
      have e151 : a.tmps[151]? = some (.pointer (some ⟨w.heap.size + 1, 4, none⟩)) := by rw [ha]; exact putSel_on (e := (13, 151, .pointer (some ⟨w.heap.size + 1, 4, none⟩))) 13 rfl rfl (hon 13 (by kernel_rfl)) (by rw [GS]; rfl)
      replace ha := Aside0.mk ha
      have BY := Aside0.mk (HF_.BY (hoff 26 (by kernel_rfl)))
      have hc14_4 : w'.cell? ⟨w.heap.size + 1, 4, none⟩ = some (.int .i64 s.grp) := (blk_cell (blk_keep BY.out K1Y.out) 4).trans rfl
      refine value_ (w1 := w') (v := .int .i64 s.grp) (by rfl) rfl ?_ ?_
      · go_simp
        (try simp only [i64_w])
        try rfl
      refine hK.out _ _ ⟨⟨L_.A3, L_.c3, L_.A6, L_.c6, L_.A9, L_.c9, L_.A12, L_.c12, L_.A15, L_.c15, L_.A18, L_.c18, L_.A21, L_.c21, L_.A24, L_.c24, L_.A25, L_.v26, L_.m3_, L_.m6_, L_.m9_, L_.m12_, L_.m15_, L_.m18_, L_.m21_, L_.m24_, L_.m25_, L_.m27_⟩, (by rw [ha.out]; exact putSel_upk 14 hb_ rfl rfl rfl), ⟨HF_.BY, HF_.F3, HF_.F6, HF_.F9, HF_.F12, fun h0_ _ => absurd ((hoff 15 (by kernel_rfl)).symm.trans h0_) (by decide), fun h0_ _ => absurd ((hoff 18 (by kernel_rfl)).symm.trans h0_) (by decide), fun h0_ _ => absurd ((hoff 21 (by kernel_rfl)).symm.trans h0_) (by decide), fun h0_ _ => absurd ((hoff 24 (by kernel_rfl)).symm.trans h0_) (by decide), fun h0_ _ => absurd ((hoff 25 (by kernel_rfl)).symm.trans h0_) (by decide), fun h0_ => absurd ((hoff 26 (by kernel_rfl)).symm.trans h0_) (by decide), fun h0_ => absurd ((hoff 26 (by kernel_rfl)).symm.trans h0_) (by decide), HF_.X3_, HF_.X6_, HF_.X9_, HF_.X12_, fun h0_ => absurd ((hoff 15 (by kernel_rfl)).symm.trans h0_) (by decide), fun h0_ => absurd ((hoff 18 (by kernel_rfl)).symm.trans h0_) (by decide), fun h0_ => absurd ((hoff 21 (by kernel_rfl)).symm.trans h0_) (by decide), fun h0_ => absurd ((hoff 24 (by kernel_rfl)).symm.trans h0_) (by decide), fun h0_ => absurd ((hoff 25 (by kernel_rfl)).symm.trans h0_) (by decide), fun h0_ => absurd ((hoff 27 (by kernel_rfl)).symm.trans h0_) (by decide)⟩⟩
    refine steps_cons ?_ ?_
    · rintro b a w' ⟨L_, ha, HF_⟩ hb_ hon hoff
      refine ⟨_, rfl, fun K hK => ?_⟩
      have e152 : a.tmps[152]? = some (.int .i64 s.grp) := by rw [ha]; exact putSel_on (e := (14, 152, .int .i64 s.grp)) 14 rfl rfl (hon 14 (by kernel_rfl)) (by rw [GS]; rfl)
      replace ha := Aside0.mk ha
      have BY := Aside0.mk (HF_.BY (hoff 26 (by kernel_rfl)))
      have F3 := Aside0.mk (HF_.F3 (hon 3 (by kernel_rfl)) (hoff 26 (by kernel_rfl)))
      have F12 := Aside0.mk (HF_.F12 (hon 12 (by kernel_rfl)) (hoff 26 (by kernel_rfl)))
      go_simp
      go_at_call 85
      refine (num85 _ _ HM.out.2.2.1).mono ?_
      rintro e w8 ⟨v8, rfl, hn8, hb8⟩
      obtain ⟨B8, d8, rfl⟩ := Kd.N_slice hn8
      refine hK.out _ _ ⟨⟨L_.A3, L_.c3, L_.A6, L_.c6, L_.A9, L_.c9, L_.A12, L_.c12, B8, d8, L_.A18, L_.c18, L_.A21, L_.c21, L_.A24, L_.c24, L_.A25, L_.v26, L_.m3_, L_.m6_, L_.m9_, L_.m12_, (.slice B8 (numL s.grp).length d8), L_.m18_, L_.m21_, L_.m24_, L_.m25_, L_.m27_⟩, (by rw [ha.out]; exact putSel_upk 15 hb_ rfl rfl rfl), ⟨fun _ => (bb BY.out hb8), fun _ _ => (Kd.FK_below F3.out hb8), fun h0_ h1_ => (Kd.FK_below (HF_.F6 h0_ h1_) hb8), fun h0_ h1_ => (Kd.FK_below (HF_.F9 h0_ h1_) hb8), fun _ _ => (Kd.FK_below F12.out hb8), fun _ _ => (fkR (hn8.lower BY.out.size)), fun h0_ _ => absurd ((hoff 18 (by kernel_rfl)).symm.trans h0_) (by decide), fun h0_ _ => absurd ((hoff 21 (by kernel_rfl)).symm.trans h0_) (by decide), fun h0_ _ => absurd ((hoff 24 (by kernel_rfl)).symm.trans h0_) (by decide), fun h0_ _ => absurd ((hoff 25 (by kernel_rfl)).symm.trans h0_) (by decide), fun h0_ => absurd ((hoff 26 (by kernel_rfl)).symm.trans h0_) (by decide), fun h0_ => absurd ((hoff 26 (by kernel_rfl)).symm.trans h0_) (by decide), HF_.X3_, HF_.X6_, HF_.X9_, HF_.X12_, fun _ => rfl, fun h0_ => absurd ((hoff 18 (by kernel_rfl)).symm.trans h0_) (by decide), fun h0_ => absurd ((hoff 21 (by kernel_rfl)).symm.trans h0_) (by decide), fun h0_ => absurd ((hoff 24 (by kernel_rfl)).symm.trans h0_) (by decide), fun h0_ => absurd ((hoff 25 (by kernel_rfl)).symm.trans h0_) (by decide), fun h0_ => absurd ((hoff 27 (by kernel_rfl)).symm.trans h0_) (by decide)⟩⟩
    refine steps_cons ?_ ?_
    · rintro b a w' ⟨L_, ha, HF_⟩ hb_ hon hoff
      refine ⟨_, rfl, fun K hK => ?_⟩
      have e4 : a.tmps[4]? = some (.pointer (some ⟨w.heap.size + 1, 0, none⟩)) := by rw [ha]; exact (putSel_off rfl).trans G4
      replace ha := Aside0.mk ha
      have BY := Aside0.mk (HF_.BY (hoff 26 (by kernel_rfl)))
      refine value_ (w1 := w') (v := .pointer (some ⟨w.heap.size + 1, 5, none⟩)) (by rfl) rfl ?_ ?_
      · go_simp
        (try simp only [i64_w])
        try rfl
      refine hK.out _ _ ⟨⟨L_.A3, L_.c3, L_.A6, L_.c6, L_.A9, L_.c9, L_.A12, L_.c12, L_.A15, L_.c15, L_.A18, L_.c18, L_.A21, L_.c21, L_.A24, L_.c24, L_.A25, L_.v26, L_.m3_, L_.m6_, L_.m9_, L_.m12_, L_.m15_, L_.m18_, L_.m21_, L_.m24_, L_.m25_, L_.m27_⟩, (by rw [ha.out]; exact putSel_upk 16 hb_ rfl rfl rfl), ⟨HF_.BY, HF_.F3, HF_.F6, HF_.F9, HF_.F12, HF_.F15, fun h0_ _ => absurd ((hoff 18 (by kernel_rfl)).symm.trans h0_) (by decide), fun h0_ _ => absurd ((hoff 21 (by kernel_rfl)).symm.trans h0_) (by decide), fun h0_ _ => absurd ((hoff 24 (by kernel_rfl)).symm.trans h0_) (by decide), fun h0_ _ => absurd ((hoff 25 (by kernel_rfl)).symm.trans h0_) (by decide), fun h0_ => absurd ((hoff 26 (by kernel_rfl)).symm.trans h0_) (by decide), fun h0_ => absurd ((hoff 26 (by kernel_rfl)).symm.trans h0_) (by decide), HF_.X3_, HF_.X6_, HF_.X9_, HF_.X12_, HF_.X15_, fun h0_ => absurd ((hoff 18 (by kernel_rfl)).symm.trans h0_) (by decide), fun h0_ => absurd ((hoff 21 (by kernel_rfl)).symm.trans h0_) (by decide), fun h0_ => absurd ((hoff 24 (by kernel_rfl)).symm.trans h0_) (by decide), fun h0_ => absurd ((hoff 25 (by kernel_rfl)).symm.trans h0_) (by decide), fun h0_ => absurd ((hoff 27 (by kernel_rfl)).symm.trans h0_) (by decide)⟩⟩
    refine steps_cons ?_ ?_
    · rintro b a w' ⟨L_, ha, HF_⟩ hb_ hon hoff
      refine ⟨_, rfl, fun K hK => ?_⟩
      have e154 : a.tmps[154]? = some (.pointer (some ⟨w.heap.size + 1, 5, none⟩)) := by rw [ha]; exact putSel_on (e := (16, 154, .pointer (some ⟨w.heap.size + 1, 5, none⟩))) 16 rfl rfl (hon 16 (by kernel_rfl)) (by rw [GS]; rfl)
      replace ha := Aside0.mk ha
      have BY := Aside0.mk (HF_.BY (hoff 26 (by kernel_rfl)))
      have hc17_5 : w'.cell? ⟨w.heap.size + 1, 5, none⟩ = some (.int .i64 s.vers) := (blk_cell (blk_keep BY.out K1Y.out) 5).trans rfl
      refine value_ (w1 := w') (v := .int .i64 s.vers) (by rfl) rfl ?_ ?_
      · go_simp
        (try simp only [i64_w])
        try rfl
      refine hK.out _ _ ⟨⟨L_.A3, L_.c3, L_.A6, L_.c6, L_.A9, L_.c9, L_.A12, L_.c12, L_.A15, L_.c15, L_.A18, L_.c18, L_.A21, L_.c21, L_.A24, L_.c24, L_.A25, L_.v26, L_.m3_, L_.m6_, L_.m9_, L_.m12_, L_.m15_, L_.m18_, L_.m21_, L_.m24_, L_.m25_, L_.m27_⟩, (by rw [ha.out]; exact putSel_upk 17 hb_ rfl rfl rfl), ⟨HF_.BY, HF_.F3, HF_.F6, HF_.F9, HF_.F12, HF_.F15, fun h0_ _ => absurd ((hoff 18 (by kernel_rfl)).symm.trans h0_) (by decide), fun h0_ _ => absurd ((hoff 21 (by kernel_rfl)).symm.trans h0_) (by decide), fun h0_ _ => absurd ((hoff 24 (by kernel_rfl)).symm.trans h0_) (by decide), fun h0_ _ => absurd ((hoff 25 (by kernel_rfl)).symm.trans h0_) (by decide), fun h0_ => absurd ((hoff 26 (by kernel_rfl)).symm.trans h0_) (by decide), fun h0_ => absurd ((hoff 26 (by kernel_rfl)).symm.trans h0_) (by decide), HF_.X3_, HF_.X6_, HF_.X9_, HF_.X12_, HF_.X15_, fun h0_ => absurd ((hoff 18 (by kernel_rfl)).symm.trans h0_) (by decide), fun h0_ => absurd ((hoff 21 (by kernel_rfl)).symm.trans h0_) (by decide), fun h0_ => absurd ((hoff 24 (by kernel_rfl)).symm.trans h0_) (by decide), fun h0_ => absurd ((hoff 25 (by kernel_rfl)).symm.trans h0_) (by decide), fun h0_ => absurd ((hoff 27 (by kernel_rfl)).symm.trans h0_) (by decide)⟩⟩
    refine steps_cons ?_ ?_
    · rintro b a w' ⟨L_, ha, HF_⟩ hb_ hon hoff
      refine ⟨_, rfl, fun K hK => ?_⟩
      have e155 : a.tmps[155]? = some (.int .i64 s.vers) := by rw [ha]; exact putSel_on (e := (17, 155, .int .i64 s.vers)) 17 rfl rfl (hon 17 (by kernel_rfl)) (by rw [GS]; rfl)
      replace ha := Aside0.mk ha
      have BY := Aside0.mk (HF_.BY (hoff 26 (by kernel_rfl)))
      have F3 := Aside0.mk (HF_.F3 (hon 3 (by kernel_rfl)) (hoff 26 (by kernel_rfl)))
      have F12 := Aside0.mk (HF_.F12 (hon 12 (by kernel_rfl)) (hoff 26 (by kernel_rfl)))
      have F15 := Aside0.mk (HF_.F15 (hon 15 (by kernel_rfl)) (hoff 26 (by kernel_rfl)))
      go_simp
      go_at_call 85
      refine (num85 _ _ HM.out.2.2.2.1).mono ?_
      rintro e w8 ⟨v8, rfl, hn8, hb8⟩
      obtain ⟨B8, d8, rfl⟩ := Kd.N_slice hn8
      refine hK.out _ _ ⟨⟨L_.A3, L_.c3, L_.A6, L_.c6, L_.A9, L_.c9, L_.A12, L_.c12, L_.A15, L_.c15, B8, d8, L_.A21, L_.c21, L_.A24, L_.c24, L_.A25, L_.v26, L_.m3_, L_.m6_, L_.m9_, L_.m12_, L_.m15_, (.slice B8 (numL s.vers).length d8), L_.m21_, L_.m24_, L_.m25_, L_.m27_⟩, (by rw [ha.out]; exact putSel_upk 18 hb_ rfl rfl rfl), ⟨fun _ => (bb BY.out hb8), fun _ _ => (Kd.FK_below F3.out hb8), fun h0_ h1_ => (Kd.FK_below (HF_.F6 h0_ h1_) hb8), fun h0_ h1_ => (Kd.FK_below (HF_.F9 h0_ h1_) hb8), fun _ _ => (Kd.FK_below F12.out hb8), fun _ _ => (Kd.FK_below F15.out hb8), fun _ _ => (fkR (hn8.lower BY.out.size)), fun h0_ _ => absurd ((hoff 21 (by kernel_rfl)).symm.trans h0_) (by decide), fun h0_ _ => absurd ((hoff 24 (by kernel_rfl)).symm.trans h0_) (by decide), fun h0_ _ => absurd ((hoff 25 (by kernel_rfl)).symm.trans h0_) (by decide), fun h0_ => absurd ((hoff 26 (by kernel_rfl)).symm.trans h0_) (by decide), fun h0_ => absurd ((hoff 26 (by kernel_rfl)).symm.trans h0_) (by decide), HF_.X3_, HF_.X6_, HF_.X9_, HF_.X12_, HF_.X15_, fun _ => rfl, fun h0_ => absurd ((hoff 21 (by kernel_rfl)).symm.trans h0_) (by decide), fun h0_ => absurd ((hoff 24 (by kernel_rfl)).symm.trans h0_) (by decide), fun h0_ => absurd ((hoff 25 (by kernel_rfl)).symm.trans h0_) (by decide), fun h0_ => absurd ((hoff 27 (by kernel_rfl)).symm.trans h0_) (by decide)⟩⟩
    refine steps_cons ?_ ?_
    · rintro b a w' ⟨L_, ha, HF_⟩ hb_ hon hoff
      refine ⟨_, rfl, fun K hK => ?_⟩
      have e4 : a.tmps[4]? = some (.pointer (some ⟨w.heap.size + 1, 0, none⟩)) := by rw [ha]; exact (putSel_off rfl).trans G4
      replace ha := Aside0.mk ha
      have BY := Aside0.mk (HF_.BY (hoff 26 (by kernel_rfl)))
      refine value_ (w1 := w') (v := .pointer (some ⟨w.heap.size + 1, 6, none⟩)) (by rfl) rfl ?_ ?_
      · go_simp
        (try simp only [i64_w])
        try rfl
      refine hK.out _ _ ⟨⟨L_.A3, L_.c3, L_.A6, L_.c6, L_.A9, L_.c9, L_.A12, L_.c12, L_.A15, L_.c15, L_.A18, L_.c18, L_.A21, L_.c21, L_.A24, L_.c24, L_.A25, L_.v26, L_.m3_, L_.m6_, L_.m9_, L_.m12_, L_.m15_, L_.m18_, L_.m21_, L_.m24_, L_.m25_, L_.m27_⟩, (by rw [ha.out]; exact putSel_upk 19 hb_ rfl rfl rfl), ⟨HF_.BY, HF_.F3, HF_.F6, HF_.F9, HF_.F12, HF_.F15, HF_.F18, fun h0_ _ => absurd ((hoff 21 (by kernel_rfl)).symm.trans h0_) (by decide), fun h0_ _ => absurd ((hoff 24 (by kernel_rfl)).symm.trans h0_) (by decide), fun h0_ _ => absurd ((hoff 25 (by kernel_rfl)).symm.trans h0_) (by decide), fun h0_ => absurd ((hoff 26 (by kernel_rfl)).symm.trans h0_) (by decide), fun h0_ => absurd ((hoff 26 (by kernel_rfl)).symm.trans h0_) (by decide), HF_.X3_, HF_.X6_, HF_.X9_, HF_.X12_, HF_.X15_, HF_.X18_, fun h0_ => absurd ((hoff 21 (by kernel_rfl)).symm.trans h0_) (by decide), fun h0_ => absurd ((hoff 24 (by kernel_rfl)).symm.trans h0_) (by decide), fun h0_ => absurd ((hoff 25 (by kernel_rfl)).symm.trans h0_) (by decide), fun h0_ => absurd ((hoff 27 (by kernel_rfl)).symm.trans h0_) (by decide)⟩⟩
    refine steps_cons ?_ ?_
    · rintro b a w' ⟨L_, ha, HF_⟩ hb_ hon hoff
      refine ⟨_, rfl, fun K hK => ?_⟩
      have e157 : a.tmps[157]? = some (.pointer (some ⟨w.heap.size + 1, 6, none⟩)) := by rw [ha]; exact putSel_on (e := (19, 157, .pointer (some ⟨w.heap.size + 1, 6, none⟩))) 19 rfl rfl (hon 19 (by kernel_rfl)) (by rw [GS]; rfl)
      replace ha := Aside0.mk ha
      have BY := Aside0.mk (HF_.BY (hoff 26 (by kernel_rfl)))
      have hc20_6 : w'.cell? ⟨w.heap.size + 1, 6, none⟩ = some (.int .i64 s.life) := (blk_cell (blk_keep BY.out K1Y.out) 6).trans rfl
      refine value_ (w1 := w') (v := .int .i64 s.life) (by rfl) rfl ?_ ?_
      · go_simp
        (try simp only [i64_w])
        try rfl
      refine hK.out _ _ ⟨⟨L_.A3, L_.c3, L_.A6, L_.c6, L_.A9, L_.c9, L_.A12, L_.c12, L_.A15, L_.c15, L_.A18, L_.c18, L_.A21, L_.c21, L_.A24, L_.c24, L_.A25, L_.v26, L_.m3_, L_.m6_, L_.m9_, L_.m12_, L_.m15_, L_.m18_, L_.m21_, L_.m24_, L_.m25_, L_.m27_⟩, (by rw [ha.out]; exact putSel_upk 20 hb_ rfl rfl rfl), ⟨HF_.BY, HF_.F3, HF_.F6, HF_.F9, HF_.F12, HF_.F15, HF_.F18, fun h0_ _ => absurd ((hoff 21 (by kernel_rfl)).symm.trans h0_) (by decide), fun h0_ _ => absurd ((hoff 24 (by kernel_rfl)).symm.trans h0_) (by decide), fun h0_ _ => absurd ((hoff 25 (by kernel_rfl)).symm.trans h0_) (by decide), fun h0_ => absurd ((hoff 26 (by kernel_rfl)).symm.trans h0_) (by decide), fun h0_ => absurd ((hoff 26 (by kernel_rfl)).symm.trans h0_) (by decide), HF_.X3_, HF_.X6_, HF_.X9_, HF_.X12_, HF_.X15_, HF_.X18_, fun h0_ => absurd ((hoff 21 (by kernel_rfl)).symm.trans h0_) (by decide), fun h0_ => absurd ((hoff 24 (by kernel_rfl)).symm.trans h0_) (by decide), fun h0_ => absurd ((hoff 25 (by kernel_rfl)).symm.trans h0_) (by decide), fun h0_ => absurd ((hoff 27 (by kernel_rfl)).symm.trans h0_) (by decide)⟩⟩
    refine steps_cons ?_ ?_
    · rintro b a w' ⟨L_, ha, HF_⟩ hb_ hon hoff
      refine ⟨_, rfl, fun K hK => ?_⟩
      have e158 : a.tmps[158]? = some (.int .i64 s.life) := by rw [ha]; exact putSel_on (e := (20, 158, .int .i64 s.life)) 20 rfl rfl (hon 20 (by kernel_rfl)) (by rw [GS]; rfl)
      replace ha := Aside0.mk ha
      have BY := Aside0.mk (HF_.BY (hoff 26 (by kernel_rfl)))
      have F3 := Aside0.mk (HF_.F3 (hon 3 (by kernel_rfl)) (hoff 26 (by kernel_rfl)))
      have F12 := Aside0.mk (HF_.F12 (hon 12 (by kernel_rfl)) (hoff 26 (by kernel_rfl)))
      have F15 := Aside0.mk (HF_.F15 (hon 15 (by kernel_rfl)) (hoff 26 (by kernel_rfl)))
      have F18 := Aside0.mk (HF_.F18 (hon 18 (by kernel_rfl)) (hoff 26 (by kernel_rfl)))
      go_simp
      go_at_call 85
      refine (num85 _ _ HM.out.2.2.2.2.1).mono ?_
      rintro e w8 ⟨v8, rfl, hn8, hb8⟩
      obtain ⟨B8, d8, rfl⟩ := Kd.N_slice hn8
      refine hK.out _ _ ⟨⟨L_.A3, L_.c3, L_.A6, L_.c6, L_.A9, L_.c9, L_.A12, L_.c12, L_.A15, L_.c15, L_.A18, L_.c18, B8, d8, L_.A24, L_.c24, L_.A25, L_.v26, L_.m3_, L_.m6_, L_.m9_, L_.m12_, L_.m15_, L_.m18_, (.slice B8 (numL s.life).length d8), L_.m24_, L_.m25_, L_.m27_⟩, (by rw [ha.out]; exact putSel_upk 21 hb_ rfl rfl rfl), ⟨fun _ => (bb BY.out hb8), fun _ _ => (Kd.FK_below F3.out hb8), fun h0_ h1_ => (Kd.FK_below (HF_.F6 h0_ h1_) hb8), fun h0_ h1_ => (Kd.FK_below (HF_.F9 h0_ h1_) hb8), fun _ _ => (Kd.FK_below F12.out hb8), fun _ _ => (Kd.FK_below F15.out hb8), fun _ _ => (Kd.FK_below F18.out hb8), fun _ _ => (fkR (hn8.lower BY.out.size)), fun h0_ _ => absurd ((hoff 24 (by kernel_rfl)).symm.trans h0_) (by decide), fun h0_ _ => absurd ((hoff 25 (by kernel_rfl)).symm.trans h0_) (by decide), fun h0_ => absurd ((hoff 26 (by kernel_rfl)).symm.trans h0_) (by decide), fun h0_ => absurd ((hoff 26 (by kernel_rfl)).symm.trans h0_) (by decide), HF_.X3_, HF_.X6_, HF_.X9_, HF_.X12_, HF_.X15_, HF_.X18_, fun _ => rfl, fun h0_ => absurd ((hoff 24 (by kernel_rfl)).symm.trans h0_) (by decide), fun h0_ => absurd ((hoff 25 (by kernel_rfl)).symm.trans h0_) (by decide), fun h0_ => absurd ((hoff 27 (by kernel_rfl)).symm.trans h0_) (by decide)⟩⟩
    refine steps_cons ?_ ?_
    · rintro b a w' ⟨L_, ha, HF_⟩ hb_ hon hoff
      refine ⟨_, rfl, fun K hK => ?_⟩
      have e1 : a.tmps[1]? = some (.pointer (some ⟨w.heap.size, 0, none⟩)) := by rw [ha]; exact (putSel_off rfl).trans G1
      replace ha := Aside0.mk ha
      have BY := Aside0.mk (HF_.BY (hoff 26 (by kernel_rfl)))
      refine value_ (w1 := w') (v := .pointer (some ⟨w.heap.size, 9, none⟩)) (by rfl) rfl ?_ ?_
      · go_simp
        (try simp only [i64_w])
        try rfl
      refine hK.out _ _ ⟨⟨L_.A3, L_.c3, L_.A6, L_.c6, L_.A9, L_.c9, L_.A12, L_.c12, L_.A15, L_.c15, L_.A18, L_.c18, L_.A21, L_.c21, L_.A24, L_.c24, L_.A25, L_.v26, L_.m3_, L_.m6_, L_.m9_, L_.m12_, L_.m15_, L_.m18_, L_.m21_, L_.m24_, L_.m25_, L_.m27_⟩, (by rw [ha.out]; exact putSel_upk 22 hb_ rfl rfl rfl), ⟨HF_.BY, HF_.F3, HF_.F6, HF_.F9, HF_.F12, HF_.F15, HF_.F18, HF_.F21, fun h0_ _ => absurd ((hoff 24 (by kernel_rfl)).symm.trans h0_) (by decide), fun h0_ _ => absurd ((hoff 25 (by kernel_rfl)).symm.trans h0_) (by decide), fun h0_ => absurd ((hoff 26 (by kernel_rfl)).symm.trans h0_) (by decide), fun h0_ => absurd ((hoff 26 (by kernel_rfl)).symm.trans h0_) (by decide), HF_.X3_, HF_.X6_, HF_.X9_, HF_.X12_, HF_.X15_, HF_.X18_, HF_.X21_, fun h0_ => absurd ((hoff 24 (by kernel_rfl)).symm.trans h0_) (by decide), fun h0_ => absurd ((hoff 25 (by kernel_rfl)).symm.trans h0_) (by decide), fun h0_ => absurd ((hoff 27 (by kernel_rfl)).symm.trans h0_) (by decide)⟩⟩
    refine steps_cons ?_ ?_
    · rintro b a w' ⟨L_, ha, HF_⟩ hb_ hon hoff
      refine ⟨_, rfl, fun K hK => ?_⟩
      have e160 : a.tmps[160]? = some (.pointer (some ⟨w.heap.size, 9, none⟩)) := by rw [ha]; exact putSel_on (e := (22, 160, .pointer (some ⟨w.heap.size, 9, none⟩))) 22 rfl rfl (hon 22 (by kernel_rfl)) (by rw [GS]; rfl)
      replace ha := Aside0.mk ha
      have BY := Aside0.mk (HF_.BY (hoff 26 (by kernel_rfl)))
      have hc23_9 : w'.cell? ⟨w.heap.size, 9, none⟩ = some (.int .i64 s.step) := (blk_cell (blk_keep BY.out K0Y.out) 9).trans rfl
      refine value_ (w1 := w') (v := .int .i64 s.step) (by rfl) rfl ?_ ?_
      · go_simp
        (try simp only [i64_w])
        try rfl
      refine hK.out _ _ ⟨⟨L_.A3, L_.c3, L_.A6, L_.c6, L_.A9, L_.c9, L_.A12, L_.c12, L_.A15, L_.c15, L_.A18, L_.c18, L_.A21, L_.c21, L_.A24, L_.c24, L_.A25, L_.v26, L_.m3_, L_.m6_, L_.m9_, L_.m12_, L_.m15_, L_.m18_, L_.m21_, L_.m24_, L_.m25_, L_.m27_⟩, (by rw [ha.out]; exact putSel_upk 23 hb_ rfl rfl rfl), ⟨HF_.BY, HF_.F3, HF_.F6, HF_.F9, HF_.F12, HF_.F15, HF_.F18, HF_.F21, fun h0_ _ => absurd ((hoff 24 (by kernel_rfl)).symm.trans h0_) (by decide), fun h0_ _ => absurd ((hoff 25 (by kernel_rfl)).symm.trans h0_) (by decide), fun h0_ => absurd ((hoff 26 (by kernel_rfl)).symm.trans h0_) (by decide), fun h0_ => absurd ((hoff 26 (by kernel_rfl)).symm.trans h0_) (by decide), HF_.X3_, HF_.X6_, HF_.X9_, HF_.X12_, HF_.X15_, HF_.X18_, HF_.X21_, fun h0_ => absurd ((hoff 24 (by kernel_rfl)).symm.trans h0_) (by decide), fun h0_ => absurd ((hoff 25 (by kernel_rfl)).symm.trans h0_) (by decide), fun h0_ => absurd ((hoff 27 (by kernel_rfl)).symm.trans h0_) (by decide)⟩⟩
    refine steps_cons ?_ ?_
    · rintro b a w' ⟨L_, ha, HF_⟩ hb_ hon hoff
      refine ⟨_, rfl, fun K hK => ?_⟩
      have e161 : a.tmps[161]? = some (.int .i64 s.step) := by rw [ha]; exact putSel_on (e := (23, 161, .int .i64 s.step)) 23 rfl rfl (hon 23 (by kernel_rfl)) (by rw [GS]; rfl)
      replace ha := Aside0.mk ha
      have BY := Aside0.mk (HF_.BY (hoff 26 (by kernel_rfl)))
      have F3 := Aside0.mk (HF_.F3 (hon 3 (by kernel_rfl)) (hoff 26 (by kernel_rfl)))
      have F12 := Aside0.mk (HF_.F12 (hon 12 (by kernel_rfl)) (hoff 26 (by kernel_rfl)))
      have F15 := Aside0.mk (HF_.F15 (hon 15 (by kernel_rfl)) (hoff 26 (by kernel_rfl)))
      have F18 := Aside0.mk (HF_.F18 (hon 18 (by kernel_rfl)) (hoff 26 (by kernel_rfl)))
      have F21 := Aside0.mk (HF_.F21 (hon 21 (by kernel_rfl)) (hoff 26 (by kernel_rfl)))
      go_simp
      go_at_call 85
      refine (num85 _ _ HM.out.2.2.2.2.2.1).mono ?_
      rintro e w8 ⟨v8, rfl, hn8, hb8⟩
      obtain ⟨B8, d8, rfl⟩ := Kd.N_slice hn8
      refine hK.out _ _ ⟨⟨L_.A3, L_.c3, L_.A6, L_.c6, L_.A9, L_.c9, L_.A12, L_.c12, L_.A15, L_.c15, L_.A18, L_.c18, L_.A21, L_.c21, B8, d8, L_.A25, L_.v26, L_.m3_, L_.m6_, L_.m9_, L_.m12_, L_.m15_, L_.m18_, L_.m21_, (.slice B8 (numL s.step).length d8), L_.m25_, L_.m27_⟩, (by rw [ha.out]; exact putSel_upk 24 hb_ rfl rfl rfl), ⟨fun _ => (bb BY.out hb8), fun _ _ => (Kd.FK_below F3.out hb8), fun h0_ h1_ => (Kd.FK_below (HF_.F6 h0_ h1_) hb8), fun h0_ h1_ => (Kd.FK_below (HF_.F9 h0_ h1_) hb8), fun _ _ => (Kd.FK_below F12.out hb8), fun _ _ => (Kd.FK_below F15.out hb8), fun _ _ => (Kd.FK_below F18.out hb8), fun _ _ => (Kd.FK_below F21.out hb8), fun _ _ => (fkR (hn8.lower BY.out.size)), fun h0_ _ => absurd ((hoff 25 (by kernel_rfl)).symm.trans h0_) (by decide), fun h0_ => absurd ((hoff 26 (by kernel_rfl)).symm.trans h0_) (by decide), fun h0_ => absurd ((hoff 26 (by kernel_rfl)).symm.trans h0_) (by decide), HF_.X3_, HF_.X6_, HF_.X9_, HF_.X12_, HF_.X15_, HF_.X18_, HF_.X21_, fun _ => rfl, fun h0_ => absurd ((hoff 25 (by kernel_rfl)).symm.trans h0_) (by decide), fun h0_ => absurd ((hoff 27 (by kernel_rfl)).symm.trans h0_) (by decide)⟩⟩
    refine steps_cons ?_ ?_
    · rintro b a w' ⟨L_, ha, HF_⟩ hb_ hon hoff
      refine ⟨_, rfl, fun K hK => ?_⟩
      have e141 : a.tmps[141]? = some (L_.m3_) := by rw [ha]; exact putSel_on (e := (3, 141, L_.m3_)) 3 rfl rfl (hon 3 (by kernel_rfl)) (by rw [GS]; rfl)
      rw [HF_.X3_ (hon 3 (by kernel_rfl))] at e141
      have e144 : a.tmps[144]? = some (L_.m6_) := by rw [ha]; exact putSel_on (e := (6, 144, L_.m6_)) 6 rfl rfl (hon 6 (by kernel_rfl)) (by rw [GS]; rfl)
      rw [HF_.X6_ (hon 6 (by kernel_rfl))] at e144
      have e147 : a.tmps[147]? = some (L_.m9_) := by rw [ha]; exact putSel_on (e := (9, 147, L_.m9_)) 9 rfl rfl (hon 9 (by kernel_rfl)) (by rw [GS]; rfl)
      rw [HF_.X9_ (hon 9 (by kernel_rfl))] at e147
      have e150 : a.tmps[150]? = some (L_.m12_) := by rw [ha]; exact putSel_on (e := (12, 150, L_.m12_)) 12 rfl rfl (hon 12 (by kernel_rfl)) (by rw [GS]; rfl)
      rw [HF_.X12_ (hon 12 (by kernel_rfl))] at e150
      have e153 : a.tmps[153]? = some (L_.m15_) := by rw [ha]; exact putSel_on (e := (15, 153, L_.m15_)) 15 rfl rfl (hon 15 (by kernel_rfl)) (by rw [GS]; rfl)
      rw [HF_.X15_ (hon 15 (by kernel_rfl))] at e153
      have e156 : a.tmps[156]? = some (L_.m18_) := by rw [ha]; exact putSel_on (e := (18, 156, L_.m18_)) 18 rfl rfl (hon 18 (by kernel_rfl)) (by rw [GS]; rfl)
      rw [HF_.X18_ (hon 18 (by kernel_rfl))] at e156
      have e159 : a.tmps[159]? = some (L_.m21_) := by rw [ha]; exact putSel_on (e := (21, 159, L_.m21_)) 21 rfl rfl (hon 21 (by kernel_rfl)) (by rw [GS]; rfl)
      rw [HF_.X21_ (hon 21 (by kernel_rfl))] at e159
      have e162 : a.tmps[162]? = some (L_.m24_) := by rw [ha]; exact putSel_on (e := (24, 162, L_.m24_)) 24 rfl rfl (hon 24 (by kernel_rfl)) (by rw [GS]; rfl)
      rw [HF_.X24_ (hon 24 (by kernel_rfl))] at e162
      replace ha := Aside0.mk ha
      have BY := Aside0.mk (HF_.BY (hoff 26 (by kernel_rfl)))
      have F3 := Aside0.mk (HF_.F3 (hon 3 (by kernel_rfl)) (hoff 26 (by kernel_rfl)))
      have F6 := Aside0.mk (HF_.F6 (hon 6 (by kernel_rfl)) (hoff 26 (by kernel_rfl)))
      have F9 := Aside0.mk (HF_.F9 (hon 9 (by kernel_rfl)) (hoff 26 (by kernel_rfl)))
      have F12 := Aside0.mk (HF_.F12 (hon 12 (by kernel_rfl)) (hoff 26 (by kernel_rfl)))
      have F15 := Aside0.mk (HF_.F15 (hon 15 (by kernel_rfl)) (hoff 26 (by kernel_rfl)))
      have F18 := Aside0.mk (HF_.F18 (hon 18 (by kernel_rfl)) (hoff 26 (by kernel_rfl)))
      have F21 := Aside0.mk (HF_.F21 (hon 21 (by kernel_rfl)) (hoff 26 (by kernel_rfl)))
      have F24 := Aside0.mk (HF_.F24 (hon 24 (by kernel_rfl)) (hoff 26 (by kernel_rfl)))
      refine value_ (w1 := w'.alloc (.cells #[.slice L_.A3 (numL s.kind).length L_.c3, .slice L_.A6 s.fam.size L_.c6, .slice L_.A9 s.qual.size L_.c9, .slice L_.A12 (numL s.typ).length L_.c12, .slice L_.A15 (numL s.grp).length L_.c15, .slice L_.A18 (numL s.vers).length L_.c18, .slice L_.A21 (numL s.life).length L_.c21, .slice L_.A24 (numL s.step).length L_.c24] 22)) (v := .slice (some ⟨w'.heap.size, 0, none⟩) 8 8) (by rfl) rfl ?_ ?_
      · go_simp
        try rfl
      refine hK.out _ _ ⟨⟨L_.A3, L_.c3, L_.A6, L_.c6, L_.A9, L_.c9, L_.A12, L_.c12, L_.A15, L_.c15, L_.A18, L_.c18, L_.A21, L_.c21, L_.A24, L_.c24, (some ⟨w'.heap.size, 0, none⟩), L_.v26, L_.m3_, L_.m6_, L_.m9_, L_.m12_, L_.m15_, L_.m18_, L_.m21_, L_.m24_, (.slice (some ⟨w'.heap.size, 0, none⟩) 8 8), L_.m27_⟩, (by rw [ha.out]; exact putSel_upk 25 hb_ rfl rfl rfl), ⟨fun _ => (bba BY.out _), fun _ _ => (Kd.FK_below F3.out (below_alloc (Below.refl _ _) _)), fun _ _ => (Kd.FK_below F6.out (below_alloc (Below.refl _ _) _)), fun _ _ => (Kd.FK_below F9.out (below_alloc (Below.refl _ _) _)), fun _ _ => (Kd.FK_below F12.out (below_alloc (Below.refl _ _) _)), fun _ _ => (Kd.FK_below F15.out (below_alloc (Below.refl _ _) _)), fun _ _ => (Kd.FK_below F18.out (below_alloc (Below.refl _ _) _)), fun _ _ => (Kd.FK_below F21.out (below_alloc (Below.refl _ _) _)), fun _ _ => (Kd.FK_below F24.out (below_alloc (Below.refl _ _) _)), fun _ _ => (N_litR (B := wy.heap.size) (vs := [.slice L_.A3 (numL s.kind).length L_.c3, .slice L_.A6 s.fam.size L_.c6, .slice L_.A9 s.qual.size L_.c9, .slice L_.A12 (numL s.typ).length L_.c12, .slice L_.A15 (numL s.grp).length L_.c15, .slice L_.A18 (numL s.vers).length L_.c18, .slice L_.A21 (numL s.life).length L_.c21, .slice L_.A24 (numL s.step).length L_.c24]) (ls := [numL s.kind, s.fam.data.toList, s.qual.data.toList, numL s.typ, numL s.grp, numL s.vers, numL s.life, numL s.step]) rfl (by intro j v l hv hl; rcases j with _ | _ | _ | _ | _ | _ | _ | _ | j <;> simp only [List.getElem?_cons_zero, List.getElem?_cons_succ, List.getElem?_nil, Option.some.injEq, reduceCtorEq] at hv hl <;> (subst hv hl; first | exact F3.out | exact F6.out | exact F9.out | exact F12.out | exact F15.out | exact F18.out | exact F21.out | exact F24.out)) BY.out.size (by simp)), fun h0_ => absurd ((hoff 26 (by kernel_rfl)).symm.trans h0_) (by decide), fun h0_ => absurd ((hoff 26 (by kernel_rfl)).symm.trans h0_) (by decide), HF_.X3_, HF_.X6_, HF_.X9_, HF_.X12_, HF_.X15_, HF_.X18_, HF_.X21_, HF_.X24_, fun _ => rfl, fun h0_ => absurd ((hoff 27 (by kernel_rfl)).symm.trans h0_) (by decide)⟩⟩
    refine steps_cons ?_ ?_
    · rintro b a w' ⟨L_, ha, HF_⟩ hb_ hon hoff
      refine ⟨_, rfl, fun K hK => ?_⟩
      have e138 : a.tmps[138]? = some (u5) := by rw [ha]; exact putSel_on (e := (0, 138, u5)) 0 rfl rfl (hon 0 (by kernel_rfl)) (by rw [GS]; rfl)
      have e163 : a.tmps[163]? = some (L_.m25_) := by rw [ha]; exact putSel_on (e := (25, 163, L_.m25_)) 25 rfl rfl (hon 25 (by kernel_rfl)) (by rw [GS]; rfl)
      rw [HF_.X25_ (hon 25 (by kernel_rfl))] at e163
      replace ha := Aside0.mk ha
      have BY := Aside0.mk (HF_.BY hb_)
      have F3 := Aside0.mk (HF_.F3 (hon 3 (by kernel_rfl)) hb_)
      have F6 := Aside0.mk (HF_.F6 (hon 6 (by kernel_rfl)) hb_)
      have F9 := Aside0.mk (HF_.F9 (hon 9 (by kernel_rfl)) hb_)
      have F12 := Aside0.mk (HF_.F12 (hon 12 (by kernel_rfl)) hb_)
      have F15 := Aside0.mk (HF_.F15 (hon 15 (by kernel_rfl)) hb_)
      have F18 := Aside0.mk (HF_.F18 (hon 18 (by kernel_rfl)) hb_)
      have F21 := Aside0.mk (HF_.F21 (hon 21 (by kernel_rfl)) hb_)
      have F24 := Aside0.mk (HF_.F24 (hon 24 (by kernel_rfl)) hb_)
      have N25 := Aside0.mk (HF_.N25 (hon 25 (by kernel_rfl)) hb_)
      refine Kd.N_append_rows_step kR (w0 := w') w1.heap.size rfl (.tmp 138) (.tmp 163) 74 22 (.slice none 0 0) 24 rfl Try.underlying74 info22 rfl (by decide) (by omega) u5 acc [numL s.kind, s.fam.data.toList, s.qual.data.toList, numL s.typ, numL s.grp, numL s.vers, numL s.life, numL s.step] L_.A25 8 8 (fun k => w1.heap.size ≤ k) (fun k => wy.heap.size ≤ k) (eval_of e138) (eval_of e163) (Kd.N_below HN.out BY.out) (Kd.N_F N25.out) (fun k hk => ⟨Nat.le_trans BW.out.size hk, fun he => absurd (Kd.N_lt HN.out k he.symm) (by omega)⟩) (fun k hk => Nat.le_trans (Nat.le_trans BW.out.size BY.out.size) hk) (Below.refl _ _) (Nat.le_trans BW.out.size BY.out.size) (by have := HLEN.out; simp; omega) ?_
      intro v9 w9 ho hb hg9 hat
      have HO := Aside0.mk ho
      have HBN := Aside0.mk ((bb BW.out BY.out).trans hb)
      refine hK.out _ _ ⟨⟨L_.A3, L_.c3, L_.A6, L_.c6, L_.A9, L_.c9, L_.A12, L_.c12, L_.A15, L_.c15, L_.A18, L_.c18, L_.A21, L_.c21, L_.A24, L_.c24, L_.A25, v9, L_.m3_, L_.m6_, L_.m9_, L_.m12_, L_.m15_, L_.m18_, L_.m21_, L_.m24_, L_.m25_, L_.m27_⟩, (by rw [ha.out]; exact putSel_upk 26 hb_ rfl rfl rfl), ⟨fun h0_ => absurd ((up_self b 26).symm.trans h0_) (by decide), fun _ h1_ => absurd ((up_self b 26).symm.trans h1_) (by decide), fun _ h1_ => absurd ((up_self b 26).symm.trans h1_) (by decide), fun _ h1_ => absurd ((up_self b 26).symm.trans h1_) (by decide), fun _ h1_ => absurd ((up_self b 26).symm.trans h1_) (by decide), fun _ h1_ => absurd ((up_self b 26).symm.trans h1_) (by decide), fun _ h1_ => absurd ((up_self b 26).symm.trans h1_) (by decide), fun _ h1_ => absurd ((up_self b 26).symm.trans h1_) (by decide), fun _ h1_ => absurd ((up_self b 26).symm.trans h1_) (by decide), fun _ h1_ => absurd ((up_self b 26).symm.trans h1_) (by decide), fun _ => (by rw [HENC.out]; exact HO.out), fun _ => HBN.out, HF_.X3_, HF_.X6_, HF_.X9_, HF_.X12_, HF_.X15_, HF_.X18_, HF_.X21_, HF_.X24_, HF_.X25_, fun h0_ => absurd ((hoff 27 (by kernel_rfl)).symm.trans h0_) (by decide)⟩⟩
    refine steps_cons ?_ ?_
    · rintro b a w' ⟨L_, ha, HF_⟩ hb_ hon hoff
      refine ⟨_, rfl, fun K hK => ?_⟩
      have e164 : a.tmps[164]? = some (L_.v26) := by rw [ha]; exact putSel_on (e := (26, 164, L_.v26)) 26 rfl rfl (hon 26 (by kernel_rfl)) (by rw [GS]; rfl)
      replace ha := Aside0.mk ha
      have N26 := Aside0.mk (HF_.N26 (hon 26 (by kernel_rfl)))
      have BX := Aside0.mk (HF_.BX (hon 26 (by kernel_rfl)))
      refine value_ (w1 := w') (v := L_.v26) (by rfl) rfl ?_ ?_
      · go_simp
        (try simp only [i64_w])
        try rfl
      refine hK.out _ _ ⟨⟨L_.A3, L_.c3, L_.A6, L_.c6, L_.A9, L_.c9, L_.A12, L_.c12, L_.A15, L_.c15, L_.A18, L_.c18, L_.A21, L_.c21, L_.A24, L_.c24, L_.A25, L_.v26, L_.m3_, L_.m6_, L_.m9_, L_.m12_, L_.m15_, L_.m18_, L_.m21_, L_.m24_, L_.m25_, (L_.v26)⟩, (by rw [ha.out]; exact putSel_upk 27 hb_ rfl rfl rfl), ⟨fun h0_ => absurd ((hon 26 (by kernel_rfl)).symm.trans h0_) (by decide), fun _ h1_ => absurd ((hon 26 (by kernel_rfl)).symm.trans h1_) (by decide), fun _ h1_ => absurd ((hon 26 (by kernel_rfl)).symm.trans h1_) (by decide), fun _ h1_ => absurd ((hon 26 (by kernel_rfl)).symm.trans h1_) (by decide), fun _ h1_ => absurd ((hon 26 (by kernel_rfl)).symm.trans h1_) (by decide), fun _ h1_ => absurd ((hon 26 (by kernel_rfl)).symm.trans h1_) (by decide), fun _ h1_ => absurd ((hon 26 (by kernel_rfl)).symm.trans h1_) (by decide), fun _ h1_ => absurd ((hon 26 (by kernel_rfl)).symm.trans h1_) (by decide), fun _ h1_ => absurd ((hon 26 (by kernel_rfl)).symm.trans h1_) (by decide), fun _ h1_ => absurd ((hon 26 (by kernel_rfl)).symm.trans h1_) (by decide), HF_.N26, HF_.BX, HF_.X3_, HF_.X6_, HF_.X9_, HF_.X12_, HF_.X15_, HF_.X18_, HF_.X21_, HF_.X24_, HF_.X25_, fun _ => rfl⟩⟩
    exact steps_nil
  · rintro b a w' hall ⟨L_, ha, HF_⟩
    clear BY
    have hb0_ := hall 0 (by kernel_rfl)
    have hb1_ := hall 1 (by kernel_rfl)
    have hb2_ := hall 2 (by kernel_rfl)
    have hb3_ := hall 3 (by kernel_rfl)
    have hb4_ := hall 4 (by kernel_rfl)
    have hb5_ := hall 5 (by kernel_rfl)
    have hb6_ := hall 6 (by kernel_rfl)
    have hb7_ := hall 7 (by kernel_rfl)
    have hb8_ := hall 8 (by kernel_rfl)
    have hb9_ := hall 9 (by kernel_rfl)
    have hb10_ := hall 10 (by kernel_rfl)
    have hb11_ := hall 11 (by kernel_rfl)
    have hb12_ := hall 12 (by kernel_rfl)
    have hb13_ := hall 13 (by kernel_rfl)
    have hb14_ := hall 14 (by kernel_rfl)
    have hb15_ := hall 15 (by kernel_rfl)
    have hb16_ := hall 16 (by kernel_rfl)
    have hb17_ := hall 17 (by kernel_rfl)
    have hb18_ := hall 18 (by kernel_rfl)
    have hb19_ := hall 19 (by kernel_rfl)
    have hb20_ := hall 20 (by kernel_rfl)
    have hb21_ := hall 21 (by kernel_rfl)
    have hb22_ := hall 22 (by kernel_rfl)
    have hb23_ := hall 23 (by kernel_rfl)
    have hb24_ := hall 24 (by kernel_rfl)
    have hb25_ := hall 25 (by kernel_rfl)
    have hb26_ := hall 26 (by kernel_rfl)
    have hb27_ := hall 27 (by kernel_rfl)
    subst ha
    have X3_ := HF_.X3_ hb3_
    have X6_ := HF_.X6_ hb6_
    have X9_ := HF_.X9_ hb9_
    have X12_ := HF_.X12_ hb12_
    have X15_ := HF_.X15_ hb15_
    have X18_ := HF_.X18_ hb18_
    have X21_ := HF_.X21_ hb21_
    have X24_ := HF_.X24_ hb24_
    have X25_ := HF_.X25_ hb25_
    have X27_ := HF_.X27_ hb27_
    simp only [putSel, hb0_, hb1_, hb2_, hb3_, hb4_, hb5_, hb6_, hb7_, hb8_, hb9_, hb10_, hb11_, hb12_, hb13_, hb14_, hb15_, hb16_, hb17_, hb18_, hb19_, hb20_, hb21_, hb22_, hb23_, hb24_, hb25_, hb26_, hb27_, if_true]
    rw [X3_, X6_, X9_, X12_, X15_, X18_, X21_, X24_, X25_, X27_]
    have N26 := Aside0.mk (HF_.N26 hb26_)
    have BX := Aside0.mk (HF_.BX hb26_)
    exact hend L_.A3 L_.c3 L_.A6 L_.c6 L_.A9 L_.c9 L_.A12 L_.c12 L_.A15 L_.c15 L_.A18 L_.c18 L_.A21 L_.c21 L_.A24 L_.c24 L_.A25 L_.v26 w' N26.out BX.out
end Go.Proofs.Ytmgpoafoljkknaa.My
