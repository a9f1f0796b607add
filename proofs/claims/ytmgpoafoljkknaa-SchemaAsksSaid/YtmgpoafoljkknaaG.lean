/- Sameness of families and schemas: the contracts of what compares them, by hand. Conditions: lengths fit an int. -/
import Derived.Test.YtmgpoafoljkknaaF
import Derived.Test.YtmgpoafoljkknaaEq
import Derived.BigQuiet
import Derived.Deep.QuietTactic
import Derived.Deep.RegionLaw
namespace Go.Proofs.Ytmgpoafoljkknaa.My
open Go.RowKit Go.Proofs.YtmgpoafoljkknaaW.PrintWords Go.Proofs.YtmgpoafoljkknaaW.PrintLast Go.Proofs.YtmgpoafoljkknaaW.PrintMore PSchemaReads
theorem below_dN {B : Nat} {a w : World} (h : Below B a w) (q : Nat) : Below B a (w.drewN q) := ⟨h.os, h.tape, h.output, h.size, h.block⟩
theorem blk_new2 (w : World) (o : Obj) (cs : Array Value) (t : TypeId) : ((w.alloc o).alloc (.cells cs t)).heap[w.heap.size + 1]? = some (.cells cs t (0, 0)) := by
  have := blk_new (w.alloc o) cs t
  rwa [World.size_alloc] at this
theorem getI {w : World} {A : Option Addr} {xs : List Int} (h : Kd.C (Kd.int .i64) w A xs.length xs) (i : Nat) (hi : i < xs.length) :
    ∃ ad, A = some ad ∧ w.cell? (ad.add i) = some (.int .i64 xs[i]) := by
  obtain ⟨ad, c, e, _, hK, hc⟩ := Kd.C_get h (0 : Int) (i : Int) (by omega) (by omega)
  have hrd : xs.getD (i : Int).toNat 0 = xs[i] := by simp [hi]
  rw [hrd] at hK
  have hK2 : c = [.int .i64 xs[i]] := hK
  subst hK2
  have h2 := hc 0 _ rfl
  simp only [Int.toNat_natCast, Nat.add_zero] at h2
  have hs : (Kd.int .i64).sz = 1 := rfl
  rw [hs, Nat.mul_one] at h2
  exact ⟨ad, e, h2⟩
def eqList {α : Type} (eq : α → α → Bool) : List α → List α → Bool
  | [], [] => true
  | x :: xs, y :: ys => eq x y && eqList eq xs ys
  | _, _ => false
theorem eqList_len {α : Type} {eq : α → α → Bool} : ∀ {xs ys : List α}, eqList eq xs ys = true → xs.length = ys.length
  | [], [], _ => rfl
  | x :: xs, y :: ys, h => by
    simp only [eqList, Bool.and_eq_true] at h
    simp [eqList_len h.2]
theorem eqList_false {α : Type} {eq : α → α → Bool} {xs ys : List α} (h : ¬ xs.length = ys.length) : eqList eq xs ys = false := by
  rw [Bool.eq_false_iff]; exact fun h2 => h (eqList_len h2)
theorem eqList_iff {α : Type} {eq : α → α → Bool} (he : ∀ x y, eq x y = true ↔ x = y) : ∀ xs ys : List α, eqList eq xs ys = true ↔ xs = ys
  | [], [] => by simp [eqList]
  | [], y :: ys => by simp [eqList]
  | x :: xs, [] => by simp [eqList]
  | x :: xs, y :: ys => by simp [eqList, he, eqList_iff he xs ys]
theorem eqList_drop {α : Type} {eq : α → α → Bool} {xs ys : List α} {i : Nat} (h1 : i < xs.length) (h2 : i < ys.length) :
    eqList eq (xs.drop i) (ys.drop i) = (eq xs[i] ys[i] && eqList eq (xs.drop (i + 1)) (ys.drop (i + 1))) := by
  rw [List.drop_eq_getElem_cons h1, List.drop_eq_getElem_cons h2]; rfl
theorem eqList_end {α : Type} {eq : α → α → Bool} {xs ys : List α} {i : Nat} (h1 : ¬ i < xs.length) (h2 : ¬ i < ys.length) : eqList eq (xs.drop i) (ys.drop i) = true := by
  rw [List.drop_of_length_le (by omega), List.drop_of_length_le (by omega)]; rfl
theorem w64 {i n : Nat} (h : i < n) (hn : n ≤ 9223372036854775807) : wrap64 ((i : Int) + 1) = ((i + 1 : Nat) : Int) := by unfold wrap64; omega

def eq60 (x y : S60) : Bool := x.f0 == y.f0 && x.f1 == y.f1
def eq52 (x y : S52) : Bool := x.f0.toList == y.f0.toList && (x.f1 == y.f1 && x.f2 == y.f2)
def eq40 (x y : S40) : Bool := x.f0.toList == y.f0.toList && (x.f1 == y.f1 && (x.f2 == y.f2 && (eqList eq60 x.f3 y.f3 && eqList eq52 x.f4 y.f4)))
def eqCh (a b : Sch) : Bool := a.kind == b.kind && (a.fam.toList == b.fam.toList && (a.qual.toList == b.qual.toList && (a.typ == b.typ && (a.grp == b.grp && (a.vers == b.vers && a.life == b.life)))))
def eqSch (a b : Sch) : Bool := a.ver == b.ver && (eqCh a b && (a.step == b.step && eqList eq40 a.fams b.fams))
theorem toList_inj {a b : ByteArray} : a.toList = b.toList ↔ a = b := by
  rw [Lib.toList_data, Lib.toList_data]
  exact ⟨fun h => ByteArray.ext (Array.toList_inj.1 h), fun h => by rw [h]⟩
theorem eq60_iff (x y : S60) : eq60 x y = true ↔ x = y := by
  rcases x with ⟨a, b⟩; rcases y with ⟨c, d⟩; simp [eq60]
theorem eq52_iff (x y : S52) : eq52 x y = true ↔ x = y := by
  rcases x with ⟨a, b, c⟩; rcases y with ⟨d, e, f⟩; simp [eq52, toList_inj]
theorem eq40_iff (x y : S40) : eq40 x y = true ↔ x = y := by
  rcases x with ⟨a, b, c, d, e⟩; rcases y with ⟨a', b', c', d', e'⟩; simp [eq40, toList_inj, eqList_iff eq60_iff, eqList_iff eq52_iff]
theorem eqSch_iff (a b : Sch) : eqSch a b = true ↔ a = b := by
  rcases a with ⟨a1, a2, a3, a4, a5, a6, a7, a8, a9, a10⟩; rcases b with ⟨b1, b2, b3, b4, b5, b6, b7, b8, b9, b10⟩
  simp only [eqSch, eqCh, Bool.and_eq_true, beq_iff_eq, toList_inj, eqList_iff eq40_iff, Sch.mk.injEq]
  constructor
  · rintro ⟨h1, ⟨h3, h4, h5, h6, h7, h8, h9⟩, h10, h2⟩; exact ⟨h1, h2, h3, h4, h5, h6, h7, h8, h9, h10⟩
  · rintro ⟨h1, h2, h3, h4, h5, h6, h7, h8, h9, h10⟩; exact ⟨h1, ⟨h3, h4, h5, h6, h7, h8, h9⟩, h10, h2⟩
theorem neg60 (x y : S60) : (!(x.f0 == y.f0) || !(x.f1 == y.f1)) = !eq60 x y := by simp [eq60, Bool.not_and]
theorem neg52 (x y : S52) : (!(x.f0.toList == y.f0.toList) || (!(x.f1 == y.f1) || !(x.f2 == y.f2))) = !eq52 x y := by simp [eq52, Bool.not_and]
attribute [local go_sem high] eqA26 eqA52 eqA60
set_option maxHeartbeats 1000000 in
set_option maxRecDepth 100000 in
theorem equal111 (v u : Value) (xs ys : List S60) (w : World) (hs : Sl k60 w v xs) (hu : Sl k60 w u ys) :
    Calls Try.prog 111 #[v, u] w fun e w' => e = .returned (.bool (eqList eq60 xs ys)) ∧ Below w.heap.size w w' := by
  have hmax := hs.len
  have hmax2 := hu.len
  obtain ⟨A, c, rfl, _, hC⟩ := hs
  obtain ⟨B, c', rfl, _, hD⟩ := hu
  have HC := Aside0.mk hC
  have HD := Aside0.mk hD
  clear hC hD
  by_cases hlen : xs.length = ys.length
  rotate_left
  · have q1 : (xs.length == ys.length) = false := beq_eq_false_iff_ne.2 hlen
    have q2 : ((xs.length : Int) != (ys.length : Int)) = true := by rw [bne_iff_ne]; omega
    have HR := Aside0.mk (eqList_false (eq := eq60) hlen)
    clear hlen
    go_enter Try.func111, Try.ntmps111
    go_wp2
    go_ret
    exact ⟨by rw [HR.out]; rfl, Below.refl _ _⟩
  · have q2 : ((xs.length : Int) != (ys.length : Int)) = false := by rw [bne_eq_false_iff_eq]; omega
    have HL := Aside0.mk hlen
    have hle : xs.length ≤ ys.length := by omega
    have q1 : (xs.length == ys.length) = true := beq_iff_eq.2 hlen
    clear hlen
    go_enter Try.func111, Try.ntmps111
    go_wp2
    clear q1 q2
    go_loopg [5, 13] xs.length (fun gg _ sI wr => ∃ kk : Nat, kk ≤ xs.length ∧ xs.length - kk ≤ gg ∧ sI = .int .i64 kk ∧ Aside0 (Below w.heap.size w wr) ∧ Aside0 (eqList eq60 xs ys = eqList eq60 (xs.drop kk) (ys.drop kk)))
    case atStart => exact ⟨0, Nat.zero_le _, by omega, rfl, ⟨Below.refl _ w⟩, ⟨by simp⟩⟩
    case round =>
      obtain ⟨kk, hkk, hg, rfl, BW, HA⟩ := hrel
      by_cases hlt : kk < xs.length
      · have hltz : (kk : Int) < (xs.length : Int) := by omega
        have hlt2 : kk < ys.length := by omega
        have hltz2 : (kk : Int) < (ys.length : Int) := by omega
        have HE := Aside0.mk (HA.out.trans (eqList_drop hlt hlt2))
        obtain ⟨ad, rfl, p0, p1⟩ := get60 (Kd.C_below HC.out BW.out) kk hlt
        obtain ⟨bd, rfl, k0, k1⟩ := get60 (Kd.C_below HD.out BW.out) kk hlt2
        generalize xs[kk] = x at p0 p1 HE
        generalize ys[kk] = y at k0 k1 HE
        have hn := neg60 x y
        rcases hq : eq60 x y with _ | _ <;> rw [hq] at hn <;> simp only [Bool.not_true, Bool.not_false] at hn
        all_goals
          rw [hq] at HE
          clear hq
          go_wp2
          go_quiet (fail)
          go_wp2
        · go_ret
          exact ⟨by rw [HE.out]; rfl, by with_reducible repeat (first | exact BW.out | apply below_dN | apply Below.drew)⟩
        · go_roundg (xs.length - (kk + 1))
          case measure => omega
          case rel => exact ⟨kk + 1, by omega, by omega, by go_num, ⟨by with_reducible repeat (first | exact BW.out | apply below_dN | apply Below.drew)⟩, ⟨by rw [HE.out]; simp⟩⟩
      · have hltz : ¬ (kk : Int) < (xs.length : Int) := by omega
        have : kk = xs.length := by omega
        subst this
        have HE := Aside0.mk (HA.out.trans (eqList_end (Nat.lt_irrefl _) (by have := HL.out; omega)))
        go_wp2
        go_ret
        exact ⟨by rw [HE.out]; rfl, BW.out⟩
set_option maxHeartbeats 1000000 in
set_option maxRecDepth 100000 in
theorem equal112 (v u : Value) (xs ys : List S52) (w : World) (hs : Sl k52 w v xs) (hu : Sl k52 w u ys) :
    Calls Try.prog 112 #[v, u] w fun e w' => e = .returned (.bool (eqList eq52 xs ys)) ∧ Below w.heap.size w w' := by
  have hmax := hs.len
  have hmax2 := hu.len
  obtain ⟨A, c, rfl, _, hC⟩ := hs
  obtain ⟨B, c', rfl, _, hD⟩ := hu
  have HC := Aside0.mk hC
  have HD := Aside0.mk hD
  clear hC hD
  by_cases hlen : xs.length = ys.length
  rotate_left
  · have q1 : (xs.length == ys.length) = false := beq_eq_false_iff_ne.2 hlen
    have q2 : ((xs.length : Int) != (ys.length : Int)) = true := by rw [bne_iff_ne]; omega
    have HR := Aside0.mk (eqList_false (eq := eq52) hlen)
    clear hlen
    go_enter Try.func112, Try.ntmps112
    go_wp2
    go_ret
    exact ⟨by rw [HR.out]; rfl, Below.refl _ _⟩
  · have q2 : ((xs.length : Int) != (ys.length : Int)) = false := by rw [bne_eq_false_iff_eq]; omega
    have HL := Aside0.mk hlen
    have hle : xs.length ≤ ys.length := by omega
    have q1 : (xs.length == ys.length) = true := beq_iff_eq.2 hlen
    clear hlen
    go_enter Try.func112, Try.ntmps112
    go_wp2
    clear q1 q2
    go_loopg [5, 13] xs.length (fun gg _ sI wr => ∃ kk : Nat, kk ≤ xs.length ∧ xs.length - kk ≤ gg ∧ sI = .int .i64 kk ∧ Aside0 (Below w.heap.size w wr) ∧ Aside0 (eqList eq52 xs ys = eqList eq52 (xs.drop kk) (ys.drop kk)))
    case atStart => exact ⟨0, Nat.zero_le _, by omega, rfl, ⟨Below.refl _ w⟩, ⟨by simp⟩⟩
    case round =>
      obtain ⟨kk, hkk, hg, rfl, BW, HA⟩ := hrel
      by_cases hlt : kk < xs.length
      · have hltz : (kk : Int) < (xs.length : Int) := by omega
        have hlt2 : kk < ys.length := by omega
        have hltz2 : (kk : Int) < (ys.length : Int) := by omega
        have HE := Aside0.mk (HA.out.trans (eqList_drop hlt hlt2))
        obtain ⟨ad, rfl, p0, p1, p2⟩ := get52 (Kd.C_below HC.out BW.out) kk hlt
        obtain ⟨bd, rfl, k0, k1, k2⟩ := get52 (Kd.C_below HD.out BW.out) kk hlt2
        generalize xs[kk] = x at p0 p1 p2 HE
        generalize ys[kk] = y at k0 k1 k2 HE
        have hn := neg52 x y
        rcases hq : eq52 x y with _ | _ <;> rw [hq] at hn <;> simp only [Bool.not_true, Bool.not_false] at hn
        all_goals
          rw [hq] at HE
          clear hq
          go_wp2
          go_quiet (fail)
          go_wp2
        · go_ret
          exact ⟨by rw [HE.out]; rfl, by with_reducible repeat (first | exact BW.out | apply below_dN | apply Below.drew)⟩
        · go_roundg (xs.length - (kk + 1))
          case measure => omega
          case rel => exact ⟨kk + 1, by omega, by omega, by go_num, ⟨by with_reducible repeat (first | exact BW.out | apply below_dN | apply Below.drew)⟩, ⟨by rw [HE.out]; simp⟩⟩
      · have hltz : ¬ (kk : Int) < (xs.length : Int) := by omega
        have : kk = xs.length := by omega
        subst this
        have HE := Aside0.mk (HA.out.trans (eqList_end (Nat.lt_irrefl _) (by have := HL.out; omega)))
        go_wp2
        go_ret
        exact ⟨by rw [HE.out]; rfl, BW.out⟩
set_option maxHeartbeats 1000000 in
set_option maxRecDepth 100000 in
theorem same37i (v u : Value) (xs ys : List Int) (w : World) (hs : Sl (Kd.int .i64) w v xs) (hu : Sl (Kd.int .i64) w u ys) :
    Calls Try.prog 37 #[v, u] w fun e w' => e = .returned (.bool (eqList (· == ·) xs ys)) ∧ Below w.heap.size w w' := by
  have hmax := hs.len
  have hmax2 := hu.len
  obtain ⟨A, c, rfl, _, hC⟩ := hs
  obtain ⟨B, c', rfl, _, hD⟩ := hu
  have HC := Aside0.mk hC
  have HD := Aside0.mk hD
  clear hC hD
  by_cases hlen : xs.length = ys.length
  rotate_left
  · have q1 : (xs.length == ys.length) = false := beq_eq_false_iff_ne.2 hlen
    have q2 : ((xs.length : Int) != (ys.length : Int)) = true := by rw [bne_iff_ne]; omega
    have HR := Aside0.mk (eqList_false (eq := (· == ·)) hlen)
    clear hlen
    go_enter Try.func37, Try.ntmps37
    go_wp2
    go_ret
    exact ⟨by rw [HR.out]; rfl, Below.refl _ _⟩
  · have q2 : ((xs.length : Int) != (ys.length : Int)) = false := by rw [bne_eq_false_iff_eq]; omega
    have HL := Aside0.mk hlen
    have hle : xs.length ≤ ys.length := by omega
    have q1 : (xs.length == ys.length) = true := beq_iff_eq.2 hlen
    clear hlen
    go_enter Try.func37, Try.ntmps37
    go_wp2
    clear q1 q2
    go_loopg [5] xs.length (fun gg sI wr => ∃ kk : Nat, kk ≤ xs.length ∧ xs.length - kk ≤ gg ∧ sI = .int .i64 kk ∧ Aside0 (Below w.heap.size w wr) ∧ Aside0 (eqList (· == ·) xs ys = eqList (· == ·) (xs.drop kk) (ys.drop kk)))
    case atStart => exact ⟨0, Nat.zero_le _, by omega, rfl, ⟨Below.refl _ w⟩, ⟨by simp⟩⟩
    case round =>
      obtain ⟨kk, hkk, hg, rfl, BW, HA⟩ := hrel
      by_cases hlt : kk < xs.length
      · have hltz : (kk : Int) < (xs.length : Int) := by omega
        have hlt2 : kk < ys.length := by omega
        have hltz2 : (kk : Int) < (ys.length : Int) := by omega
        have HE := Aside0.mk (HA.out.trans (eqList_drop hlt hlt2))
        obtain ⟨ad, rfl, p0⟩ := getI (Kd.C_below HC.out BW.out) kk hlt
        obtain ⟨bd, rfl, k0⟩ := getI (Kd.C_below HD.out BW.out) kk hlt2
        generalize xs[kk] = x at p0 HE
        generalize ys[kk] = y at k0 HE
        rcases hq : (x == y) with _ | _
        · have hn : (x != y) = true := by rw [bne, hq]; rfl
          have hn2 : (x == y) = false := hq
          rw [hq] at HE
          clear hq
          go_wp2
          go_quiet (fail)
          go_wp2
          go_ret
          exact ⟨by rw [HE.out]; rfl, by with_reducible repeat (first | exact BW.out | apply below_dN | apply Below.drew)⟩
        · have hn : (x != y) = false := by rw [bne, hq]; rfl
          have hn2 : (x == y) = true := hq
          rw [hq] at HE
          clear hq
          go_wp2
          go_quiet (fail)
          go_wp2
          go_roundg (xs.length - (kk + 1))
          case measure => omega
          case rel => exact ⟨kk + 1, by omega, by omega, by go_num, ⟨by with_reducible repeat (first | exact BW.out | apply below_dN | apply Below.drew)⟩, ⟨by rw [HE.out]; simp⟩⟩
      · have hltz : ¬ (kk : Int) < (xs.length : Int) := by omega
        have : kk = xs.length := by omega
        subst this
        have HE := Aside0.mk (HA.out.trans (eqList_end (Nat.lt_irrefl _) (by have := HL.out; omega)))
        go_wp2
        go_ret
        exact ⟨by rw [HE.out]; rfl, BW.out⟩
theorem same37_any (v u : Value) (xs ys : List Int) (w : World) (hv : Sl (Kd.int .i64) w v xs) (hu : Sl (Kd.int .i64) w u ys) : Calls Try.prog 37 #[v, u] w fun e w' => e = .returned (.bool (decide (xs = ys))) ∧ Below w.heap.size w w' := by
  have e : eqList (· == ·) xs ys = decide (xs = ys) := by
    rw [Bool.eq_iff_iff, eqList_iff (by simp), decide_eq_true_iff]
  rw [← e]
  exact same37i v u xs ys w hv hu
set_option maxHeartbeats 1000000 in
set_option maxRecDepth 100000 in
theorem same84_any (v u : Value) (x y : S40) (w : World) (hv : Fm w v x) (hu : Fm w u y) : Calls Try.prog 84 #[v, u] w fun e w' => e = .returned (.bool (eq40 x y)) ∧ Below w.heap.size w w' := by
  obtain ⟨v3, v4, rfl, h3, h4⟩ := hv
  obtain ⟨u3, u4, rfl, k3, k4⟩ := hu
  have H3 := Aside0.mk (fun W hb => equal111 v3 u3 x.f3 y.f3 W (h3.below hb) (k3.below hb))
  have H4 := Aside0.mk (fun W hb => equal112 v4 u4 x.f4 y.f4 W (h4.below hb) (k4.below hb))
  obtain ⟨A3, c3, rfl, _, _⟩ := h3
  obtain ⟨A4, c4, rfl, _, _⟩ := h4
  obtain ⟨B3, d3, rfl, _, _⟩ := k3
  obtain ⟨B4, d4, rfl, _, _⟩ := k4
  have HBX := Aside0.mk (fun (o o2 : Obj) => ((Below.refl w.heap.size w).alloc (Nat.le_refl _) o).alloc (by simp) o2)
  have HR := Aside0.mk (show eq40 x y = (x.f0.toList == y.f0.toList && (x.f1 == y.f1 && (x.f2 == y.f2 && (eqList eq60 x.f3 y.f3 && eqList eq52 x.f4 y.f4)))) from rfl)
  generalize eqList eq60 x.f3 y.f3 = r3 at H3 HR
  generalize eqList eq52 x.f4 y.f4 = r4 at H4 HR
  rcases q0 : (x.f0.toList == y.f0.toList) with _ | _
  · have HE := Aside0.mk (show eq40 x y = false by rw [HR.out, q0]; simp)
    go_enter Try.func84, Try.ntmps84
    go_wp2
    go_ret
    exact ⟨by first | (rw [HE.out]; done) | (rw [HE.out]; rfl), HBX.out _ _⟩
  rcases q1 : (x.f1 == y.f1) with _ | _
  · have HE := Aside0.mk (show eq40 x y = false by rw [HR.out, q0, q1]; simp)
    go_enter Try.func84, Try.ntmps84
    go_wp2
    go_ret
    exact ⟨by first | (rw [HE.out]; done) | (rw [HE.out]; rfl), HBX.out _ _⟩
  rcases q2 : (x.f2 == y.f2) with _ | _
  · have HE := Aside0.mk (show eq40 x y = false by rw [HR.out, q0, q1, q2]; simp)
    go_enter Try.func84, Try.ntmps84
    go_wp2
    go_ret
    exact ⟨by first | (rw [HE.out]; done) | (rw [HE.out]; rfl), HBX.out _ _⟩
  have HE := Aside0.mk (show eq40 x y = (r3 && r4) by rw [HR.out, q0, q1, q2]; simp)
  go_enter Try.func84, Try.ntmps84
  go_wp2_with fail
  refine (H3.out _ (HBX.out _ _)).mono ?_
  rintro e w1 ⟨rfl, hb1⟩
  have g0 := blk_cell (blk_keep hb1 (blk_old (blk_new w _ _) _))
  have g1 := blk_cell (blk_keep hb1 (blk_new2 w _ _ _))
  have HB1 := Aside0.mk (bb (HBX.out _ _) hb1)
  clear hb1
  cases r3 with
  | false =>
    go_wp2
    go_ret
    exact ⟨by rw [HE.out]; rfl, HB1.out⟩
  | true =>
    go_wp2_with fail
    refine (H4.out _ HB1.out).mono ?_
    rintro e w2 ⟨rfl, hb2⟩
    have HB2 := Aside0.mk (bb HB1.out hb2)
    clear hb2
    go_wp2
    go_ret
    exact ⟨by rw [HE.out]; simp, HB2.out⟩
set_option maxHeartbeats 1000000 in
set_option maxRecDepth 100000 in
theorem equal83 (v u : Value) (xs ys : List S40) (w : World) (hs : Sl k40 w v xs) (hu : Sl k40 w u ys) :
    Calls Try.prog 83 #[v, u, .func (.func 84) #[] #[]] w fun e w' => e = .returned (.bool (eqList eq40 xs ys)) ∧ Below w.heap.size w w' := by
  have hmax := hs.len
  have hmax2 := hu.len
  obtain ⟨A, c, rfl, _, hC⟩ := hs
  obtain ⟨B, c', rfl, _, hD⟩ := hu
  have HC := Aside0.mk hC
  have HD := Aside0.mk hD
  clear hC hD
  by_cases hlen : xs.length = ys.length
  rotate_left
  · have q1 : (xs.length == ys.length) = false := beq_eq_false_iff_ne.2 hlen
    have q2 : ((xs.length : Int) != (ys.length : Int)) = true := by rw [bne_iff_ne]; omega
    have HR := Aside0.mk (eqList_false (eq := eq40) hlen)
    clear hlen
    go_enter Try.func83, Try.ntmps83
    go_wp2
    go_ret
    exact ⟨by rw [HR.out]; rfl, Below.refl _ _⟩
  · have q2 : ((xs.length : Int) != (ys.length : Int)) = false := by rw [bne_eq_false_iff_eq]; omega
    have HL := Aside0.mk hlen
    have hle : xs.length ≤ ys.length := by omega
    have q1 : (xs.length == ys.length) = true := beq_iff_eq.2 hlen
    clear hlen
    go_enter Try.func83, Try.ntmps83
    go_wp2
    clear q1 q2
    go_loopg [7, 8, 9, 17] xs.length (fun gg _ _ _ s8 wr => ∃ kk : Nat, kk ≤ xs.length ∧ xs.length - kk ≤ gg ∧ s8 = .int .i64 kk ∧ Aside0 (Below w.heap.size w wr) ∧ Aside0 (eqList eq40 xs ys = eqList eq40 (xs.drop kk) (ys.drop kk)))
    case atStart => exact ⟨0, Nat.zero_le _, by omega, rfl, ⟨Below.refl _ w⟩, ⟨by simp⟩⟩
    case round =>
      obtain ⟨kk, hkk, hg, rfl, BW, HA⟩ := hrel
      by_cases hlt : kk < xs.length
      · have hltz : (kk : Int) < (xs.length : Int) := by omega
        have hlt2 : kk < ys.length := by omega
        have hltz2 : (kk : Int) < (ys.length : Int) := by omega
        have HE := Aside0.mk (HA.out.trans (eqList_drop hlt hlt2))
        obtain ⟨ad, A3, c3, A4, c4, rfl, h0, h1, h2, h3, h4, hfm⟩ := get40 (Kd.C_below HC.out BW.out) kk hlt
        obtain ⟨bd, B3, d3, B4, d4, rfl, k0, k1, k2, k3, k4, kfm⟩ := get40 (Kd.C_below HD.out BW.out) kk hlt2
        generalize xs[kk] = x at h0 h1 h2 h3 h4 hfm HE
        generalize ys[kk] = y at k0 k1 k2 k3 k4 kfm HE
        have k0' := fun o => pw_cell_below (below_alloc (Below.refl _ _) o) k0
        have k1' := fun o => pw_cell_below (below_alloc (Below.refl _ _) o) k1
        have k2' := fun o => pw_cell_below (below_alloc (Below.refl _ _) o) k2
        have k3' := fun o => pw_cell_below (below_alloc (Below.refl _ _) o) k3
        have k4' := fun o => pw_cell_below (below_alloc (Below.refl _ _) o) k4
        clear k0 k1 k2 k3 k4
        have hcall := fun W hb => same84_any _ _ x y W (hfm.below hb) (kfm.below hb)
        clear hfm kfm
        rcases hq : eq40 x y with _ | _
        all_goals
          rw [hq] at HE
          simp only [hq] at hcall
          have HCALL := Aside0.mk hcall
          clear hcall hq
          have HBX := Aside0.mk (fun (o o2 : Obj) => ((Below.refl wr.heap.size wr).alloc (Nat.le_refl _) o).alloc (by simp) o2)
          go_wp2_with (go_at_call 84; refine (HCALL.out _ (HBX.out _ _)).mono ?_; rintro e w' ⟨rfl, hb'⟩)
        · go_ret
          exact ⟨by rw [HE.out]; rfl, bb (bb BW.out (HBX.out _ _)) hb'⟩
        · go_roundg (xs.length - (kk + 1))
          case measure => omega
          case rel => exact ⟨kk + 1, by omega, by omega, by go_num, ⟨bb (bb BW.out (HBX.out _ _)) hb'⟩, ⟨by rw [HE.out]; simp⟩⟩
      · have hltz : ¬ (kk : Int) < (xs.length : Int) := by omega
        have : kk = xs.length := by omega
        subst this
        have HE := Aside0.mk (HA.out.trans (eqList_end (Nat.lt_irrefl _) (by have := HL.out; omega)))
        go_wp2
        go_ret
        exact ⟨by rw [HE.out]; rfl, BW.out⟩

set_option maxHeartbeats 1000000 in
set_option maxRecDepth 100000 in
theorem same28_any (v u : Value) (x y : S40) (w : World) (hv : Fm w v x) (hu : Fm w u y) : Calls Try.prog 28 #[v, u] w fun e w' => e = .returned (.bool (eq40 x y)) ∧ Below w.heap.size w w' := by
  obtain ⟨v3, v4, rfl, h3, h4⟩ := hv
  obtain ⟨u3, u4, rfl, k3, k4⟩ := hu
  have m3 := h3.len
  have m4 := h4.len
  have n3 := k3.len
  have n4 := k4.len
  obtain ⟨A3, c3, rfl, _, h3⟩ := h3
  obtain ⟨A4, c4, rfl, _, h4⟩ := h4
  obtain ⟨B3, d3, rfl, _, k3⟩ := k3
  obtain ⟨B4, d4, rfl, _, k4⟩ := k4
  have H3 := Aside0.mk h3
  have H4 := Aside0.mk h4
  have K3 := Aside0.mk k3
  have K4 := Aside0.mk k4
  clear h3 h4 k3 k4
  have HBX := Aside0.mk (fun (o o2 : Obj) => ((Below.refl w.heap.size w).alloc (Nat.le_refl _) o).alloc (by simp) o2)
  have HR := Aside0.mk (show eq40 x y = (x.f0.toList == y.f0.toList && (x.f1 == y.f1 && (x.f2 == y.f2 && (eqList eq60 x.f3 y.f3 && eqList eq52 x.f4 y.f4)))) from rfl)
  rcases q0 : (x.f0.toList == y.f0.toList) with _ | _
  · have HE := Aside0.mk (show eq40 x y = false by rw [HR.out, q0]; simp)
    have b0 : (x.f0.toList != y.f0.toList) = true := by rw [bne, q0]; rfl
    go_enter Try.func28, Try.ntmps28
    go_wp2
    go_ret
    exact ⟨by first | (rw [HE.out]; done) | (rw [HE.out]; rfl), HBX.out _ _⟩
  have b0 : (x.f0.toList != y.f0.toList) = false := by rw [bne, q0]; rfl
  rcases q1 : (x.f1 == y.f1) with _ | _
  · have HE := Aside0.mk (show eq40 x y = false by rw [HR.out, q0, q1]; simp)
    have b1 : (x.f1 != y.f1) = true := by rw [bne, q1]; rfl
    go_enter Try.func28, Try.ntmps28
    go_wp2
    go_ret
    exact ⟨by first | (rw [HE.out]; done) | (rw [HE.out]; rfl), HBX.out _ _⟩
  have b1 : (x.f1 != y.f1) = false := by rw [bne, q1]; rfl
  rcases q2 : (x.f2 == y.f2) with _ | _
  · have HE := Aside0.mk (show eq40 x y = false by rw [HR.out, q0, q1, q2]; simp)
    have b2 : (x.f2 != y.f2) = true := by rw [bne, q2]; rfl
    go_enter Try.func28, Try.ntmps28
    go_wp2
    go_ret
    exact ⟨by first | (rw [HE.out]; done) | (rw [HE.out]; rfl), HBX.out _ _⟩
  have b2 : (x.f2 != y.f2) = false := by rw [bne, q2]; rfl
  by_cases l3 : x.f3.length = y.f3.length
  rotate_left
  · have HE := Aside0.mk (show eq40 x y = false by rw [HR.out, eqList_false (eq := eq60) l3]; simp)
    have b3 : ((x.f3.length : Int) != (y.f3.length : Int)) = true := by rw [bne_iff_ne]; omega
    have q3 : ((x.f3.length : Int) == (y.f3.length : Int)) = false := by rw [beq_eq_false_iff_ne]; omega
    have r3 : (x.f3.length == y.f3.length) = false := by rw [beq_eq_false_iff_ne]; omega
    clear l3
    go_enter Try.func28, Try.ntmps28
    go_wp2
    go_ret
    exact ⟨by first | (rw [HE.out]; done) | (rw [HE.out]; rfl), HBX.out _ _⟩
  have b3 : ((x.f3.length : Int) != (y.f3.length : Int)) = false := by rw [bne_eq_false_iff_eq]; omega
  have q3 : ((x.f3.length : Int) == (y.f3.length : Int)) = true := by rw [beq_iff_eq]; omega
  have r3 : (x.f3.length == y.f3.length) = true := by rw [beq_iff_eq]; omega
  have L3 := Aside0.mk l3
  clear l3
  by_cases l4 : x.f4.length = y.f4.length
  rotate_left
  · have HE := Aside0.mk (show eq40 x y = false by rw [HR.out, eqList_false (eq := eq52) l4]; simp)
    have b4 : ((x.f4.length : Int) != (y.f4.length : Int)) = true := by rw [bne_iff_ne]; omega
    have q4 : ((x.f4.length : Int) == (y.f4.length : Int)) = false := by rw [beq_eq_false_iff_ne]; omega
    have r4 : (x.f4.length == y.f4.length) = false := by rw [beq_eq_false_iff_ne]; omega
    clear l4
    go_enter Try.func28, Try.ntmps28
    go_wp2
    go_ret
    exact ⟨by first | (rw [HE.out]; done) | (rw [HE.out]; rfl), HBX.out _ _⟩
  have b4 : ((x.f4.length : Int) != (y.f4.length : Int)) = false := by rw [bne_eq_false_iff_eq]; omega
  have q4 : ((x.f4.length : Int) == (y.f4.length : Int)) = true := by rw [beq_iff_eq]; omega
  have r4 : (x.f4.length == y.f4.length) = true := by rw [beq_iff_eq]; omega
  have L4 := Aside0.mk l4
  clear l4
  have HE0 := Aside0.mk (show eq40 x y = (eqList eq60 (x.f3.drop 0) (y.f3.drop 0) && eqList eq52 x.f4 y.f4) by rw [HR.out, q0, q1, q2]; simp)
  have G0 := Aside0.mk (blk_old (blk_new w #[.string x.f0, .int .i64 x.f1, .int .i64 x.f2, .slice A3 x.f3.length c3, .slice A4 x.f4.length c4] 40) (.cells #[.string y.f0, .int .i64 y.f1, .int .i64 y.f2, .slice B3 y.f3.length d3, .slice B4 y.f4.length d4] 40))
  have G1 := Aside0.mk (blk_new2 w (.cells #[.string x.f0, .int .i64 x.f1, .int .i64 x.f2, .slice A3 x.f3.length c3, .slice A4 x.f4.length c4] 40) #[.string y.f0, .int .i64 y.f1, .int .i64 y.f2, .slice B3 y.f3.length d3, .slice B4 y.f4.length d4] 40)
  have HBB := Aside0.mk (HBX.out (.cells #[.string x.f0, .int .i64 x.f1, .int .i64 x.f2, .slice A3 x.f3.length c3, .slice A4 x.f4.length c4] 40) (.cells #[.string y.f0, .int .i64 y.f1, .int .i64 y.f2, .slice B3 y.f3.length d3, .slice B4 y.f4.length d4] 40))
  go_enter Try.func28, Try.ntmps28
  go_wp2
  clear b0 b1 b2 b3 b4 q0 q1 q2 q3 q4 r3 r4
  go_loopg [5] x.f3.length (fun gg sI wr => ∃ kk : Nat, kk ≤ x.f3.length ∧ x.f3.length - kk ≤ gg ∧ sI = .int .i64 kk ∧ Aside0 (Below w.heap.size w wr) ∧ Aside0 (wr.heap[w.heap.size]? = some (.cells #[.string x.f0, .int .i64 x.f1, .int .i64 x.f2, .slice A3 x.f3.length c3, .slice A4 x.f4.length c4] 40 (0, 0))) ∧ Aside0 (wr.heap[w.heap.size + 1]? = some (.cells #[.string y.f0, .int .i64 y.f1, .int .i64 y.f2, .slice B3 y.f3.length d3, .slice B4 y.f4.length d4] 40 (0, 0))) ∧ Aside0 (eq40 x y = (eqList eq60 (x.f3.drop kk) (y.f3.drop kk) && eqList eq52 x.f4 y.f4)))
  case atStart => exact ⟨0, Nat.zero_le _, by omega, rfl, HBB, G0, G1, HE0⟩
  case round =>
    clear HBB G0 G1 HE0
    obtain ⟨kk, hkk, hg, rfl, BW, G0, G1, HA⟩ := hrel
    have g0 := blk_cell G0.out
    have g1 := blk_cell G1.out
    by_cases hlt : kk < x.f3.length
    · have hltz : (kk : Int) < (x.f3.length : Int) := by omega
      have hlt2 : kk < y.f3.length := by have := L3.out; omega
      have hltz2 : (kk : Int) < (y.f3.length : Int) := by omega
      have HE := Aside0.mk (HA.out.trans (congrArg (· && eqList eq52 x.f4 y.f4) (eqList_drop hlt hlt2)))
      obtain ⟨ad, rfl, p0, p1⟩ := get60 (Kd.C_below H3.out BW.out) kk hlt
      obtain ⟨bd, rfl, k0, k1⟩ := get60 (Kd.C_below K3.out BW.out) kk hlt2
      generalize x.f3[kk] = x1 at p0 p1 HE
      generalize y.f3[kk] = y1 at k0 k1 HE
      have hn := neg60 x1 y1
      rcases hq : eq60 x1 y1 with _ | _ <;> rw [hq] at hn <;> simp only [Bool.not_true, Bool.not_false] at hn
      all_goals
        rw [hq] at HE
        clear hq
        go_wp2
        go_quiet (fail)
        go_wp2
      · go_ret
        exact ⟨by rw [HE.out]; rfl, by with_reducible repeat (first | exact BW.out | apply below_dN | apply Below.drew)⟩
      · go_roundg (x.f3.length - (kk + 1))
        case measure => omega
        case rel => exact ⟨kk + 1, by omega, by omega, by go_num, ⟨by with_reducible repeat (first | exact BW.out | apply below_dN | apply Below.drew)⟩, ⟨G0.out⟩, ⟨G1.out⟩, ⟨by rw [HE.out]; simp⟩⟩
    · have hltz : ¬ (kk : Int) < (x.f3.length : Int) := by omega
      have : kk = x.f3.length := by omega
      subst this
      have HE := Aside0.mk (show eq40 x y = eqList eq52 (x.f4.drop 0) (y.f4.drop 0) by rw [HA.out, eqList_end (Nat.lt_irrefl _) (by have := L3.out; omega)]; simp)
      go_wp2
      clear g0 g1
      go_loopg [6] x.f4.length (fun gg sI wr => ∃ kk : Nat, kk ≤ x.f4.length ∧ x.f4.length - kk ≤ gg ∧ sI = .int .i64 kk ∧ Aside0 (Below w.heap.size w wr) ∧ Aside0 (wr.heap[w.heap.size]? = some (.cells #[.string x.f0, .int .i64 x.f1, .int .i64 x.f2, .slice A3 x.f3.length c3, .slice A4 x.f4.length c4] 40 (0, 0))) ∧ Aside0 (wr.heap[w.heap.size + 1]? = some (.cells #[.string y.f0, .int .i64 y.f1, .int .i64 y.f2, .slice B3 y.f3.length d3, .slice B4 y.f4.length d4] 40 (0, 0))) ∧ Aside0 (eq40 x y = eqList eq52 (x.f4.drop kk) (y.f4.drop kk)))
      case atStart => exact ⟨0, Nat.zero_le _, by omega, rfl, BW, G0, G1, HE⟩
      case round =>
        clear HE BW G0 G1
        obtain ⟨kk, hkk, hg, rfl, BW, G0, G1, HA⟩ := hrel
        have g0 := blk_cell G0.out
        have g1 := blk_cell G1.out
        by_cases hlt : kk < x.f4.length
        · have hltz : (kk : Int) < (x.f4.length : Int) := by omega
          have hlt2 : kk < y.f4.length := by have := L4.out; omega
          have hltz2 : (kk : Int) < (y.f4.length : Int) := by omega
          have HE := Aside0.mk (HA.out.trans (eqList_drop hlt hlt2))
          obtain ⟨ad, rfl, p0, p1, p2⟩ := get52 (Kd.C_below H4.out BW.out) kk hlt
          obtain ⟨bd, rfl, k0, k1, k2⟩ := get52 (Kd.C_below K4.out BW.out) kk hlt2
          generalize x.f4[kk] = x1 at p0 p1 p2 HE
          generalize y.f4[kk] = y1 at k0 k1 k2 HE
          have hn := neg52 x1 y1
          rcases hq : eq52 x1 y1 with _ | _ <;> rw [hq] at hn <;> simp only [Bool.not_true, Bool.not_false] at hn
          all_goals
            rw [hq] at HE
            clear hq
            go_wp2
            go_quiet (fail)
            go_wp2
          · go_ret
            exact ⟨by rw [HE.out]; rfl, by with_reducible repeat (first | exact BW.out | apply below_dN | apply Below.drew)⟩
          · go_roundg (x.f4.length - (kk + 1))
            case measure => omega
            case rel => exact ⟨kk + 1, by omega, by omega, by go_num, ⟨by with_reducible repeat (first | exact BW.out | apply below_dN | apply Below.drew)⟩, ⟨G0.out⟩, ⟨G1.out⟩, ⟨by rw [HE.out]; simp⟩⟩
        · have hltz : ¬ (kk : Int) < (x.f4.length : Int) := by omega
          have : kk = x.f4.length := by omega
          subst this
          have HE := Aside0.mk (HA.out.trans (eqList_end (Nat.lt_irrefl _) (by have := L4.out; omega)))
          go_wp2
          go_ret
          exact ⟨by first | (rw [HE.out]; done) | (rw [HE.out]; rfl), BW.out⟩
theorem negCh (a b : Sch) : (!(a.kind == b.kind) || (!(a.fam.toList == b.fam.toList) || (!(a.qual.toList == b.qual.toList) || (!(a.typ == b.typ) || (!(a.grp == b.grp) || (!(a.vers == b.vers) || (!(a.life == b.life)))))))) = !eqCh a b := by
  simp [eqCh, Bool.not_and]
set_option maxHeartbeats 1000000 in
set_option maxRecDepth 100000 in
theorem same17_any (v u : Value) (a b : Sch) (w : World) (hv : Sc w v a) (hu : Sc w u b) : Calls Try.prog 17 #[v, u] w fun e w' => e = .returned (.bool (eqSch a b)) ∧ Below w.heap.size w w' := by
  obtain ⟨_, rfl, h⟩ := hv
  obtain ⟨_, rfl, k⟩ := hu
  have m1 := h.len
  have m2 := k.len
  obtain ⟨A, c, rfl, _, h⟩ := h
  obtain ⟨B, d, rfl, _, k⟩ := k
  have HC := Aside0.mk h
  have HD := Aside0.mk k
  clear h k
  have HBX := Aside0.mk (fun (o o2 : Obj) => ((Below.refl w.heap.size w).alloc (Nat.le_refl _) o).alloc (by simp) o2)
  have HR := Aside0.mk (show eqSch a b = (a.ver == b.ver && (eqCh a b && (a.step == b.step && eqList eq40 a.fams b.fams))) from rfl)
  have HN := Aside0.mk (negCh a b)
  rcases q0 : (a.ver == b.ver) with _ | _
  · have HE := Aside0.mk (show eqSch a b = false by rw [HR.out, q0]; simp)
    have b0 : (a.ver != b.ver) = true := by rw [bne, q0]; rfl
    go_enter Try.func17, Try.ntmps17
    go_wp2
    go_ret
    exact ⟨by first | (rw [HE.out]; done) | (rw [HE.out]; rfl), HBX.out _ _⟩
  have b0 : (a.ver != b.ver) = false := by rw [bne, q0]; rfl
  rcases q1 : eqCh a b with _ | _
  · have HE := Aside0.mk (show eqSch a b = false by rw [HR.out, q0, q1]; simp)
    have b1 : (!(a.kind == b.kind) || (!(a.fam.toList == b.fam.toList) || (!(a.qual.toList == b.qual.toList) || (!(a.typ == b.typ) || (!(a.grp == b.grp) || (!(a.vers == b.vers) || (!(a.life == b.life)))))))) = true := by rw [HN.out, q1]; rfl
    clear q1
    go_enter Try.func17, Try.ntmps17
    go_wp2
    go_ret
    exact ⟨by first | (rw [HE.out]; done) | (rw [HE.out]; rfl), HBX.out _ _⟩
  have b1 : (!(a.kind == b.kind) || (!(a.fam.toList == b.fam.toList) || (!(a.qual.toList == b.qual.toList) || (!(a.typ == b.typ) || (!(a.grp == b.grp) || (!(a.vers == b.vers) || (!(a.life == b.life)))))))) = false := by rw [HN.out, q1]; rfl
  rcases q2 : (a.step == b.step) with _ | _
  · have HE := Aside0.mk (show eqSch a b = false by rw [HR.out, q0, q1, q2]; simp)
    have b2 : (a.step != b.step) = true := by rw [bne, q2]; rfl
    clear q1
    go_enter Try.func17, Try.ntmps17
    go_wp2
    go_ret
    exact ⟨by first | (rw [HE.out]; done) | (rw [HE.out]; rfl), HBX.out _ _⟩
  have b2 : (a.step != b.step) = false := by rw [bne, q2]; rfl
  by_cases l3 : a.fams.length = b.fams.length
  rotate_left
  · have HE := Aside0.mk (show eqSch a b = false by rw [HR.out, eqList_false (eq := eq40) l3]; simp)
    have b3 : ((a.fams.length : Int) != (b.fams.length : Int)) = true := by rw [bne_iff_ne]; omega
    have q3 : ((a.fams.length : Int) == (b.fams.length : Int)) = false := by rw [beq_eq_false_iff_ne]; omega
    have r3 : (a.fams.length == b.fams.length) = false := by rw [beq_eq_false_iff_ne]; omega
    clear l3 q1
    go_enter Try.func17, Try.ntmps17
    go_wp2
    go_ret
    exact ⟨by first | (rw [HE.out]; done) | (rw [HE.out]; rfl), HBX.out _ _⟩
  have b3 : ((a.fams.length : Int) != (b.fams.length : Int)) = false := by rw [bne_eq_false_iff_eq]; omega
  have q3 : ((a.fams.length : Int) == (b.fams.length : Int)) = true := by rw [beq_iff_eq]; omega
  have r3 : (a.fams.length == b.fams.length) = true := by rw [beq_iff_eq]; omega
  have HL := Aside0.mk l3
  have HE0 := Aside0.mk (show eqSch a b = eqList eq40 (a.fams.drop 0) (b.fams.drop 0) by rw [HR.out, q0, q1, q2]; simp)
  clear l3 q1
  have G0 := Aside0.mk (blk_old (blk_new w #[.int .i64 a.ver, .slice A a.fams.length c, .int .i64 a.kind, .string a.fam, .string a.qual, .int .i64 a.typ, .int .i64 a.grp, .int .i64 a.vers, .int .i64 a.life, .int .i64 a.step] 28) (.cells #[.int .i64 b.ver, .slice B b.fams.length d, .int .i64 b.kind, .string b.fam, .string b.qual, .int .i64 b.typ, .int .i64 b.grp, .int .i64 b.vers, .int .i64 b.life, .int .i64 b.step] 28))
  have G1 := Aside0.mk (blk_new2 w (.cells #[.int .i64 a.ver, .slice A a.fams.length c, .int .i64 a.kind, .string a.fam, .string a.qual, .int .i64 a.typ, .int .i64 a.grp, .int .i64 a.vers, .int .i64 a.life, .int .i64 a.step] 28) #[.int .i64 b.ver, .slice B b.fams.length d, .int .i64 b.kind, .string b.fam, .string b.qual, .int .i64 b.typ, .int .i64 b.grp, .int .i64 b.vers, .int .i64 b.life, .int .i64 b.step] 28)
  have HBB := Aside0.mk (HBX.out (.cells #[.int .i64 a.ver, .slice A a.fams.length c, .int .i64 a.kind, .string a.fam, .string a.qual, .int .i64 a.typ, .int .i64 a.grp, .int .i64 a.vers, .int .i64 a.life, .int .i64 a.step] 28) (.cells #[.int .i64 b.ver, .slice B b.fams.length d, .int .i64 b.kind, .string b.fam, .string b.qual, .int .i64 b.typ, .int .i64 b.grp, .int .i64 b.vers, .int .i64 b.life, .int .i64 b.step] 28))
  go_enter Try.func17, Try.ntmps17
  go_wp2
  clear b0 b1 b2 b3 q0 q2 q3 r3
  go_loopg [5] a.fams.length (fun gg sI wr => ∃ kk : Nat, kk ≤ a.fams.length ∧ a.fams.length - kk ≤ gg ∧ sI = .int .i64 kk ∧ Aside0 (Below w.heap.size w wr) ∧ Aside0 (wr.heap[w.heap.size]? = some (.cells #[.int .i64 a.ver, .slice A a.fams.length c, .int .i64 a.kind, .string a.fam, .string a.qual, .int .i64 a.typ, .int .i64 a.grp, .int .i64 a.vers, .int .i64 a.life, .int .i64 a.step] 28 (0, 0))) ∧ Aside0 (wr.heap[w.heap.size + 1]? = some (.cells #[.int .i64 b.ver, .slice B b.fams.length d, .int .i64 b.kind, .string b.fam, .string b.qual, .int .i64 b.typ, .int .i64 b.grp, .int .i64 b.vers, .int .i64 b.life, .int .i64 b.step] 28 (0, 0))) ∧ Aside0 (eqSch a b = eqList eq40 (a.fams.drop kk) (b.fams.drop kk)))
  case atStart => exact ⟨0, Nat.zero_le _, by omega, rfl, HBB, G0, G1, HE0⟩
  case round =>
    clear HBB G0 G1 HE0
    obtain ⟨kk, hkk, hg, rfl, BW, G0, G1, HA⟩ := hrel
    have g0 := blk_cell G0.out
    have g1 := blk_cell G1.out
    by_cases hlt : kk < a.fams.length
    · have hltz : (kk : Int) < (a.fams.length : Int) := by omega
      have hlt2 : kk < b.fams.length := by have := HL.out; omega
      have hltz2 : (kk : Int) < (b.fams.length : Int) := by omega
      have HE := Aside0.mk (HA.out.trans (eqList_drop hlt hlt2))
      have G0D := Aside0.mk (show wr.drew.heap[w.heap.size]? = some (.cells #[.int .i64 a.ver, .slice A a.fams.length c, .int .i64 a.kind, .string a.fam, .string a.qual, .int .i64 a.typ, .int .i64 a.grp, .int .i64 a.vers, .int .i64 a.life, .int .i64 a.step] 28 (0, 0)) from G0.out)
      have G1D := Aside0.mk (show wr.drew.heap[w.heap.size + 1]? = some (.cells #[.int .i64 b.ver, .slice B b.fams.length d, .int .i64 b.kind, .string b.fam, .string b.qual, .int .i64 b.typ, .int .i64 b.grp, .int .i64 b.vers, .int .i64 b.life, .int .i64 b.step] 28 (0, 0)) from G1.out)
      obtain ⟨ad, A3, c3, A4, c4, rfl, h0, h1, h2, h3, h4, hfm⟩ := get40 (Kd.C_below HC.out BW.out.drew) kk hlt
      obtain ⟨bd, B3, d3, B4, d4, rfl, k0, k1, k2, k3, k4, kfm⟩ := get40 (Kd.C_below HD.out BW.out.drew) kk hlt2
      generalize a.fams[kk] = x at h0 h1 h2 h3 h4 hfm HE
      generalize b.fams[kk] = y at k0 k1 k2 k3 k4 kfm HE
      have g0d := blk_cell G0D.out
      have g1d := blk_cell G1D.out
      have hcall := same28_any _ _ x y wr.drew hfm kfm
      rcases hq : eq40 x y with _ | _
      · rw [hq] at HE hcall
        have HCALL := Aside0.mk hcall
        clear hcall hq hfm kfm
        go_wp2
        go_region_law ((go_simp; go_at_call 28; refine HCALL.out.mono ?_; rintro e w' ⟨rfl, hb'⟩; have HB' := Aside0.mk (bb BW.out.drew hb'); have G0' := Aside0.mk (blk_keep hb' G0D.out); have G1' := Aside0.mk (blk_keep hb' G1D.out); clear hb'))
        all_goals
          clear g0 g1 g0d g1d h0 h1 h2 h3 h4 k0 k1 k2 k3 k4
          go_wp2
          go_ret
          exact ⟨by rw [HE.out]; rfl, HB'.out⟩
      · rw [hq] at HE hcall
        have HCALL := Aside0.mk hcall
        clear hcall hq hfm kfm
        go_wp2
        go_region_law ((go_simp; go_at_call 28; refine HCALL.out.mono ?_; rintro e w' ⟨rfl, hb'⟩; have HB' := Aside0.mk (bb BW.out.drew hb'); have G0' := Aside0.mk (blk_keep hb' G0D.out); have G1' := Aside0.mk (blk_keep hb' G1D.out); clear hb'))
        all_goals
          clear g0 g1 g0d g1d h0 h1 h2 h3 h4 k0 k1 k2 k3 k4
          go_wp2
          go_roundg (a.fams.length - (kk + 1))
          case measure => omega
          case rel => exact ⟨kk + 1, by omega, by omega, by go_num, HB', G0', G1', ⟨by rw [HE.out]; simp⟩⟩
    · have hltz : ¬ (kk : Int) < (a.fams.length : Int) := by omega
      have : kk = a.fams.length := by omega
      subst this
      have HE := Aside0.mk (HA.out.trans (eqList_end (Nat.lt_irrefl _) (by have := HL.out; omega)))
      go_wp2
      go_ret
      exact ⟨by first | (rw [HE.out]; done) | (rw [HE.out]; rfl), BW.out⟩
set_option maxHeartbeats 1000000 in
set_option maxRecDepth 100000 in
theorem same33_any (v u : Value) (a b : Sch) (w : World) (hv : Sc w v a) (hu : Sc w u b) : Calls Try.prog 33 #[v, u] w fun e w' => e = .returned (.bool (eqSch a b)) ∧ Below w.heap.size w w' := by
  obtain ⟨va, rfl, h3⟩ := hv
  obtain ⟨vb, rfl, k3⟩ := hu
  have hcall := fun W hb => equal83 va vb a.fams b.fams W (h3.below hb) (k3.below hb)
  obtain ⟨A3, c3, rfl, hc3, g3⟩ := h3
  obtain ⟨B3, d3, rfl, hd3, k3⟩ := k3
  have HBX := Aside0.mk (fun (o o2 : Obj) => ((Below.refl w.heap.size w).alloc (Nat.le_refl _) o).alloc (by simp) o2)
  have HR := Aside0.mk (show eqSch a b = (a.ver == b.ver && (eqCh a b && (a.step == b.step && eqList eq40 a.fams b.fams))) from rfl)
  have HCH := Aside0.mk (show eqCh a b = (a.kind == b.kind && (a.fam.toList == b.fam.toList && (a.qual.toList == b.qual.toList && (a.typ == b.typ && (a.grp == b.grp && (a.vers == b.vers && a.life == b.life)))))) from rfl)
  obtain ⟨ver, fams, kind, fam, qual, typ, grp, vers, life, step⟩ := a
  obtain ⟨ver', fams', kind', fam', qual', typ', grp', vers', life', step'⟩ := b
  simp only at *
  clear g3 k3 hc3 hd3
  rcases q1 : (ver == ver') with _ | _
  · go_enter Try.func33, Try.ntmps33
    go_wp2
    go_ret
    exact ⟨by rw [HR.out, q1]; rfl, HBX.out _ _⟩
  rcases q2 : (kind == kind' && (fam.toList == fam'.toList && (qual.toList == qual'.toList && (typ == typ' && (grp == grp' && (vers == vers' && life == life')))))) with _ | _
  · have HQ := Aside0.mk q2
    go_enter Try.func33, Try.ntmps33
    go_wp2
    go_ret
    exact ⟨by rw [HR.out, q1, HCH.out, HQ.out]; rfl, HBX.out _ _⟩
  have HQ := Aside0.mk q2
  clear q2
  have q2 := HQ.out
  simp only [Bool.and_eq_true, beq_iff_eq, toList_inj] at q2
  obtain ⟨rfl, rfl, rfl, rfl, rfl, rfl, rfl⟩ := q2
  rcases q3 : (step == step') with _ | _
  · go_enter Try.func33, Try.ntmps33
    go_wp2
    go_ret
    exact ⟨by rw [HR.out, q1, HCH.out, HQ.out, q3]; rfl, HBX.out _ _⟩
  · have HCALL := Aside0.mk hcall
    clear hcall
    go_enter Try.func33, Try.ntmps33
    go_wp2_with (go_at_call 83; refine (HCALL.out _ (HBX.out _ _)).mono ?_; rintro e w1 ⟨rfl, hb⟩)
    go_ret
    exact ⟨by rw [HR.out, q1, HCH.out, HQ.out, q3]; simp, bb (HBX.out _ _) hb⟩
end Go.Proofs.Ytmgpoafoljkknaa.My
