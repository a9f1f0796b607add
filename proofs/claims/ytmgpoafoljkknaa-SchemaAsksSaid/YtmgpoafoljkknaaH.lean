/- Contracts of codec's numbers and lists of parts: Num, Take, List, Parts. Conditions: bytes are at most a million, lists at most a million parts. -/
import Derived.Test.YtmgpoafoljkknaaH0
import Derived.Test.YtmgpoafoljkknaaG
import Derived.Lib.VarintBits
namespace Go.Proofs.Ytmgpoafoljkknaa.My
open Go.RowKit Go.Proofs.YtmgpoafoljkknaaW.PrintWords Go.Proofs.YtmgpoafoljkknaaW.PrintLast Go.Proofs.YtmgpoafoljkknaaW.PrintMore PSchemaReads
attribute [local go_sem] max2_int min2_int max_two min_two max_three min_three max_four min_four

theorem getB {w : World} {A : Option Addr} {xs : List UInt8} (h : Kd.C kB w A xs.length xs) (i : Nat) (hi : i < xs.length) :
    ∃ ad, A = some ad ∧ w.cell? (ad.add i) = some (.int .u8 xs[i].toNat) := by
  obtain ⟨ad, c, e, _, hK, hc⟩ := Kd.C_get h (0 : UInt8) (i : Int) (by omega) (by omega)
  have hrd : xs.getD (i : Int).toNat 0 = xs[i] := by simp [hi]
  rw [hrd] at hK
  have hK2 : c = [.int .u8 (xs[i].toNat : Int)] := hK
  subst hK2
  have h2 := hc 0 _ rfl
  simp only [Int.toNat_natCast, Nat.add_zero] at h2
  have hs : kB.sz = 1 := rfl
  rw [hs, Nat.mul_one] at h2
  exact ⟨ad, e, h2⟩
theorem wraps_i64 (n : Int) (h₀ : 0 ≤ n) (h₁ : n < 2 ^ 63) : IntKind.i64.wrap n = n := by rw [IntKind.wrap_i64]; omega
set_option maxRecDepth 100000 in
theorem and128N : ∀ x : Nat, x < 256 → ((x &&& 128 : Nat) != 0) = decide (128 ≤ x) := by decide
theorem and128 {x : Nat} (h : x < 256) : (bits .and .u8 (x : Int) 128 != 0) = decide (128 ≤ x) := by
  have := (bits_nat .u8 8 (by decide) wraps_u8 x 128 h (by decide)).1
  rw [show ((128 : Nat) : Int) = 128 from rfl] at this
  rw [this, ← and128N x h, Bool.eq_iff_iff, bne_iff_ne, bne_iff_ne]
  omega
theorem acc_step {acc x kk : Nat} (hk : kk ≤ 8) (ha : acc < 128 ^ kk) (hx : x < 256) :
    bits .or .i64 (acc : Int) (wrap64 (wrap64 (bits .and .u8 (x : Int) 127) * 2 ^ (7 * kk))) = ((acc + x % 128 * 128 ^ kk : Nat) : Int) ∧ acc + x % 128 * 128 ^ kk < 128 ^ (kk + 1) := by
  have h1 : bits .and .u8 (x : Int) 127 = ((x % 128 : Nat) : Int) := (u8_and127 (x := (x : Int)) (by omega) (by omega)).trans (by omega)
  have h128 : 2 ^ (7 * kk) = 128 ^ kk := by rw [Nat.pow_mul]
  have hpos : 0 < 128 ^ kk := Nat.pow_pos (by omega)
  have hle : 128 ^ (kk + 1) ≤ 9223372036854775808 := by
    have : 128 ^ (kk + 1) ≤ 128 ^ 9 := Nat.pow_le_pow_right (by omega) (by omega)
    simpa using this
  have hlt : acc + x % 128 * 128 ^ kk < 128 ^ (kk + 1) := by
    rw [Nat.pow_succ]
    have : x % 128 ≤ 127 := by omega
    have := Nat.mul_le_mul_right (128 ^ kk) this
    omega
  have hs : x % 128 * 128 ^ kk < 9223372036854775808 := by omega
  have e2 : wrap64 ((x % 128 : Nat) : Int) = ((x % 128 : Nat) : Int) := by unfold wrap64; omega
  have e3 : ((x % 128 : Nat) : Int) * 2 ^ (7 * kk) = ((x % 128 * 128 ^ kk : Nat) : Int) := by
    rw [← h128]; simp
  have e4 : wrap64 ((x % 128 * 128 ^ kk : Nat) : Int) = ((x % 128 * 128 ^ kk : Nat) : Int) := by unfold wrap64; omega
  rw [h1, e2, e3, e4, (bits_nat .i64 63 (by decide) wraps_i64 acc _ (by omega) (by omega)).2]
  refine ⟨?_, hlt⟩
  congr 1
  rw [Nat.mul_comm, ← h128, Nat.or_comm, ← Nat.two_pow_add_eq_or_of_lt (by omega), Nat.add_comm]

theorem sl_drop {α : Type} {d : Kd α} {w : World} {A : Option Addr} {c m : Nat} {xs : List α} (h : d.C w A xs.length xs) (hm : m ≤ xs.length) (hc : xs.length ≤ c) :
    Sl d w (.slice (if c = m then A else A.map (·.add (m * d.sz))) (xs.length - m) (c - m)) (xs.drop m) :=
  ⟨_, _, by rw [List.length_drop], by rw [List.length_drop]; omega, Kd.C_drop h hm hc⟩
theorem pow_step (acc x kk : Nat) (q : Nat) : acc + 128 ^ kk * (x % 128 + 128 * q) = acc + x % 128 * 128 ^ kk + 128 ^ (kk + 1) * q := by
  rw [Nat.pow_succ, Nat.mul_add, Nat.mul_comm (128 ^ kk) (x % 128), Nat.mul_assoc]; omega
theorem tk_nil (b : Nat) (f : Bool) : tkFrom b f [] = none := by cases b <;> rfl
def TakeR (bs : List UInt8) (n : Int) (r : List UInt8) (ok : Bool) : Prop := match takeL bs with | none => n = 0 ∧ r = [] ∧ ok = false | some p => n = p.1 ∧ r = p.2 ∧ ok = true
theorem info5' : ∃ i, Try.prog.info? 5 = some i ∧ i.size = 1 := by
  obtain ⟨i, hi, hz⟩ := Option.map_eq_some_iff.1 info5
  exact ⟨i, hi, by simp only [Prod.mk.injEq] at hz; exact hz.2.1⟩
theorem TakeR.none {bs : List UInt8} (h : takeL bs = .none) : TakeR bs 0 [] false := by rw [TakeR, h]; exact ⟨rfl, rfl, rfl⟩
theorem TakeR.some {bs : List UInt8} {p : Nat × List UInt8} (h : takeL bs = .some p) : TakeR bs p.1 p.2 true := by rw [TakeR, h]; exact ⟨rfl, rfl, rfl⟩
def TakeP (w : World) (bs : List UInt8) (e : Ending) (w' : World) : Prop := ∃ v1 n r ok, e = .returned (.tuple #[.int .i64 n, v1, .bool ok]) ∧ Nw kB 5 w.heap.size w' v1 r ∧ Below w.heap.size w w' ∧ TakeR bs n r ok
set_option maxHeartbeats 2000000 in
set_option maxRecDepth 100000 in
theorem take_any1 (A : Option Addr) (c : Nat) (bs : List UInt8) (w : World) (hC : Kd.C kB w A bs.length bs) (hc : bs.length ≤ c) (hl : bs.length ≤ 1000000) (q : (bs.length : Int) ≤ 9) :
    Calls Try.prog 100 #[.slice A bs.length c] w (TakeP w bs) := by
  have HC := Aside0.mk hC
  clear hC
  go_enter Try.func100, Try.ntmps100
  go_wp2
  go_loopg [5, 6, 7, 14] 9 (fun gg s5 _ _ s14 wr => ∃ kk acc : Nat, kk ≤ bs.length ∧ 9 - kk ≤ gg ∧ s14 = .int .i64 kk ∧ s5 = .int .i64 acc ∧ Aside0 (acc < 128 ^ kk) ∧ Aside0 (takeL bs = (tkFrom (9 - kk) (kk == 0) (bs.drop kk)).map (fun p => (acc + 128 ^ kk * p.1, p.2))) ∧ wr = w)
  case atStart => exact ⟨0, 0, by omega, by omega, rfl, rfl, ⟨by simp⟩, ⟨by simp [takeL]⟩, rfl⟩
  case round =>
    obtain ⟨kk, acc, hkk, hg, rfl, rfl, HB, HT, rfl⟩ := hrel
    by_cases hlt : kk < bs.length
    · have hltz : (kk : Int) < (bs.length : Int) := by omega
      have hlb : kk < bs.length := by omega
      obtain ⟨ad, rfl, h0⟩ := getB HC.out kk hlb
      have hb : bs[kk].toNat < 256 := bs[kk].toNat_lt
      have HA := Aside0.mk (acc_step (kk := kk) (by omega) HB.out hb)
      have q1 := and128 hb
      obtain ⟨j, hj⟩ : ∃ j, 9 - kk = j + 1 := ⟨8 - kk, by omega⟩
      have HT2 := Aside0.mk (show takeL bs = (if 128 ≤ bs[kk].toNat then (tkFrom j false (bs.drop (kk + 1))).map (fun p => (bs[kk].toNat % 128 + 128 * p.1, p.2)) else if (kk == 0) = false ∧ bs[kk].toNat = 0 then none else some (bs[kk].toNat, bs.drop (kk + 1))).map (fun p => (acc + 128 ^ kk * p.1, p.2)) by
        rw [HT.out, List.drop_eq_getElem_cons hlb, hj, tkFrom])
      have HS := Aside0.mk (fun W (hW : Below wr.heap.size wr W) => clone123 _ (bs.drop (kk + 1)) W ((sl_drop (m := kk + 1) HC.out (by omega) hc).below hW) (by rw [List.length_drop]; omega))
      obtain ⟨i5, hi5, hs5⟩ := info5'
      have hcut := cut_from (P := Try.prog) 22 5 .i64 Try.underlying22 hi5 1 hs5 (some ad) bs.length c ((kk : Int) + 1) (by omega) (by omega)
      rw [show ((kk : Int) + 1).toNat = kk + 1 by omega] at hcut
      rw [show kB.sz = 1 from rfl] at HS
      generalize hV : (Value.slice (if c = kk + 1 then some ad else Option.map (fun x => x.add ((kk + 1) * 1)) (some ad)) (bs.length - (kk + 1)) (c - (kk + 1))) = V at hcut HS
      clear hV hi5 hs5
      generalize bs[kk].toNat = x at h0 hb HA q1 HT2
      generalize hrest : bs.drop (kk + 1) = rest at HT2 HS
      have HREST := Aside0.mk hrest
      clear hrest
      by_cases c1 : 128 ≤ x
      · rw [decide_eq_true c1] at q1
        have HT2 := Aside0.mk (HT2.out.trans (by rw [if_pos c1]))
        go_wp2
        go_roundg (9 - (kk + 1))
        case measure => omega
        case rel =>
          refine ⟨kk + 1, acc + x % 128 * 128 ^ kk, by omega, by omega, by go_num, by rw [HA.out.1], ⟨HA.out.2⟩, ⟨?_⟩, rfl⟩
          rw [HT2.out, show 9 - (kk + 1) = j by omega, show (kk + 1 == 0) = false from rfl, HREST.out, Option.map_map]
          congr 1
          funext p
          simp only [Function.comp_apply, pow_step]
      · rw [decide_eq_false c1] at q1
        have HX := Aside0.mk (show ((acc + x % 128 * 128 ^ kk : Nat) : Int) = ((acc + 128 ^ kk * x : Nat) : Int) by
          rw [Nat.mod_eq_of_lt (show x < 128 by omega), Nat.mul_comm x])
        by_cases c2 : 0 < kk
        · by_cases c3 : x = 0
          · have q3 : ((x : Int) == 0) = true := by rw [beq_iff_eq]; omega
            have HN := Aside0.mk (show takeL bs = none by
              rw [HT2.out, if_neg c1, if_pos ⟨by simp; omega, c3⟩]; rfl)
            go_wp2
            go_ret3
            exact ⟨_, _, _, _, rfl, Kd.N_nil _ _ _ _ _, Below.refl _ _, TakeR.none HN.out⟩
          · have q3 : ((x : Int) == 0) = false := by rw [beq_eq_false_iff_ne]; omega
            have HN := Aside0.mk (show takeL bs = some (acc + 128 ^ kk * x, rest) by
              rw [HT2.out, if_neg c1, if_neg (fun h => c3 h.2)]; rfl)
            go_wp2_with (go_at_call 123; refine (HS.out _ (Below.refl _ _)).mono ?_; rintro e w' ⟨v1, rfl, hn, hb'⟩)
            go_ret3
            exact ⟨_, _, _, _, by rw [HA.out.1, HX.out]; rfl, hn, hb', TakeR.some HN.out⟩
        · have HN := Aside0.mk (show takeL bs = some (acc + 128 ^ kk * x, rest) by
            have h0 : kk = 0 := by omega
            rw [HT2.out, if_neg c1, if_neg (fun h => by simp [h0] at h)]; rfl)
          go_wp2_with (go_at_call 123; refine (HS.out _ (Below.refl _ _)).mono ?_; rintro e w' ⟨v1, rfl, hn, hb'⟩)
          go_ret3
          exact ⟨_, _, _, _, by rw [HA.out.1, HX.out]; rfl, hn, hb', TakeR.some HN.out⟩
    · have hltz : ¬ (kk : Int) < (bs.length : Int) := by omega
      have HN := Aside0.mk (show takeL bs = none by
        rw [HT.out, List.drop_of_length_le (by omega), tk_nil]; rfl)
      go_wp2
      go_ret3
      exact ⟨_, _, _, _, rfl, Kd.N_nil _ _ _ _ _, Below.refl _ _, TakeR.none HN.out⟩
set_option maxHeartbeats 2000000 in
set_option maxRecDepth 100000 in
theorem take_any2 (A : Option Addr) (c : Nat) (bs : List UInt8) (w : World) (hC : Kd.C kB w A bs.length bs) (hc : bs.length ≤ c) (hl : bs.length ≤ 1000000) (q : 9 < (bs.length : Int)) :
    Calls Try.prog 100 #[.slice A bs.length c] w (TakeP w bs) := by
  have HC := Aside0.mk hC
  clear hC
  go_enter Try.func100, Try.ntmps100
  go_wp2
  go_loopg [5, 6, 7, 14] 9 (fun gg s5 _ _ s14 wr => ∃ kk acc : Nat, kk ≤ 9 ∧ 9 - kk ≤ gg ∧ s14 = .int .i64 kk ∧ s5 = .int .i64 acc ∧ Aside0 (acc < 128 ^ kk) ∧ Aside0 (takeL bs = (tkFrom (9 - kk) (kk == 0) (bs.drop kk)).map (fun p => (acc + 128 ^ kk * p.1, p.2))) ∧ wr = w)
  case atStart => exact ⟨0, 0, by omega, by omega, rfl, rfl, ⟨by simp⟩, ⟨by simp [takeL]⟩, rfl⟩
  case round =>
    obtain ⟨kk, acc, hkk, hg, rfl, rfl, HB, HT, rfl⟩ := hrel
    by_cases hlt : kk < 9
    · have hltz : (kk : Int) < (9 : Int) := by omega
      have hlb : kk < bs.length := by omega
      obtain ⟨ad, rfl, h0⟩ := getB HC.out kk hlb
      have hb : bs[kk].toNat < 256 := bs[kk].toNat_lt
      have HA := Aside0.mk (acc_step (kk := kk) (by omega) HB.out hb)
      have q1 := and128 hb
      obtain ⟨j, hj⟩ : ∃ j, 9 - kk = j + 1 := ⟨8 - kk, by omega⟩
      have HT2 := Aside0.mk (show takeL bs = (if 128 ≤ bs[kk].toNat then (tkFrom j false (bs.drop (kk + 1))).map (fun p => (bs[kk].toNat % 128 + 128 * p.1, p.2)) else if (kk == 0) = false ∧ bs[kk].toNat = 0 then none else some (bs[kk].toNat, bs.drop (kk + 1))).map (fun p => (acc + 128 ^ kk * p.1, p.2)) by
        rw [HT.out, List.drop_eq_getElem_cons hlb, hj, tkFrom])
      have HS := Aside0.mk (fun W (hW : Below wr.heap.size wr W) => clone123 _ (bs.drop (kk + 1)) W ((sl_drop (m := kk + 1) HC.out (by omega) hc).below hW) (by rw [List.length_drop]; omega))
      obtain ⟨i5, hi5, hs5⟩ := info5'
      have hcut := cut_from (P := Try.prog) 22 5 .i64 Try.underlying22 hi5 1 hs5 (some ad) bs.length c ((kk : Int) + 1) (by omega) (by omega)
      rw [show ((kk : Int) + 1).toNat = kk + 1 by omega] at hcut
      rw [show kB.sz = 1 from rfl] at HS
      generalize hV : (Value.slice (if c = kk + 1 then some ad else Option.map (fun x => x.add ((kk + 1) * 1)) (some ad)) (bs.length - (kk + 1)) (c - (kk + 1))) = V at hcut HS
      clear hV hi5 hs5
      generalize bs[kk].toNat = x at h0 hb HA q1 HT2
      generalize hrest : bs.drop (kk + 1) = rest at HT2 HS
      have HREST := Aside0.mk hrest
      clear hrest
      by_cases c1 : 128 ≤ x
      · rw [decide_eq_true c1] at q1
        have HT2 := Aside0.mk (HT2.out.trans (by rw [if_pos c1]))
        go_wp2
        go_roundg (9 - (kk + 1))
        case measure => omega
        case rel =>
          refine ⟨kk + 1, acc + x % 128 * 128 ^ kk, by omega, by omega, by go_num, by rw [HA.out.1], ⟨HA.out.2⟩, ⟨?_⟩, rfl⟩
          rw [HT2.out, show 9 - (kk + 1) = j by omega, show (kk + 1 == 0) = false from rfl, HREST.out, Option.map_map]
          congr 1
          funext p
          simp only [Function.comp_apply, pow_step]
      · rw [decide_eq_false c1] at q1
        have HX := Aside0.mk (show ((acc + x % 128 * 128 ^ kk : Nat) : Int) = ((acc + 128 ^ kk * x : Nat) : Int) by
          rw [Nat.mod_eq_of_lt (show x < 128 by omega), Nat.mul_comm x])
        by_cases c2 : 0 < kk
        · by_cases c3 : x = 0
          · have q3 : ((x : Int) == 0) = true := by rw [beq_iff_eq]; omega
            have HN := Aside0.mk (show takeL bs = none by
              rw [HT2.out, if_neg c1, if_pos ⟨by simp; omega, c3⟩]; rfl)
            go_wp2
            go_ret3
            exact ⟨_, _, _, _, rfl, Kd.N_nil _ _ _ _ _, Below.refl _ _, TakeR.none HN.out⟩
          · have q3 : ((x : Int) == 0) = false := by rw [beq_eq_false_iff_ne]; omega
            have HN := Aside0.mk (show takeL bs = some (acc + 128 ^ kk * x, rest) by
              rw [HT2.out, if_neg c1, if_neg (fun h => c3 h.2)]; rfl)
            go_wp2_with (go_at_call 123; refine (HS.out _ (Below.refl _ _)).mono ?_; rintro e w' ⟨v1, rfl, hn, hb'⟩)
            go_ret3
            exact ⟨_, _, _, _, by rw [HA.out.1, HX.out]; rfl, hn, hb', TakeR.some HN.out⟩
        · have HN := Aside0.mk (show takeL bs = some (acc + 128 ^ kk * x, rest) by
            have h0 : kk = 0 := by omega
            rw [HT2.out, if_neg c1, if_neg (fun h => by simp [h0] at h)]; rfl)
          go_wp2_with (go_at_call 123; refine (HS.out _ (Below.refl _ _)).mono ?_; rintro e w' ⟨v1, rfl, hn, hb'⟩)
          go_ret3
          exact ⟨_, _, _, _, by rw [HA.out.1, HX.out]; rfl, hn, hb', TakeR.some HN.out⟩
    · have hltz : ¬ (kk : Int) < (9 : Int) := by omega
      have HN := Aside0.mk (show takeL bs = none by
        rw [HT.out, show 9 - kk = 0 by omega, tkFrom]; rfl)
      go_wp2
      go_ret3
      exact ⟨_, _, _, _, rfl, Kd.N_nil _ _ _ _ _, Below.refl _ _, TakeR.none HN.out⟩

theorem fkB {W : World} {ok : Nat → Prop} (b : UInt8) : Kd.FK kB W ok b [.int .u8 (b.toNat : Int)] := fun _ _ => rfl
theorem low_byte (n : Nat) (h : n < 9223372036854775808) : bits .or .i64 (bits .and .i64 (n : Int) 127) 128 % 256 = (((UInt8.ofNat (128 + n % 128)).toNat : Nat) : Int) := by
  have h1 := (bits_nat .i64 63 (by decide) wraps_i64 n 127 h (by decide)).1
  rw [show ((127 : Nat) : Int) = 127 from rfl] at h1
  have h2 : n &&& 127 = n % 128 := Nat.and_two_pow_sub_one_eq_mod n 7
  rw [h1, h2]
  have h3 := (bits_nat .i64 63 (by decide) wraps_i64 (n % 128) 128 (by omega) (by decide)).2
  rw [show ((128 : Nat) : Int) = 128 from rfl] at h3
  have h4 : n % 128 ||| 128 = 128 + n % 128 := by
    rw [Nat.or_comm]
    exact (Nat.two_pow_add_eq_or_of_lt (i := 7) (b := n % 128) (by omega) 1).symm
  rw [h3, h4]
  simp [UInt8.toNat_ofNat']
theorem low_byte2 (n : Nat) (h : n < 128) : ((n : Nat) : Int) = (((UInt8.ofNat n).toNat : Nat) : Int) := by
  simp [UInt8.toNat_ofNat']; omega
set_option maxHeartbeats 1000000 in
set_option maxRecDepth 100000 in
theorem num_any (n : Int) (w : World) (hn : n ≤ 9223372036854775807) :
    Calls Try.prog 104 #[.int .i64 n] w fun e w' => ∃ v1, e = .returned v1 ∧ Nw kB 5 w.heap.size w' v1 (numL n) ∧ Below w.heap.size w w' := by
  by_cases h0 : n < 0
  · have HR := Aside0.mk (show numL n = [] by rw [numL, if_pos h0])
    go_enter Try.func104, Try.ntmps104
    go_wp2
    go_ret
    exact ⟨_, rfl, by rw [HR.out]; exact Kd.N_nil _ _ _ _ _, Below.refl _ _⟩
  · obtain ⟨m, rfl⟩ := Int.eq_ofNat_of_zero_le (show 0 ≤ n by omega)
    have HR := Aside0.mk (show numL (m : Int) = encN m by rw [numL, if_neg (by omega)]; simp)
    have hm : m < 9223372036854775808 := by omega
    have HL9 := Aside0.mk (encN_len9 hm)
    clear hn
    go_enter Try.func104, Try.ntmps104
    go_wp2
    go_loopg [0, 3] m (fun gg s0 s3 wr => ∃ (k : Nat) (acc : List UInt8), k ≤ gg ∧ k < 9223372036854775808 ∧ s0 = .int .i64 k ∧ Aside0 (encN m = acc ++ encN k) ∧ Aside0 (Below w.heap.size w wr) ∧ Aside0 (Nw kB 5 w.heap.size wr s3 acc))
    case atStart => exact ⟨m, [], Nat.le_refl _, hm, rfl, ⟨rfl⟩, ⟨Below.refl _ _⟩, ⟨Kd.N_nil _ _ _ _ _⟩⟩
    case round =>
      obtain ⟨k, acc, hkg, hk, rfl, HE, BW, HN⟩ := hrel
      have HAL := Aside0.mk (show acc.length ≤ 9 by have := HL9.out; rw [HE.out, List.length_append] at this; omega)
      by_cases hb : k < 128
      · have hbz : ¬ 127 < (k : Int) := by omega
        have HB := Aside0.mk (low_byte2 k hb)
        have HE2 := Aside0.mk (HE.out.trans (by rw [encN_small hb]))
        go_wp2_with (at_builtin; refine Kd.N_append kB (w0 := w) w.heap.size rfl (.tmp 17) (.tmp 20) 22 5 (.int .u8 0) 1 rfl Try.underlying22 info5 rfl (by decide) (by omega) u3 acc (UInt8.ofNat k) [.int .u8 (k : Int)] (fun k => w.heap.size ≤ k) (fun _ => False) rfl rfl (show Kd.FK kB _ _ (UInt8.ofNat k) [.int .u8 (k : Int)] by rw [HB.out]; exact fkB _) (fun _ hk => hk.elim) (fun k hk => Nat.le_trans BW.out.size hk) HN.out BW.out BW.out.size (by have := HAL.out; omega) ?_; intro v1 w1 ho hb hg2 hat; have HO := Aside0.mk ho; have HB := Aside0.mk hb; clear ho hb hg2 hat)
        go_ret
        exact ⟨_, rfl, by rw [HR.out, HE2.out]; exact HO.out, HB.out⟩
      · have hbz : 127 < (k : Int) := by omega
        have HB := Aside0.mk (low_byte k hk)
        have HE2 := Aside0.mk (HE.out.trans (by rw [encN_big hb]))
        go_wp2_with (at_builtin; refine Kd.N_append kB (w0 := w) w.heap.size rfl (.tmp 8) (.tmp 13) 22 5 (.int .u8 0) 1 rfl Try.underlying22 info5 rfl (by decide) (by omega) u3 acc (UInt8.ofNat (128 + k % 128)) [.int .u8 (bits .or .i64 (bits .and .i64 (k : Int) 127) 128 % 256)] (fun k => w.heap.size ≤ k) (fun _ => False) rfl rfl (by rw [HB.out]; exact fkB _) (fun _ hk => hk.elim) (fun k hk => Nat.le_trans BW.out.size hk) HN.out BW.out BW.out.size (by have := HAL.out; omega) ?_; intro v1 w1 ho hb hg2 hat; have HO := Aside0.mk ho; have HB := Aside0.mk hb; clear ho hb hg2 hat)
        go_roundg (k / 128)
        case measure => omega
        case rel => exact ⟨k / 128, acc ++ [UInt8.ofNat (128 + k % 128)], by omega, by omega, by go_num, ⟨by rw [HE2.out, List.append_assoc]; rfl⟩, HB, HO⟩
set_option maxHeartbeats 1000000 in
set_option maxRecDepth 100000 in
theorem grow_any (n : Nat) (w : World) (hn : n ≤ 1000000000) :
    Calls Try.prog 142 #[.slice none 0 0, .int .i64 n] w fun e w' => ∃ v1, e = .returned v1 ∧ Nw kB 5 w.heap.size w' v1 [] ∧ Below w.heap.size w w' := by
  by_cases h0 : 0 < n
  · have h0z : 0 < (n : Int) := by omega
    have HN := Aside0.mk hn
    replace hn : n ≤ 9223372036854775807 := by omega
    go_enter Try.func142, Try.ntmps142
    go_wp2_with (at_builtin; refine Kd.N_append_zeros kB (w0 := w) w.heap.size rfl (.tmp 20) (.tmp 21) 22 3 5 (.int .u8 0) 1 rfl Try.underlying22 Try.underlying3 info5 rfl (by decide) (by omega) (.slice none 0 0) [] (0 : UInt8) (n : Int) (fun k => w.heap.size ≤ k) rfl rfl (fkB 0) (fun _ hk => hk) (Kd.N_nil _ _ _ _ _) (by omega) (Below.refl _ _) (Nat.le_refl _) (by have := HN.out; simp; omega) ?_; intro v1 w1 ho hb hg2 hat; obtain ⟨A, c, rfl⟩ := Kd.N_slice ho; have HO := Aside0.mk ho; have HB := Aside0.mk hb; clear ho hb hg2 hat)
    go_ret
    exact ⟨_, rfl, by have := Kd.N_take (m := 0) HO.out (Nat.zero_le _); simpa using this, HB.out⟩
  · obtain rfl : n = 0 := by omega
    go_enter Try.func142, Try.ntmps142
    go_wp2
    go_ret
    exact ⟨_, rfl, Kd.N_nil _ _ _ _ _, Below.refl _ _⟩

theorem getR {w : World} {A : Option Addr} {xs : List (List UInt8)} (h : Kd.C kR w A xs.length xs) (i : Nat) (hi : i < xs.length) :
    ∃ ad A0 c0, A = some ad ∧ w.cell? (ad.add i) = some (.slice A0 xs[i].length c0) ∧ xs[i].length ≤ c0 ∧ Kd.C kB w A0 xs[i].length xs[i] := by
  obtain ⟨ad, c, e, _, hK, hc⟩ := Kd.C_get h ([] : List UInt8) (i : Int) (by omega) (by omega)
  have hrd : xs.getD (i : Int).toNat [] = xs[i] := by simp [hi]
  rw [hrd] at hK
  obtain ⟨A0, c0, rfl, hl, hK2⟩ := hK
  have h2 := hc 0 _ rfl
  simp only [Int.toNat_natCast, Nat.add_zero] at h2
  have hs : kR.sz = 1 := rfl
  rw [hs, Nat.mul_one] at h2
  exact ⟨ad, A0, c0, e, h2, hl, hK2⟩
theorem flat_take {xss : List (List UInt8)} {k : Nat} (h : k < xss.length) : (xss.take (k + 1)).flatten = (xss.take k).flatten ++ xss[k] := by
  rw [List.take_succ_eq_append_getElem h, List.flatten_append]; simp
theorem flat_le {xss : List (List UInt8)} (k : Nat) : (xss.take k).flatten.length ≤ xss.flatten.length := by
  conv => rhs; rw [← List.take_append_drop k xss, List.flatten_append, List.length_append]
  omega
set_option maxHeartbeats 1000000 in
set_option maxRecDepth 100000 in
theorem concat_any (v : Value) (xss : List (List UInt8)) (w : World) (hs : Sl kR w v xss) (hl : xss.flatten.length ≤ 1000000000) :
    Calls Try.prog 124 #[v] w fun e w' => ∃ v1, e = .returned v1 ∧ Nw kB 5 w.heap.size w' v1 xss.flatten ∧ Below w.heap.size w w' := by
  have hmax := hs.len
  obtain ⟨A, c, rfl, _, hC⟩ := hs
  have HC := Aside0.mk hC
  have HL := Aside0.mk hl
  clear hC hl
  go_enter Try.func124, Try.ntmps124
  go_wp2
  go_loopg [3, 5, 11] xss.length (fun gg s3 _ s8 wr => ∃ kk : Nat, kk ≤ xss.length ∧ xss.length - kk ≤ gg ∧ s8 = .int .i64 kk ∧ s3 = .int .i64 ((xss.take kk).flatten.length : Nat) ∧ w = wr)
  case atStart => exact ⟨0, by omega, by omega, rfl, rfl, rfl⟩
  case round =>
    obtain ⟨kk, hkk, hg, rfl, rfl, rfl⟩ := hrel
    have hb1 := flat_le (xss := xss) kk
    obtain ⟨n, hn⟩ : ∃ n, (xss.take kk).flatten.length = n := ⟨_, rfl⟩
    rw [hn] at hb1 ⊢
    by_cases hlt : kk < xss.length
    · have hltz : (kk : Int) < (xss.length : Int) := by omega
      obtain ⟨ad, A0, c0, rfl, h0, _, _⟩ := getR HC.out kk hlt
      have hb2 : (xss.take (kk + 1)).flatten.length ≤ xss.flatten.length := flat_le (xss := xss) (kk + 1)
      have HT := Aside0.mk (show (xss.take (kk + 1)).flatten.length = n + xss[kk].length by rw [flat_take hlt, List.length_append, hn])
      rw [HT.out] at hb2
      have hb3 : n + xss[kk].length ≤ 1000000000 := Nat.le_trans hb2 HL.out
      clear hb1 hb2 hn
      generalize xss[kk] = x at h0 HT hb3
      have hnn : ¬ ((n : Int) + (x.length : Int)) < 0 := by omega
      go_wp2
      go_roundg (xss.length - (kk + 1))
      case measure => omega
      case rel => exact ⟨kk + 1, by omega, by omega, by go_num, by rw [HT.out]; go_num, rfl⟩
    · have hltz : ¬ (kk : Int) < (xss.length : Int) := by omega
      have hk : kk = xss.length := by omega
      have HN := Aside0.mk hn
      have HW := Aside0.mk (grow_any n w (by have := HL.out; omega))
      subst hk
      clear hn hb1
      go_wp2_with (go_at_call 142; refine HW.out.mono ?_; rintro e w1 ⟨v1, rfl, hn1, hb1⟩)
      have HN1 := Aside0.mk hn1
      have HB1 := Aside0.mk hb1
      clear hn1 hb1
      go_loopg [6, 8, 27] xss.length (fun gg s6 _ s8 w2 => ∃ kk : Nat, kk ≤ xss.length ∧ xss.length - kk ≤ gg ∧ s8 = .int .i64 kk ∧ Aside0 (Below w.heap.size w w2) ∧ Aside0 (Nw kB 5 w.heap.size w2 s6 (xss.take kk).flatten))
      case atStart => exact ⟨0, by omega, by omega, rfl, HB1, HN1⟩
      case round =>
        obtain ⟨kk, hkk2, hg2, rfl, BW, HN2⟩ := hrel
        by_cases hlt2 : kk < xss.length
        · have hltz : (kk : Int) < (xss.length : Int) := by omega
          obtain ⟨ad, A0, c0, rfl, h0, hc0, hC0⟩ := getR HC.out kk hlt2
          have h0 := pw_cell_below BW.out h0
          have hb2 : (xss.take (kk + 1)).flatten.length ≤ 1000000000 := Nat.le_trans (flat_le (xss := xss) (kk + 1)) HL.out
          have HT := Aside0.mk (flat_take hlt2)
          rw [HT.out, List.length_append] at hb2
          have HC0 := Aside0.mk hC0
          have HB2 := Aside0.mk hb2
          clear hC0 hb2
          generalize xss[kk] = x at h0 HT HB2 HC0 hc0
          generalize (xss.take kk).flatten = acc at HT HB2 HN2
          go_wp2_with (at_builtin; refine Kd.N_append_rows kB (w0 := w) w.heap.size rfl (.tmp 31) (.tmp 32) 22 5 (.int .u8 0) 1 rfl Try.underlying22 info5 rfl (by decide) (by omega) u6 acc x A0 x.length c0 (fun _ => True) (fun k => k < w.heap.size) rfl rfl (Kd.N_mono HN2.out (fun _ _ => trivial)) (F_old heapB HC0.out BW.out) (fun k hk => ⟨trivial, fun he => absurd (Kd.N_base HN2.out k he.symm) (by omega)⟩) (fun _ _ => trivial) BW.out BW.out.size (by have := HB2.out; omega) ?_; intro v2 w3 ho hb hg2 hat; have HO := Aside0.mk (N_flat flatB ho); have HB := Aside0.mk hb; clear ho hb hg2 hat)
          go_roundg (xss.length - (kk + 1))
          case measure => omega
          case rel => exact ⟨kk + 1, by omega, by omega, by go_num, HB, ⟨by rw [HT.out]; exact HO.out⟩⟩
        · have hltz : ¬ (kk : Int) < (xss.length : Int) := by omega
          have hk : kk = xss.length := by omega
          subst hk
          have HN3 := HN2.out
          rw [List.take_length] at HN3
          have HN4 := Aside0.mk HN3
          clear HN3
          go_wp2
          go_ret
          exact ⟨_, rfl, HN4.out, BW.out⟩

theorem slR_lit (W : World) (vs : List Value) (xs : List (List UInt8)) (hl : vs.length = xs.length) (hm : xs.length ≤ 9223372036854775807) (h : ∀ (i : Nat) (v : Value) (x : List UInt8), vs[i]? = some v → xs[i]? = some x → Sl kB W v x) :
    Sl kR (W.alloc (.cells vs.toArray 22)) (.slice (some ⟨W.heap.size, 0, none⟩) xs.length xs.length) xs := by
  refine ⟨_, _, rfl, Nat.le_refl _, rfl, hm, fun _ => ⟨_, rfl, fun j p hj => ?_⟩⟩
  have hjl : j < vs.length := by rw [hl]; exact (List.getElem?_eq_some_iff.1 hj).1
  obtain ⟨A, c, he, hc, hC⟩ := h j vs[j] p (List.getElem?_eq_getElem hjl) hj
  refine ⟨[vs[j]], rfl, ⟨A, c, by rw [he], hc, Kd.C_alloc hC _⟩, fun i u hu => ?_⟩
  rcases i with _ | i
  · simp at hu
    subst hu
    have hb := blk_cell (blk_new W vs.toArray 22) j
    rw [add_plain, show kR.sz = 1 from rfl, Nat.mul_one, Nat.add_zero, hb]
    simp [hjl]
  · simp at hu
theorem listL_len (l : List (List UInt8)) (h : ∀ b ∈ l, b.length < 9223372036854775808) : (l.flatMap partB).length ≤ 9 * l.length + l.flatten.length := by
  induction l with
  | nil => simp
  | cons b l ih =>
    have h1 := encN_len9 (h b List.mem_cons_self)
    have h2 := ih (fun c hc => h c (List.mem_cons_of_mem _ hc))
    rw [List.flatMap_cons, List.length_append, List.flatten_cons, List.length_append, List.length_cons, partB, List.length_append]
    omega
theorem flatMap_take {l : List (List UInt8)} {k : Nat} (h : k < l.length) : (l.take (k + 1)).flatMap partB = (l.take k).flatMap partB ++ partB l[k] := by
  rw [List.take_succ_eq_append_getElem h, List.flatMap_append]; simp
theorem sl_small {w : World} {A : Option Addr} {xs : List (List UInt8)} (h : Kd.C kR w A xs.length xs) : ∀ b ∈ xs, b.length < 9223372036854775808 := by
  intro b hb
  obtain ⟨i, hi, rfl⟩ := List.getElem_of_mem hb
  obtain ⟨_, _, _, _, _, _, hC⟩ := getR h i hi
  have := Kd.C_max hC
  omega
set_option maxHeartbeats 1000000 in
set_option maxRecDepth 100000 in
theorem list_any (v : Value) (l : List (List UInt8)) (w : World) (hs : Sl kR w v l) (hl : l.flatten.length ≤ 100000000) (hl2 : l.length ≤ 1000000) :
    Calls Try.prog 105 #[v] w fun e w' => ∃ v1, e = .returned v1 ∧ Nw kB 5 w.heap.size w' v1 (listL l) ∧ Below w.heap.size w w' := by
  have hmax := hs.len
  obtain ⟨A, c, rfl, _, hC⟩ := hs
  have HC := Aside0.mk hC
  have HSM := Aside0.mk (sl_small hC)
  have HTOT := Aside0.mk (show ∀ k, (encN l.length ++ (l.take k).flatMap partB).length ≤ 1000000000 by
    intro k
    have h1 := encN_len9 (show l.length < 9223372036854775808 by omega)
    have h2 := listL_len (l.take k) (fun b hb => sl_small hC b (List.mem_of_mem_take hb))
    have h3 : (l.take k).length ≤ l.length := List.length_take_le' _ _
    have h4 := flat_le (xss := l) k
    rw [List.length_append]
    omega)
  have HNUM := Aside0.mk (num_any (l.length : Int) w (by omega))
  have HNL := Aside0.mk (show numL (l.length : Int) = encN l.length by rw [numL, if_neg (by omega)]; simp)
  clear hC hl hl2
  go_enter Try.func105, Try.ntmps105
  go_wp2_with (go_at_call 104; refine HNUM.out.mono ?_; rintro e w1 ⟨v1, rfl, hn1, hb1⟩)
  have HN1 := Aside0.mk hn1
  have HB1 := Aside0.mk hb1
  clear hn1 hb1
  go_loopg [3, 5, 11] l.length (fun gg s3 _ s8 wr => ∃ kk : Nat, kk ≤ l.length ∧ l.length - kk ≤ gg ∧ s8 = .int .i64 kk ∧ Aside0 (Below w.heap.size w wr) ∧ Aside0 (Nw kB 5 w.heap.size wr s3 (encN l.length ++ (l.take kk).flatMap partB)))
  case atStart => exact ⟨0, by omega, by omega, rfl, HB1, ⟨by simpa [HNL.out] using HN1.out⟩⟩
  case round =>
    obtain ⟨kk, hkk, hg, rfl, BW, HN⟩ := hrel
    by_cases hlt : kk < l.length
    · have hltz : (kk : Int) < (l.length : Int) := by omega
      obtain ⟨ad, A0, c0, rfl, h0, hc0, hC0⟩ := getR HC.out kk hlt
      have h0 := pw_cell_below BW.out h0
      have HT := Aside0.mk (show encN l.length ++ (l.take (kk + 1)).flatMap partB = [encN l.length ++ (l.take kk).flatMap partB, numL (l[kk].length : Int), l[kk]].flatten by
        rw [flatMap_take hlt, numL, if_neg (by omega), partB]; simp)
      have HTT := Aside0.mk (by have := HTOT.out (kk + 1); rw [HT.out] at this; exact this)
      have HSX := Aside0.mk (show Sl kB wr (.slice A0 l[kk].length c0) l[kk] from ⟨A0, c0, rfl, hc0, Kd.C_below hC0 BW.out⟩)
      have HNUM2 := Aside0.mk (num_any (l[kk].length : Int) wr (by have := HSM.out _ (List.getElem_mem hlt); omega))
      clear hC0
      generalize l[kk] = x at h0 HT HTT HSX HNUM2 hc0
      generalize encN l.length ++ (l.take kk).flatMap partB = acc at HT HTT HN
      obtain ⟨A3, c3, rfl⟩ := Kd.N_slice HN.out
      go_wp2_with (go_at_call 104; refine HNUM2.out.mono ?_; rintro e w2 ⟨v2, rfl, hn2, hb2⟩; obtain ⟨A2, c2, rfl⟩ := Kd.N_slice hn2; have HN2 := Aside0.mk hn2; have HB2 := Aside0.mk hb2; clear hn2 hb2)
      have HLIT : Aside0 (Sl kR (w2.alloc (.cells #[.slice A3 acc.length c3, .slice A2 (numL (x.length : Int)).length c2, .slice A0 x.length c0] 22)) (.slice (some ⟨w2.heap.size, 0, none⟩) 3 3) [acc, numL (x.length : Int), x]) :=
        ⟨slR_lit w2 [.slice A3 acc.length c3, .slice A2 (numL (x.length : Int)).length c2, .slice A0 x.length c0] [acc, numL (x.length : Int), x] rfl (by simp) (fun i v y hv hy => by
          match i, hv, hy with
          | 0, hv, hy => simp at hv hy; subst hv; subst hy; exact HN.out.sl.below HB2.out
          | 1, hv, hy => simp at hv hy; subst hv; subst hy; exact HN2.out.sl
          | 2, hv, hy => simp at hv hy; subst hv; subst hy; exact HSX.out.below HB2.out
          | i + 3, hv, hy => simp at hv)⟩
      have HB3 := Aside0.mk (bb BW.out HB2.out)
      refine (concat_any _ _ _ HLIT.out HTT.out).mono ?_
      rintro e w3 ⟨v3, rfl, hn3, hb3⟩
      have HB4 := Aside0.mk (bb (HB3.out.alloc HB3.out.size _) hb3)
      have HN5 := Aside0.mk (Nw.lower hn3 (HB3.out.alloc HB3.out.size _).size)
      clear hn3 hb3
      go_wp2
      go_roundg (l.length - (kk + 1))
      case measure => omega
      case rel => exact ⟨kk + 1, by omega, by omega, by go_num, HB4, ⟨by rw [HT.out]; exact HN5.out⟩⟩
    · have hltz : ¬ (kk : Int) < (l.length : Int) := by omega
      have hk : kk = l.length := by omega
      subst hk
      have HN3 := HN.out
      rw [List.take_length] at HN3
      have HN4 := Aside0.mk HN3
      clear HN3
      go_wp2
      go_ret
      exact ⟨_, rfl, HN4.out, BW.out⟩

theorem take_all (v : Value) (bs : List UInt8) (w : World) (hs : Sl kB w v bs) (hl : bs.length ≤ 1000000) : Calls Try.prog 100 #[v] w (TakeP w bs) := by
  obtain ⟨A, c, rfl, hc, hC⟩ := hs
  by_cases q : (bs.length : Int) ≤ 9
  · exact take_any1 A c bs w hC hc hl q
  · exact take_any2 A c bs w hC hc hl (by omega)
def PartsR (bs : List UInt8) (l : List (List UInt8)) (ok : Bool) : Prop := match partsL bs with | none => l = [] ∧ ok = false | some m => l = m ∧ ok = true
theorem PartsR.none {bs : List UInt8} (h : partsL bs = .none) : PartsR bs [] false := by rw [PartsR, h]; exact ⟨rfl, rfl⟩
theorem PartsR.some {bs : List UInt8} {l : List (List UInt8)} (h : partsL bs = .some l) : PartsR bs l true := by rw [PartsR, h]; exact ⟨rfl, rfl⟩
def PartsP (w : World) (bs : List UInt8) (e : Ending) (w' : World) : Prop := ∃ v1 l ok, e = .returned (.tuple #[v1, .bool ok]) ∧ Nw kR 22 w.heap.size w' v1 l ∧ Below w.heap.size w w' ∧ PartsR bs l ok
theorem info22' : (Try.prog.info? 22).map (fun i => (i.zero, i.size, i.bytes)) = some (some (.slice none 0 0), 1, 24) := info22
/-- What is left: its bytes lie in blocks of the call's own, and not in the row that is appended to. -/
def RestP (base : Nat) (w : World) (o v : Value) (rest : List UInt8) : Prop := ∃ A c, v = .slice A rest.length c ∧ rest.length ≤ c ∧ Kd.F kB w (fun k => base ≤ k ∧ some k ≠ o.ownBlock) A rest.length rest
theorem TakeR.cases {bs : List UInt8} {n : Int} {r : List UInt8} {ok : Bool} (h : TakeR bs n r ok) : (takeL bs = .none ∧ n = 0 ∧ r = [] ∧ ok = false) ∨ ∃ k : Nat, takeL bs = .some (k, r) ∧ n = k ∧ ok = true ∧ k < 9223372036854775808 ∧ r.length < bs.length := by
  unfold TakeR at h
  cases hq : takeL bs with
  | none => rw [hq] at h; exact .inl ⟨rfl, h.1, h.2.1, h.2.2⟩
  | some p =>
    rw [hq] at h
    obtain ⟨h1, h2, h3⟩ := h
    have := takeL_lt hq
    right
    exact ⟨p.1, by rw [h2], h1, h3, this.1, by rw [h2]; exact this.2⟩

set_option maxHeartbeats 2000000 in
set_option maxRecDepth 100000 in
theorem parts_any (v : Value) (bs : List UInt8) (w : World) (hs : Sl kB w v bs) (hl : bs.length ≤ 1000000) : Calls Try.prog 52 #[v] w (PartsP w bs) := by
  have HT := Aside0.mk (take_all v bs w hs hl)
  clear hs
  go_enter Try.func52, Try.ntmps52
  go_wp2_with fail
  refine HT.out.mono ?_
  rintro e w1 ⟨v1, n, r, ok, rfl, hn1, hb1, hr⟩
  rcases TakeR.cases hr with ⟨hq, rfl, rfl, rfl⟩ | ⟨k0, hq, rfl, rfl, hk0, hrl⟩
  · have HP := Aside0.mk (show partsL bs = none by rw [partsL, hq])
    have HB := Aside0.mk hb1
    clear hn1 hb1 hr hq
    go_wp2
    go_ret2
    exact ⟨_, _, _, rfl, Kd.N_nil _ _ _ _ _, HB.out, PartsR.none HP.out⟩
  · have HP := Aside0.mk (show partsL bs = partsN k0 r by rw [partsL, hq])
    have HB := Aside0.mk hb1
    obtain ⟨A1, c1, rfl⟩ := Kd.N_slice hn1
    have HN1 := Aside0.mk hn1
    clear hn1 hb1 hr hq
    go_wp2
    go_loopg [4, 5, 7] k0 (fun gg s4 s5 s7 wr => ∃ (k : Nat) (acc : List (List UInt8)) (rest : List UInt8), k ≤ gg ∧ k < 9223372036854775808 ∧ s4 = .int .i64 k ∧ acc.length + rest.length ≤ bs.length ∧ Aside0 (partsL bs = (partsN k rest).map (acc ++ ·)) ∧ Aside0 (Below w.heap.size w wr) ∧ Aside0 (Nw kR 22 w.heap.size wr s7 acc) ∧ Aside0 (RestP w.heap.size wr s7 s5 rest))
    case atStart =>
      have hcl := (Kd.N_reads' HN1.out).2.1
      exact ⟨k0, [], r, Nat.le_refl _, hk0, rfl, by simp; omega, ⟨by rw [HP.out]; simp⟩, HB, ⟨Kd.N_nil _ _ _ _ _⟩, ⟨A1, c1, rfl, hcl, Kd.F_mono (Kd.N_F HN1.out) (fun k hk => ⟨hk, by simp [Value.ownBlock]⟩)⟩⟩
    case round =>
      obtain ⟨k, acc, rest, hkg, hk, rfl, hlen, HPP, BW, HN, HR⟩ := hrel
      obtain ⟨A, c, rfl, hcr, hF⟩ := HR.out
      have HF := Aside0.mk hF
      clear hF
      by_cases hk1 : 0 < k
      · have hk1z : 0 < (k : Int) := by omega
        obtain ⟨j, rfl⟩ : ∃ j, k = j + 1 := ⟨k - 1, by omega⟩
        have HT2 := Aside0.mk (take_all (.slice A rest.length c) rest wr ⟨A, c, rfl, hcr, Kd.F_now HF.out⟩ (by omega))
        have HPN := Aside0.mk (show partsN (j + 1) rest = (match takeL rest with | none => none | some (k, tail) => if tail.length < k then none else (partsN j (tail.drop k)).map (tail.take k :: ·)) from rfl)
        go_wp2_with fail
        refine HT2.out.mono ?_
        rintro e w2 ⟨v2, n2, tail, ok2, rfl, hn2, hb2, hr2⟩
        rcases TakeR.cases hr2 with ⟨hq, rfl, rfl, rfl⟩ | ⟨m, hq, rfl, rfl, hm, hrl2⟩
        · have HX := Aside0.mk (show partsL bs = none by rw [HPP.out, HPN.out, hq]; rfl)
          have HB2 := Aside0.mk (bb BW.out hb2)
          clear hn2 hb2 hr2 hq
          go_wp2
          go_ret2
          exact ⟨_, _, _, rfl, Kd.N_nil _ _ _ _ _, HB2.out, PartsR.none HX.out⟩
        · obtain ⟨A2, c2, rfl⟩ := Kd.N_slice hn2
          have hc2 := (Kd.N_reads' hn2).2.1
          have HB2 := Aside0.mk (bb BW.out hb2)
          have HN2 := Aside0.mk hn2
          have HBB := Aside0.mk hb2
          have HQ := Aside0.mk hq
          clear hn2 hb2 hr2 hq
          by_cases hmt : (tail.length : Int) < (m : Int)
          · have HX := Aside0.mk (show partsL bs = none by rw [HPP.out, HPN.out, HQ.out]; simp only; rw [if_pos (by omega)]; rfl)
            go_wp2
            go_ret2
            exact ⟨_, _, _, rfl, Kd.N_nil _ _ _ _ _, HB2.out, PartsR.none HX.out⟩
          · have hmt2 : m ≤ tail.length := by omega
            have hmc : m ≤ c2 := by omega
            have HX := Aside0.mk (show partsL bs = (partsN j (tail.drop m)).map ((acc ++ [tail.take m]) ++ ·) by
              rw [HPP.out, HPN.out, HQ.out]; simp only; rw [if_neg (by omega), Option.map_map]
              congr 1; funext l; simp)
            obtain ⟨i5, hi5, hs5⟩ := info5'
            have hcut := cut_from (P := Try.prog) 22 5 .i64 Try.underlying22 hi5 1 hs5 A2 tail.length c2 (m : Int) (by omega) (by omega)
            rw [show ((m : Int)).toNat = m by omega] at hcut
            have HFT := Aside0.mk (Kd.N_F HN2.out)
            have HLT := Aside0.mk (show (tail.take m).length = m by rw [List.length_take]; omega)
            have HV : Aside0 (∃ A c, (Value.slice (if c2 = m then A2 else Option.map (fun x => x.add (m * 1)) A2) (tail.length - m) (c2 - m)) = .slice A (tail.drop m).length c ∧ (tail.drop m).length ≤ c ∧ Kd.F kB w2 (fun k => wr.heap.size ≤ k) A (tail.drop m).length (tail.drop m)) :=
              ⟨(if c2 = m then A2 else Option.map (fun x => x.add (m * 1)) A2), c2 - m, by rw [List.length_drop], by rw [List.length_drop]; omega, Kd.F_cut HFT.out hmt2 hc2⟩
            have HDL := Aside0.mk (show (tail.drop m).length ≤ tail.length by rw [List.length_drop]; omega)
            generalize (Value.slice (if c2 = m then A2 else Option.map (fun x => x.add (m * 1)) A2) (tail.length - m) (c2 - m)) = V at hcut HV
            have HBA := Aside0.mk (show acc.length ≤ 1000000 by omega)
            clear hi5 hs5
            go_wp2_with (at_builtin; refine Kd.N_append kR (w0 := w) w.heap.size rfl (.tmp 37) (.tmp 42) 74 22 (.slice none 0 0) 24 rfl Try.underlying74 info22 rfl (by decide) (by omega) u7 acc (tail.take m) [.slice A2 m m] (fun k => w.heap.size ≤ k) (fun k => wr.heap.size ≤ k) rfl rfl (by have h0 := Kd.FK_slice_mk (c := m) (e := 5) (show (tail.take m).length ≤ m by rw [HLT.out]; exact Nat.le_refl _) (Kd.F_take HFT.out hmt2); rw [HLT.out] at h0; exact h0) (fun k hk => ⟨Nat.le_trans BW.out.size hk, fun he => absurd (Kd.N_lt HN.out k he.symm) (by omega)⟩) (fun k hk => Nat.le_trans HB2.out.size hk) (Kd.N_below HN.out HBB.out) HB2.out HB2.out.size (by have := HBA.out; omega) ?_; intro v3 w3 ho hb hg2 hat; have HO := Aside0.mk ho; have HB3 := Aside0.mk hb; have HG := Aside0.mk hg2; have HAT := Aside0.mk hat; clear ho hb hg2 hat)
            go_roundg j
            case measure => omega
            case rel =>
              obtain ⟨A4, c4, rfl, hc4, hF4⟩ := HV.out
              have hlt := Kd.N_lt HN.out
              have h5 : Kd.F kB w3 (fun k => (wr.heap.size ≤ k ∧ k < w2.heap.size)) A4 (tail.drop m).length (tail.drop m) :=
                Kd.F_step (Kd.F_bound hF4) (fun k hk hlt2 => HG.out.block k hlt2 (fun he => by have := hlt k he.symm; omega))
              have h6 : Kd.F kB w3 (fun k => w.heap.size ≤ k ∧ some k ≠ v3.ownBlock) A4 (tail.drop m).length (tail.drop m) := Kd.F_mono h5 (fun k hk => ⟨Nat.le_trans BW.out.size hk.1, fun he => by
                rcases HAT.out with h | ⟨b, h, hb⟩
                · have := hlt k (by rw [← h]; exact he.symm); omega
                · rw [h] at he; injection he with he; omega⟩)
              exact ⟨j, acc ++ [tail.take m], tail.drop m, by omega, by omega, by go_num, by rw [List.length_append, List.length_singleton]; have := HDL.out; omega, HX, HB3, HO, ⟨A4, c4, rfl, hc4, h6⟩⟩
      · have hk0 : k = 0 := by omega
        subst hk0
        by_cases hre : 0 < (rest.length : Int)
        · have HX := Aside0.mk (show partsL bs = none by
            rw [HPP.out, partsN, if_neg (fun h => by rw [h] at hre; simp at hre)]; rfl)
          go_wp2
          go_ret2
          exact ⟨_, _, _, rfl, Kd.N_nil _ _ _ _ _, BW.out, PartsR.none HX.out⟩
        · have HX := Aside0.mk (show partsL bs = some acc by
            rw [HPP.out, partsN, if_pos (List.eq_nil_of_length_eq_zero (by omega))]; simp)
          go_wp2
          go_ret2
          exact ⟨_, _, _, rfl, HN.out, BW.out, PartsR.some HX.out⟩
end Go.Proofs.Ytmgpoafoljkknaa.My
