/- Contracts of the reference's bytes: CopyBytes, Num, Take, List, num, SameBytes. Conditions: bytes are at most a million. -/
import Derived.Test.YtmgpoafoljkknaaV
namespace Go.Proofs.Ytmgpoafoljkknaa.My
open Go.RowKit Go.Proofs.YtmgpoafoljkknaaW.PrintWords Go.Proofs.YtmgpoafoljkknaaW.PrintLast Go.Proofs.YtmgpoafoljkknaaW.PrintMore PSchemaReads
def BytP (w : World) (l : List UInt8) (e : Ending) (w' : World) : Prop := ∃ v1, e = .returned v1 ∧ Nw kB 5 w.heap.size w' v1 l ∧ Below w.heap.size w w'
set_option maxHeartbeats 1000000 in
set_option maxRecDepth 100000 in
theorem copy103 (v : Value) (xs : List UInt8) (w : World) (hs : Sl kB w v xs) (hl : xs.length ≤ 1000000) : Calls Try.prog 103 #[v] w (BytP w xs) := by
  obtain ⟨A, c, rfl, _, hC⟩ := hs
  have HL := Aside0.mk hl
  have HC := Aside0.mk hC
  clear hl hC
  go_enter Try.func103, Try.ntmps103
  go_wp2_with (at_builtin; (refine Kd.N_append_rows kB (w0 := w) w.heap.size rfl (.tmp 5) (.tmp 6) 22 5 (.int .u8 0) 1 rfl Try.underlying22 info5 rfl (by decide) (by omega) (.slice (some ⟨w.heap.size, 0, none⟩) 0 0) [] xs A xs.length c (fun _ => True) (fun k => k < w.heap.size) rfl rfl (N_empty _ _ _ _ trivial) (F_old heapB HC.out ((Below.refl _ _).alloc (Nat.le_refl _) _)) (fun k hk => ⟨trivial, fun he => by simp [Value.ownBlock] at he; omega⟩) (fun _ _ => trivial) ((Below.refl _ _).alloc (Nat.le_refl _) _) (by simp) (by have := HL.out; simp; omega) ?_); intro v1 w1 ho hb hg2 hat; have HO := Aside0.mk ho; have HB := Aside0.mk hb; clear ho hb hg2 hat)
  go_ret
  exact ⟨_, rfl, N_flat flatB HO.out, HB.out⟩
theorem low_byte3 (n : Nat) : ((128 : Int) + (n : Int) % 128) % 256 = (((UInt8.ofNat (128 + n % 128)).toNat : Nat) : Int) := by
  simp [UInt8.toNat_ofNat']
set_option maxHeartbeats 1000000 in
set_option maxRecDepth 100000 in
theorem num85 (n : Int) (w : World) (hn : n ≤ 9223372036854775807) : Calls Try.prog 85 #[.int .i64 n] w (BytP w (numL n)) := by
  by_cases h0 : n < 0
  · have HR := Aside0.mk (show numL n = [] by rw [numL, if_pos h0])
    go_enter Try.func85, Try.ntmps85
    go_wp2
    go_ret
    exact ⟨_, rfl, by rw [HR.out]; exact N_flat flatB (N_empty kB 5 w (fun _ => True) trivial), below_alloc (Below.refl _ _) _⟩
  · obtain ⟨m, rfl⟩ := Int.eq_ofNat_of_zero_le (show 0 ≤ n by omega)
    have HR := Aside0.mk (show numL (m : Int) = encN m by rw [numL, if_neg (by omega)]; simp)
    have hm : m < 9223372036854775808 := by omega
    have HL9 := Aside0.mk (encN_len9 hm)
    clear hn
    go_enter Try.func85, Try.ntmps85
    go_wp2
    go_loopg [0, 3] m (fun gg s0 s3 wr => ∃ (k : Nat) (acc : List UInt8), k ≤ gg ∧ k < 9223372036854775808 ∧ s0 = .int .i64 k ∧ Aside0 (encN m = acc ++ encN k) ∧ Aside0 (Below w.heap.size w wr) ∧ Aside0 (Nw kB 5 w.heap.size wr s3 acc))
    case atStart => exact ⟨m, [], Nat.le_refl _, hm, rfl, ⟨rfl⟩, ⟨below_alloc (Below.refl _ _) _⟩, ⟨N_flat flatB (N_empty kB 5 w (fun _ => True) trivial)⟩⟩
    case round =>
      obtain ⟨k, acc, hkg, hk, rfl, HE, BW, HN⟩ := hrel
      have HAL := Aside0.mk (show acc.length ≤ 9 by have := HL9.out; rw [HE.out, List.length_append] at this; omega)
      by_cases hb : k < 128
      · have hbz : ¬ 128 ≤ (k : Int) := by omega
        have HB := Aside0.mk (low_byte2 k hb)
        have HE2 := Aside0.mk (HE.out.trans (by rw [encN_small hb]))
        go_wp2_with (at_builtin; refine Kd.N_append kB (w0 := w) w.heap.size rfl (.tmp 19) (.tmp 22) 22 5 (.int .u8 0) 1 rfl Try.underlying22 info5 rfl (by decide) (by omega) u3 acc (UInt8.ofNat k) [.int .u8 (k : Int)] (fun k => w.heap.size ≤ k) (fun _ => False) rfl rfl (show Kd.FK kB _ _ (UInt8.ofNat k) [.int .u8 (k : Int)] by rw [HB.out]; exact fkB _) (fun _ hk => hk.elim) (fun k hk => Nat.le_trans BW.out.size hk) HN.out BW.out BW.out.size (by have := HAL.out; omega) ?_; intro v1 w1 ho hb hg2 hat; have HO := Aside0.mk ho; have HB := Aside0.mk hb; clear ho hb hg2 hat)
        go_ret
        exact ⟨_, rfl, by rw [HR.out, HE2.out]; exact HO.out, HB.out⟩
      · have hbz : 128 ≤ (k : Int) := by omega
        have HB := Aside0.mk (low_byte3 k)
        have HE2 := Aside0.mk (HE.out.trans (by rw [encN_big hb]))
        go_wp2_with (at_builtin; refine Kd.N_append kB (w0 := w) w.heap.size rfl (.tmp 10) (.tmp 15) 22 5 (.int .u8 0) 1 rfl Try.underlying22 info5 rfl (by decide) (by omega) u3 acc (UInt8.ofNat (128 + k % 128)) [.int .u8 (128 + (k : Int) % 128)] (fun k => w.heap.size ≤ k) (fun _ => False) rfl rfl (show Kd.FK kB _ _ (UInt8.ofNat (128 + k % 128)) [.int .u8 (128 + (k : Int) % 128)] by have := HB.out; rw [show (128 + (k : Int) % 128) = (((UInt8.ofNat (128 + k % 128)).toNat : Nat) : Int) by omega]; exact fkB _) (fun _ hk => hk.elim) (fun k hk => Nat.le_trans BW.out.size hk) HN.out BW.out BW.out.size (by have := HAL.out; omega) ?_; intro v1 w1 ho hb hg2 hat; have HO := Aside0.mk ho; have HB := Aside0.mk hb; clear ho hb hg2 hat)
        go_roundg (k / 128)
        case measure => omega
        case rel => exact ⟨k / 128, acc ++ [UInt8.ofNat (128 + k % 128)], by omega, by omega, by go_num, ⟨by rw [HE2.out, List.append_assoc]; rfl⟩, HB, HO⟩

theorem acc_step2 {acc x kk : Nat} (hk : kk ≤ 8) (ha : acc < 128 ^ kk) :
    wrap64 ((acc : Int) + wrap64 (((x : Int) % 128) * ((128 ^ kk : Nat) : Int))) = ((acc + x % 128 * 128 ^ kk : Nat) : Int) ∧ acc + x % 128 * 128 ^ kk < 128 ^ (kk + 1) := by
  have hle : 128 ^ (kk + 1) ≤ 9223372036854775808 := by
    have : 128 ^ (kk + 1) ≤ 128 ^ 9 := Nat.pow_le_pow_right (by omega) (by omega)
    simpa using this
  have hlt : acc + x % 128 * 128 ^ kk < 128 ^ (kk + 1) := by
    rw [Nat.pow_succ]
    have : x % 128 ≤ 127 := by omega
    have := Nat.mul_le_mul_right (128 ^ kk) this
    omega
  have e1 : ((x : Int) % 128) * ((128 ^ kk : Nat) : Int) = ((x % 128 * 128 ^ kk : Nat) : Int) := by simp
  have e2 : wrap64 ((x % 128 * 128 ^ kk : Nat) : Int) = ((x % 128 * 128 ^ kk : Nat) : Int) := by unfold wrap64; omega
  refine ⟨?_, hlt⟩
  rw [e1, e2, ← Int.natCast_add]
  unfold wrap64; omega
theorem pow_small {kk : Nat} (hk : kk ≤ 8) : wrap64 ((128 ^ kk : Nat) : Int) = ((128 ^ kk : Nat) : Int) := by
  have h : 128 ^ kk ≤ 128 ^ 8 := Nat.pow_le_pow_right (by omega) hk
  have e : (128 : Nat) ^ 8 = 72057594037927936 := by decide
  rw [e] at h
  generalize 128 ^ kk = p at h
  unfold wrap64; omega
theorem pow_next (kk : Nat) : wrap64 (((128 ^ kk : Nat) : Int) * 128) = wrap64 ((128 ^ (kk + 1) : Nat) : Int) := by
  rw [Nat.pow_succ]; simp
set_option maxHeartbeats 2000000 in
set_option maxRecDepth 100000 in
theorem take102 (v : Value) (bs : List UInt8) (w : World) (hs : Sl kB w v bs) (hl : bs.length ≤ 1000000) : Calls Try.prog 102 #[v] w (TakeP w bs) := by
  obtain ⟨A, c, rfl, hc, hC⟩ := hs
  have HC := Aside0.mk hC
  clear hC
  go_enter Try.func102, Try.ntmps102
  go_wp2
  go_loopg [5, 6, 7] 9 (fun gg s5 s6 s7 wr => ∃ kk acc : Nat, kk ≤ bs.length ∧ kk ≤ 9 ∧ 9 - kk ≤ gg ∧ s7 = .int .i64 kk ∧ s5 = .int .i64 acc ∧ s6 = .int .i64 (wrap64 ((128 ^ kk : Nat) : Int)) ∧ Aside0 (acc < 128 ^ kk) ∧ Aside0 (takeL bs = (tkFrom (9 - kk) (kk == 0) (bs.drop kk)).map (fun p => (acc + 128 ^ kk * p.1, p.2))) ∧ wr = w)
  case atStart => exact ⟨0, 0, by omega, by omega, by omega, rfl, rfl, by rw [pow_small (by omega)]; rfl, ⟨by simp⟩, ⟨by simp [takeL]⟩, rfl⟩
  case round =>
    obtain ⟨kk, acc, hkk, hk9, hg, rfl, rfl, rfl, HB, HT, rfl⟩ := hrel
    by_cases hlt : kk < bs.length
    · have hltz : (kk : Int) < (bs.length : Int) := by omega
      by_cases h9 : kk < 9
      · have h9z : (kk : Int) < 9 := by omega
        have hlb : kk < bs.length := by omega
        obtain ⟨ad, rfl, h0⟩ := getB HC.out kk hlb
        have hb : bs[kk].toNat < 256 := bs[kk].toNat_lt
        have HA := Aside0.mk (acc_step2 (x := bs[kk].toNat) (kk := kk) (by omega) HB.out)
        have HPN := Aside0.mk (pow_next kk)
        rw [pow_small (show kk ≤ 8 by omega)]
        obtain ⟨p, hp⟩ : ∃ p, 128 ^ kk = p := ⟨_, rfl⟩
        have HP := Aside0.mk hp
        have hpb : (p : Int) ≤ 72057594037927936 := by
          have : 128 ^ kk ≤ 128 ^ 8 := Nat.pow_le_pow_right (by omega) (by omega)
          have e : (128 : Nat) ^ 8 = 72057594037927936 := by decide
          omega
        rw [hp] at HA HPN
        simp only [hp]
        clear hp
        obtain ⟨j, hj⟩ : ∃ j, 9 - kk = j + 1 := ⟨8 - kk, by omega⟩
        have HT2 := Aside0.mk (show takeL bs = (if 128 ≤ bs[kk].toNat then (tkFrom j false (bs.drop (kk + 1))).map (fun p => (bs[kk].toNat % 128 + 128 * p.1, p.2)) else if (kk == 0) = false ∧ bs[kk].toNat = 0 then none else some (bs[kk].toNat, bs.drop (kk + 1))).map (fun p => (acc + 128 ^ kk * p.1, p.2)) by
          rw [HT.out, List.drop_eq_getElem_cons hlb, hj, tkFrom])
        have HS := Aside0.mk (fun W (hW : Below wr.heap.size wr W) => copy103 _ (bs.drop (kk + 1)) W ((sl_drop (m := kk + 1) HC.out (by omega) hc).below hW) (by rw [List.length_drop]; omega))
        obtain ⟨i5, hi5, hs5⟩ := info5'
        have hcut := cut_from (P := Try.prog) 22 5 .i64 Try.underlying22 hi5 1 hs5 (some ad) bs.length c ((kk : Int) + 1) (by omega) (by omega)
        rw [show ((kk : Int) + 1).toNat = kk + 1 by omega] at hcut
        rw [show kB.sz = 1 from rfl] at HS
        generalize hV : (Value.slice (if c = kk + 1 then some ad else Option.map (fun x => x.add ((kk + 1) * 1)) (some ad)) (bs.length - (kk + 1)) (c - (kk + 1))) = V at hcut HS
        clear hV hi5 hs5
        generalize bs[kk].toNat = x at h0 hb HA HT2
        generalize hrest : bs.drop (kk + 1) = rest at HT2 HS
        have HREST := Aside0.mk hrest
        clear hrest
        by_cases c1 : 128 ≤ x
        · have q1 : ¬ (x : Int) < 128 := by omega
          have HT2 := Aside0.mk (HT2.out.trans (by rw [if_pos c1]))
          go_wp2
          go_roundg (9 - (kk + 1))
          case measure => omega
          case rel =>
            refine ⟨kk + 1, acc + x % 128 * p, by omega, by omega, by omega, by go_num, by rw [HA.out.1], by rw [HPN.out], ⟨HA.out.2⟩, ⟨?_⟩, rfl⟩
            rw [HT2.out, show 9 - (kk + 1) = j by omega, show (kk + 1 == 0) = false from rfl, HREST.out, Option.map_map]
            congr 1
            funext q
            simp only [Function.comp_apply, ← HP.out, pow_step]
        · have q1 : (x : Int) < 128 := by omega
          have HX := Aside0.mk (show ((acc + x % 128 * p : Nat) : Int) = ((acc + 128 ^ kk * x : Nat) : Int) by
            rw [Nat.mod_eq_of_lt (show x < 128 by omega), Nat.mul_comm x, HP.out])
          by_cases c2 : 0 < (kk : Int)
          · have c2n : 0 < kk := by omega
            by_cases c3 : x = 0
            · have q3 : ((x : Int) == 0) = true := by rw [beq_iff_eq]; omega
              have HN := Aside0.mk (show takeL bs = none by
                rw [HT2.out, if_neg c1, if_pos ⟨by simp; omega, c3⟩]; rfl)
              go_wp2
              go_ret3
              exact ⟨_, _, _, _, rfl, Kd.N_nil _ _ _ _ _, Below.refl _ _, TakeR.none HN.out⟩
            · have q3 : ((x : Int) == 0) = false := by rw [beq_eq_false_iff_ne]; omega
              have HN := Aside0.mk (show takeL bs = some (acc + 128 ^ kk * x, rest) by
                rw [HT2.out, if_neg c1, if_neg (fun h => c3 h.2)]; rfl)
              go_wp2_with (go_at_call 103; refine (HS.out _ (Below.refl _ _)).mono ?_; rintro e w' ⟨v1, rfl, hn, hb'⟩)
              go_ret3
              exact ⟨_, _, _, _, by rw [HA.out.1, HX.out]; rfl, hn, hb', TakeR.some HN.out⟩
          · have HN := Aside0.mk (show takeL bs = some (acc + 128 ^ kk * x, rest) by
              have h0 : kk = 0 := by omega
              rw [HT2.out, if_neg c1, if_neg (fun h => by simp [h0] at h)]; rfl)
            go_wp2_with (go_at_call 103; refine (HS.out _ (Below.refl _ _)).mono ?_; rintro e w' ⟨v1, rfl, hn, hb'⟩)
            go_ret3
            exact ⟨_, _, _, _, by rw [HA.out.1, HX.out]; rfl, hn, hb', TakeR.some HN.out⟩
      · have h9z : ¬ (kk : Int) < 9 := by omega
        have HN := Aside0.mk (show takeL bs = none by
          rw [HT.out, show 9 - kk = 0 by omega, tkFrom]; rfl)
        go_wp2
        go_ret3
        exact ⟨_, _, _, _, rfl, Kd.N_nil _ _ _ _ _, Below.refl _ _, TakeR.none HN.out⟩
    · have hltz : ¬ (kk : Int) < (bs.length : Int) := by omega
      have HN := Aside0.mk (show takeL bs = none by
        rw [HT.out, List.drop_of_length_le (by omega), tk_nil]; rfl)
      go_wp2
      go_ret3
      exact ⟨_, _, _, _, rfl, Kd.N_nil _ _ _ _ _, Below.refl _ _, TakeR.none HN.out⟩
theorem num58 (v : Value) (bs : List UInt8) (w : World) (hs : Sl kB w v bs) (hl : bs.length ≤ 1000000) : Calls Try.prog 58 #[v] w fun e w' => e = .returned (.int .i64 (numOf bs)) ∧ Below w.heap.size w w' := by
  have HT := Aside0.mk (take102 v bs w hs hl)
  obtain ⟨A, c, rfl, _, _⟩ := hs
  go_enter Try.func58, Try.ntmps58
  go_wp2_with fail
  refine HT.out.mono ?_
  rintro e w2 ⟨v1, n, r, ok, rfl, hn, hb, hr⟩
  have HN := Aside0.mk hr.num
  have HB := Aside0.mk hb
  clear hn hb hr
  go_wp2
  go_ret
  exact ⟨by rw [HN.out]; rfl, HB.out⟩
end Go.Proofs.Ytmgpoafoljkknaa.My
