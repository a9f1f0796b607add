/- Contracts of the reference's List, Parts, SameBytes and Right. Conditions: bytes are at most a million. -/
import Derived.Test.YtmgpoafoljkknaaZ
namespace Go.Proofs.Ytmgpoafoljkknaa.My
open Go.RowKit Go.Proofs.YtmgpoafoljkknaaW.PrintWords Go.Proofs.YtmgpoafoljkknaaW.PrintLast Go.Proofs.YtmgpoafoljkknaaW.PrintMore PSchemaReads
set_option maxHeartbeats 1000000 in
set_option maxRecDepth 100000 in
theorem list86 (v : Value) (l : List (List UInt8)) (w : World) (hs : Sl kR w v l) (hl : l.flatten.length ≤ 100000000) (hl2 : l.length ≤ 1000000) :
    Calls Try.prog 86 #[v] w (BytP w (listL l)) := by
  have hmax := hs.len
  obtain ⟨A, c, rfl, _, hC⟩ := hs
  have HC := Aside0.mk hC
  have HSM := Aside0.mk (sl_small hC)
  have HTOT := Aside0.mk (show ∀ k, (encN l.length ++ (l.take k).flatMap partB).length ≤ 1000000000 by
    intro k
    have h1 := encN_len9 (show l.length < 9223372036854775808 by omega)
    have h2 := listL_len (l.take k) (fun b hb => sl_small hC b (List.mem_of_mem_take hb))
    have h3 : (l.take k).length ≤ l.length := List.length_take_le' _ _
    have h4 := flat_le (xss := l) k
    rw [List.length_append]
    omega)
  have HNUM := Aside0.mk (num85 (l.length : Int) w (by omega))
  have HNL := Aside0.mk (show numL (l.length : Int) = encN l.length by rw [numL, if_neg (by omega)]; simp)
  clear hC hl hl2
  go_enter Try.func86, Try.ntmps86
  go_wp2_with (go_at_call 85; refine HNUM.out.mono ?_; rintro e w1 ⟨v1, rfl, hn1, hb1⟩)
  have HN1 := Aside0.mk hn1
  have HB1 := Aside0.mk hb1
  clear hn1 hb1
  go_loopg [3, 4] l.length (fun gg s3 s4 wr => ∃ kk : Nat, kk ≤ l.length ∧ l.length - kk ≤ gg ∧ s4 = .int .i64 kk ∧ Aside0 (Below w.heap.size w wr) ∧ Aside0 (Nw kB 5 w.heap.size wr s3 (encN l.length ++ (l.take kk).flatMap partB)))
  case atStart => exact ⟨0, by omega, by omega, rfl, HB1, ⟨by simpa [HNL.out] using HN1.out⟩⟩
  case round =>
    obtain ⟨kk, hkk, hg, rfl, BW, HN⟩ := hrel
    by_cases hlt : kk < l.length
    · have hltz : (kk : Int) < (l.length : Int) := by omega
      obtain ⟨ad, A0, c0, rfl, h00, hc0, hC0⟩ := getR HC.out kk hlt
      have h0 := pw_cell_below BW.out h00
      have HT := Aside0.mk (show encN l.length ++ (l.take (kk + 1)).flatMap partB = encN l.length ++ (l.take kk).flatMap partB ++ numL (l[kk].length : Int) ++ l[kk] by
        rw [flatMap_take hlt, numL, if_neg (by omega), partB]; simp)
      have HTT := Aside0.mk (by have := HTOT.out (kk + 1); rw [HT.out] at this; exact this)
      have HC0 := Aside0.mk hC0
      have HNUM2 := Aside0.mk (num85 (l[kk].length : Int) wr (by have := HSM.out _ (List.getElem_mem hlt); omega))
      clear hC0
      generalize l[kk] = x at h00 h0 HT HTT HC0 HNUM2 hc0
      have H00 := Aside0.mk h00
      clear h00
      generalize encN l.length ++ (l.take kk).flatMap partB = acc at HT HTT HN
      obtain ⟨A3, c3, rfl⟩ := Kd.N_slice HN.out
      go_wp2_with fail
      refine HNUM2.out.mono ?_
      rintro e w2 ⟨v2, rfl, hn2, hb2⟩
      obtain ⟨A2, c2, rfl⟩ := Kd.N_slice hn2
      have h0 := pw_cell_below hb2 h0
      have HN2 := Aside0.mk hn2
      have HB2 := Aside0.mk hb2
      have HBB := Aside0.mk (bb BW.out hb2)
      clear hn2 hb2
      obtain ⟨acc2, hacc2⟩ : ∃ a, acc ++ numL (x.length : Int) = a := ⟨_, rfl⟩
      have HAC := Aside0.mk hacc2
      clear hacc2
      go_wp2_with (first
        | (at_builtin; refine Kd.N_append_rows kB (w0 := w) w.heap.size rfl (.tmp 14) (.tmp 20) 22 5 (.int .u8 0) 1 rfl Try.underlying22 info5 rfl (by decide) (by omega) (.slice A3 acc.length c3) acc (numL (x.length : Int)) A2 (numL (x.length : Int)).length c2 (fun _ => True) (fun k => wr.heap.size ≤ k) rfl rfl (Kd.N_mono (Kd.N_below HN.out HB2.out) (fun _ _ => trivial)) (Kd.N_F HN2.out) (fun k hk => ⟨trivial, fun he => absurd (Kd.N_lt HN.out k he.symm) (by omega)⟩) (fun _ _ => trivial) HBB.out HBB.out.size (by have := HTT.out; simp only [List.length_append] at this ⊢; omega) ?_; intro v3 w3 ho hb hg2 hat; rw [HAC.out] at ho; obtain ⟨A4, c4, rfl⟩ := Kd.N_slice ho; have HO := Aside0.mk (N_flat flatB ho); have HB := Aside0.mk hb; have h03 := pw_cell_below hb H00.out; clear ho hb hg2 hat h0)
        | (at_builtin; refine Kd.N_append_rows kB (w0 := w) w.heap.size rfl (.tmp 22) (.tmp 26) 22 5 (.int .u8 0) 1 rfl Try.underlying22 info5 rfl (by decide) (by omega) (.slice A4 acc2.length c4) acc2 x A0 x.length c0 (fun _ => True) (fun k => k < w.heap.size) rfl rfl (Kd.N_mono HO.out (fun _ _ => trivial)) (F_old heapB HC0.out HB.out) (fun k hk => ⟨trivial, fun he => absurd (Kd.N_base HO.out k he.symm) (by omega)⟩) (fun _ _ => trivial) HB.out HB.out.size (by have := HTT.out; rw [← HAC.out]; simp only [List.length_append] at this ⊢; omega) ?_; intro v5 w5 ho hb hg2 hat; have HO5 := Aside0.mk (N_flat flatB ho); have HB5 := Aside0.mk hb; clear ho hb hg2 hat))
      go_roundg (l.length - (kk + 1))
      case measure => omega
      case rel => exact ⟨kk + 1, by omega, by omega, by go_num, HB5, ⟨by rw [HT.out, HAC.out]; exact HO5.out⟩⟩
    · have hltz : ¬ (kk : Int) < (l.length : Int) := by omega
      have hk : kk = l.length := by omega
      subst hk
      have HN3 := HN.out
      rw [List.take_length] at HN3
      have HN4 := Aside0.mk HN3
      clear HN3
      go_wp2
      go_ret
      exact ⟨_, rfl, HN4.out, BW.out⟩
set_option maxHeartbeats 2000000 in
set_option maxRecDepth 100000 in
theorem parts57 (v : Value) (bs : List UInt8) (w : World) (hs : Sl kB w v bs) (hl : bs.length ≤ 1000000) : Calls Try.prog 57 #[v] w (PartsP w bs) := by
  have HT := Aside0.mk (take102 v bs w hs hl)
  clear hs
  go_enter Try.func57, Try.ntmps57
  go_wp2_with fail
  refine HT.out.mono ?_
  rintro e w1 ⟨v1, n, r, ok, rfl, hn1, hb1, hr⟩
  rcases TakeR.cases hr with ⟨hq, rfl, rfl, rfl⟩ | ⟨k0, hq, rfl, rfl, hk0, hrl⟩
  · have HP := Aside0.mk (show partsL bs = none by rw [partsL, hq])
    have HB := Aside0.mk hb1
    obtain ⟨A1, c1, rfl⟩ := Kd.N_slice hn1
    clear hn1 hb1 hr hq
    go_wp2
    go_loopg [5, 7, 8, 9, 10, 11] 0 (fun _ _ _ s8 _ _ _ wr => s8 = .int .i64 0 ∧ Aside0 (Below w.heap.size w wr))
    case atStart => exact ⟨rfl, ⟨bba HB.out _⟩⟩
    case round =>
      obtain ⟨rfl, BW⟩ := hrel
      go_wp2
      go_ret2
      exact ⟨_, _, _, rfl, Kd.N_nil _ _ _ _ _, BW.out, PartsR.none HP.out⟩
  · have HP := Aside0.mk (show partsL bs = partsN k0 r by rw [partsL, hq])
    have HB := Aside0.mk hb1
    obtain ⟨A1, c1, rfl⟩ := Kd.N_slice hn1
    have HN1 := Aside0.mk hn1
    have hk0z : (k0 : Int) ≤ 9223372036854775807 := by omega
    clear hn1 hb1 hr hq
    go_wp2
    go_loopg [5, 7, 8, 9, 10, 11] k0 (fun gg s5 s7 s8 _ _ _ wr => ∃ (i k : Nat) (acc : List (List UInt8)) (rest : List UInt8), k ≤ gg ∧ i + k = k0 ∧ s8 = .int .i64 i ∧ acc.length + rest.length ≤ bs.length ∧ Aside0 (partsL bs = (partsN k rest).map (acc ++ ·)) ∧ Aside0 (Below w.heap.size w wr) ∧ Aside0 (Nw kR 22 w.heap.size wr s7 acc) ∧ Aside0 (RestP w.heap.size wr s7 s5 rest))
    case atStart =>
      have hcl := (Kd.N_reads' HN1.out).2.1
      refine ⟨0, k0, [], r, Nat.le_refl _, by omega, rfl, by simp; omega, ⟨by rw [HP.out]; simp⟩, ⟨bba HB.out _⟩, ⟨Kd.N_mono (Kd.N_lower (N_empty kR 22 w1 (fun k => w1.heap.size ≤ k) (Nat.le_refl _)) HB.out.size) (fun k hk => Nat.le_trans HB.out.size hk)⟩, ⟨A1, c1, rfl, hcl, ?_⟩⟩
      refine Kd.F_alloc (Kd.F_mono (Kd.F_bound (Kd.N_F HN1.out)) (fun k hk => ⟨hk.1, fun he => ?_⟩)) _
      have h2 : (some k : Option Nat) = some w1.heap.size := he
      injection h2 with h2
      have := hk.2
      omega
    case round =>
      obtain ⟨i, k, acc, rest, hkg, hik, rfl, hlen, HPP, BW, HN, HR⟩ := hrel
      obtain ⟨A, c, rfl, hcr, hF⟩ := HR.out
      have HF := Aside0.mk hF
      clear hF
      by_cases hk1 : 0 < k
      · have hk1z : (i : Int) < (k0 : Int) := by omega
        obtain ⟨j, rfl⟩ : ∃ j, k = j + 1 := ⟨k - 1, by omega⟩
        have HT2 := Aside0.mk (take102 (.slice A rest.length c) rest wr ⟨A, c, rfl, hcr, Kd.F_now HF.out⟩ (by omega))
        have HPN := Aside0.mk (show partsN (j + 1) rest = (match takeL rest with | none => none | some (k, tail) => if tail.length < k then none else (partsN j (tail.drop k)).map (tail.take k :: ·)) from rfl)
        go_wp2_with fail
        refine HT2.out.mono ?_
        rintro e w2 ⟨v2, n2, tail, ok2, rfl, hn2, hb2, hr2⟩
        rcases TakeR.cases hr2 with ⟨hq, rfl, rfl, rfl⟩ | ⟨m, hq, rfl, rfl, hm, hrl2⟩
        · have HX := Aside0.mk (show partsL bs = none by rw [HPP.out, HPN.out, hq]; rfl)
          have HB2 := Aside0.mk (bb BW.out hb2)
          clear hn2 hb2 hr2 hq
          go_wp2
          go_ret2
          exact ⟨_, _, _, rfl, Kd.N_nil _ _ _ _ _, HB2.out, PartsR.none HX.out⟩
        · obtain ⟨A2, c2, rfl⟩ := Kd.N_slice hn2
          have hc2 := (Kd.N_reads' hn2).2.1
          have HB2 := Aside0.mk (bb BW.out hb2)
          have HN2 := Aside0.mk hn2
          have HBB := Aside0.mk hb2
          have HQ := Aside0.mk hq
          clear hn2 hb2 hr2 hq
          by_cases hmt : (tail.length : Int) < (m : Int)
          · have HX := Aside0.mk (show partsL bs = none by rw [HPP.out, HPN.out, HQ.out]; simp only; rw [if_pos (by omega)]; rfl)
            go_wp2
            go_ret2
            exact ⟨_, _, _, rfl, Kd.N_nil _ _ _ _ _, HB2.out, PartsR.none HX.out⟩
          · have hmt2 : m ≤ tail.length := by omega
            have hmc : m ≤ c2 := by omega
            have HX := Aside0.mk (show partsL bs = (partsN j (tail.drop m)).map ((acc ++ [tail.take m]) ++ ·) by
              rw [HPP.out, HPN.out, HQ.out]; simp only; rw [if_neg (by omega), Option.map_map]
              congr 1; funext l; simp)
            obtain ⟨i5, hi5, hs5⟩ := info5'
            have hcut := cut_from (P := Try.prog) 22 5 .i64 Try.underlying22 hi5 1 hs5 A2 tail.length c2 (m : Int) (by omega) (by omega)
            rw [show ((m : Int)).toNat = m by omega] at hcut
            have hcut2 := cut_to (P := Try.prog) 22 5 .i64 Try.underlying22 hi5 A2 tail.length c2 (m : Int) (by omega) (by omega) (by omega)
            rw [Int.toNat_natCast] at hcut2
            have HFT := Aside0.mk (Kd.N_F HN2.out)
            have HLT := Aside0.mk (show (tail.take m).length = m by rw [List.length_take]; omega)
            have HCP := Aside0.mk (copy103 (.slice A2 m c2) (tail.take m) w2 ⟨A2, c2, by rw [HLT.out], by rw [HLT.out]; exact hmc, by have := Kd.C_take (m := m) (Kd.N_reads' HN2.out).2.2 hmt2; exact this⟩ (by rw [HLT.out]; omega))
            have HV : Aside0 (∃ A c, (Value.slice (if c2 = m then A2 else Option.map (fun x => x.add (m * 1)) A2) (tail.length - m) (c2 - m)) = .slice A (tail.drop m).length c ∧ (tail.drop m).length ≤ c ∧ Kd.F kB w2 (fun k => wr.heap.size ≤ k) A (tail.drop m).length (tail.drop m)) :=
              ⟨(if c2 = m then A2 else Option.map (fun x => x.add (m * 1)) A2), c2 - m, by rw [List.length_drop], by rw [List.length_drop]; omega, Kd.F_cut HFT.out hmt2 hc2⟩
            have HDL := Aside0.mk (show (tail.drop m).length ≤ tail.length by rw [List.length_drop]; omega)
            generalize (Value.slice (if c2 = m then A2 else Option.map (fun x => x.add (m * 1)) A2) (tail.length - m) (c2 - m)) = V at hcut HV
            have HBA := Aside0.mk (show acc.length ≤ 1000000 by omega)
            generalize tail.take m = tk at HX HLT HCP
            clear hi5 hs5
            go_wp2_with (first
              | (go_at_call 103; refine HCP.out.mono ?_; rintro e w3 ⟨v3, rfl, hn3, hb3⟩; obtain ⟨A3, c3, rfl⟩ := Kd.N_slice hn3; have HN3 := Aside0.mk hn3; have HB3 := Aside0.mk hb3; have HS3 := Aside0.mk (show w2.heap.size ≤ w3.heap.size from hb3.size); clear hn3 hb3)
              | (at_builtin; refine Kd.N_append kR (w0 := w) w.heap.size rfl (.tmp 41) (.tmp 46) 74 22 (.slice none 0 0) 24 rfl Try.underlying74 info22 rfl (by decide) (by omega) u7 acc tk [.slice A3 tk.length c3] (fun k => w.heap.size ≤ k) (fun k => w2.heap.size ≤ k) rfl rfl (Kd.FK_slice_mk (Kd.N_reads' HN3.out).2.1 (Kd.N_F HN3.out)) (fun k hk => ⟨by have := HB2.out.size; omega, fun he => absurd (Kd.N_lt HN.out k he.symm) (by have := HBB.out.size; omega)⟩) (fun k hk => by have := HB2.out.size; have := HS3.out; omega) (Kd.N_below (Kd.N_below HN.out HBB.out) HB3.out) (bb HB2.out HB3.out) (by have := HB2.out.size; have := HS3.out; omega) (by have := HBA.out; omega) ?_; intro v4 w4 ho hb hg2 hat; have HO := Aside0.mk ho; have HB4 := Aside0.mk hb; have HG := Aside0.mk hg2; have HAT := Aside0.mk hat; clear ho hb hg2 hat))
            go_roundg j
            case measure => omega
            case rel =>
              obtain ⟨A5, c5, rfl, hc5, hF5⟩ := HV.out
              have hlt := Kd.N_lt HN.out
              have h4 : Kd.F kB w3 (fun k => (wr.heap.size ≤ k ∧ k < w2.heap.size)) A5 (tail.drop m).length (tail.drop m) := Kd.F_below (Kd.F_bound hF5) HB3.out
              have h5 : Kd.F kB w4 (fun k => (wr.heap.size ≤ k ∧ k < w2.heap.size)) A5 (tail.drop m).length (tail.drop m) :=
                Kd.F_step h4 (fun k hk hlt2 => HG.out.block k hlt2 (fun he => by have := hlt k he.symm; omega))
              have h6 : Kd.F kB w4 (fun k => w.heap.size ≤ k ∧ some k ≠ v4.ownBlock) A5 (tail.drop m).length (tail.drop m) := Kd.F_mono h5 (fun k hk => ⟨Nat.le_trans BW.out.size hk.1, fun he => by
                rcases HAT.out with h | ⟨b, h, hb⟩
                · have := hlt k (by rw [← h]; exact he.symm); omega
                · rw [h] at he; injection he with he; have := HS3.out; omega⟩)
              exact ⟨i + 1, j, acc ++ [tk], tail.drop m, by omega, by omega, by go_num, by rw [List.length_append, List.length_singleton]; have := HDL.out; omega, HX, HB4, HO, ⟨A5, c5, rfl, hc5, h6⟩⟩
      · have hk0' : ¬ (i : Int) < (k0 : Int) := by omega
        have hkz : k = 0 := by omega
        subst hkz
        by_cases hre : 0 < (rest.length : Int)
        · have HX := Aside0.mk (show partsL bs = none by
            rw [HPP.out, partsN, if_neg (fun h => by rw [h] at hre; simp at hre)]; rfl)
          go_wp2
          go_ret2
          exact ⟨_, _, _, rfl, Kd.N_nil _ _ _ _ _, BW.out, PartsR.none HX.out⟩
        · have HX := Aside0.mk (show partsL bs = some acc by
            rw [HPP.out, partsN, if_pos (List.eq_nil_of_length_eq_zero (by omega))]; simp)
          go_wp2
          go_ret2
          exact ⟨_, _, _, rfl, HN.out, BW.out, PartsR.some HX.out⟩
end Go.Proofs.Ytmgpoafoljkknaa.My
