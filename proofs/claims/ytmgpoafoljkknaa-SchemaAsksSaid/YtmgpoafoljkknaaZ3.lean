/- Contracts of the reference's SameBytes and Right. Conditions: a family's name has at most a million bytes. -/
import Derived.Test.YtmgpoafoljkknaaV
namespace Go.Proofs.Ytmgpoafoljkknaa.My
open Go.RowKit Go.Proofs.YtmgpoafoljkknaaW.PrintWords Go.Proofs.YtmgpoafoljkknaaW.PrintLast Go.Proofs.YtmgpoafoljkknaaW.PrintMore PSchemaReads
set_option maxHeartbeats 1000000 in
set_option maxRecDepth 100000 in
theorem same40_any (v u : Value) (xs ys : List UInt8) (w : World) (hs : Sl kB w v xs) (hu : Sl kB w u ys) : Calls Try.prog 40 #[v, u] w (RetB w (decide (xs = ys))) := by
  have hmax := hs.len
  have hmax2 := hu.len
  obtain ⟨A, c, rfl, _, hC⟩ := hs
  obtain ⟨B, d, rfl, _, hD⟩ := hu
  have HC := Aside0.mk hC
  have HD := Aside0.mk hD
  clear hC hD
  by_cases hlen : xs.length = ys.length
  rotate_left
  · have q2 : ((xs.length : Int) != (ys.length : Int)) = true := by rw [bne_iff_ne]; omega
    have q3 : (xs.length != ys.length) = true := by rw [bne_iff_ne]; omega
    have HR := Aside0.mk (show decide (xs = ys) = false from decide_eq_false (fun h => hlen (by rw [h])))
    clear hlen
    go_enter Try.func40, Try.ntmps40
    go_wp2
    go_ret
    exact ⟨by rw [HR.out]; rfl, Below.refl _ _⟩
  · have q2 : ((xs.length : Int) != (ys.length : Int)) = false := by rw [bne_eq_false_iff_eq]; omega
    have q3 : (xs.length != ys.length) = false := by rw [bne_eq_false_iff_eq]; omega
    have HL := Aside0.mk hlen
    clear hlen
    go_enter Try.func40, Try.ntmps40
    go_wp2
    clear q2 q3
    go_loopg [5] xs.length (fun gg s5 wr => ∃ kk : Nat, kk ≤ xs.length ∧ xs.length - kk ≤ gg ∧ s5 = .int .i64 kk ∧ Aside0 (Below w.heap.size w wr) ∧ Aside0 (xs.take kk = ys.take kk))
    case atStart => exact ⟨0, Nat.zero_le _, by omega, rfl, ⟨Below.refl _ _⟩, ⟨by simp⟩⟩
    case round =>
      obtain ⟨kk, hkk, hg, rfl, BW, HA⟩ := hrel
      by_cases hlt : kk < xs.length
      · have hltz : (kk : Int) < (xs.length : Int) := by omega
        have hlt2 : kk < ys.length := by have := HL.out; omega
        have hltz2 : (kk : Int) < (ys.length : Int) := by omega
        obtain ⟨ad, rfl, h0⟩ := getB (Kd.C_below HC.out BW.out) kk hlt
        obtain ⟨bd, rfl, k0⟩ := getB (Kd.C_below HD.out BW.out) kk hlt2
        have HT := Aside0.mk (fun h : xs[kk] = ys[kk] => show xs.take (kk + 1) = ys.take (kk + 1) by
          rw [List.take_succ_eq_append_getElem hlt, List.take_succ_eq_append_getElem hlt2, HA.out, h])
        have HF := Aside0.mk (fun h : ¬ xs[kk] = ys[kk] => show decide (xs = ys) = false from decide_eq_false (fun e => h (by subst e; rfl)))
        generalize xs[kk] = x at h0 HT HF
        generalize ys[kk] = y at k0 HT HF
        by_cases q : x = y
        · have q2 : ((x.toNat : Int) != (y.toNat : Int)) = false := by rw [q]; simp
          have q3 : (x.toNat != y.toNat) = false := by rw [q]; simp
          have q4 : (x != y) = false := by rw [q]; simp
          have HT2 := Aside0.mk (HT.out q)
          clear q
          go_wp2
          go_quiet (fail)
          go_wp2
          go_roundg (xs.length - (kk + 1))
          case measure => omega
          case rel => exact ⟨kk + 1, by omega, by omega, by go_num, ⟨below_dN BW.out _⟩, HT2⟩
        · have hne : x.toNat ≠ y.toNat := fun h => q (UInt8.toNat_inj.1 h)
          have q2 : ((x.toNat : Int) != (y.toNat : Int)) = true := by rw [bne_iff_ne]; omega
          have q3 : (x.toNat != y.toNat) = true := by rw [bne_iff_ne]; exact hne
          have q4 : (x != y) = true := by rw [bne_iff_ne]; exact q
          have HF2 := Aside0.mk (HF.out q)
          clear q hne
          go_wp2
          go_quiet (fail)
          go_wp2
          go_ret
          exact ⟨by rw [HF2.out]; rfl, below_dN BW.out _⟩
      · have hltz : ¬ (kk : Int) < (xs.length : Int) := by omega
        have HE := Aside0.mk (show decide (xs = ys) = true from decide_eq_true (by
          have h := HA.out
          have hL := HL.out
          rw [List.take_of_length_le (by omega), List.take_of_length_le (by omega)] at h
          exact h))
        go_wp2
        go_ret
        exact ⟨by rw [HE.out]; rfl, BW.out⟩
attribute [local go_sem high] eqA26
theorem right_no1 {s : Sch} (h : withinB s.ver 1 1099511627776 = false) : rightB s = false := by rw [rightB, h]; rfl
theorem right_no2 {s : Sch} (h : ¬ s.fams.length ≤ 6) : rightB s = false := by rw [rightB, decide_eq_false h]; simp
theorem right_no3 {s : Sch} {f : S40} (hm : f ∈ s.fams) (h : familyB f = false) : rightB s = false := by
  have : s.fams.all familyB = false := List.all_eq_false.2 ⟨f, hm, by rw [h]; simp⟩
  rw [rightB, this]; simp
theorem right_no4 {s : Sch} {i j : Nat} (hi : i < s.fams.length) (hj : j < s.fams.length) (hij : i ≠ j) (h : s.fams[i].f0 = s.fams[j].f0) : rightB s = false := by
  have : decide (s.fams.map (·.f0)).Nodup = false := decide_eq_false (fun hn => by
    have := nodup_at hn (i := i) (j := j) (by simpa using hi) (by simpa using hj) hij
    simp only [List.getElem_map] at this
    exact this h)
  rw [rightB, this]; simp
theorem right_end {s : Sch} (h1 : withinB s.ver 1 1099511627776 = true) (h2 : s.fams.length ≤ 6) (h : ∀ j (hj : j < s.fams.length), familyB s.fams[j] = true ∧ ∀ i (hi : i < j), s.fams[i].f0 ≠ s.fams[j].f0) :
    rightB s = (if s.kind = 0 then zeroB s && s.step == 0 else withinB s.kind 1 5 && withinB s.step 1 9) := by
  have e1 : s.fams.all familyB = true := List.all_eq_true.2 fun y hy => by
    obtain ⟨j, hj, rfl⟩ := List.getElem_of_mem hy
    exact (h j hj).1
  have e2 : (s.fams.map (·.f0)).Nodup := by
    rw [List.Nodup, List.pairwise_iff_getElem]
    intro i j hi hj hij
    simp only [List.getElem_map]
    exact (h j (by simpa using hj)).2 i hij
  rw [rightB, h1, e1, decide_eq_true e2, decide_eq_true h2]; simp
abbrev ScObj (s : Sch) (A : Option Addr) (c : Nat) : Obj := .cells #[.int .i64 s.ver, .slice A s.fams.length c, .int .i64 s.kind, .string s.fam, .string s.qual, .int .i64 s.typ, .int .i64 s.grp, .int .i64 s.vers, .int .i64 s.life, .int .i64 s.step] 28
set_option maxHeartbeats 4000000 in
set_option maxRecDepth 100000 in
theorem right32_any (v : Value) (s : Sch) (w : World) (h : Sc w v s) (hsz : ∀ f ∈ s.fams, f.f0.size ≤ 1000000) : Calls Try.prog 32 #[v] w (RetB w (rightB s)) := by
  obtain ⟨vf, rfl, hs⟩ := h
  have hmax := hs.len
  obtain ⟨A, c, rfl, _, hC⟩ := hs
  have HC := Aside0.mk hC
  have HSZ := Aside0.mk hsz
  clear hC hsz
  have HB0 := Aside0.mk (below_alloc (Below.refl _ w) (ScObj s A c))
  have HA0 := Aside0.mk (blk_new w #[.int .i64 s.ver, .slice A s.fams.length c, .int .i64 s.kind, .string s.fam, .string s.qual, .int .i64 s.typ, .int .i64 s.grp, .int .i64 s.vers, .int .i64 s.life, .int .i64 s.step] 28)
  by_cases c1 : s.ver < 1
  · have HF := Aside0.mk (show rightB s = false from right_no1 (by simp [withinB]; omega))
    go_enter Try.func32, Try.ntmps32
    go_wp2
    go_ret
    exact ⟨by rw [HF.out]; rfl, HB0.out⟩
  by_cases c2 : 1099511627776 < s.ver
  · have HF := Aside0.mk (show rightB s = false from right_no1 (by simp [withinB]; omega))
    go_enter Try.func32, Try.ntmps32
    go_wp2
    go_ret
    exact ⟨by rw [HF.out]; rfl, HB0.out⟩
  by_cases c3 : 6 < (s.fams.length : Int)
  · have HF := Aside0.mk (show rightB s = false from right_no2 (by omega))
    go_enter Try.func32, Try.ntmps32
    go_wp2
    go_ret
    exact ⟨by rw [HF.out]; rfl, HB0.out⟩
  have HLEN := Aside0.mk (show withinB s.ver 1 1099511627776 = true ∧ s.fams.length ≤ 6 from ⟨by simp [withinB]; omega, by omega⟩)
  go_enter Try.func32, Try.ntmps32
  go_wp2
  clear c1 c2 c3
  obtain ⟨wa, hwa⟩ : ∃ wa, w.alloc (ScObj s A c) = wa := ⟨_, rfl⟩
  rw [hwa] at HA0 HB0
  have hwa2 : w.alloc (.cells #[.int .i64 s.ver, .slice A s.fams.length c, .int .i64 s.kind, .string s.fam, .string s.qual, .int .i64 s.typ, .int .i64 s.grp, .int .i64 s.vers, .int .i64 s.life, .int .i64 s.step] 28) = wa := hwa
  rw [hwa2]
  clear hwa hwa2
  have ga := blk_cell HA0.out
  go_loopg [3, 4] s.fams.length (fun gg s3 _ wr => ∃ kk : Nat, kk ≤ s.fams.length ∧ s.fams.length - kk ≤ gg ∧ s3 = .int .i64 kk ∧ Aside0 (Below w.heap.size w wr) ∧ Aside0 (wr.heap[w.heap.size]? = some (ScObj s A c)) ∧ Aside0 (∀ j (hj : j < s.fams.length), j < kk → familyB s.fams[j] = true ∧ ∀ i (hi : i < j), s.fams[i].f0 ≠ s.fams[j].f0))
  case atStart => exact ⟨0, Nat.zero_le _, by omega, rfl, HB0, HA0, ⟨fun j hj h => absurd h (Nat.not_lt_zero _)⟩⟩
  case round =>
    clear HA0 HB0 ga
    obtain ⟨kk, hkk, hg, rfl, BW, HG, HA⟩ := hrel
    obtain ⟨w2, rfl⟩ : ∃ w2 : World, w2 = wr := ⟨_, rfl⟩
    by_cases hlt : kk < s.fams.length
    · have hltz : (kk : Int) < (s.fams.length : Int) := by omega
      have ga := blk_cell HG.out
      obtain ⟨ad, A3, c3, A4, c4, rfl, h0, h1, h2, h3, h4, hfm⟩ := get40 (Kd.C_below HC.out BW.out) kk hlt
      have HMEM := Aside0.mk (List.getElem_mem hlt)
      have HNO := Aside0.mk (fun (j : Nat) (hj : j < s.fams.length) (hjk : j ≠ kk) (h : s.fams[j].f0 = s.fams[kk].f0) => right_no4 hj hlt hjk h)
      have HOKK := Aside0.mk (fun (hl : familyB s.fams[kk] = true) (h0 : ∀ i (hi : i < kk), s.fams[i].f0 ≠ s.fams[kk].f0) j (hj : j < s.fams.length) (h : j < kk + 1) => show familyB s.fams[j] = true ∧ ∀ i (hi : i < j), s.fams[i].f0 ≠ s.fams[j].f0 by
        by_cases e : j = kk
        · subst e; exact ⟨hl, h0⟩
        · exact HA.out j hj (by omega))
      generalize s.fams[kk] = x at h0 h1 h2 h3 h4 hfm HMEM HNO HOKK
      have HFAM := Aside0.mk (fun W (hb : Below w2.heap.size w2 W) => refFamily_any _ x W (hfm.below hb) (HSZ.out x HMEM.out))
      have H00 := Aside0.mk h0
      clear hfm
      rcases hq : familyB x with _ | _
      · have HF := Aside0.mk (show rightB s = false from right_no3 HMEM.out hq)
        go_wp2_with fail
        refine (HFAM.out _ (Below.refl _ _)).mono ?_
        rw [hq]
        rintro e w3 ⟨rfl, hb⟩
        have HB3 := Aside0.mk (bb BW.out hb)
        clear hb
        go_wp2
        go_ret
        exact ⟨by rw [HF.out]; rfl, HB3.out⟩
      · have HLT := Aside0.mk hq
        go_wp2_with fail
        refine (HFAM.out _ (Below.refl _ _)).mono ?_
        rw [hq]
        rintro e w3 ⟨rfl, hb⟩
        have HB3 := Aside0.mk (bb BW.out hb)
        have HG3 := Aside0.mk (blk_keep hb HG.out)
        have H03 := Aside0.mk (pw_cell_below hb H00.out)
        clear hb h0 h1 h2 h3 h4 ga hq
        go_wp2
        go_loopg [4] kk (fun gg s4 w4 => ∃ jj : Nat, jj ≤ kk ∧ kk - jj ≤ gg ∧ s4 = .int .i64 jj ∧ Aside0 (Below w3.heap.size w3 w4) ∧ Aside0 (∀ j (hj : j < s.fams.length), j < jj → s.fams[j].f0 ≠ x.f0))
        case atStart => exact ⟨0, Nat.zero_le _, by omega, rfl, ⟨Below.refl _ _⟩, ⟨fun j hj h => absurd h (Nat.not_lt_zero _)⟩⟩
        case round =>
          obtain ⟨jj, hjj, hg2, rfl, HB4, HJ⟩ := hrel
          by_cases hltj : jj < kk
          · have hltjz : (jj : Int) < (kk : Int) := by omega
            have hjl : jj < s.fams.length := by omega
            have hjlz : (jj : Int) < (s.fams.length : Int) := by omega
            have ga := blk_cell (blk_keep HB4.out HG3.out)
            have h0 := pw_cell_below HB4.out H03.out
            obtain ⟨ad', _, _, _, _, he, k0, _⟩ := get40 (Kd.C_below HC.out (bb HB3.out HB4.out)) jj hjl
            injection he with he
            subst he
            have HNJ := Aside0.mk (HNO.out jj hjl (by omega))
            have HJK := Aside0.mk (fun (h : s.fams[jj].f0 ≠ x.f0) j (hj : j < s.fams.length) (hlt2 : j < jj + 1) => show s.fams[j].f0 ≠ x.f0 by
              by_cases e : j = jj
              · subst e; exact h
              · exact HJ.out j hj (by omega))
            generalize s.fams[jj].f0 = y at k0 HNJ HJK
            rcases q6 : (y.toList == x.f0.toList) with _ | _
            · have HQ := Aside0.mk (show y ≠ x.f0 from fun e => by rw [e] at q6; simp at q6)
              go_wp2
              go_quiet (fail)
              go_wp2
              go_roundg (kk - (jj + 1))
              case measure => omega
              case rel => exact ⟨jj + 1, by omega, by omega, by go_num, ⟨below_dN HB4.out _⟩, ⟨HJK.out HQ.out⟩⟩
            · have HF := Aside0.mk (show rightB s = false from HNJ.out (toList_inj.1 (beq_iff_eq.1 q6)))
              go_wp2
              go_quiet (fail)
              go_wp2
              go_ret
              exact ⟨by rw [HF.out]; rfl, below_dN (bb HB3.out HB4.out) _⟩
          · have hltjz : ¬ (jj : Int) < (kk : Int) := by omega
            obtain rfl : jj = kk := by omega
            have HOK3 := Aside0.mk (HOKK.out HLT.out (fun i hi => HJ.out i (by omega) hi))
            have HB5 := Aside0.mk (bb HB3.out HB4.out)
            have HG5 := Aside0.mk (blk_keep HB4.out HG3.out)
            go_wp2
            go_roundg (s.fams.length - (jj + 1))
            case measure => omega
            case rel => exact ⟨jj + 1, by omega, by omega, by go_num, HB5, HG5, HOK3⟩
    · have hltz : ¬ (kk : Int) < (s.fams.length : Int) := by omega
      obtain rfl : kk = s.fams.length := by omega
      have HR := Aside0.mk (right_end HLEN.out.1 HLEN.out.2 (fun j hj => HA.out j hj hj))
      have ga := blk_cell HG.out
      by_cases c5 : s.kind = 0
      · have HR2 := Aside0.mk (HR.out.trans (if_pos c5))
        have c5b : (s.kind == 0) = true := beq_iff_eq.2 c5
        have HZ : Aside0 (zeroB s = (s.fam.toList.isEmpty && (s.qual.toList.isEmpty && (s.typ == 0 && (s.grp == 0 && (s.vers == 0 && s.life == 0)))))) := ⟨rfl⟩
        rw [c5] at ga
        clear c5 c5b
        rcases q7 : (s.fam.toList.isEmpty && (s.qual.toList.isEmpty && (s.typ == 0 && (s.grp == 0 && (s.vers == 0 && s.life == 0))))) with _ | _
        · go_wp2
          go_ret
          exact ⟨by rw [HR2.out, HZ.out, q7]; rfl, BW.out⟩
        · have HQ7 := Aside0.mk q7
          rcases q8 : (s.step == 0) with _ | _
          all_goals
            go_wp2
            go_ret
            exact ⟨by rw [HR2.out, HZ.out, HQ7.out, q8]; rfl, BW.out⟩
      · have HR2 := Aside0.mk (HR.out.trans (if_neg c5))
        by_cases d1 : 1 ≤ s.kind
        · by_cases d2 : s.kind ≤ 5
          · by_cases d3 : 1 ≤ s.step
            · by_cases d4 : s.step ≤ 9
              · have HX := Aside0.mk (show rightB s = true by rw [HR2.out]; simp [withinB]; omega)
                go_wp2
                go_ret
                exact ⟨by rw [HX.out]; rfl, BW.out⟩
              · have HX := Aside0.mk (show rightB s = false by rw [HR2.out]; simp [withinB]; omega)
                go_wp2
                go_ret
                exact ⟨by rw [HX.out]; rfl, BW.out⟩
            · have HX := Aside0.mk (show rightB s = false by rw [HR2.out]; simp [withinB]; omega)
              go_wp2
              go_ret
              exact ⟨by rw [HX.out]; rfl, BW.out⟩
          · have HX := Aside0.mk (show rightB s = false by rw [HR2.out]; simp [withinB]; omega)
            go_wp2
            go_ret
            exact ⟨by rw [HX.out]; rfl, BW.out⟩
        · have HX := Aside0.mk (show rightB s = false by rw [HR2.out]; simp [withinB]; omega)
          go_wp2
          go_ret
          exact ⟨by rw [HX.out]; rfl, BW.out⟩
end Go.Proofs.Ytmgpoafoljkknaa.My
