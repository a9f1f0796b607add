/- Contracts of the law's within and all, and of the reference's Name and Family. Conditions: a family's name has at most a million bytes. -/
import Derived.Test.YtmgpoafoljkknaaR
import Derived.Test.YtmgpoafoljkknaaU
import Derived.BigQuiet
import Derived.Deep.QuietTactic
namespace Go.Proofs.Ytmgpoafoljkknaa.My
open Go.RowKit Go.Proofs.YtmgpoafoljkknaaW.PrintWords Go.Proofs.YtmgpoafoljkknaaW.PrintLast Go.Proofs.YtmgpoafoljkknaaW.PrintMore PSchemaReads
theorem within25_any (n : Int) (v : Value) (xs : List Int) (w : World) (hs : Sl (Kd.int .i64) w v xs) :
    Calls Try.prog 25 #[.int .i64 n, v] w fun e w' => e = .returned (.bool (decide (n ∈ xs))) ∧ Below w.heap.size w w' := by
  have hmax := hs.len
  obtain ⟨A, c, rfl, _, hC⟩ := hs
  have HC := Aside0.mk hC
  clear hC
  go_enter Try.func25, Try.ntmps25
  go_wp2
  go_loopg [5] xs.length (fun gg s5 wr => ∃ kk : Nat, kk ≤ xs.length ∧ xs.length - kk ≤ gg ∧ s5 = .int .i64 kk ∧ w = wr ∧ Aside0 (n ∉ xs.take kk))
  case atStart => exact ⟨0, Nat.zero_le _, by omega, rfl, rfl, ⟨by simp⟩⟩
  case round =>
    obtain ⟨kk, hkk, hg, rfl, rfl, HA⟩ := hrel
    by_cases hlt : kk < xs.length
    · have hltz : (kk : Int) < (xs.length : Int) := by omega
      obtain ⟨ad, rfl, h0⟩ := getI HC.out kk hlt
      have HT := Aside0.mk (List.take_succ_eq_append_getElem hlt)
      have HM := Aside0.mk (List.getElem_mem hlt)
      generalize xs[kk] = x at h0 HT HM
      by_cases hx : x = n
      · have HX := Aside0.mk hx
        have hx2 : (x == n) = true := beq_iff_eq.2 hx
        clear hx
        go_wp2
        go_ret
        exact ⟨by rw [decide_eq_true (show n ∈ xs from HX.out ▸ HM.out)]; rfl, Below.refl _ _⟩
      · have hx2 : (x == n) = false := beq_eq_false_iff_ne.2 hx
        have HX := Aside0.mk hx
        go_wp2
        go_roundg (xs.length - (kk + 1))
        case measure => omega
        case rel => exact ⟨kk + 1, by omega, by omega, by go_num, rfl, ⟨by rw [HT.out]; simp only [List.mem_append, List.mem_singleton]; rintro (h | h); exact HA.out h; exact HX.out h.symm⟩⟩
    · have hltz : ¬ (kk : Int) < (xs.length : Int) := by omega
      have : kk = xs.length := by omega
      subst this
      have HN := Aside0.mk (show n ∉ xs by have := HA.out; rwa [List.take_length] at this)
      go_wp2
      go_ret
      exact ⟨by rw [decide_eq_false HN.out]; rfl, Below.refl _ _⟩
def AllP (xs ys : List Int) : Bool := xs.all fun x => decide (x ∈ ys)
theorem all26_any (v u : Value) (xs ys : List Int) (w : World) (hs : Sl (Kd.int .i64) w v xs) (hu : Sl (Kd.int .i64) w u ys) :
    Calls Try.prog 26 #[v, u] w (RetB w (AllP xs ys)) := by
  have hmax := hs.len
  have HU := Aside0.mk hu
  obtain ⟨A, c, rfl, _, hC⟩ := hs
  obtain ⟨B, d, rfl, _, _⟩ := hu
  have HC := Aside0.mk hC
  clear hC
  go_enter Try.func26, Try.ntmps26
  go_wp2
  go_loopg [5] xs.length (fun gg s5 wr => ∃ kk : Nat, kk ≤ xs.length ∧ xs.length - kk ≤ gg ∧ s5 = .int .i64 kk ∧ Aside0 (Below w.heap.size w wr) ∧ Aside0 (∀ x ∈ xs.take kk, x ∈ ys))
  case atStart => exact ⟨0, Nat.zero_le _, by omega, rfl, ⟨Below.refl _ _⟩, ⟨by simp⟩⟩
  case round =>
    obtain ⟨kk, hkk, hg, rfl, BW, HA⟩ := hrel
    by_cases hlt : kk < xs.length
    · have hltz : (kk : Int) < (xs.length : Int) := by omega
      obtain ⟨ad, rfl, h0⟩ := getI (Kd.C_below HC.out BW.out) kk hlt
      have HT := Aside0.mk (List.take_succ_eq_append_getElem hlt)
      have HM := Aside0.mk (List.getElem_mem hlt)
      generalize xs[kk] = x at h0 HT HM
      have hcall := within25_any x _ ys wr (HU.out.below BW.out)
      by_cases hx : x ∈ ys
      · rw [decide_eq_true hx] at hcall
        have HCALL := Aside0.mk hcall
        have HX := Aside0.mk hx
        clear hcall hx
        go_wp2_with (go_at_call 25; refine HCALL.out.mono ?_; rintro e w1 ⟨rfl, hb⟩)
        go_roundg (xs.length - (kk + 1))
        case measure => omega
        case rel => exact ⟨kk + 1, by omega, by omega, by go_num, ⟨bb BW.out hb⟩, ⟨by rw [HT.out]; intro y hy; rcases List.mem_append.1 hy with h | h; exact HA.out y h; rw [List.mem_singleton.1 h]; exact HX.out⟩⟩
      · rw [decide_eq_false hx] at hcall
        have HCALL := Aside0.mk hcall
        have HX := Aside0.mk (show AllP xs ys = false from List.all_eq_false.2 ⟨x, HM.out, by simpa using hx⟩)
        clear hcall hx
        go_wp2_with (go_at_call 25; refine HCALL.out.mono ?_; rintro e w1 ⟨rfl, hb⟩)
        go_ret
        exact ⟨by rw [HX.out]; rfl, bb BW.out hb⟩
    · have hltz : ¬ (kk : Int) < (xs.length : Int) := by omega
      have : kk = xs.length := by omega
      subst this
      have HN := Aside0.mk (show AllP xs ys = true from List.all_eq_true.2 fun x hx => by have := HA.out x (by rwa [List.take_length]); simpa using this)
      go_wp2
      go_ret
      exact ⟨by rw [HN.out]; rfl, BW.out⟩

theorem sl40_one {W : World} {v3 v4 : Value} {x : S40} (h : Fm W (.agg #[.string x.f0, .int .i64 x.f1, .int .i64 x.f2, v3, v4]) x) (t : TypeId) :
    Sl k40 (W.alloc (.cells #[.string x.f0, .int .i64 x.f1, .int .i64 x.f2, v3, v4] t)) (.slice (some ⟨W.heap.size, 0, none⟩) 1 1) [x] := by
  have hb := below_alloc (Below.refl _ W) (.cells #[.string x.f0, .int .i64 x.f1, .int .i64 x.f2, v3, v4] t)
  have hn := blk_new W #[.string x.f0, .int .i64 x.f1, .int .i64 x.f2, v3, v4] t
  obtain ⟨u3, u4, he, h3, h4⟩ := h.below hb
  injection he with he
  injection he with he
  simp only [List.cons.injEq, and_true, true_and] at he
  obtain ⟨rfl, rfl⟩ := he
  obtain ⟨A3, c3, rfl, l3, g3⟩ := h3
  obtain ⟨A4, c4, rfl, l4, g4⟩ := h4
  refine ⟨_, _, rfl, Nat.le_refl _, rfl, by simp, fun _ => ⟨_, rfl, fun j p hj => ?_⟩⟩
  rcases j with _ | j
  · simp at hj
    subst hj
    refine ⟨_, rfl, k40_mk _ x l3 g3 l4 g4, fun i u hu => ?_⟩
    rw [add_plain, Nat.zero_mul, Nat.zero_add, blk_cell hn]
    simpa using hu
  · simp at hj
theorem nodup2 {l : List Int} (h : l.length ≤ 2) (hne : ∀ j (hj : j < l.length), 0 < j → l[j] ≠ l[0]'(by omega)) : l.Nodup := by
  match l, h with
  | [], _ => simp
  | [a], _ => simp
  | [a, b], _ =>
    have := hne 1 (by simp) (by omega)
    simp at this
    simp [Ne.symm this]
theorem nodup_at {α : Type} {l : List α} (h : l.Nodup) {i j : Nat} (hi : i < l.length) (hj : j < l.length) (hij : i ≠ j) : l[i] ≠ l[j] := by
  rw [List.Nodup, List.pairwise_iff_getElem] at h
  rcases Nat.lt_or_gt_of_ne hij with hl | hl
  · exact h i j hi hj hl
  · exact (h j i hj hi hl).symm
theorem fam_no1 {x : S40} (h : layoutsB x.f3 = false) : familyB x = false := by rw [familyB, h]; simp
theorem fam_no2 {x : S40} (h : colsB x.f4 = false) : familyB x = false := by rw [familyB, h]; simp
theorem lay_no1 {l : List S60} {x : S60} (hm : x ∈ l) (h : layB x = false) : layoutsB l = false := by
  have : l.all layB = false := List.all_eq_false.2 ⟨x, hm, by rw [h]; simp⟩
  rw [layoutsB, this]; simp
theorem lay_no2 {l : List S60} {j : Nat} (hj : j < l.length) (h0 : 0 < j) (h : l[j].f0 = (l[0]'(by omega)).f0) : layoutsB l = false := by
  have : decide (l.map (·.f0)).Nodup = false := decide_eq_false (fun hn => by
    have := nodup_at hn (i := j) (j := 0) (by simpa using hj) (by simp; omega) (by omega)
    simp only [List.getElem_map] at this
    exact this h)
  rw [layoutsB, this]; simp
theorem col_no1 {l : List S52} {x : S52} (hm : x ∈ l) (h : colB x = false) : colsB l = false := by
  have : l.all colB = false := List.all_eq_false.2 ⟨x, hm, by rw [h]; simp⟩
  rw [colsB, this]; simp
theorem col_no2 {l : List S52} {i j : Nat} (hi : i < l.length) (hj : j < l.length) (hij : i ≠ j) (h : l[i].f0 = l[j].f0) : colsB l = false := by
  have : decide (l.map (·.f0)).Nodup = false := decide_eq_false (fun hn => by
    have := nodup_at hn (i := i) (j := j) (by simpa using hi) (by simpa using hj) hij
    simp only [List.getElem_map] at this
    exact this h)
  rw [colsB, this]; simp
theorem lay_end {l : List S60} (h1 : 1 ≤ l.length) (h2 : l.length ≤ 2) (h : ∀ j (hj : j < l.length), layB l[j] = true ∧ (0 < j → l[j].f0 ≠ (l[0]'(by omega)).f0)) : layoutsB l = decide (l.countP pubB < 2) := by
  have e1 : l.all layB = true := List.all_eq_true.2 fun y hy => by
    obtain ⟨j, hj, rfl⟩ := List.getElem_of_mem hy
    exact (h j hj).1
  have e2 : (l.map (·.f0)).Nodup := nodup2 (by simpa using h2) (fun j hj h0 => by
    simp only [List.getElem_map]
    exact (h j (by simpa using hj)).2 h0)
  have e3 : withinB (l.length : Int) 1 2 = true := by simp [withinB]; omega
  rw [layoutsB, e1, e3, decide_eq_true e2]; simp
theorem col_end {l : List S52} (h8 : l.length ≤ 8) (h : ∀ j (hj : j < l.length), colB l[j] = true ∧ ∀ i (hi : i < j), l[i].f0 ≠ l[j].f0) : colsB l = true := by
  have e1 : l.all colB = true := List.all_eq_true.2 fun y hy => by
    obtain ⟨j, hj, rfl⟩ := List.getElem_of_mem hy
    exact (h j hj).1
  have e2 : (l.map (·.f0)).Nodup := by
    rw [List.Nodup, List.pairwise_iff_getElem]
    intro i j hi hj hij
    simp only [List.getElem_map]
    exact (h j (by simpa using hj)).2 i hij
  rw [colsB, e1, decide_eq_true e2, decide_eq_true h8]; rfl
set_option maxHeartbeats 4000000 in
set_option maxRecDepth 100000 in
theorem refFamily_any (v : Value) (x : S40) (w : World) (h : Fm w v x) (hs0 : x.f0.size ≤ 1000000) : Calls Try.prog 21 #[v] w (RetB w (familyB x)) := by
  obtain ⟨v3, v4, rfl, h3, h4⟩ := h
  have hm3 := h3.len
  have hm4 := h4.len
  obtain ⟨A3, c3, rfl, _, hC3⟩ := h3
  obtain ⟨A4, c4, rfl, _, hC4⟩ := h4
  have HC3 := Aside0.mk hC3
  have HC4 := Aside0.mk hC4
  clear hC3 hC4
  have hname := fun W => refName_any x.f0 W (by omega)
  clear hs0
  have HBX := Aside0.mk (fun (o : Obj) => (Below.refl w.heap.size w).alloc (Nat.le_refl _) o)
  have HFB := Aside0.mk (show familyB x = (nameB x.f0 && withinB x.f1 1 8 && withinB x.f2 0 1099511627776 && layoutsB x.f3 && colsB x.f4) from rfl)
  rcases q1 : nameB x.f0 with _ | _
  · have HF := Aside0.mk (show familyB x = false by rw [HFB.out, q1]; rfl)
    simp only [q1] at hname
    have HNM := Aside0.mk hname
    clear hname
    go_enter Try.func21, Try.ntmps21
    go_wp2_with (go_at_call 70; refine (HNM.out _).mono ?_; rintro e w1 ⟨rfl, hb1⟩; obtain ⟨hcell, hfr⟩ := bcell hb1)
    go_ret
    exact ⟨by rw [HF.out]; rfl, bb (HBX.out _) hb1⟩
  simp only [q1] at hname
  have HNM := Aside0.mk hname
  clear hname
  by_cases c1 : x.f1 < 1
  · have HF := Aside0.mk (show familyB x = false by rw [HFB.out, show withinB x.f1 1 8 = false from (by simp [withinB]; omega)]; simp)
    go_enter Try.func21, Try.ntmps21
    go_wp2_with (go_at_call 70; refine (HNM.out _).mono ?_; rintro e w1 ⟨rfl, hb1⟩; obtain ⟨hcell, hfr⟩ := bcell hb1)
    go_ret
    exact ⟨by rw [HF.out]; rfl, bb (HBX.out _) hb1⟩
  by_cases c2 : 8 < x.f1
  · have HF := Aside0.mk (show familyB x = false by rw [HFB.out, show withinB x.f1 1 8 = false from (by simp [withinB]; omega)]; simp)
    go_enter Try.func21, Try.ntmps21
    go_wp2_with (go_at_call 70; refine (HNM.out _).mono ?_; rintro e w1 ⟨rfl, hb1⟩; obtain ⟨hcell, hfr⟩ := bcell hb1)
    go_ret
    exact ⟨by rw [HF.out]; rfl, bb (HBX.out _) hb1⟩
  by_cases c3 : x.f2 < 0
  · have HF := Aside0.mk (show familyB x = false by rw [HFB.out, show withinB x.f2 0 1099511627776 = false from (by simp [withinB]; omega)]; simp)
    go_enter Try.func21, Try.ntmps21
    go_wp2_with (go_at_call 70; refine (HNM.out _).mono ?_; rintro e w1 ⟨rfl, hb1⟩; obtain ⟨hcell, hfr⟩ := bcell hb1)
    go_ret
    exact ⟨by rw [HF.out]; rfl, bb (HBX.out _) hb1⟩
  by_cases c4 : 1099511627776 < x.f2
  · have HF := Aside0.mk (show familyB x = false by rw [HFB.out, show withinB x.f2 0 1099511627776 = false from (by simp [withinB]; omega)]; simp)
    go_enter Try.func21, Try.ntmps21
    go_wp2_with (go_at_call 70; refine (HNM.out _).mono ?_; rintro e w1 ⟨rfl, hb1⟩; obtain ⟨hcell, hfr⟩ := bcell hb1)
    go_ret
    exact ⟨by rw [HF.out]; rfl, bb (HBX.out _) hb1⟩
  by_cases c5 : (x.f3.length : Int) < 1
  · have HF := Aside0.mk (show familyB x = false by rw [HFB.out, show layoutsB x.f3 = false from (by simp [layoutsB, withinB]; omega)]; simp)
    go_enter Try.func21, Try.ntmps21
    go_wp2_with (go_at_call 70; refine (HNM.out _).mono ?_; rintro e w1 ⟨rfl, hb1⟩; obtain ⟨hcell, hfr⟩ := bcell hb1)
    go_ret
    exact ⟨by rw [HF.out]; rfl, bb (HBX.out _) hb1⟩
  by_cases c6 : 2 < (x.f3.length : Int)
  · have HF := Aside0.mk (show familyB x = false by rw [HFB.out, show layoutsB x.f3 = false from (by simp [layoutsB, withinB]; omega)]; simp)
    go_enter Try.func21, Try.ntmps21
    go_wp2_with (go_at_call 70; refine (HNM.out _).mono ?_; rintro e w1 ⟨rfl, hb1⟩; obtain ⟨hcell, hfr⟩ := bcell hb1)
    go_ret
    exact ⟨by rw [HF.out]; rfl, bb (HBX.out _) hb1⟩
  by_cases c7 : 8 < (x.f4.length : Int)
  · have HF := Aside0.mk (show familyB x = false by rw [HFB.out, show colsB x.f4 = false from (by simp [colsB]; omega)]; simp)
    go_enter Try.func21, Try.ntmps21
    go_wp2_with (go_at_call 70; refine (HNM.out _).mono ?_; rintro e w1 ⟨rfl, hb1⟩; obtain ⟨hcell, hfr⟩ := bcell hb1)
    go_ret
    exact ⟨by rw [HF.out]; rfl, bb (HBX.out _) hb1⟩
  have HLEN := Aside0.mk (show 1 ≤ x.f3.length ∧ x.f3.length ≤ 2 ∧ x.f4.length ≤ 8 by omega)
  have HR := Aside0.mk (show familyB x = (layoutsB x.f3 && colsB x.f4) by
    rw [HFB.out, q1, show withinB x.f1 1 8 = true from (by simp [withinB]; omega), show withinB x.f2 0 1099511627776 = true from (by simp [withinB]; omega)]; rfl)
  go_enter Try.func21, Try.ntmps21
  go_wp2_with fail
  refine (HNM.out _).mono ?_
  rintro e w1 ⟨rfl, hb1⟩
  have HA1 := Aside0.mk (blk_keep hb1 (blk_new w _ _))
  have HB1 := Aside0.mk (bb (HBX.out _) hb1)
  have ga := blk_cell HA1.out
  clear hb1
  go_wp2
  clear c1 c2 c3 c4 c5 c6 c7 ga
  go_loopg [3, 4, 5] x.f3.length (fun gg s3 s4 _ wr => ∃ kk : Nat, kk ≤ x.f3.length ∧ x.f3.length - kk ≤ gg ∧ s4 = .int .i64 kk ∧ s3 = .int .i64 ((x.f3.take kk).countP pubB : Nat) ∧ Aside0 (Below w.heap.size w wr) ∧ Aside0 (wr.heap[w.heap.size]? = some (.cells #[.string x.f0, .int .i64 x.f1, .int .i64 x.f2, .slice A3 x.f3.length c3, .slice A4 x.f4.length c4] 40 (0, 0))) ∧ Aside0 (∀ j (hj : j < x.f3.length), j < kk → layB x.f3[j] = true ∧ (0 < j → x.f3[j].f0 ≠ (x.f3[0]'(by omega)).f0)))
  case atStart => exact ⟨0, Nat.zero_le _, by omega, rfl, rfl, HB1, HA1, ⟨fun j hj h => absurd h (Nat.not_lt_zero _)⟩⟩
  case round =>
    obtain ⟨kk, hkk, hg, rfl, rfl, BW, HG, HA⟩ := hrel
    have hcl := countP_take_le pubB x.f3 kk
    obtain ⟨n, hn⟩ : ∃ n, (x.f3.take kk).countP pubB = n := ⟨_, rfl⟩
    rw [hn] at hcl
    rw [hn]
    have HN := Aside0.mk hn
    clear hn
    by_cases hlt : kk < x.f3.length
    · have hltz : (kk : Int) < (x.f3.length : Int) := by omega
      have ga := blk_cell HG.out
      have gb := fun o => blk_cell (blk_old HG.out o)
      have h0l : 0 < x.f3.length := by omega
      obtain ⟨ad, rfl, h0, h1⟩ := get60 (Kd.C_below HC3.out BW.out) kk hlt
      obtain ⟨ad', he, k0, _⟩ := get60 (Kd.C_below HC3.out BW.out) 0 h0l
      injection he with he
      subst he
      rw [Nat.zero_mul] at k0
      have k0 := fun o => pw_cell_below (below_alloc (Below.refl _ wr) o) k0
      have HCT := Aside0.mk ((countP_take_succ pubB x.f3 hlt).trans (by rw [HN.out]))
      have HLB := Aside0.mk (show layB x.f3[kk] = (withinB x.f3[kk].f0 0 2 && withinB x.f3[kk].f1 1 3) from rfl)
      have HPB := Aside0.mk (show pubB x.f3[kk] = (x.f3[kk].f1 == 3) from rfl)
      have HMEM := Aside0.mk (List.getElem_mem hlt)
      have HNO := Aside0.mk (fun (h0 : 0 < kk) (h : x.f3[kk].f0 = x.f3[0].f0) => lay_no2 hlt h0 h)
      have HOKK := Aside0.mk (fun (hl : layB x.f3[kk] = true) (h0 : 0 < kk → x.f3[kk].f0 ≠ x.f3[0].f0) j (hj : j < x.f3.length) (h : j < kk + 1) => show layB x.f3[j] = true ∧ (0 < j → x.f3[j].f0 ≠ x.f3[0].f0) by
        by_cases e : j = kk
        · subst e; exact ⟨hl, h0⟩
        · exact HA.out j hj (by omega))
      generalize x.f3[kk] = l at h0 h1 HCT HLB HPB HMEM HNO HOKK
      have k0z := k0
      have hadd : ad.add 0 = ad := by cases ad; rfl
      rw [hadd] at k0z
      generalize hg0 : x.f3[0].f0 = g0 at k0 k0z HNO
      have HG0 := Aside0.mk hg0
      clear hg0 hadd
      by_cases d1 : l.f0 < 0
      · have HF := Aside0.mk (show familyB x = false from fam_no1 (lay_no1 HMEM.out (by rw [HLB.out, show withinB l.f0 0 2 = false from (by simp [withinB]; omega)]; simp)))
        have ed1 : decide (l.f0 < 0) = true := decide_eq_true d1
        go_wp2
        go_quiet (fail)
        go_wp2
        go_ret
        exact ⟨by rw [HF.out]; rfl, below_dN (bba BW.out _) _⟩
      by_cases d2 : 2 < l.f0
      · have HF := Aside0.mk (show familyB x = false from fam_no1 (lay_no1 HMEM.out (by rw [HLB.out, show withinB l.f0 0 2 = false from (by simp [withinB]; omega)]; simp)))
        have ed1 : decide (l.f0 < 0) = false := decide_eq_false d1
        have ed2 : decide (2 < l.f0) = true := decide_eq_true d2
        go_wp2
        go_quiet (fail)
        go_wp2
        go_ret
        exact ⟨by rw [HF.out]; rfl, below_dN (bba BW.out _) _⟩
      by_cases d3 : l.f1 < 1
      · have HF := Aside0.mk (show familyB x = false from fam_no1 (lay_no1 HMEM.out (by rw [HLB.out, show withinB l.f1 1 3 = false from (by simp [withinB]; omega)]; simp)))
        have ed1 : decide (l.f0 < 0) = false := decide_eq_false d1
        have ed2 : decide (2 < l.f0) = false := decide_eq_false d2
        have ed3 : decide (l.f1 < 1) = true := decide_eq_true d3
        go_wp2
        go_quiet (fail)
        go_wp2
        go_ret
        exact ⟨by rw [HF.out]; rfl, below_dN (bba BW.out _) _⟩
      by_cases d4 : 3 < l.f1
      · have HF := Aside0.mk (show familyB x = false from fam_no1 (lay_no1 HMEM.out (by rw [HLB.out, show withinB l.f1 1 3 = false from (by simp [withinB]; omega)]; simp)))
        have ed1 : decide (l.f0 < 0) = false := decide_eq_false d1
        have ed2 : decide (2 < l.f0) = false := decide_eq_false d2
        have ed3 : decide (l.f1 < 1) = false := decide_eq_false d3
        have ed4 : decide (3 < l.f1) = true := decide_eq_true d4
        go_wp2
        go_quiet (fail)
        go_wp2
        go_ret
        exact ⟨by rw [HF.out]; rfl, below_dN (bba BW.out _) _⟩
      have HLT := Aside0.mk (show layB l = true by
        rw [HLB.out, show withinB l.f0 0 2 = true from (by simp [withinB]; omega), show withinB l.f1 1 3 = true from (by simp [withinB]; omega)]; rfl)
      have ed1 : decide (l.f0 < 0) = false := decide_eq_false d1
      have ed2 : decide (2 < l.f0) = false := decide_eq_false d2
      have ed3 : decide (l.f1 < 1) = false := decide_eq_false d3
      have ed4 : decide (3 < l.f1) = false := decide_eq_false d4
      by_cases d5 : 0 < (kk : Int)
      · have ed5 : decide (0 < (kk : Int)) = true := decide_eq_true d5
        have ed5n : decide (0 < kk) = true := decide_eq_true (by omega)
        have d5n : 0 < kk := by omega
        have h0lz : (0 : Int) < (x.f3.length : Int) := by omega
        by_cases d6 : l.f0 = g0
        · have HF := Aside0.mk (show familyB x = false from fam_no1 (HNO.out (by omega) d6))
          have ed6 : (l.f0 == g0) = true := beq_iff_eq.2 d6
          clear d6
          go_wp2
          go_quiet (fail)
          go_wp2
          go_ret
          exact ⟨by rw [HF.out]; rfl, below_dN (bba BW.out _) _⟩
        · have ed6 : (l.f0 == g0) = false := beq_eq_false_iff_ne.2 d6
          have HD := Aside0.mk (fun (_ : 0 < kk) => d6)
          clear d6
          rcases q3 : (l.f1 == 3) with _ | _
          all_goals
            go_wp2
            go_quiet (fail)
            go_wp2
            go_roundg (x.f3.length - (kk + 1))
            case measure => omega
            case rel => exact ⟨kk + 1, by omega, by omega, by go_num, by rw [HCT.out, HPB.out, q3]; go_num, ⟨below_dN (bba BW.out _) _⟩, ⟨blk_old HG.out _⟩, ⟨HOKK.out HLT.out (fun h => HG0.out ▸ HD.out h)⟩⟩
      · have ed5 : decide (0 < (kk : Int)) = false := decide_eq_false d5
        have ed5n : decide (0 < kk) = false := decide_eq_false (by omega)
        have HD := Aside0.mk (fun (h : 0 < kk) => show l.f0 ≠ g0 from absurd h (by omega))
        rcases q3 : (l.f1 == 3) with _ | _
        all_goals
          go_wp2
          go_quiet (fail)
          go_wp2
          go_roundg (x.f3.length - (kk + 1))
          case measure => omega
          case rel => exact ⟨kk + 1, by omega, by omega, by go_num, by rw [HCT.out, HPB.out, q3]; go_num, ⟨below_dN (bba BW.out _) _⟩, ⟨blk_old HG.out _⟩, ⟨HOKK.out HLT.out (fun h => HG0.out ▸ HD.out h)⟩⟩
    · have hltz : ¬ (kk : Int) < (x.f3.length : Int) := by omega
      obtain rfl : kk = x.f3.length := by omega
      have HLE := Aside0.mk (lay_end HLEN.out.1 HLEN.out.2.1 (fun j hj => HA.out j hj hj))
      have hn : x.f3.countP pubB = n := by have := HN.out; rwa [List.take_length] at this
      have HR2 := Aside0.mk (show familyB x = (decide (n < 2) && colsB x.f4) by rw [HR.out, HLE.out, hn])
      have ga := blk_cell HG.out
      clear hn HN HA
      go_wp2
      clear ga
      go_loopg [6, 7, 8] x.f4.length (fun gg s6 _ _ w2 => ∃ kk : Nat, kk ≤ x.f4.length ∧ x.f4.length - kk ≤ gg ∧ s6 = .int .i64 kk ∧ Aside0 (Below w.heap.size w w2) ∧ Aside0 (w2.heap[w.heap.size]? = some (.cells #[.string x.f0, .int .i64 x.f1, .int .i64 x.f2, .slice A3 x.f3.length c3, .slice A4 x.f4.length c4] 40 (0, 0))) ∧ Aside0 (∀ j (hj : j < x.f4.length), j < kk → colB x.f4[j] = true ∧ ∀ i (hi : i < j), x.f4[i].f0 ≠ x.f4[j].f0))
      case atStart => exact ⟨0, Nat.zero_le _, by omega, rfl, BW, HG, ⟨fun j hj h => absurd h (Nat.not_lt_zero _)⟩⟩
      case round =>
        clear BW HG
        obtain ⟨kk, hkk, hg, rfl, BW, HG, HA⟩ := hrel
        obtain ⟨w2, rfl⟩ : ∃ w2 : World, w2 = wr := ⟨_, rfl⟩
        by_cases hlt : kk < x.f4.length
        · have hltz : (kk : Int) < (x.f4.length : Int) := by omega
          have ga := blk_cell HG.out
          obtain ⟨ad, rfl, h0, h1, h2⟩ := get52 (Kd.C_below HC4.out BW.out) kk hlt
          have HCB := Aside0.mk (show colB x.f4[kk] = (decide (x.f4[kk].f0.size ≤ 12) && withinB x.f4[kk].f1 1 5 && withinB x.f4[kk].f2 1 3) from rfl)
          have HMEM := Aside0.mk (List.getElem_mem hlt)
          have HNO := Aside0.mk (fun (j : Nat) (hj : j < x.f4.length) (hjk : j ≠ kk) (h : x.f4[j].f0 = x.f4[kk].f0) => col_no2 hj hlt hjk h)
          have HOKK := Aside0.mk (fun (hl : colB x.f4[kk] = true) (h0 : ∀ i (hi : i < kk), x.f4[i].f0 ≠ x.f4[kk].f0) j (hj : j < x.f4.length) (h : j < kk + 1) => show colB x.f4[j] = true ∧ ∀ i (hi : i < j), x.f4[i].f0 ≠ x.f4[j].f0 by
            by_cases e : j = kk
            · subst e; exact ⟨hl, h0⟩
            · exact HA.out j hj (by omega))
          generalize x.f4[kk] = l at h0 h1 h2 HCB HMEM HNO HOKK
          by_cases d1 : 12 < (l.f0.size : Int)
          · have HF := Aside0.mk (show familyB x = false from fam_no2 (col_no1 HMEM.out (by rw [HCB.out, show decide (l.f0.size ≤ 12) = false from decide_eq_false (by omega)]; simp)))
            go_wp2
            go_ret
            exact ⟨by rw [HF.out]; rfl, bba BW.out _⟩
          by_cases d2 : l.f1 < 1
          · have HF := Aside0.mk (show familyB x = false from fam_no2 (col_no1 HMEM.out (by rw [HCB.out, show withinB l.f1 1 5 = false from (by simp [withinB]; omega)]; simp)))
            go_wp2
            go_ret
            exact ⟨by rw [HF.out]; rfl, bba BW.out _⟩
          by_cases d3 : 5 < l.f1
          · have HF := Aside0.mk (show familyB x = false from fam_no2 (col_no1 HMEM.out (by rw [HCB.out, show withinB l.f1 1 5 = false from (by simp [withinB]; omega)]; simp)))
            go_wp2
            go_ret
            exact ⟨by rw [HF.out]; rfl, bba BW.out _⟩
          by_cases d4 : l.f2 < 1
          · have HF := Aside0.mk (show familyB x = false from fam_no2 (col_no1 HMEM.out (by rw [HCB.out, show withinB l.f2 1 3 = false from (by simp [withinB]; omega)]; simp)))
            go_wp2
            go_ret
            exact ⟨by rw [HF.out]; rfl, bba BW.out _⟩
          by_cases d5 : 3 < l.f2
          · have HF := Aside0.mk (show familyB x = false from fam_no2 (col_no1 HMEM.out (by rw [HCB.out, show withinB l.f2 1 3 = false from (by simp [withinB]; omega)]; simp)))
            go_wp2
            go_ret
            exact ⟨by rw [HF.out]; rfl, bba BW.out _⟩
          have HLT := Aside0.mk (show colB l = true by
            rw [HCB.out, show decide (l.f0.size ≤ 12) = true from decide_eq_true (by omega), show withinB l.f1 1 5 = true from (by simp [withinB]; omega), show withinB l.f2 1 3 = true from (by simp [withinB]; omega)]; rfl)
          have HLN := Aside0.mk (blk_new w2 #[.string l.f0, .int .i64 l.f1, .int .i64 l.f2] 52)
          have HB2 := Aside0.mk (bba BW.out (.cells #[.string l.f0, .int .i64 l.f1, .int .i64 l.f2] 52))
          have HG2 := Aside0.mk (blk_old HG.out (.cells #[.string l.f0, .int .i64 l.f1, .int .i64 l.f2] 52))
          go_wp2
          clear d1 d2 d3 d4 d5 ga h0 h1 h2
          go_loopg [8] kk (fun gg s8 w3 => ∃ jj : Nat, jj ≤ kk ∧ kk - jj ≤ gg ∧ s8 = .int .i64 jj ∧ Aside0 (Below w.heap.size w w3) ∧ Aside0 (w3.heap[w.heap.size]? = some (.cells #[.string x.f0, .int .i64 x.f1, .int .i64 x.f2, .slice A3 x.f3.length c3, .slice (some ad) x.f4.length c4] 40 (0, 0))) ∧ Aside0 (w3.heap[w2.heap.size]? = some (.cells #[.string l.f0, .int .i64 l.f1, .int .i64 l.f2] 52 (0, 0))) ∧ Aside0 (∀ j (hj : j < x.f4.length), j < jj → x.f4[j].f0 ≠ l.f0))
          case atStart => exact ⟨0, Nat.zero_le _, by omega, rfl, HB2, HG2, HLN, ⟨fun j hj h => absurd h (Nat.not_lt_zero _)⟩⟩
          case round =>
            clear HB2 HG2 HLN
            obtain ⟨jj, hjj, hg2, rfl, HB3, HG3, HLN3, HJ⟩ := hrel
            by_cases hltj : jj < kk
            · have hltjz : (jj : Int) < (kk : Int) := by omega
              have hjl : jj < x.f4.length := by omega
              have hjlz : (jj : Int) < (x.f4.length : Int) := by omega
              have ga := blk_cell HG3.out
              have gl := blk_cell HLN3.out
              obtain ⟨ad', he, k0, _, _⟩ := get52 (Kd.C_below HC4.out HB3.out) jj hjl
              injection he with he
              subst he
              have HNJ := Aside0.mk (HNO.out jj hjl (by omega))
              have HJK := Aside0.mk (fun (h : x.f4[jj].f0 ≠ l.f0) j (hj : j < x.f4.length) (hlt2 : j < jj + 1) => show x.f4[j].f0 ≠ l.f0 by
                by_cases e : j = jj
                · subst e; exact h
                · exact HJ.out j hj (by omega))
              generalize x.f4[jj].f0 = y at k0 HNJ HJK
              rcases q6 : (y.toList == l.f0.toList) with _ | _
              · have HQ := Aside0.mk (show y ≠ l.f0 from fun e => by rw [e] at q6; simp at q6)
                go_wp2
                go_quiet (fail)
                go_wp2
                go_roundg (kk - (jj + 1))
                case measure => omega
                case rel => exact ⟨jj + 1, by omega, by omega, by go_num, ⟨below_dN HB3.out _⟩, HG3, HLN3, ⟨HJK.out HQ.out⟩⟩
              · have HF := Aside0.mk (show familyB x = false from fam_no2 (HNJ.out (toList_inj.1 (beq_iff_eq.1 q6))))
                go_wp2
                go_quiet (fail)
                go_wp2
                go_ret
                exact ⟨by rw [HF.out]; rfl, below_dN HB3.out _⟩
            · have hltjz : ¬ (jj : Int) < (kk : Int) := by omega
              obtain rfl : jj = kk := by omega
              have HOK3 := Aside0.mk (HOKK.out HLT.out (fun i hi => HJ.out i (by omega) hi))
              go_wp2
              go_roundg (x.f4.length - (jj + 1))
              case measure => omega
              case rel => exact ⟨jj + 1, by omega, by omega, by go_num, HB3, HG3, HOK3⟩
        · have hltz : ¬ (kk : Int) < (x.f4.length : Int) := by omega
          obtain rfl : kk = x.f4.length := by omega
          have HCE := Aside0.mk (col_end HLEN.out.2.2 (fun j hj => HA.out j hj hj))
          have HR3 := Aside0.mk (show familyB x = decide (n < 2) by rw [HR2.out, HCE.out, Bool.and_true])
          have ga := blk_cell HG.out
          by_cases c1 : (n : Int) < 2
          · have HD := Aside0.mk (show decide (n < 2) = true from decide_eq_true (by omega))
            go_wp2
            go_ret
            exact ⟨by rw [HR3.out, HD.out]; rfl, BW.out⟩
          · have HD := Aside0.mk (show decide (n < 2) = false from decide_eq_false (by omega))
            go_wp2
            go_ret
            exact ⟨by rw [HR3.out, HD.out]; rfl, BW.out⟩
end Go.Proofs.Ytmgpoafoljkknaa.My
