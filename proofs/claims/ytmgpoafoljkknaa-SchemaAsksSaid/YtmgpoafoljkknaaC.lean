/- Contracts of schema's tests: name, layouts, cols, family, Right. Conditions: a string's and a slice's length fits an int; numbers fit their kind. -/
import Derived.Test.YtmgpoafoljkknaaB
import Derived.Lib.SpaceUEq
namespace Go.Proofs.Ytmgpoafoljkknaa.My
open Go.RowKit Go.Proofs.YtmgpoafoljkknaaW.PrintWords Go.Proofs.YtmgpoafoljkknaaW.PrintLast Go.Proofs.YtmgpoafoljkknaaW.PrintMore PSchemaReads

/-! ### names -/
def otherB (r : Nat) : Bool := (decide (r < 97) || decide (122 < r)) && (decide (r < 48) || decide (57 < r))
def alnum (b : UInt8) : Bool := (decide (97 ≤ b.toNat) && decide (b.toNat ≤ 122)) || (decide (48 ≤ b.toNat) && decide (b.toNat ≤ 57))
def nameB (s : ByteArray) : Bool := decide (1 ≤ s.size) && decide (s.size ≤ 8) && s.data.toList.all alnum
theorem other_alnum (b : UInt8) : otherB b.toNat = !alnum b := by
  unfold otherB alnum
  rw [Bool.eq_iff_iff]
  simp only [Bool.and_eq_true, Bool.or_eq_true, Bool.not_eq_true', Bool.or_eq_false_iff, Bool.and_eq_false_iff, decide_eq_true_eq, decide_eq_false_iff_not]
  omega

def rfrom (p : Nat → Bool) (s : ByteArray) : Nat → Nat → Int
  | 0, _ => -1
  | f + 1, pos => if pos < s.size then (if p (Utf8.decode s pos).1 = true then (pos : Int) else rfrom p s f (pos + (Utf8.decode s pos).2)) else -1
theorem rfrom_end (p : Nat → Bool) (s : ByteArray) (f pos : Nat) (h : ¬ pos < s.size) : rfrom p s f pos = -1 := by cases f <;> simp [rfrom, h]
theorem rfrom_alnum (s : ByteArray) : ∀ f pos, s.size ≤ pos + f → decide (0 ≤ rfrom otherB s f pos) = !((s.data.toList.drop pos).all alnum)
  | 0, pos, h => by
    have hl : s.data.toList.length = s.size := data_length s
    rw [List.drop_of_length_le (by omega)]
    simp [rfrom]
  | f + 1, pos, h => by
    have hl : s.data.toList.length = s.size := data_length s
    unfold rfrom
    by_cases hp : pos < s.size
    · rw [if_pos hp]
      have hd : s.data.toList.drop pos = s.data.toList[pos] :: s.data.toList.drop (pos + 1) := List.drop_eq_getElem_cons (by omega)
      have hg : s.data.toList.getD pos 0 = s.data.toList[pos] := by simp [List.getD, show pos < s.size from hp]
      have hN := Lib.decode_N s pos
      rw [hg] at hN
      rw [hd, List.all_cons]
      generalize s.data.toList[pos] = b at hN
      generalize s.data.toList.getD (pos + 1) 0 = b1 at hN
      generalize s.data.toList.getD (pos + 2) 0 = b2 at hN
      generalize s.data.toList.getD (pos + 3) 0 = b3 at hN
      generalize s.data.toList.length - pos = n at hN
      by_cases ha : b.toNat < 128
      · rw [hN, Lib.decodeN_ascii _ _ _ _ _ ha, other_alnum]
        cases hb : alnum b with
        | true =>
          rw [if_neg (by simp), rfrom_alnum s f (pos + 1) (by omega)]
          simp
        | false =>
          rw [if_pos (by simp)]
          simp
      · have hge : 128 ≤ (Utf8.decode s pos).1 := by
          rw [hN]
          rcases Lib.decodeN_cases n b.toNat b1.toNat b2.toNat b3.toNat with ⟨h, _⟩ | ⟨_, _, _, h, e⟩ | ⟨_, _, _, _, h, e⟩ | ⟨h, _⟩ | e
          · exact absurd h ha
          · rw [e]; exact h
          · rw [e]; show 128 ≤ _; omega
          · omega
          · rw [e]; decide
        have ho : otherB (Utf8.decode s pos).1 = true := by simp [otherB]; omega
        have hb : alnum b = false := by simp [alnum]; omega
        rw [if_pos ho, hb]
        simp
    · rw [if_neg hp, List.drop_of_length_le (by omega)]
      simp

theorem name1_any (r : Nat) (w : World) : Calls Try.prog 125 #[.int .i32 (r : Int)] w fun e w' => e = .returned (.bool (otherB r)) ∧ w = w' := by
  have z1 : (r : Int) < 97 ↔ r < 97 := by omega
  have z2 : 122 < (r : Int) ↔ 122 < r := by omega
  have z3 : (r : Int) < 48 ↔ r < 48 := by omega
  have z4 : 57 < (r : Int) ↔ 57 < r := by omega
  by_cases h1 : r < 97 <;> by_cases h2 : 122 < r <;> by_cases h3 : r < 48 <;> by_cases h4 : 57 < r
  all_goals
    have HR : Aside0 (otherB r = ((decide (r < 97) || decide (122 < r)) && (decide (r < 48) || decide (57 < r)))) := ⟨rfl⟩
    go_enter Try.func125, Try.ntmps125
    go_wp2
    all_goals first | (exfalso; omega) | (go_ret; exact ⟨by rw [HR.out]; simp [h1, h2, h3, h4], rfl⟩)

set_option maxHeartbeats 2000000 in
set_option maxRecDepth 1000000 in
theorem indexFuncS_any (s : ByteArray) (w : World) :
    Calls Try.prog 147 #[.string s, .func (.func 125) #[] #[], .bool true] w fun e w' => e = .returned (.int .i64 (rfrom otherB s s.size 0)) ∧ Below w.heap.size w w' := by
  have eg := enters_of Try.func125 (by kernel_rfl) rfl
  go_enter Try.func147, Try.ntmps147
  go_wp2
  go_loopg [] s.size (fun gf wx => ∃ pos : Nat, wx.heap[w.heap.size]? = some (.stringIter s pos) ∧ Below w.heap.size w wx ∧ rfrom otherB s gf pos = rfrom otherB s s.size 0 ∧ s.size ≤ pos + gf)
  case atStart => exact ⟨0, World.iter_heap w s 0, (Below.refl _ w).alloc (Nat.le_refl _) _, rfl, by omega⟩
  case round =>
    obtain ⟨pos, hit, hbw, hleft, hfu⟩ := hrel
    by_cases hps : pos < s.size
    · obtain ⟨g', rfl⟩ : ∃ g', gk = g' + 1 := ⟨gk - 1, by omega⟩
      have hnx : ∀ ty, (Instr.next (.pointer (some ⟨w.heap.size, 0, none⟩)) true ty).run Try.prog wr = _ := fun ty => Lib.run_next_any_at wr w.heap.size s pos ty hit hps
      have hwd := Lib.width_pos s pos
      obtain ⟨R, hR⟩ : ∃ R, (Utf8.decode s pos).1 = R := ⟨_, rfl⟩
      obtain ⟨K, hK⟩ : ∃ K, (Utf8.decode s pos).2 = K := ⟨_, rfl⟩
      simp only [rfrom, hps, if_true, hR, hK] at hleft
      rw [hR, hK] at hnx
      rw [hK] at hwd
      have hit2 := Lib.iterAt_heap wr w.heap.size s pos (pos + K) hit
      have hbw2 := Lib.below_iterAt hbw (k := w.heap.size) (Nat.le_refl _) s (pos + K)
      obtain ⟨W, hWd⟩ : ∃ W, wr.iterAt w.heap.size s (pos + K) = W := ⟨_, rfl⟩
      rw [hWd] at hnx hit2 hbw2
      have cS : Calls Try.prog 125 #[.int .i32 (R : Int)] W _ := name1_any R W
      rcases hsp : otherB R with _ | _ <;> rw [hsp] at cS <;> simp only [hsp, if_true, Bool.false_eq_true, if_false] at hleft
      · go_wp2_with (go_at_call 125; refine cS.mono ?_; rintro e W' ⟨rfl, rfl⟩)
        go_roundg g'
        case measure => omega
        case rel => exact ⟨pos + K, hit2, hbw2, hleft, by omega⟩
      · go_wp2_with (go_at_call 125; refine cS.mono ?_; rintro e W' ⟨rfl, rfl⟩)
        go_ret
        exact ⟨by rw [← hleft]; rfl, hbw2⟩
    · have hnx : ∀ ty, (Instr.next (.pointer (some ⟨w.heap.size, 0, none⟩)) true ty).run Try.prog wr = _ := fun ty => Lib.run_next_end_at wr w.heap.size s pos ty hit hps
      rw [rfrom_end otherB s gk pos hps] at hleft
      go_wp2
      go_ret
      exact ⟨by rw [← hleft] <;> rfl, hbw⟩
theorem indexFuncS2_any (s : ByteArray) (w : World) :
    Calls Try.prog 141 #[.string s, .func (.func 125) #[] #[]] w fun e w' => e = .returned (.int .i64 (rfrom otherB s s.size 0)) ∧ Below w.heap.size w w' := by
  go_enter Try.func141, Try.ntmps141
  go_wp2_with (go_at_call 147; refine (indexFuncS_any _ _).mono ?_; rintro e w' ⟨rfl, hb⟩)
  go_ret
  exact ⟨rfl, hb⟩
theorem containsFuncS_any (s : ByteArray) (w : World) :
    Calls Try.prog 122 #[.string s, .func (.func 125) #[] #[]] w fun e w' => e = .returned (.bool (!(s.data.toList.all alnum))) ∧ Below w.heap.size w w' := by
  have HR : Aside0 (decide (0 ≤ rfrom otherB s s.size 0) = !(s.data.toList.all alnum)) := ⟨by rw [rfrom_alnum s s.size 0 (by omega), List.drop_zero]⟩
  go_enter Try.func122, Try.ntmps122
  go_wp2_with (go_at_call 141; refine (indexFuncS2_any _ _).mono ?_; rintro e w' ⟨rfl, hb⟩)
  go_ret
  exact ⟨by rw [← HR.out]; rfl, hb⟩

theorem empty_string (s : ByteArray) : s.toList = [] ↔ s.size = 0 := by
  rw [Lib.toList_data, ← List.length_eq_zero_iff, data_length]
theorem name_any (s : ByteArray) (w : World) : Calls Try.prog 106 #[.string s] w fun e w' => e = .returned (.bool (nameB s)) ∧ Below w.heap.size w w' := by
  by_cases h1 : s.size = 0
  · have hl : s.toList = [] := (empty_string s).2 h1
    have HR : Aside0 (nameB s = false) := ⟨by simp [nameB, h1]⟩
    clear h1
    go_enter Try.func106, Try.ntmps106
    go_wp2
    go_ret
    exact ⟨by rw [HR.out]; rfl, Below.refl _ _⟩
  · have hl : ¬ s.toList = [] := fun h => h1 ((empty_string s).1 h)
    have hl2 : (!s.toList.isEmpty) = true := by simp [hl]
    by_cases h2 : (s.size : Int) ≤ 8
    · have HR : Aside0 (nameB s = s.data.toList.all alnum) := ⟨by
        rw [nameB, show decide (1 ≤ s.size) = true from decide_eq_true (by omega), show decide (s.size ≤ 8) = true from decide_eq_true (by omega)]; simp⟩
      clear h1
      go_enter Try.func106, Try.ntmps106
      go_wp2_with (go_at_call 122; refine (containsFuncS_any _ _).mono ?_; rintro e w' ⟨rfl, hb⟩)
      go_ret
      exact ⟨by rw [HR.out]; simp, hb⟩
    · have HR : Aside0 (nameB s = false) := ⟨by rw [nameB, show decide (s.size ≤ 8) = false from decide_eq_false (by omega)]; simp⟩
      clear h1
      go_enter Try.func106, Try.ntmps106
      go_wp2
      go_ret
      exact ⟨by rw [HR.out]; rfl, Below.refl _ _⟩

/-! ### layouts -/
def layB (x : S60) : Bool := withinB x.f0 0 2 && withinB x.f1 1 3
def pubB (x : S60) : Bool := x.f1 == 3
def layoutsB (l : List S60) : Bool := l.all layB && decide (l.countP pubB < 2) && withinB l.length 1 2 && decide (l.map (·.f0)).Nodup

theorem within_wf {n a b : Int} (h : withinB n a b = true) (ha : -9223372036854775808 ≤ a) (hb : b ≤ 9223372036854775807) : (Lit.int .i64 n).wf = true := by
  simp only [withinB, Bool.and_eq_true, decide_eq_true_eq] at h
  simp only [Lit.wf, IntKind.min, IntKind.max, Bool.and_eq_true]
  simp [IntKind.bits, IntKind.signed]
  omega
theorem countP_take_le {α : Type} (p : α → Bool) (l : List α) (k : Nat) : (l.take k).countP p ≤ k := Nat.le_trans List.countP_le_length (List.length_take_le _ _)
theorem countP_take_succ {α : Type} (p : α → Bool) (l : List α) {k : Nat} (h : k < l.length) : (l.take (k + 1)).countP p = (l.take k).countP p + if p l[k] = true then 1 else 0 := by
  rw [List.take_succ_eq_append_getElem h, List.countP_append, List.countP_singleton]

set_option maxHeartbeats 2000000 in
theorem layouts_any (v : Value) (xs : List S60) (w : World) (hs : Sl k60 w v xs) : Calls Try.prog 107 #[v] w fun e w' => e = .returned (.bool (layoutsB xs)) ∧ Below w.heap.size w w' := by
  have hmax := hs.len
  have HSL := Aside0.mk hs
  obtain ⟨A, c, rfl, _, hC⟩ := hs
  have HC := Aside0.mk hC
  clear hC
  go_enter Try.func107, Try.ntmps107
  go_wp2
  go_loopg [3, 5, 8] xs.length (fun gg s3 s5 s8 wr => ∃ kk : Nat, kk ≤ xs.length ∧ xs.length - kk ≤ gg ∧ s8 = .int .i64 kk ∧ s3 = .int .i64 ((xs.take kk).countP pubB : Nat) ∧ Aside0 (Below w.heap.size w wr) ∧ Aside0 (∀ j (hj : j < xs.length), j < kk → layB xs[j] = true))
  case atStart => exact ⟨0, Nat.zero_le _, by omega, rfl, rfl, ⟨Below.refl _ w⟩, ⟨fun j hj h => absurd h (Nat.not_lt_zero _)⟩⟩
  case round =>
    obtain ⟨kk, hkk, hg, rfl, rfl, BW, HA⟩ := hrel
    have hcl := countP_take_le pubB xs kk
    obtain ⟨n, hn⟩ : ∃ n, (xs.take kk).countP pubB = n := ⟨_, rfl⟩
    rw [hn] at hcl
    rw [hn]
    have HN := Aside0.mk hn
    clear hn
    by_cases hlt : kk < xs.length
    · have hltz : (kk : Int) < (xs.length : Int) := by omega
      obtain ⟨ad, rfl, h0, h1⟩ := get60 (Kd.C_below HC.out BW.out) kk hlt
      have HCT := Aside0.mk ((countP_take_succ pubB xs hlt).trans (by rw [HN.out]))
      have HLB := Aside0.mk (show layB xs[kk] = (withinB xs[kk].f0 0 2 && withinB xs[kk].f1 1 3) from rfl)
      have HPB := Aside0.mk (show pubB xs[kk] = (xs[kk].f1 == 3) from rfl)
      have HMEM := Aside0.mk (List.getElem_mem hlt)
      generalize hy : xs[kk] = x at h0 h1 HCT HLB HPB HMEM
      have HX := Aside0.mk hy
      clear hy
      rcases q1 : withinB x.f0 0 2 with _ | _
      · have HF : Aside0 (layoutsB xs = false) := ⟨by
          have : xs.all layB = false := List.all_eq_false.2 ⟨x, HMEM.out, by rw [HLB.out, q1]; simp⟩
          rw [layoutsB, this]; simp⟩
        go_wp2_with (go_at_call 66; refine (within_any _ _ _ _).mono ?_; rintro e w' ⟨rfl, rfl⟩)
        go_ret
        exact ⟨by rw [HF.out]; rfl, BW.out.alloc BW.out.size _⟩
      · rcases q2 : withinB x.f1 1 3 with _ | _
        · have HF : Aside0 (layoutsB xs = false) := ⟨by
            have : xs.all layB = false := List.all_eq_false.2 ⟨x, HMEM.out, by rw [HLB.out, q2]; simp⟩
            rw [layoutsB, this]; simp⟩
          go_wp2_with (first | (go_at_call 66; refine (within_any _ _ _ _).mono ?_; rintro e w' ⟨rfl, rfl⟩) | (go_at_call 126; refine (state_any _ _).mono ?_; rintro e w' ⟨rfl, rfl⟩))
          go_ret
          exact ⟨by rw [HF.out]; rfl, BW.out.alloc BW.out.size _⟩
        · have HL : Aside0 (layB x = true) := ⟨by rw [HLB.out, q1, q2]; rfl⟩
          have HALL : Aside0 (∀ j (hj : j < xs.length), j < kk + 1 → layB xs[j] = true) := ⟨fun j hj h => by
            by_cases e : j = kk
            · subst e; rw [HX.out]; exact HL.out
            · exact HA.out j hj (by omega)⟩
          rcases q3 : (x.f1 == 3) with _ | _
          all_goals
            go_wp2_with (first | (go_at_call 66; refine (within_any _ _ _ _).mono ?_; rintro e w' ⟨rfl, rfl⟩) | (go_at_call 126; refine (state_any _ _).mono ?_; rintro e w' ⟨rfl, rfl⟩))
            go_roundg (xs.length - (kk + 1))
            case measure => omega
            case rel => exact ⟨kk + 1, by omega, by omega, by go_num, by rw [HCT.out, HPB.out, q3]; go_num, ⟨BW.out.alloc BW.out.size _⟩, HALL⟩
    · have hltz : ¬ (kk : Int) < (xs.length : Int) := by omega
      have : kk = xs.length := by omega
      subst this
      have hn : xs.countP pubB = n := by have := HN.out; rwa [List.take_length] at this
      have hall : xs.all layB = true := List.all_eq_true.2 fun x hx => by
        obtain ⟨j, hj, rfl⟩ := List.getElem_of_mem hx
        exact HA.out j hj hj
      have HR : Aside0 (layoutsB xs = (decide (n < 2) && withinB xs.length 1 2 && decide (xs.map (·.f0)).Nodup)) := ⟨by rw [layoutsB, hall, hn]; simp⟩
      have HWF : Aside0 (∀ x ∈ xs, (Lit.int .i64 x.f0).wf = true) := ⟨fun x hx => by
        have := List.all_eq_true.1 hall x hx
        rw [layB, Bool.and_eq_true] at this
        exact within_wf this.1 (by decide) (by decide)⟩
      clear hn hall
      by_cases c1 : (n : Int) < 2
      · have HD : Aside0 (decide (n < 2) = true) := ⟨decide_eq_true (by omega)⟩
        rcases q1 : withinB (xs.length : Int) 1 2 with _ | _
        · go_wp2_with (go_at_call 66; refine (within_any _ _ _ _).mono ?_; rintro e w' ⟨rfl, rfl⟩)
          go_ret
          exact ⟨by rw [HR.out, HD.out, q1]; rfl, BW.out⟩
        · go_wp2_with (first | (go_at_call 66; refine (within_any _ _ _ _).mono ?_; rintro e w' ⟨rfl, rfl⟩) | (go_at_call 127; refine (once60 128 #[] (enters_of Try.func128 (by kernel_rfl) rfl) (·.f0) _ xs _ (HSL.out.below BW.out) HWF.out (fun x W _ => layouts1_any x W)).mono ?_; rintro e w' ⟨rfl, hb⟩))
          go_ret
          exact ⟨by rw [HR.out, HD.out, q1]; simp, bb BW.out hb⟩
      · have HD : Aside0 (decide (n < 2) = false) := ⟨decide_eq_false (by omega)⟩
        go_wp2
        go_ret
        exact ⟨by rw [HR.out, HD.out]; rfl, BW.out⟩

/-! ### columns -/
def colB (x : S52) : Bool := decide (x.f0.size ≤ 12) && withinB x.f1 1 5 && withinB x.f2 1 3
def colsB (l : List S52) : Bool := decide (l.length ≤ 8) && l.all colB && decide (l.map (·.f0)).Nodup
theorem cols1_any (x : S52) (w : World) : Calls Try.prog 129 #[V52 x] w fun e w' => e = .returned (.bool (!colB x)) ∧ Below w.heap.size w w' := by
  by_cases c1 : (x.f0.size : Int) ≤ 12
  · have HD : Aside0 (decide (x.f0.size ≤ 12) = true) := ⟨decide_eq_true (by omega)⟩
    have c1' : ¬ 12 < (x.f0.size : Int) := by omega
    rcases q1 : withinB x.f1 1 5 with _ | _
    · go_enter Try.func129, Try.ntmps129
      go_wp2_with (go_at_call 66; refine (within_any _ _ _ _).mono ?_; rintro e w' ⟨rfl, rfl⟩)
      go_ret
      exact ⟨by rw [colB, HD.out, q1]; rfl, (Below.refl _ _).alloc (Nat.le_refl _) _⟩
    · go_enter Try.func129, Try.ntmps129
      go_wp2_with (first | (go_at_call 66; refine (within_any _ _ _ _).mono ?_; rintro e w' ⟨rfl, rfl⟩) | (go_at_call 126; refine (state_any _ _).mono ?_; rintro e w' ⟨rfl, rfl⟩))
      go_ret
      exact ⟨by rw [colB, HD.out, q1]; simp, (Below.refl _ _).alloc (Nat.le_refl _) _⟩
  · have HD : Aside0 (decide (x.f0.size ≤ 12) = false) := ⟨decide_eq_false (by omega)⟩
    go_enter Try.func129, Try.ntmps129
    go_wp2
    go_ret
    exact ⟨by rw [colB, HD.out]; rfl, (Below.refl _ _).alloc (Nat.le_refl _) _⟩
theorem any_not {α : Type} (p : α → Bool) (l : List α) : l.any (fun x => !p x) = !l.all p := by
  rw [List.any_eq_not_all_not]; simp
theorem cols_any (v : Value) (xs : List S52) (w : World) (hs : Sl k52 w v xs) : Calls Try.prog 108 #[v] w fun e w' => e = .returned (.bool (colsB xs)) ∧ Below w.heap.size w w' := by
  have hmax := hs.len
  have HSL := Aside0.mk hs
  obtain ⟨A, c, rfl, _, hC⟩ := hs
  clear hC
  by_cases c1 : (xs.length : Int) ≤ 8
  · have HD : Aside0 (decide (xs.length ≤ 8) = true) := ⟨decide_eq_true (by omega)⟩
    have hcon := contains52 129 #[] (enters_of Try.func129 (by kernel_rfl) rfl) (fun x => !colB x) _ xs w HSL.out (fun x W hb => (cols1_any x W).mono fun _ _ ⟨h, k⟩ => ⟨h, bb hb k⟩)
    rw [any_not] at hcon
    rcases q1 : xs.all colB with _ | _
    · rw [q1] at hcon
      have HCON := Aside0.mk hcon
      clear hcon
      go_enter Try.func108, Try.ntmps108
      go_wp2_with (go_at_call 130; refine HCON.out.mono ?_; rintro e w' ⟨rfl, hb⟩)
      go_ret
      exact ⟨by rw [colsB, HD.out, q1]; rfl, hb⟩
    · rw [q1] at hcon
      have HCON := Aside0.mk hcon
      have HWF : Aside0 (∀ x ∈ xs, x.f0.size ≤ maxLen) := ⟨fun x hx => by
        have := List.all_eq_true.1 q1 x hx
        rw [colB, Bool.and_eq_true, Bool.and_eq_true, decide_eq_true_eq] at this
        unfold maxLen; omega⟩
      clear hcon
      go_enter Try.func108, Try.ntmps108
      go_wp2_with (first | (go_at_call 130; refine HCON.out.mono ?_; rintro e w' ⟨rfl, hb⟩) | (go_at_call 131; refine (once52 132 #[] (enters_of Try.func132 (by kernel_rfl) rfl) (·.f0) _ xs _ (HSL.out.below hb) HWF.out (fun x W _ => cols2_any x W)).mono ?_; rintro e w' ⟨rfl, hb2⟩))
      go_ret
      exact ⟨by rw [colsB, HD.out, q1]; simp, bb hb hb2⟩
  · have HD : Aside0 (decide (xs.length ≤ 8) = false) := ⟨decide_eq_false (by omega)⟩
    go_enter Try.func108, Try.ntmps108
    go_wp2
    go_ret
    exact ⟨by rw [colsB, HD.out]; rfl, Below.refl _ _⟩

/-! ### families -/
def familyB (x : S40) : Bool := nameB x.f0 && withinB x.f1 1 8 && withinB x.f2 0 1099511627776 && layoutsB x.f3 && colsB x.f4
theorem bcell {W w1 : World} (hb : Below W.heap.size W w1) : (∀ b o, b < W.heap.size → w1.cell? ⟨b, o, none⟩ = W.cell? ⟨b, o, none⟩) ∧ (∀ b o, b < W.heap.size → w1.frozen? ⟨b, o, none⟩ = W.frozen? ⟨b, o, none⟩) :=
  ⟨fun b o h => hb.cell (p := ⟨b, o, none⟩) h, fun b o h => hb.frozen (p := ⟨b, o, none⟩) h⟩
set_option maxHeartbeats 1000000 in
theorem family_any (v : Value) (x : S40) (w : World) (h : Fm w v x) : Calls Try.prog 65 #[v] w fun e w' => e = .returned (.bool (familyB x)) ∧ Below w.heap.size w w' := by
  obtain ⟨v3, v4, rfl, h3, h4⟩ := h
  have hbx := fun (o : Obj) => (Below.refl w.heap.size w).alloc (Nat.le_refl _) o
  have H3 := Aside0.mk (fun W hb => layouts_any v3 x.f3 W (h3.below hb))
  have H4 := Aside0.mk (fun W hb => cols_any v4 x.f4 W (h4.below hb))
  obtain ⟨A3, c3, rfl, _, _⟩ := h3
  obtain ⟨A4, c4, rfl, _, _⟩ := h4
  have HBX := Aside0.mk hbx
  clear hbx
  rcases q1 : nameB x.f0 with _ | _
  · go_enter Try.func65, Try.ntmps65
    go_wp2_with (go_at_call 106; refine (name_any _ _).mono ?_; rintro e w1 ⟨rfl, hb1⟩)
    go_ret
    exact ⟨by rw [familyB, q1]; rfl, bb (HBX.out _) hb1⟩
  rcases q2 : withinB x.f1 1 8 with _ | _
  · go_enter Try.func65, Try.ntmps65
    go_wp2_with (first | (go_at_call 106; refine (name_any _ _).mono ?_; rintro e w1 ⟨rfl, hb1⟩; obtain ⟨hcell, hfr⟩ := bcell hb1) | (go_at_call 66; refine (within_any _ _ _ _).mono ?_; rintro e w' ⟨rfl, rfl⟩))
    go_ret
    exact ⟨by rw [familyB, q1, q2]; rfl, bb (HBX.out _) hb1⟩
  rcases q3 : withinB x.f2 0 1099511627776 with _ | _
  · go_enter Try.func65, Try.ntmps65
    go_wp2_with (first | (go_at_call 106; refine (name_any _ _).mono ?_; rintro e w1 ⟨rfl, hb1⟩; obtain ⟨hcell, hfr⟩ := bcell hb1) | (go_at_call 66; refine (within_any _ _ _ _).mono ?_; rintro e w' ⟨rfl, rfl⟩))
    go_ret
    exact ⟨by rw [familyB, q1, q2, q3]; rfl, bb (HBX.out _) hb1⟩
  rcases q4 : layoutsB x.f3 with _ | _
  · go_enter Try.func65, Try.ntmps65
    go_wp2_with (first | (go_at_call 106; refine (name_any _ _).mono ?_; rintro e w1 ⟨rfl, hb1⟩; obtain ⟨hcell, hfr⟩ := bcell hb1) | (go_at_call 66; refine (within_any _ _ _ _).mono ?_; rintro e w' ⟨rfl, rfl⟩) | (go_at_call 107; refine (H3.out _ (bb (HBX.out _) hb1)).mono ?_; rintro e w2 ⟨rfl, hb2⟩))
    go_ret
    exact ⟨by rw [familyB, q1, q2, q3, q4]; rfl, bb (bb (HBX.out _) hb1) hb2⟩
  · go_enter Try.func65, Try.ntmps65
    go_wp2_with (first | (go_at_call 106; refine (name_any _ _).mono ?_; rintro e w1 ⟨rfl, hb1⟩; obtain ⟨hcell, hfr⟩ := bcell hb1) | (go_at_call 66; refine (within_any _ _ _ _).mono ?_; rintro e w' ⟨rfl, rfl⟩) | (go_at_call 107; refine (H3.out _ (bb (HBX.out _) hb1)).mono ?_; rintro e w2 ⟨rfl, hb2⟩; have hb12 := bb hb1 hb2; obtain ⟨hcell2, hfr2⟩ := bcell hb12) | (go_at_call 108; refine (H4.out _ (bb (HBX.out _) hb12)).mono ?_; rintro e w3 ⟨rfl, hb3⟩))
    go_ret
    exact ⟨by rw [familyB, q1, q2, q3, q4]; simp, bb (bb (HBX.out _) hb12) hb3⟩
end Go.Proofs.Ytmgpoafoljkknaa.My
