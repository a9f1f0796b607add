/- Sameness of families and schemas: what the printed functions come to, and their contracts. Conditions: lengths fit an int. -/
import Derived.Test.YtmgpoafoljkknaaF
import Derived.Test.YtmgpoafoljkknaaPSchemaReadsx5
import Derived.Test.YtmgpoafoljkknaaPSchemaReadsx6
import Derived.Test.YtmgpoafoljkknaaPSchemaReadsx7
namespace Go.Proofs.Ytmgpoafoljkknaa.My
open Go.RowKit Go.Proofs.YtmgpoafoljkknaaW.PrintWords Go.Proofs.YtmgpoafoljkknaaW.PrintLast Go.Proofs.YtmgpoafoljkknaaW.PrintMore PSchemaReads

def eqList {α : Type} (eq : α → α → Bool) : List α → List α → Bool
  | [], [] => true
  | x :: xs, y :: ys => eq x y && eqList eq xs ys
  | _, _ => false
theorem eqList_len {α : Type} {eq : α → α → Bool} : ∀ {xs ys : List α}, eqList eq xs ys = true → xs.length = ys.length
  | [], [], _ => rfl
  | x :: xs, y :: ys, h => by
    simp only [eqList, Bool.and_eq_true] at h
    simp [eqList_len h.2]
theorem eqList_false {α : Type} {eq : α → α → Bool} {xs ys : List α} (h : ¬ xs.length = ys.length) : eqList eq xs ys = false := by
  rw [Bool.eq_false_iff]; exact fun h2 => h (eqList_len h2)
theorem eqList_iff {α : Type} {eq : α → α → Bool} (he : ∀ x y, eq x y = true ↔ x = y) : ∀ xs ys : List α, eqList eq xs ys = true ↔ xs = ys
  | [], [] => by simp [eqList]
  | [], y :: ys => by simp [eqList]
  | x :: xs, [] => by simp [eqList]
  | x :: xs, y :: ys => by simp [eqList, he, eqList_iff he xs ys]
theorem eqList_drop {α : Type} {eq : α → α → Bool} {xs ys : List α} {i : Nat} (h1 : i < xs.length) (h2 : i < ys.length) :
    eqList eq (xs.drop i) (ys.drop i) = (eq xs[i] ys[i] && eqList eq (xs.drop (i + 1)) (ys.drop (i + 1))) := by
  rw [List.drop_eq_getElem_cons h1, List.drop_eq_getElem_cons h2]; rfl
theorem eqList_end {α : Type} {eq : α → α → Bool} {xs ys : List α} {i : Nat} (h1 : ¬ i < xs.length) (h2 : ¬ i < ys.length) : eqList eq (xs.drop i) (ys.drop i) = true := by
  rw [List.drop_of_length_le (by omega), List.drop_of_length_le (by omega)]; rfl
theorem w64 {i n : Nat} (h : i < n) (hn : n ≤ 9223372036854775807) : wrap64 ((i : Int) + 1) = ((i + 1 : Nat) : Int) := by unfold wrap64; omega

def eq60 (x y : S60) : Bool := x.f0 == y.f0 && x.f1 == y.f1
def eq52 (x y : S52) : Bool := x.f0.toList == y.f0.toList && (x.f1 == y.f1 && x.f2 == y.f2)
def eq40 (x y : S40) : Bool := x.f0.toList == y.f0.toList && (x.f1 == y.f1 && (x.f2 == y.f2 && (eqList eq60 x.f3 y.f3 && eqList eq52 x.f4 y.f4)))
def eqCh (a b : Sch) : Bool := a.kind == b.kind && (a.fam.toList == b.fam.toList && (a.qual.toList == b.qual.toList && (a.typ == b.typ && (a.grp == b.grp && (a.vers == b.vers && a.life == b.life)))))
def eqSch (a b : Sch) : Bool := a.ver == b.ver && (eqCh a b && (a.step == b.step && eqList eq40 a.fams b.fams))
theorem toList_inj {a b : ByteArray} : a.toList = b.toList ↔ a = b := by
  rw [Lib.toList_data, Lib.toList_data]
  exact ⟨fun h => ByteArray.ext (Array.toList_inj.1 h), fun h => by rw [h]⟩
theorem eq60_iff (x y : S60) : eq60 x y = true ↔ x = y := by
  rcases x with ⟨a, b⟩; rcases y with ⟨c, d⟩; simp [eq60]
theorem eq52_iff (x y : S52) : eq52 x y = true ↔ x = y := by
  rcases x with ⟨a, b, c⟩; rcases y with ⟨d, e, f⟩; simp [eq52, toList_inj]
theorem eq40_iff (x y : S40) : eq40 x y = true ↔ x = y := by
  rcases x with ⟨a, b, c, d, e⟩; rcases y with ⟨a', b', c', d', e'⟩; simp [eq40, toList_inj, eqList_iff eq60_iff, eqList_iff eq52_iff]
theorem eqSch_iff (a b : Sch) : eqSch a b = true ↔ a = b := by
  rcases a with ⟨a1, a2, a3, a4, a5, a6, a7, a8, a9, a10⟩; rcases b with ⟨b1, b2, b3, b4, b5, b6, b7, b8, b9, b10⟩
  simp only [eqSch, eqCh, Bool.and_eq_true, beq_iff_eq, toList_inj, eqList_iff eq40_iff, Sch.mk.injEq]
  constructor
  · rintro ⟨h1, ⟨h3, h4, h5, h6, h7, h8, h9⟩, h10, h2⟩; exact ⟨h1, h2, h3, h4, h5, h6, h7, h8, h9, h10⟩
  · rintro ⟨h1, h2, h3, h4, h5, h6, h7, h8, h9, h10⟩; exact ⟨h1, ⟨h3, h4, h5, h6, h7, h8, h9⟩, h10, h2⟩

theorem rd60 {xs : List S60} {i : Nat} (h : i < xs.length) : rd_T60 xs (i : Int) = xs[i] := by simp [rd_T60, h]
theorem rd52 {xs : List S52} {i : Nat} (h : i < xs.length) : rd_T52 xs (i : Int) = xs[i] := by simp [rd_T52, h]
theorem rd40 {xs : List S40} {i : Nat} (h : i < xs.length) : rd_T40 xs (i : Int) = xs[i] := by simp [rd_T40, h]
theorem neg60 (x y : S60) : (!(x.f0 == y.f0) || !(x.f1 == y.f1)) = !eq60 x y := by simp [eq60, Bool.not_and]
theorem neg52 (x y : S52) : (!(x.f0.toList == y.f0.toList) || (!(x.f1 == y.f1) || !(x.f2 == y.f2))) = !eq52 x y := by simp [eq52, Bool.not_and]

theorem l111 (xs ys : List S60) (hl : xs.length = ys.length) (hm : xs.length ≤ 9223372036854775807) : ∀ (d k i : Nat), xs.length = i + d → d < k → api_Layout_111.l0 k xs ys (xs.length : Int) (i : Int) = some (eqList eq60 (xs.drop i) (ys.drop i))
  | d, 0, i, h, hk => by omega
  | d, k + 1, i, h, hk => by
    unfold api_Layout_111.l0
    by_cases hi : i < xs.length
    · rw [if_pos (by omega), if_pos (by omega), if_pos (by omega), if_pos (by omega), rd60 hi, rd60 (by omega), neg60, w64 hi hm, l111 xs ys hl hm (d - 1) k (i + 1) (by omega) (by omega), eqList_drop hi (by omega)]
      cases eq60 xs[i] (ys[i]'(by omega)) <;> simp
    · rw [if_neg (by omega), eqList_end hi (by omega)]
theorem l112 (xs ys : List S52) (hl : xs.length = ys.length) (hm : xs.length ≤ 9223372036854775807) : ∀ (d k i : Nat), xs.length = i + d → d < k → api_Column_112.l0 k xs ys (xs.length : Int) (i : Int) = some (eqList eq52 (xs.drop i) (ys.drop i))
  | d, 0, i, h, hk => by omega
  | d, k + 1, i, h, hk => by
    unfold api_Column_112.l0
    by_cases hi : i < xs.length
    · rw [if_pos (by omega), if_pos (by omega), if_pos (by omega), if_pos (by omega), rd52 hi, rd52 (by omega), neg52, w64 hi hm, l112 xs ys hl hm (d - 1) k (i + 1) (by omega) (by omega), eqList_drop hi (by omega)]
      cases eq52 xs[i] (ys[i]'(by omega)) <;> simp
    · rw [if_neg (by omega), eqList_end hi (by omega)]
theorem f111 (xs ys : List S60) (hm : xs.length ≤ 9223372036854775807) (k : Nat) (hk : xs.length < k) : api_Layout_111.f k xs ys = some (eqList eq60 xs ys) := by
  unfold api_Layout_111.f
  by_cases h : xs.length = ys.length
  · rw [if_pos (by omega)]
    have := l111 xs ys h hm xs.length k 0 (by omega) hk
    simpa using this
  · rw [if_neg (by omega), eqList_false h]
theorem f112 (xs ys : List S52) (hm : xs.length ≤ 9223372036854775807) (k : Nat) (hk : xs.length < k) : api_Column_112.f k xs ys = some (eqList eq52 xs ys) := by
  unfold api_Column_112.f
  by_cases h : xs.length = ys.length
  · rw [if_pos (by omega)]
    have := l112 xs ys h hm xs.length k 0 (by omega) hk
    simpa using this
  · rw [if_neg (by omega), eqList_false h]
theorem f84 (x y : S40) (h3 : x.f3.length ≤ 9223372036854775807) (h4 : x.f4.length ≤ 9223372036854775807) (k : Nat) (hk : x.f3.length + x.f4.length < k) :
    schema_sameFamily.f k x.f0 x.f1 x.f2 x.f3 x.f4 y.f0 y.f1 y.f2 y.f3 y.f4 = some (eq40 x y) := by
  unfold schema_sameFamily.f eq40
  rw [f111 x.f3 y.f3 h3 k (by omega), f112 x.f4 y.f4 h4 k (by omega)]
  by_cases c0 : x.f0.toList = y.f0.toList
  · by_cases c1 : x.f1 = y.f1
    · by_cases c2 : x.f2 = y.f2
      · simp only [c0, c1, c2, if_true, Option.bind_some, beq_self_eq_true, Bool.true_and]
        cases eqList eq60 x.f3 y.f3 <;> simp
      · simp [c0, c1, c2]
    · simp [c0, c1]
  · simp [c0]
theorem same84_any (v u : Value) (x y : S40) (w : World) (hv : Fm w v x) (hu : Fm w u y) : Calls Try.prog 84 #[v, u] w fun e w' => e = .returned (.bool (eq40 x y)) ∧ Below w.heap.size w w' := by
  obtain ⟨_, _, rfl, h3, h4⟩ := hv
  have l3 := h3.len
  have l4 := h4.len
  obtain ⟨A3, c3, rfl, hc3, g3⟩ := h3
  obtain ⟨A4, c4, rfl, hc4, g4⟩ := h4
  obtain ⟨_, _, rfl, ⟨B3, d3, rfl, hd3, k3⟩, ⟨B4, d4, rfl, hd4, k4⟩⟩ := hu
  exact schema_sameFamily.calls (x.f3.length + x.f4.length + 1) x.f0 x.f1 x.f2 A3 c3 x.f3 A4 c4 x.f4 y.f0 y.f1 y.f2 B3 d3 y.f3 B4 d4 y.f4 _ w g3 hc3 g4 hc4 k3 hd3 k4 hd4 (f84 x y l3 l4 _ (by omega))

set_option maxHeartbeats 1000000 in
set_option maxRecDepth 100000 in
theorem equal83 (v u : Value) (xs ys : List S40) (w : World) (hs : Sl k40 w v xs) (hu : Sl k40 w u ys) :
    Calls Try.prog 83 #[v, u, .func (.func 84) #[] #[]] w fun e w' => e = .returned (.bool (eqList eq40 xs ys)) ∧ Below w.heap.size w w' := by
  have hmax := hs.len
  have hmax2 := hu.len
  obtain ⟨A, c, rfl, _, hC⟩ := hs
  obtain ⟨B, c', rfl, _, hD⟩ := hu
  have HC := Aside0.mk hC
  have HD := Aside0.mk hD
  clear hC hD
  by_cases hlen : xs.length = ys.length
  rotate_left
  · have q1 : (xs.length == ys.length) = false := beq_eq_false_iff_ne.2 hlen
    have q2 : ((xs.length : Int) != (ys.length : Int)) = true := by rw [bne_iff_ne]; omega
    have HR := Aside0.mk (eqList_false (eq := eq40) hlen)
    clear hlen
    go_enter Try.func83, Try.ntmps83
    go_wp2
    go_ret
    exact ⟨by rw [HR.out]; rfl, Below.refl _ _⟩
  · have q2 : ((xs.length : Int) != (ys.length : Int)) = false := by rw [bne_eq_false_iff_eq]; omega
    have HL := Aside0.mk hlen
    have hle : xs.length ≤ ys.length := by omega
    have q1 : (xs.length == ys.length) = true := beq_iff_eq.2 hlen
    clear hlen
    go_enter Try.func83, Try.ntmps83
    go_wp2
    clear q1 q2
    go_loopg [7, 8, 9, 17] xs.length (fun gg _ _ _ s8 wr => ∃ kk : Nat, kk ≤ xs.length ∧ xs.length - kk ≤ gg ∧ s8 = .int .i64 kk ∧ Aside0 (Below w.heap.size w wr) ∧ Aside0 (eqList eq40 xs ys = eqList eq40 (xs.drop kk) (ys.drop kk)))
    case atStart => exact ⟨0, Nat.zero_le _, by omega, rfl, ⟨Below.refl _ w⟩, ⟨by simp⟩⟩
    case round =>
      obtain ⟨kk, hkk, hg, rfl, BW, HA⟩ := hrel
      by_cases hlt : kk < xs.length
      · have hltz : (kk : Int) < (xs.length : Int) := by omega
        have hlt2 : kk < ys.length := by omega
        have hltz2 : (kk : Int) < (ys.length : Int) := by omega
        have HE := Aside0.mk (HA.out.trans (eqList_drop hlt hlt2))
        obtain ⟨ad, A3, c3, A4, c4, rfl, h0, h1, h2, h3, h4, hfm⟩ := get40 (Kd.C_below HC.out BW.out) kk hlt
        obtain ⟨bd, B3, d3, B4, d4, rfl, k0, k1, k2, k3, k4, kfm⟩ := get40 (Kd.C_below HD.out BW.out) kk hlt2
        generalize xs[kk] = x at h0 h1 h2 h3 h4 hfm HE
        generalize ys[kk] = y at k0 k1 k2 k3 k4 kfm HE
        have k0' := fun o => pw_cell_below (below_alloc (Below.refl _ _) o) k0
        have k1' := fun o => pw_cell_below (below_alloc (Below.refl _ _) o) k1
        have k2' := fun o => pw_cell_below (below_alloc (Below.refl _ _) o) k2
        have k3' := fun o => pw_cell_below (below_alloc (Below.refl _ _) o) k3
        have k4' := fun o => pw_cell_below (below_alloc (Below.refl _ _) o) k4
        clear k0 k1 k2 k3 k4
        have hcall := fun W hb => same84_any _ _ x y W (hfm.below hb) (kfm.below hb)
        clear hfm kfm
        rcases hq : eq40 x y with _ | _
        all_goals
          rw [hq] at HE
          simp only [hq] at hcall
          have HCALL := Aside0.mk hcall
          clear hcall hq
          have HBX := Aside0.mk (fun (o o2 : Obj) => ((Below.refl wr.heap.size wr).alloc (Nat.le_refl _) o).alloc (by simp) o2)
          go_wp2_with (go_at_call 84; refine (HCALL.out _ (HBX.out _ _)).mono ?_; rintro e w' ⟨rfl, hb'⟩)
        · go_ret
          exact ⟨by rw [HE.out]; rfl, bb (bb BW.out (HBX.out _ _)) hb'⟩
        · go_roundg (xs.length - (kk + 1))
          case measure => omega
          case rel => exact ⟨kk + 1, by omega, by omega, by go_num, ⟨bb (bb BW.out (HBX.out _ _)) hb'⟩, ⟨by rw [HE.out]; simp⟩⟩
      · have hltz : ¬ (kk : Int) < (xs.length : Int) := by omega
        have : kk = xs.length := by omega
        subst this
        have HE := Aside0.mk (HA.out.trans (eqList_end (Nat.lt_irrefl _) (by have := HL.out; omega)))
        go_wp2
        go_ret
        exact ⟨by rw [HE.out]; rfl, BW.out⟩

/-! ### the references' -/
theorem l28b (x y : S40) (h4 : x.f4.length = y.f4.length) (hm : x.f4.length ≤ 9223372036854775807) : ∀ (d k i : Nat), x.f4.length = i + d → d < k → joistref00_SameFamily.l1 k (i : Int) x.f0 x.f1 x.f2 x.f3 x.f4 y.f0 y.f1 y.f2 y.f3 y.f4 = some (eqList eq52 (x.f4.drop i) (y.f4.drop i))
  | d, 0, i, h, hk => by omega
  | d, k + 1, i, h, hk => by
    unfold joistref00_SameFamily.l1
    by_cases hi : i < x.f4.length
    · rw [if_pos (by omega), if_pos (by omega), if_pos (by omega), rd52 hi, rd52 (by omega), neg52, w64 hi hm, l28b x y h4 hm (d - 1) k (i + 1) (by omega) (by omega), eqList_drop hi (by omega)]
      cases eq52 x.f4[i] (y.f4[i]'(by omega)) <;> simp
    · rw [if_neg (by omega), eqList_end hi (by omega)]
theorem l28a (x y : S40) (h3 : x.f3.length = y.f3.length) (h4 : x.f4.length = y.f4.length) (hm3 : x.f3.length ≤ 9223372036854775807) (hm : x.f4.length ≤ 9223372036854775807) : ∀ (d k i : Nat), x.f3.length = i + d → d + x.f4.length + 1 < k → joistref00_SameFamily.l0 k (i : Int) x.f0 x.f1 x.f2 x.f3 x.f4 y.f0 y.f1 y.f2 y.f3 y.f4 = some (eqList eq60 (x.f3.drop i) (y.f3.drop i) && eqList eq52 x.f4 y.f4)
  | d, 0, i, h, hk => by omega
  | d, k + 1, i, h, hk => by
    unfold joistref00_SameFamily.l0
    by_cases hi : i < x.f3.length
    · rw [if_pos (by omega), if_pos (by omega), if_pos (by omega), rd60 hi, rd60 (by omega), neg60, w64 hi hm3, l28a x y h3 h4 hm3 hm (d - 1) k (i + 1) (by omega) (by omega), eqList_drop hi (by omega)]
      cases eq60 x.f3[i] (y.f3[i]'(by omega)) <;> simp
    · have := l28b x y h4 hm x.f4.length k 0 (by omega) (by omega)
      rw [if_neg (by omega), eqList_end hi (by omega), Bool.true_and]
      simpa using this
theorem j28f (k : Nat) (x y : S40) : joistref00_SameFamily.j0 (k + 1) false x.f0 x.f1 x.f2 x.f3 x.f4 y.f0 y.f1 y.f2 y.f3 y.f4 = joistref00_SameFamily.l0 k 0 x.f0 x.f1 x.f2 x.f3 x.f4 y.f0 y.f1 y.f2 y.f3 y.f4 := by
  rw [joistref00_SameFamily.j0]; exact if_neg (by decide)
theorem j28t (k : Nat) (x y : S40) : joistref00_SameFamily.j0 (k + 1) true x.f0 x.f1 x.f2 x.f3 x.f4 y.f0 y.f1 y.f2 y.f3 y.f4 = some false := by
  rw [joistref00_SameFamily.j0]; exact if_pos rfl
theorem f28 (x y : S40) (h3 : x.f3.length ≤ 9223372036854775807) (h4 : x.f4.length ≤ 9223372036854775807) (k : Nat) (hk : x.f3.length + x.f4.length + 3 < k) :
    joistref00_SameFamily.f k x.f0 x.f1 x.f2 x.f3 x.f4 y.f0 y.f1 y.f2 y.f3 y.f4 = some (eq40 x y) := by
  obtain ⟨k, rfl⟩ : ∃ m, k = m + 1 := ⟨k - 1, by omega⟩
  unfold joistref00_SameFamily.f eq40
  by_cases c0 : x.f0.toList = y.f0.toList
  · by_cases c1 : x.f1 = y.f1
    · by_cases c2 : x.f2 = y.f2
      · by_cases c3 : x.f3.length = y.f3.length
        · by_cases c4 : x.f4.length = y.f4.length
          · have := l28a x y c3 c4 h3 h4 x.f3.length k 0 (by omega) (by omega)
            have c4' : ((x.f4.length : Int) != (y.f4.length : Int)) = false := by rw [bne_eq_false_iff_eq]; omega
            rw [if_pos c0, if_pos c1, if_pos c2, if_pos (by omega), c4', j28f]
            simpa [c0, c1, c2] using this
          · have c4' : ((x.f4.length : Int) != (y.f4.length : Int)) = true := by rw [bne_iff_ne]; omega
            rw [if_pos c0, if_pos c1, if_pos c2, if_pos (by omega), c4', j28t, eqList_false c4]; simp
        · rw [if_pos c0, if_pos c1, if_pos c2, if_neg (by omega), j28t, eqList_false c3]; simp
      · rw [if_pos c0, if_pos c1, if_neg c2, j28t]; simp [c2]
    · rw [if_pos c0, if_neg c1, j28t]; simp [c1]
  · rw [if_neg c0, j28t]; simp [c0]
theorem same28_any (v u : Value) (x y : S40) (w : World) (hv : Fm w v x) (hu : Fm w u y) : Calls Try.prog 28 #[v, u] w fun e w' => e = .returned (.bool (eq40 x y)) ∧ Below w.heap.size w w' := by
  obtain ⟨_, _, rfl, h3, h4⟩ := hv
  have l3 := h3.len
  have l4 := h4.len
  obtain ⟨A3, c3, rfl, hc3, g3⟩ := h3
  obtain ⟨A4, c4, rfl, hc4, g4⟩ := h4
  obtain ⟨_, _, rfl, ⟨B3, d3, rfl, hd3, k3⟩, ⟨B4, d4, rfl, hd4, k4⟩⟩ := hu
  exact joistref00_SameFamily.calls (x.f3.length + x.f4.length + 4) x.f0 x.f1 x.f2 A3 c3 x.f3 A4 c4 x.f4 y.f0 y.f1 y.f2 B3 d3 y.f3 B4 d4 y.f4 _ w g3 hc3 g4 hc4 k3 hd3 k4 hd4 (f28 x y l3 l4 _ (by omega))

theorem l17 (a b : Sch) (hl : a.fams.length = b.fams.length) (hm : a.fams.length ≤ 9223372036854775807) (N : Nat) (hN : ∀ f ∈ a.fams, f.f3.length + f.f4.length + 3 < N ∧ f.f3.length ≤ 9223372036854775807 ∧ f.f4.length ≤ 9223372036854775807) :
    ∀ (d k i : Nat), a.fams.length = i + d → d + N < k →
    joistref00_SameSchema.l0 k (i : Int) a.ver a.fams a.kind a.fam a.qual a.typ a.grp a.vers a.life a.step b.ver b.fams b.kind b.fam b.qual b.typ b.grp b.vers b.life b.step = some (eqList eq40 (a.fams.drop i) (b.fams.drop i))
  | d, 0, i, h, hk => by omega
  | d, k + 1, i, h, hk => by
    unfold joistref00_SameSchema.l0
    by_cases hi : i < a.fams.length
    · have hf := hN _ (List.getElem_mem hi)
      rw [if_pos (by omega), if_pos (by omega), if_pos (by omega), rd40 hi, rd40 (by omega), f28 _ _ hf.2.1 hf.2.2 k (by omega), w64 hi hm, l17 a b hl hm N hN (d - 1) k (i + 1) (by omega) (by omega), eqList_drop hi (by omega), Option.bind_some]
      cases eq40 a.fams[i] (b.fams[i]'(by omega)) <;> simp
    · rw [if_neg (by omega), eqList_end hi (by omega)]
theorem j17f (k : Nat) (a b : Sch) : joistref00_SameSchema.j0 (k + 1) false a.ver a.fams a.kind a.fam a.qual a.typ a.grp a.vers a.life a.step b.ver b.fams b.kind b.fam b.qual b.typ b.grp b.vers b.life b.step = joistref00_SameSchema.l0 k 0 a.ver a.fams a.kind a.fam a.qual a.typ a.grp a.vers a.life a.step b.ver b.fams b.kind b.fam b.qual b.typ b.grp b.vers b.life b.step := by
  rw [joistref00_SameSchema.j0]; exact if_neg (by decide)
theorem j17t (k : Nat) (a b : Sch) : joistref00_SameSchema.j0 (k + 1) true a.ver a.fams a.kind a.fam a.qual a.typ a.grp a.vers a.life a.step b.ver b.fams b.kind b.fam b.qual b.typ b.grp b.vers b.life b.step = some false := by
  rw [joistref00_SameSchema.j0]; exact if_pos rfl
theorem f17 (a b : Sch) (hm : a.fams.length ≤ 9223372036854775807) (N : Nat) (hN : ∀ f ∈ a.fams, f.f3.length + f.f4.length + 3 < N ∧ f.f3.length ≤ 9223372036854775807 ∧ f.f4.length ≤ 9223372036854775807) (k : Nat) (hk : a.fams.length + N + 1 < k) :
    joistref00_SameSchema.f k a.ver a.fams a.kind a.fam a.qual a.typ a.grp a.vers a.life a.step b.ver b.fams b.kind b.fam b.qual b.typ b.grp b.vers b.life b.step = some (eqSch a b) := by
  obtain ⟨k, rfl⟩ : ∃ m, k = m + 1 := ⟨k - 1, by omega⟩
  unfold joistref00_SameSchema.f eqSch
  have hch : (!(a.kind == b.kind) || (!(a.fam.toList == b.fam.toList) || (!(a.qual.toList == b.qual.toList) || (!(a.typ == b.typ) || (!(a.grp == b.grp) || (!(a.vers == b.vers) || (!(a.life == b.life)))))))) = !eqCh a b := by
    simp [eqCh, Bool.not_and]
  rw [hch]
  by_cases c0 : a.ver = b.ver
  · cases c1 : eqCh a b with
    | false => rw [if_pos c0, if_pos (by simp), j17t]; simp
    | true =>
      by_cases c2 : a.step = b.step
      · by_cases c3 : a.fams.length = b.fams.length
        · have := l17 a b c3 hm N hN a.fams.length k 0 (by omega) (by omega)
          have c4' : ((a.fams.length : Int) != (b.fams.length : Int)) = false := by rw [bne_eq_false_iff_eq]; omega
          rw [if_pos c0, if_neg (by simp), if_pos c2, c4', j17f]
          simpa [c0, c2] using this
        · have c4' : ((a.fams.length : Int) != (b.fams.length : Int)) = true := by rw [bne_iff_ne]; omega
          rw [if_pos c0, if_neg (by simp), if_pos c2, c4', j17t, eqList_false c3]; simp
      · rw [if_pos c0, if_neg (by simp), if_neg c2, j17t]; simp [c2]
  · rw [if_neg c0, j17t]; simp [c0]
theorem bound_of (l : List S40) : ∃ N, ∀ f ∈ l, f.f3.length + f.f4.length + 3 < N := by
  induction l with
  | nil => exact ⟨0, by simp⟩
  | cons x l ih =>
    obtain ⟨N, h⟩ := ih
    refine ⟨N + x.f3.length + x.f4.length + 4, fun f hf => ?_⟩
    rcases List.mem_cons.1 hf with rfl | hf
    · omega
    · have := h f hf; omega
theorem sl40_lens {w : World} {v : Value} {xs : List S40} (h : Sl k40 w v xs) : ∀ f ∈ xs, f.f3.length ≤ 9223372036854775807 ∧ f.f4.length ≤ 9223372036854775807 := by
  obtain ⟨A, c, rfl, _, hC⟩ := h
  intro f hf
  obtain ⟨i, hi, rfl⟩ := List.getElem_of_mem hf
  obtain ⟨_, _, _, _, _, _, _, _, _, _, _, hfm⟩ := get40 hC i hi
  obtain ⟨_, _, _, h3, h4⟩ := hfm
  exact ⟨h3.len, h4.len⟩
theorem same17_any (v u : Value) (a b : Sch) (w : World) (hv : Sc w v a) (hu : Sc w u b) : Calls Try.prog 17 #[v, u] w fun e w' => e = .returned (.bool (eqSch a b)) ∧ Below w.heap.size w w' := by
  obtain ⟨_, rfl, h3⟩ := hv
  have l3 := h3.len
  have l4 := sl40_lens h3
  obtain ⟨A3, c3, rfl, hc3, g3⟩ := h3
  obtain ⟨_, rfl, ⟨B3, d3, rfl, hd3, k3⟩⟩ := hu
  obtain ⟨N, hN⟩ := bound_of a.fams
  exact joistref00_SameSchema.calls (a.fams.length + N + 2) a.ver A3 c3 a.fams a.kind a.fam a.qual a.typ a.grp a.vers a.life a.step b.ver B3 d3 b.fams b.kind b.fam b.qual b.typ b.grp b.vers b.life b.step _ w g3 hc3 k3 hd3 (f17 a b l3 N (fun f hf => ⟨hN f hf, l4 f hf⟩) _ (by omega))

attribute [local go_sem high] eqA26
set_option maxHeartbeats 1000000 in
set_option maxRecDepth 100000 in
theorem same33_any (v u : Value) (a b : Sch) (w : World) (hv : Sc w v a) (hu : Sc w u b) : Calls Try.prog 33 #[v, u] w fun e w' => e = .returned (.bool (eqSch a b)) ∧ Below w.heap.size w w' := by
  obtain ⟨va, rfl, h3⟩ := hv
  obtain ⟨vb, rfl, k3⟩ := hu
  have hcall := fun W hb => equal83 va vb a.fams b.fams W (h3.below hb) (k3.below hb)
  obtain ⟨A3, c3, rfl, hc3, g3⟩ := h3
  obtain ⟨B3, d3, rfl, hd3, k3⟩ := k3
  have HBX := Aside0.mk (fun (o o2 : Obj) => ((Below.refl w.heap.size w).alloc (Nat.le_refl _) o).alloc (by simp) o2)
  have HR := Aside0.mk (show eqSch a b = (a.ver == b.ver && (eqCh a b && (a.step == b.step && eqList eq40 a.fams b.fams))) from rfl)
  have HCH := Aside0.mk (show eqCh a b = (a.kind == b.kind && (a.fam.toList == b.fam.toList && (a.qual.toList == b.qual.toList && (a.typ == b.typ && (a.grp == b.grp && (a.vers == b.vers && a.life == b.life)))))) from rfl)
  obtain ⟨ver, fams, kind, fam, qual, typ, grp, vers, life, step⟩ := a
  obtain ⟨ver', fams', kind', fam', qual', typ', grp', vers', life', step'⟩ := b
  simp only at *
  clear g3 k3 hc3 hd3
  rcases q1 : (ver == ver') with _ | _
  · go_enter Try.func33, Try.ntmps33
    go_wp2
    go_ret
    exact ⟨by rw [HR.out, q1]; rfl, HBX.out _ _⟩
  rcases q2 : (kind == kind' && (fam.toList == fam'.toList && (qual.toList == qual'.toList && (typ == typ' && (grp == grp' && (vers == vers' && life == life')))))) with _ | _
  · have HQ := Aside0.mk q2
    go_enter Try.func33, Try.ntmps33
    go_wp2
    go_ret
    exact ⟨by rw [HR.out, q1, HCH.out, HQ.out]; rfl, HBX.out _ _⟩
  have HQ := Aside0.mk q2
  clear q2
  have q2 := HQ.out
  simp only [Bool.and_eq_true, beq_iff_eq, toList_inj] at q2
  obtain ⟨rfl, rfl, rfl, rfl, rfl, rfl, rfl⟩ := q2
  rcases q3 : (step == step') with _ | _
  · go_enter Try.func33, Try.ntmps33
    go_wp2
    go_ret
    exact ⟨by rw [HR.out, q1, HCH.out, HQ.out, q3]; rfl, HBX.out _ _⟩
  · have HCALL := Aside0.mk hcall
    clear hcall
    go_enter Try.func33, Try.ntmps33
    go_wp2_with (go_at_call 83; refine (HCALL.out _ (HBX.out _ _)).mono ?_; rintro e w1 ⟨rfl, hb⟩)
    go_ret
    exact ⟨by rw [HR.out, q1, HCH.out, HQ.out, q3]; simp, bb (HBX.out _ _) hb⟩
theorem l37 (xs ys : List Int) (hl : xs.length = ys.length) (hm : xs.length ≤ 9223372036854775807) : ∀ (d k i : Nat), xs.length = i + d → d < k → joistref00_SameInts.l0 k xs ys (i : Int) = some (eqList (· == ·) (xs.drop i) (ys.drop i))
  | d, 0, i, h, hk => by omega
  | d, k + 1, i, h, hk => by
    unfold joistref00_SameInts.l0
    by_cases hi : i < xs.length
    · have e1 : rd xs (i : Int) = xs[i] := by simp [rd, hi]
      have e2 : rd ys (i : Int) = ys[i]'(by omega) := by simp [rd, show i < ys.length by omega]
      rw [if_pos (by omega), if_pos (by omega), if_pos (by omega), e1, e2, w64 hi hm, l37 xs ys hl hm (d - 1) k (i + 1) (by omega) (by omega), eqList_drop hi (by omega)]
      by_cases c : xs[i] = ys[i]'(by omega)
      · rw [if_pos c]; simp [c]
      · rw [if_neg c]; simp [c]
    · rw [if_neg (by omega), eqList_end hi (by omega)]
theorem same37_any (v u : Value) (xs ys : List Int) (w : World) (hv : Sl (Kd.int .i64) w v xs) (hu : Sl (Kd.int .i64) w u ys) : Calls Try.prog 37 #[v, u] w fun e w' => e = .returned (.bool (decide (xs = ys))) ∧ Below w.heap.size w w' := by
  have hm := hv.len
  obtain ⟨A, c, rfl, hc, hC⟩ := hv
  obtain ⟨B, c', rfl, hc', hD⟩ := hu
  have hf : joistref00_SameInts.f (xs.length + 1) xs ys = some (decide (xs = ys)) := by
    unfold joistref00_SameInts.f
    by_cases h : xs.length = ys.length
    · have := l37 xs ys h hm xs.length (xs.length + 1) 0 (by omega) (by omega)
      have e : eqList (· == ·) xs ys = decide (xs = ys) := by
        rw [Bool.eq_iff_iff, eqList_iff (by simp), decide_eq_true_iff]
      rw [if_pos (by omega), ← e]
      simpa using this
    · rw [if_neg (by omega), decide_eq_false (fun e => h (by rw [e]))]
  exact (joistref00_SameInts.calls _ A c xs B c' ys _ w hC hc hD hc' hf).mono fun _ _ ⟨h, k⟩ => ⟨h, k.below⟩
end Go.Proofs.Ytmgpoafoljkknaa.My
