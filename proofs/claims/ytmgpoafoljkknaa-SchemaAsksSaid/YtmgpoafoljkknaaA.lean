/- Words for values in memory (a slice, a family, a schema), and contracts of the small predicates and of the searches by a predicate. No conditions. -/
import Derived.Test.YtmgpoafoljkknaaPSchemaReadsx0
import Derived.Shelf.Abstract
import Derived.Lib.OthersKept
import Derived.Lib.TrimU
namespace Go.Proofs.Ytmgpoafoljkknaa.My
open Go.RowKit Go.Proofs.YtmgpoafoljkknaaW.PrintWords Go.Proofs.YtmgpoafoljkknaaW.PrintLast Go.Proofs.YtmgpoafoljkknaaW.PrintMore PSchemaReads

/-- A slice value that reads as a list. -/
def Sl {α : Type} (d : Kd α) (w : World) (v : Value) (xs : List α) : Prop := ∃ A c, v = .slice A xs.length c ∧ xs.length ≤ c ∧ d.C w A xs.length xs
theorem Sl.below {α : Type} {d : Kd α} {w w' : World} {v : Value} {xs : List α} (h : Sl d w v xs) (hb : Below w.heap.size w w') : Sl d w' v xs := by
  obtain ⟨A, c, rfl, hc, hC⟩ := h
  exact ⟨A, c, rfl, hc, Kd.C_below hC hb⟩
theorem Sl.nil {α : Type} (d : Kd α) (w : World) : Sl d w (.slice none 0 0) [] := ⟨none, 0, rfl, Nat.le_refl _, Kd.C_nil d w⟩
theorem Sl.len {α : Type} {d : Kd α} {w : World} {v : Value} {xs : List α} (h : Sl d w v xs) : xs.length ≤ 9223372036854775807 := by
  obtain ⟨A, c, rfl, hc, hC⟩ := h
  exact Kd.C_max hC

abbrev V60 (x : S60) : Value := .agg #[.int .i64 x.f0, .int .i64 x.f1]
abbrev V52 (x : S52) : Value := .agg #[.string x.f0, .int .i64 x.f1, .int .i64 x.f2]
/-- A family's value. -/
def Fm (w : World) (v : Value) (x : S40) : Prop := ∃ v3 v4, v = .agg #[.string x.f0, .int .i64 x.f1, .int .i64 x.f2, v3, v4] ∧ Sl k60 w v3 x.f3 ∧ Sl k52 w v4 x.f4
theorem Fm.below {w w' : World} {v : Value} {x : S40} (h : Fm w v x) (hb : Below w.heap.size w w') : Fm w' v x := by
  obtain ⟨v3, v4, rfl, h3, h4⟩ := h
  exact ⟨v3, v4, rfl, h3.below hb, h4.below hb⟩

/-- Two steps of memory, the first from w on. -/
theorem bb {w w1 w2 : World} (h : Below w.heap.size w w1) (k : Below w1.heap.size w1 w2) : Below w.heap.size w w2 := h.trans (k.mono h.size)

theorem get60 {w : World} {A : Option Addr} {xs : List S60} (h : Kd.C k60 w A xs.length xs) (i : Nat) (hi : i < xs.length) :
    ∃ ad, A = some ad ∧ w.cell? (ad.add (i * 2)) = some (.int .i64 xs[i].f0) ∧ w.cell? ⟨(ad.add (i * 2)).block, (ad.add (i * 2)).off + 1, none⟩ = some (.int .i64 xs[i].f1) := by
  obtain ⟨ad, e, h0, h1⟩ := at_T60 h (i : Int) (by omega) (by omega)
  have hrd : rd_T60 xs i = xs[i] := by simp [rd_T60, hi]
  rw [hrd] at h0 h1
  exact ⟨ad, e, h0, h1⟩
theorem get52 {w : World} {A : Option Addr} {xs : List S52} (h : Kd.C k52 w A xs.length xs) (i : Nat) (hi : i < xs.length) :
    ∃ ad, A = some ad ∧ w.cell? (ad.add (i * 3)) = some (.string xs[i].f0) ∧ w.cell? ⟨(ad.add (i * 3)).block, (ad.add (i * 3)).off + 1, none⟩ = some (.int .i64 xs[i].f1) ∧
      w.cell? ⟨(ad.add (i * 3)).block, (ad.add (i * 3)).off + 2, none⟩ = some (.int .i64 xs[i].f2) := by
  obtain ⟨ad, e, h0, h1, h2⟩ := at_T52 h (i : Int) (by omega) (by omega)
  have hrd : rd_T52 xs i = xs[i] := by simp [rd_T52, hi]
  rw [hrd] at h0 h1 h2
  exact ⟨ad, e, h0, h1, h2⟩
theorem get40 {w : World} {A : Option Addr} {xs : List S40} (h : Kd.C k40 w A xs.length xs) (i : Nat) (hi : i < xs.length) :
    ∃ ad A3 c3 A4 c4, A = some ad ∧ w.cell? (ad.add (i * 5)) = some (.string xs[i].f0) ∧ w.cell? ⟨(ad.add (i * 5)).block, (ad.add (i * 5)).off + 1, none⟩ = some (.int .i64 xs[i].f1) ∧
      w.cell? ⟨(ad.add (i * 5)).block, (ad.add (i * 5)).off + 2, none⟩ = some (.int .i64 xs[i].f2) ∧
      w.cell? ⟨(ad.add (i * 5)).block, (ad.add (i * 5)).off + 3, none⟩ = some (.slice A3 xs[i].f3.length c3) ∧
      w.cell? ⟨(ad.add (i * 5)).block, (ad.add (i * 5)).off + 4, none⟩ = some (.slice A4 xs[i].f4.length c4) ∧
      Fm w (.agg #[.string xs[i].f0, .int .i64 xs[i].f1, .int .i64 xs[i].f2, .slice A3 xs[i].f3.length c3, .slice A4 xs[i].f4.length c4]) xs[i] := by
  obtain ⟨ad, A3, c3, A4, c4, e, h0, h1, h2, h3, h4, l3, g3, l4, g4⟩ := at_T40 h (i : Int) (by omega) (by omega)
  have hrd : rd_T40 xs i = xs[i] := by simp [rd_T40, hi]
  rw [hrd] at h0 h1 h2 h3 h4 l3 g3 l4 g4
  exact ⟨ad, A3, c3, A4, c4, e, h0, h1, h2, h3, h4, _, _, rfl, ⟨A3, c3, rfl, l3, g3⟩, ⟨A4, c4, rfl, l4, g4⟩⟩

/-- Is a number from one on, up to another one? -/
def withinB (n a b : Int) : Bool := decide (a ≤ n) && decide (n ≤ b)
set_option maxHeartbeats 400000 in
theorem within_any (n a b : Int) (w : World) : Calls Try.prog 66 #[.int .i64 n, .int .i64 a, .int .i64 b] w fun e w' => e = .returned (.bool (withinB n a b)) ∧ w = w' := by
  by_cases h1 : a ≤ n
  · by_cases h2 : n ≤ b
    · go_enter Try.func66, Try.ntmps66
      go_wp2
      go_ret
      exact ⟨by simp [withinB, h1, h2], rfl⟩
    · go_enter Try.func66, Try.ntmps66
      go_wp2
      go_ret
      exact ⟨by simp [withinB, h1, h2], rfl⟩
  · go_enter Try.func66, Try.ntmps66
    go_wp2
    go_ret
    exact ⟨by rw [withinB, show decide (a ≤ n) = false from decide_eq_false (by omega)]; rfl, rfl⟩
theorem state_any (n : Int) (w : World) : Calls Try.prog 126 #[.int .i64 n] w fun e w' => e = .returned (.bool (withinB n 1 3)) ∧ w = w' := by
  go_enter Try.func126, Try.ntmps126
  go_wp2_with (go_at_call 66; refine (within_any _ _ _ _).mono ?_; rintro e w' ⟨rfl, rfl⟩)
  go_ret
  exact ⟨rfl, rfl⟩
theorem written1_any (n : Int) (w : World) : Calls Try.prog 72 #[.int .i64 n] w fun e w' => e = .returned (.bool (n == 2 || n == 3)) ∧ w = w' := by
  by_cases h1 : n = 2
  · have h1b : (n == 2) = true := beq_iff_eq.2 h1
    go_enter Try.func72, Try.ntmps72
    go_wp2
    go_ret
    exact ⟨by rw [h1b]; rfl, rfl⟩
  · have h1b : (n == 2) = false := beq_eq_false_iff_ne.2 h1
    go_enter Try.func72, Try.ntmps72
    go_wp2
    go_ret
    exact ⟨by rw [h1b]; rfl, rfl⟩
theorem gone1_any (n : Int) (w : World) : Calls Try.prog 73 #[.int .i64 n] w fun e w' => e = .returned (.bool (n != 0)) ∧ w = w' := by
  go_enter Try.func73, Try.ntmps73
  go_wp2
  go_ret
  exact ⟨rfl, rfl⟩
theorem read1_any (x : S60) (w : World) : Calls Try.prog 75 #[V60 x] w fun e w' => e = .returned (.bool (x.f1 == 3)) ∧ Below w.heap.size w w' := by
  go_enter Try.func75, Try.ntmps75
  go_wp2
  go_ret
  exact ⟨rfl, (Below.refl _ _).alloc (Nat.le_refl _) _⟩
theorem layouts1_any (x : S60) (w : World) : Calls Try.prog 128 #[V60 x] w fun e w' => e = .returned (.int .i64 x.f0) ∧ Below w.heap.size w w' := by
  go_enter Try.func128, Try.ntmps128
  go_wp2
  go_ret
  exact ⟨rfl, (Below.refl _ _).alloc (Nat.le_refl _) _⟩
theorem cols2_any (x : S52) (w : World) : Calls Try.prog 132 #[V52 x] w fun e w' => e = .returned (.string x.f0) ∧ Below w.heap.size w w' := by
  go_enter Try.func132, Try.ntmps132
  go_wp2
  go_ret
  exact ⟨rfl, (Below.refl _ _).alloc (Nat.le_refl _) _⟩
theorem right2_any (v : Value) (x : S40) (w : World) (h : Fm w v x) : Calls Try.prog 69 #[v] w fun e w' => e = .returned (.string x.f0) ∧ Below w.heap.size w w' := by
  obtain ⟨_, _, rfl, ⟨A3, c3, rfl, _, _⟩, ⟨A4, c4, rfl, _, _⟩⟩ := h
  go_enter Try.func69, Try.ntmps69
  go_wp2
  go_ret
  exact ⟨rfl, (Below.refl _ _).alloc (Nat.le_refl _) _⟩
theorem find1_any (v : Value) (x : S40) (w : World) (B : Nat) (t : ByteArray) (h : Fm w v x) (hB : B < w.heap.size) (hc : w.cell? ⟨B, 0, none⟩ = some (.string t)) :
    Calls Try.prog 77 #[v, .pointer (some ⟨B, 0, none⟩)] w fun e w' => e = .returned (.bool (x.f0.toList == t.toList)) ∧ Below w.heap.size w w' := by
  obtain ⟨_, _, rfl, ⟨A3, c3, rfl, _, _⟩, ⟨A4, c4, rfl, _, _⟩⟩ := h
  go_enter Try.func77, Try.ntmps77
  go_wp2
  go_ret
  exact ⟨rfl, (Below.refl _ _).alloc (Nat.le_refl _) _⟩
theorem column1_any (x : S52) (w : World) (B : Nat) (t : ByteArray) (hB : B < w.heap.size) (hc : w.cell? ⟨B, 0, none⟩ = some (.string t)) :
    Calls Try.prog 80 #[V52 x, .pointer (some ⟨B, 0, none⟩)] w fun e w' => e = .returned (.bool (x.f0.toList == t.toList)) ∧ Below w.heap.size w w' := by
  go_enter Try.func80, Try.ntmps80
  go_wp2
  go_ret
  exact ⟨rfl, (Below.refl _ _).alloc (Nat.le_refl _) _⟩

/-- The first place of which p holds, as Go tells it. -/
def idxI {α : Type} (p : α → Bool) (l : List α) : Int := match l.findIdx? p with | some i => i | none => -1
theorem idxI_hit {α : Type} {p : α → Bool} {l : List α} {k : Nat} (hk : k < l.length) (h : p l[k] = true) (hb : ∀ j (hj : j < k), p (l[j]'(by omega)) = false) : idxI p l = k := by
  have : l.findIdx? p = some k := by
    rw [List.findIdx?_eq_some_iff_getElem]
    exact ⟨hk, h, fun j hj => by rw [hb j hj]; decide⟩
  simp [idxI, this]
theorem idxI_miss {α : Type} {p : α → Bool} {l : List α} (h : ∀ j (hj : j < l.length), p l[j] = false) : idxI p l = -1 := by
  have : l.findIdx? p = none := by
    rw [List.findIdx?_eq_none_iff]
    intro x hx
    obtain ⟨j, hj, rfl⟩ := List.getElem_of_mem hx
    rw [h j hj]
  simp [idxI, this]
theorem idxI_any {α : Type} (p : α → Bool) (l : List α) : decide (0 ≤ idxI p l) = l.any p := by
  unfold idxI
  cases h : l.findIdx? p with
  | none =>
    rw [List.findIdx?_eq_none_iff] at h
    have : l.any p = false := by rw [List.any_eq_false]; intro x hx; rw [h x hx]; decide
    rw [this]; rfl
  | some i =>
    rw [List.findIdx?_eq_some_iff_getElem] at h
    obtain ⟨hi, hp, _⟩ := h
    have : l.any p = true := List.any_eq_true.2 ⟨_, List.getElem_mem hi, hp⟩
    rw [this]
    exact decide_eq_true (by simp)

set_option maxHeartbeats 1000000 in
theorem index60 (g : Nat) (lb : Array Value) (eg : ∀ args w, (callFunc g args).run Try.prog w = .ok (.enter g args) w) (p : S60 → Bool) (v : Value) (xs : List S60) (w : World)
    (hs : Sl k60 w v xs)
    (hp : ∀ x W, Below w.heap.size w W → Calls Try.prog g (#[V60 x] ++ lb) W fun e w' => e = .returned (.bool (p x)) ∧ Below w.heap.size w w') :
    Calls Try.prog 74 #[v, .func (.func g) #[] lb] w fun e w' => e = .returned (.int .i64 (idxI p xs)) ∧ Below w.heap.size w w' := by
  have hmax := hs.len
  obtain ⟨A, c, rfl, _, hC⟩ := hs
  have HC := Aside0.mk hC
  clear hC
  go_enter Try.func74, Try.ntmps74
  go_wp2
  go_loopg [5, 8] xs.length (fun gg _ s8 wr => ∃ kk : Nat, kk ≤ xs.length ∧ xs.length - kk ≤ gg ∧ s8 = .int .i64 kk ∧ Aside0 (Below w.heap.size w wr) ∧ Aside0 (∀ j (hj : j < xs.length), j < kk → p xs[j] = false))
  case atStart => exact ⟨0, Nat.zero_le _, by omega, rfl, ⟨Below.refl _ w⟩, ⟨fun j hj h => absurd h (Nat.not_lt_zero _)⟩⟩
  case round =>
    obtain ⟨kk, hkk, hg, rfl, BW, HA⟩ := hrel
    by_cases hlt : kk < xs.length
    · have hltz : (kk : Int) < (xs.length : Int) := by omega
      obtain ⟨ad, rfl, h0, h1⟩ := get60 (Kd.C_below HC.out BW.out) kk hlt
      have hcall := hp xs[kk] wr BW.out
      have hx := rfl (a := xs[kk])
      generalize hy : xs[kk] = x at hcall h0 h1
      have HX := Aside0.mk hy
      clear hx hy hp
      rcases hq : p x with _ | _
      all_goals
        rw [hq] at hcall
        have HCALL := Aside0.mk hcall
        clear hcall
        go_wp2_with (go_at_fn g; refine HCALL.out.mono ?_; rintro e w' ⟨rfl, hb'⟩)
      · go_roundg (xs.length - (kk + 1))
        case measure => omega
        case rel =>
          refine ⟨kk + 1, by omega, by omega, by go_num, ⟨hb'⟩, ⟨fun j hj hk => ?_⟩⟩
          by_cases e : j = kk
          · subst e
            rw [HX.out]; exact hq
          · exact HA.out j hj (by omega)
      · go_ret
        refine ⟨?_, hb'⟩
        rw [idxI_hit hlt (by rw [HX.out]; exact hq) (fun j hj => HA.out j _ hj)]
        rfl
    · have hltz : ¬ (kk : Int) < (xs.length : Int) := by omega
      have : kk = xs.length := by omega
      subst this
      go_wp2
      go_ret
      refine ⟨?_, BW.out⟩
      rw [idxI_miss (fun j hj => HA.out j hj hj)]
      rfl

set_option maxHeartbeats 1000000 in
theorem index52 (g : Nat) (lb : Array Value) (eg : ∀ args w, (callFunc g args).run Try.prog w = .ok (.enter g args) w) (p : S52 → Bool) (v : Value) (xs : List S52) (w : World)
    (hs : Sl k52 w v xs)
    (hp : ∀ x W, Below w.heap.size w W → Calls Try.prog g (#[V52 x] ++ lb) W fun e w' => e = .returned (.bool (p x)) ∧ Below w.heap.size w w') :
    Calls Try.prog 79 #[v, .func (.func g) #[] lb] w fun e w' => e = .returned (.int .i64 (idxI p xs)) ∧ Below w.heap.size w w' := by
  have hmax := hs.len
  obtain ⟨A, c, rfl, _, hC⟩ := hs
  have HC := Aside0.mk hC
  clear hC
  go_enter Try.func79, Try.ntmps79
  go_wp2
  go_loopg [5, 8] xs.length (fun gg _ s8 wr => ∃ kk : Nat, kk ≤ xs.length ∧ xs.length - kk ≤ gg ∧ s8 = .int .i64 kk ∧ Aside0 (Below w.heap.size w wr) ∧ Aside0 (∀ j (hj : j < xs.length), j < kk → p xs[j] = false))
  case atStart => exact ⟨0, Nat.zero_le _, by omega, rfl, ⟨Below.refl _ w⟩, ⟨fun j hj h => absurd h (Nat.not_lt_zero _)⟩⟩
  case round =>
    obtain ⟨kk, hkk, hg, rfl, BW, HA⟩ := hrel
    by_cases hlt : kk < xs.length
    · have hltz : (kk : Int) < (xs.length : Int) := by omega
      obtain ⟨ad, rfl, h0, h1, h2⟩ := get52 (Kd.C_below HC.out BW.out) kk hlt
      have hcall := hp xs[kk] wr BW.out
      have hx := rfl (a := xs[kk])
      generalize hy : xs[kk] = x at hcall h0 h1 h2
      have HX := Aside0.mk hy
      clear hx hy hp
      rcases hq : p x with _ | _
      all_goals
        rw [hq] at hcall
        have HCALL := Aside0.mk hcall
        clear hcall
        go_wp2_with (go_at_fn g; refine HCALL.out.mono ?_; rintro e w' ⟨rfl, hb'⟩)
      · go_roundg (xs.length - (kk + 1))
        case measure => omega
        case rel =>
          refine ⟨kk + 1, by omega, by omega, by go_num, ⟨hb'⟩, ⟨fun j hj hk => ?_⟩⟩
          by_cases e : j = kk
          · subst e
            rw [HX.out]; exact hq
          · exact HA.out j hj (by omega)
      · go_ret
        refine ⟨?_, hb'⟩
        rw [idxI_hit hlt (by rw [HX.out]; exact hq) (fun j hj => HA.out j _ hj)]
        rfl
    · have hltz : ¬ (kk : Int) < (xs.length : Int) := by omega
      have : kk = xs.length := by omega
      subst this
      go_wp2
      go_ret
      refine ⟨?_, BW.out⟩
      rw [idxI_miss (fun j hj => HA.out j hj hj)]
      rfl

set_option maxHeartbeats 1000000 in
theorem index40 (g : Nat) (lb : Array Value) (eg : ∀ args w, (callFunc g args).run Try.prog w = .ok (.enter g args) w) (p : S40 → Bool) (v : Value) (xs : List S40) (w : World)
    (hs : Sl k40 w v xs)
    (hp : ∀ x W v, Below w.heap.size w W → Fm W v x → Calls Try.prog g (#[v] ++ lb) W fun e w' => e = .returned (.bool (p x)) ∧ Below w.heap.size w w') :
    Calls Try.prog 76 #[v, .func (.func g) #[] lb] w fun e w' => e = .returned (.int .i64 (idxI p xs)) ∧ Below w.heap.size w w' := by
  have hmax := hs.len
  obtain ⟨A, c, rfl, _, hC⟩ := hs
  have HC := Aside0.mk hC
  clear hC
  go_enter Try.func76, Try.ntmps76
  go_wp2
  go_loopg [5, 8] xs.length (fun gg _ s8 wr => ∃ kk : Nat, kk ≤ xs.length ∧ xs.length - kk ≤ gg ∧ s8 = .int .i64 kk ∧ Aside0 (Below w.heap.size w wr) ∧ Aside0 (∀ j (hj : j < xs.length), j < kk → p xs[j] = false))
  case atStart => exact ⟨0, Nat.zero_le _, by omega, rfl, ⟨Below.refl _ w⟩, ⟨fun j hj h => absurd h (Nat.not_lt_zero _)⟩⟩
  case round =>
    obtain ⟨kk, hkk, hg, rfl, BW, HA⟩ := hrel
    by_cases hlt : kk < xs.length
    · have hltz : (kk : Int) < (xs.length : Int) := by omega
      obtain ⟨ad, A3, c3, A4, c4, rfl, h0, h1, h2, h3, h4, hfm⟩ := get40 (Kd.C_below HC.out BW.out) kk hlt
      have hcall := hp xs[kk] wr _ BW.out hfm
      clear hfm
      have hx := rfl (a := xs[kk])
      generalize hy : xs[kk] = x at hcall h0 h1 h2 h3 h4
      have HX := Aside0.mk hy
      clear hx hy hp
      rcases hq : p x with _ | _
      all_goals
        rw [hq] at hcall
        have HCALL := Aside0.mk hcall
        clear hcall
        go_wp2_with (go_at_fn g; refine HCALL.out.mono ?_; rintro e w' ⟨rfl, hb'⟩)
      · go_roundg (xs.length - (kk + 1))
        case measure => omega
        case rel =>
          refine ⟨kk + 1, by omega, by omega, by go_num, ⟨hb'⟩, ⟨fun j hj hk => ?_⟩⟩
          by_cases e : j = kk
          · subst e
            rw [HX.out]; exact hq
          · exact HA.out j hj (by omega)
      · go_ret
        refine ⟨?_, hb'⟩
        rw [idxI_hit hlt (by rw [HX.out]; exact hq) (fun j hj => HA.out j _ hj)]
        rfl
    · have hltz : ¬ (kk : Int) < (xs.length : Int) := by omega
      have : kk = xs.length := by omega
      subst this
      go_wp2
      go_ret
      refine ⟨?_, BW.out⟩
      rw [idxI_miss (fun j hj => HA.out j hj hj)]
      rfl

theorem contains52 (g : Nat) (lb : Array Value) (eg : ∀ args w, (callFunc g args).run Try.prog w = .ok (.enter g args) w) (p : S52 → Bool) (v : Value) (xs : List S52) (w : World)
    (hs : Sl k52 w v xs)
    (hp : ∀ x W, Below w.heap.size w W → Calls Try.prog g (#[V52 x] ++ lb) W fun e w' => e = .returned (.bool (p x)) ∧ Below w.heap.size w w') :
    Calls Try.prog 130 #[v, .func (.func g) #[] lb] w fun e w' => e = .returned (.bool (xs.any p)) ∧ Below w.heap.size w w' := by
  have HX := Aside0.mk (idxI_any p xs)
  have hcall := index52 g lb eg p v xs w hs hp
  have HCALL := Aside0.mk hcall
  clear hcall hp hs
  go_enter Try.func130, Try.ntmps130
  go_wp2_with (go_at_call 79; refine HCALL.out.mono ?_; rintro e w' ⟨rfl, hb'⟩)
  go_ret
  exact ⟨by rw [← HX.out]; rfl, hb'⟩

theorem contains40 (g : Nat) (lb : Array Value) (eg : ∀ args w, (callFunc g args).run Try.prog w = .ok (.enter g args) w) (p : S40 → Bool) (v : Value) (xs : List S40) (w : World)
    (hs : Sl k40 w v xs)
    (hp : ∀ x W v, Below w.heap.size w W → Fm W v x → Calls Try.prog g (#[v] ++ lb) W fun e w' => e = .returned (.bool (p x)) ∧ Below w.heap.size w w') :
    Calls Try.prog 67 #[v, .func (.func g) #[] lb] w fun e w' => e = .returned (.bool (xs.any p)) ∧ Below w.heap.size w w' := by
  have HX := Aside0.mk (idxI_any p xs)
  have hcall := index40 g lb eg p v xs w hs hp
  have HCALL := Aside0.mk hcall
  clear hcall hp hs
  go_enter Try.func67, Try.ntmps67
  go_wp2_with (go_at_call 76; refine HCALL.out.mono ?_; rintro e w' ⟨rfl, hb'⟩)
  go_ret
  exact ⟨by rw [← HX.out]; rfl, hb'⟩
end Go.Proofs.Ytmgpoafoljkknaa.My
