/- The plain law of numbers and lists of parts as bytes: what is written is read again. Conditions: numbers and lengths fit 63 bits. -/
import Derived.Test.YtmgpoafoljkknaaE
namespace Go.Proofs.Ytmgpoafoljkknaa.My

def encN (n : Nat) : List UInt8 := if _h : n < 128 then [UInt8.ofNat n] else UInt8.ofNat (128 + n % 128) :: encN (n / 128)
  termination_by n
  decreasing_by omega
def numL (n : Int) : List UInt8 := if n < 0 then [] else encN n.toNat
theorem encN_small {n : Nat} (h : n < 128) : encN n = [UInt8.ofNat n] := by rw [encN, dif_pos h]
theorem encN_big {n : Nat} (h : ¬ n < 128) : encN n = UInt8.ofNat (128 + n % 128) :: encN (n / 128) := by rw [encN, dif_neg h]

def tkFrom : Nat → Bool → List UInt8 → Option (Nat × List UInt8)
  | 0, _, _ => none
  | _ + 1, _, [] => none
  | b + 1, first, c :: r => if 128 ≤ c.toNat then (tkFrom b false r).map (fun p => (c.toNat % 128 + 128 * p.1, p.2)) else if first = false ∧ c.toNat = 0 then none else some (c.toNat, r)
def takeL (b : List UInt8) : Option (Nat × List UInt8) := tkFrom 9 true b

theorem tk_enc : ∀ (b n : Nat) (r : List UInt8) (first : Bool), 0 < b → n < 128 ^ b → (first = true ∨ 0 < n) → tkFrom b first (encN n ++ r) = some (n, r)
  | 0, n, r, first, h0, h, hf => absurd h0 (Nat.lt_irrefl _)
  | b + 1, n, r, first, _, h, hf => by
    by_cases hs : n < 128
    · have hn : (UInt8.ofNat n).toNat = n := by simp [UInt8.toNat_ofNat']; omega
      rw [encN_small hs, List.singleton_append, tkFrom, hn, if_neg (by omega), if_neg]
      rintro ⟨h1, h2⟩; rcases hf with h3 | h3
      · rw [h3] at h1; cases h1
      · omega
    · have hn : (UInt8.ofNat (128 + n % 128)).toNat = 128 + n % 128 := by simp [UInt8.toNat_ofNat']; omega
      have hb : 0 < b := by
        rcases b with _ | b
        · simp at h; omega
        · omega
      rw [encN_big hs, List.cons_append, tkFrom, hn, if_pos (by omega), tk_enc b (n / 128) r false hb (by rw [Nat.pow_succ] at h; omega) (.inr (by omega))]
      simp; omega
theorem take_enc {n : Nat} (h : n < 9223372036854775808) (r : List UInt8) : takeL (encN n ++ r) = some (n, r) := tk_enc 9 n r true (by omega) (by simpa using h) (.inl rfl)
theorem encN_len : ∀ (b n : Nat), 0 < b → n < 128 ^ b → (encN n).length ≤ b
  | 0, n, h0, h => absurd h0 (Nat.lt_irrefl _)
  | b + 1, n, _, h => by
    by_cases hs : n < 128
    · rw [encN_small hs]; simp
    · have hb : 0 < b := by
        rcases b with _ | b
        · simp at h; omega
        · omega
      rw [encN_big hs, List.length_cons]
      have := encN_len b (n / 128) hb (by rw [Nat.pow_succ] at h; omega)
      omega
theorem encN_len9 {n : Nat} (h : n < 9223372036854775808) : (encN n).length ≤ 9 := encN_len 9 n (by omega) (by simpa using h)
theorem numL_len {n : Int} (h : n ≤ 9223372036854775807) : (numL n).length ≤ 9 := by
  unfold numL
  split
  · simp
  · exact encN_len9 (by omega)
theorem tkFrom_lt : ∀ (b : Nat) (first : Bool) (l : List UInt8) (p : Nat × List UInt8), tkFrom b first l = some p → p.1 < 128 ^ b ∧ p.2.length < l.length
  | 0, _, _, p, h => by simp [tkFrom] at h
  | b + 1, _, [], p, h => by simp [tkFrom] at h
  | b + 1, first, c :: r, p, h => by
    rw [tkFrom] at h
    by_cases hc : 128 ≤ c.toNat
    · rw [if_pos hc] at h
      cases hq : tkFrom b false r with
      | none => rw [hq] at h; simp at h
      | some q =>
        rw [hq] at h
        have ih := tkFrom_lt b false r q hq
        simp at h
        subst h
        simp only [List.length_cons]
        rw [Nat.pow_succ]
        omega
    · rw [if_neg hc] at h
      have hp : 0 < 128 ^ b := Nat.pow_pos (by omega)
      split at h
      · cases h
      · injection h with h; subst h
        simp only [List.length_cons]
        rw [Nat.pow_succ]
        omega
theorem takeL_lt {l : List UInt8} {p : Nat × List UInt8} (h : takeL l = some p) : p.1 < 9223372036854775808 ∧ p.2.length < l.length := by
  have := tkFrom_lt 9 true l p h
  simpa using this

def partsN : Nat → List UInt8 → Option (List (List UInt8))
  | 0, rest => if rest = [] then some [] else none
  | n + 1, rest => match takeL rest with
    | none => none
    | some (k, tail) => if tail.length < k then none else (partsN n (tail.drop k)).map (tail.take k :: ·)
def partsL (b : List UInt8) : Option (List (List UInt8)) := match takeL b with
  | none => none
  | some (n, rest) => partsN n rest
def partB (b : List UInt8) : List UInt8 := encN b.length ++ b
def listL (l : List (List UInt8)) : List UInt8 := encN l.length ++ l.flatMap partB
theorem parts_flat : ∀ l : List (List UInt8), (∀ b ∈ l, b.length < 9223372036854775808) → partsN l.length (l.flatMap partB) = some l
  | [], _ => rfl
  | b :: l, h => by
    have hb := h b List.mem_cons_self
    rw [List.length_cons, partsN, List.flatMap_cons, partB, List.append_assoc, take_enc hb]
    simp only [List.length_append]
    rw [if_neg (by omega), List.drop_left, List.take_left, parts_flat l (fun c hc => h c (List.mem_cons_of_mem _ hc))]
    rfl
theorem parts_list {l : List (List UInt8)} (hl : l.length < 9223372036854775808) (h : ∀ b ∈ l, b.length < 9223372036854775808) : partsL (listL l) = some l := by
  rw [partsL, listL, take_enc hl]
  exact parts_flat l h
/-- No encoded list begins another one. -/
theorem flat_prefix : ∀ (l m : List (List UInt8)), l.length = m.length → (∀ b ∈ l, b.length < 9223372036854775808) → (∀ b ∈ m, b.length < 9223372036854775808) → ∀ r, m.flatMap partB = l.flatMap partB ++ r → r = []
  | [], [], _, _, _, r, h => by simpa using h.symm
  | [], m :: ms, hl, _, _, r, h => by simp at hl
  | b :: l, [], hl, _, _, r, h => by simp at hl
  | b :: l, c :: m, hl, h1, h2, r, h => by
    have hb := h1 b List.mem_cons_self
    have hc := h2 c List.mem_cons_self
    rw [List.flatMap_cons, List.flatMap_cons, partB, partB, List.append_assoc, List.append_assoc, List.append_assoc] at h
    have e1 := take_enc hc (c ++ m.flatMap partB)
    rw [h, take_enc hb] at e1
    injection e1 with e1
    have e2 := congrArg Prod.fst e1
    have e3 := congrArg Prod.snd e1
    simp only at e2 e3
    have e4 : b = c := (List.append_inj e3 e2).1
    have e5 := (List.append_inj e3 e2).2
    exact flat_prefix l m (by simpa using hl) (fun x hx => h1 x (List.mem_cons_of_mem _ hx)) (fun x hx => h2 x (List.mem_cons_of_mem _ hx)) r e5.symm
theorem list_prefix {l m : List (List UInt8)} (hl : l.length < 9223372036854775808) (hm : m.length < 9223372036854775808) (h1 : ∀ b ∈ l, b.length < 9223372036854775808) (h2 : ∀ b ∈ m, b.length < 9223372036854775808) {r : List UInt8} (h : listL m = listL l ++ r) : r = [] := by
  rw [listL, listL, List.append_assoc] at h
  have e1 := take_enc hm (m.flatMap partB)
  rw [h, take_enc hl] at e1
  injection e1 with e1
  have e2 := congrArg Prod.fst e1
  have e3 := congrArg Prod.snd e1
  exact flat_prefix l m e2 h1 h2 r e3.symm
end Go.Proofs.Ytmgpoafoljkknaa.My
