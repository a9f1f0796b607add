/- Contracts of schema.once: whether the keys of a list are unlike. Conditions: keys are readable as keys. -/
import Derived.Test.YtmgpoafoljkknaaA
import Derived.Maps.OwnSet
namespace Go.Proofs.Ytmgpoafoljkknaa.My
open Go.RowKit Go.Proofs.YtmgpoafoljkknaaW.PrintWords Go.Proofs.YtmgpoafoljkknaaW.PrintLast Go.Proofs.YtmgpoafoljkknaaW.PrintMore PSchemaReads
open Go.Maps (Keyed int_keyed string_keyed keyOf_int_mk)

/-- A map of counts, after the keys L. -/
structure Seen (D : DataW Unit) (L : List Lit) : Prop where
  le : Go.Maps.size D ≤ L.length
  all : Go.Maps.size D = L.length ↔ L.Nodup
  has : ∀ k, Go.Maps.has D k = true ↔ k ∈ L
theorem Seen.start : Seen (.map []) [] := ⟨Nat.le_refl _, by simp [Go.Maps.size], fun k => by simp [Go.Maps.has]⟩
theorem Seen.step {D : DataW Unit} {L : List Lit} (h : Seen D L) (hT : Go.Maps.Tidy D) {k : Lit} (hk : WideAt.IsKeyLit k) (d : DataW Unit) : Seen (D.put k d) (L ++ [k]) := by
  have hs := Go.Maps.size_put hT (k := k) d
  have hh : ∀ k', Go.Maps.has (D.put k d) k' = true ↔ k' ∈ L ++ [k] := fun k' => by
    by_cases e : k' = k
    · subst e
      simp [Go.Maps.has_put_same hT.isMap hk d]
    · rw [Go.Maps.has_put_other e d, h.has]; simp [e]
  have hn : (L ++ [k]).Nodup ↔ L.Nodup ∧ k ∉ L := by
    rw [List.nodup_append]
    constructor
    · rintro ⟨a, _, c⟩; exact ⟨a, fun hm => c k hm k (by simp) rfl⟩
    · rintro ⟨a, b⟩; exact ⟨a, by simp, fun x hx y hy e => by simp at hy; subst hy; subst e; exact b hx⟩
  by_cases hin : Go.Maps.has D k = true
  · rw [hin, if_pos rfl] at hs
    refine ⟨by rw [hs]; have := h.le; simp; omega, ?_, hh⟩
    rw [hs, hn]
    have := h.le
    constructor
    · intro e; simp at e; omega
    · rintro ⟨_, b⟩; exact absurd ((h.has k).1 hin) b
  · rw [if_neg hin] at hs
    refine ⟨by rw [hs]; have := h.le; simp; omega, ?_, hh⟩
    rw [hs, hn]
    have hni : k ∉ L := fun hm => hin ((h.has k).2 hm)
    constructor
    · intro e; exact ⟨h.all.1 (by simpa using e), hni⟩
    · rintro ⟨a, _⟩; have := h.all.2 a; simp; omega

theorem nodup_lit {α β : Type} (p : α → β) (f : β → Lit) (hf : ∀ a b, f a = f b ↔ a = b) (xs : List α) : (xs.map fun x => f (p x)).Nodup ↔ (xs.map p).Nodup := by
  simp [List.Nodup, List.pairwise_map, hf]
abbrev litStr (s : ByteArray) : Lit := .string s.data.toList
theorem litStr_inj (a b : ByteArray) : litStr a = litStr b ↔ a = b := by
  constructor
  · intro h
    have h2 : a.data.toList = b.data.toList := by simpa [litStr] using h
    exact ByteArray.ext (Array.toList_inj.1 h2)
  · rintro rfl; rfl
theorem law3 : Keyed Try.prog 3 := int_keyed Try.underlying3
theorem law9 : Keyed Try.prog 9 := string_keyed Try.underlying9
theorem zero3 (w : World) : (zeroValue 3).run Try.prog w = .ok (.int .i64 0) w := by kernel_rfl
theorem take_keys {α : Type} (f : α → Lit) (xs : List α) {k : Nat} (h : k < xs.length) : (xs.take (k + 1)).map f = (xs.take k).map f ++ [f xs[k]] := by
  rw [List.take_succ_eq_append_getElem h, List.map_append]; rfl
set_option maxHeartbeats 1000000 in
theorem once60 (g : Nat) (lb : Array Value) (eg : ∀ args w, (callFunc g args).run Try.prog w = .ok (.enter g args) w) (p : S60 → Int) (v : Value) (xs : List S60) (w : World)
    (hs : Sl k60 w v xs) (hw : ∀ x ∈ xs, (Lit.int .i64 (p x)).wf = true)
    (hp : ∀ x W, Below w.heap.size w W → Calls Try.prog g (#[V60 x] ++ lb) W fun e w' => e = .returned (.int .i64 (p x)) ∧ Below W.heap.size W w') :
    Calls Try.prog 127 #[v, .func (.func g) #[] lb] w fun e w' => e = .returned (.bool (decide (xs.map p).Nodup)) ∧ Below w.heap.size w w' := by
  have hmax := hs.len
  obtain ⟨A, c, rfl, _, hC⟩ := hs
  have HC := Aside0.mk hC
  have HW := Aside0.mk hw
  clear hC hw
  have hmm := @run_makeMap Try.prog
  go_enter Try.func127, Try.ntmps127
  go_wp2
  go_loopg [7, 11] xs.length (fun gg _ s8 wr => ∃ kk : Nat, kk ≤ xs.length ∧ xs.length - kk ≤ gg ∧ s8 = .int .i64 kk ∧ Aside0 (Below w.heap.size w wr) ∧
    Aside0 (∃ D : DataW Unit, wr.ownsMap Try.prog 3 (plainElem Try.prog 3) w.heap.size kk D ∧ Seen D ((xs.take kk).map fun x => Lit.int .i64 (p x))))
  case atStart => exact ⟨0, Nat.zero_le _, by omega, rfl, ⟨(Below.refl _ w).alloc (Nat.le_refl _) _⟩, ⟨_, World.ownsMap_made _ _ _ _, Seen.start⟩⟩
  case round =>
    obtain ⟨kk, hkk, hg, rfl, BW, ⟨D, hown, hseen⟩⟩ := hrel
    have HS := Aside0.mk hseen
    clear hseen
    by_cases hlt : kk < xs.length
    · have hltz : (kk : Int) < (xs.length : Int) := by omega
      obtain ⟨ad, rfl, h0, h1⟩ := get60 (Kd.C_below HC.out BW.out) kk hlt
      have HP := Aside0.mk (fun W => hp xs[kk] W)
      have hkey : keyOf Try.prog 3 (.int .i64 (p xs[kk])) = some (Lit.int .i64 (p xs[kk])) := keyOf_int_mk Try.underlying3 (HW.out _ (List.getElem_mem hlt))
      have HT := Aside0.mk (take_keys (fun x => Lit.int .i64 (p x)) xs hlt)
      have HSTEP := Aside0.mk (fun d => HS.out.step (hown.tidy law3) (k := Lit.int .i64 (p xs[kk])) trivial d)
      generalize hy : xs[kk] = x at HP hkey HT HSTEP h0 h1
      clear hy hp hmm
      have HKEY := Aside0.mk hkey
      clear hkey
      have HOWN := Aside0.mk hown
      clear hown
      go_wp2_with fail
      refine (HP.out _ (BW.out.alloc BW.out.size _)).mono ?_
      rintro e w2 ⟨rfl, hb2⟩
      have HB2 := Aside0.mk hb2
      have hown2 := (HOWN.out.alloc _).kept (grown_of_below hb2 none) (by simp)
      clear hb2
      go_wp2_with (first
        | (at_lookup; refine wpList_lookup_own_int _ rfl _ _ 154 rfl 3 3 .i64 law3 Try.underlying154 Try.underlying3 (zero3 _) w.heap.size kk _ rfl hown2 _ _ rfl HKEY.out ?_; intro c2 hat hwc; clear hat)
        | (at_mapUpdate; refine wpList_mapUpdate_own _ rfl _ _ _ 154 rfl 3 3 law3 Try.underlying154 _ w.heap.size kk _ rfl hown2 (by unfold maxLen; omega) _ _ _ rfl rfl HKEY.out _ [] (plainElem_int Try.underlying3 (wrap64_wf _)) ?_; intro w1 hown1 hgrow1))
      go_roundg (xs.length - (kk + 1))
      case measure => omega
      case rel =>
        have hb3 := (BW.out.alloc BW.out.size _).trans (HB2.out.mono (by have := BW.out.size; simp; omega))
        exact ⟨kk + 1, by omega, by omega, by go_num, ⟨hb3.grown hgrow1 hb3.size (fun k hk => by cases hk; exact Nat.le_refl _)⟩, ⟨_, hown1, by rw [HT.out]; exact HSTEP.out _⟩⟩
    · have hltz : ¬ (kk : Int) < (xs.length : Int) := by omega
      have : kk = xs.length := by omega
      subst this
      have hres : (((Go.Maps.size D : Nat) : Int) == (xs.length : Int)) = decide (xs.map p).Nodup := by
        have h1 := HS.out.all
        rw [List.take_length, List.length_map, nodup_lit p _ (fun a b => by simp)] at h1
        rw [Bool.eq_iff_iff, beq_iff_eq, decide_eq_true_iff, ← h1]
        omega
      have HRES := Aside0.mk hres
      clear hres hmm
      go_wp2_with (at_len; refine wpList_len_own _ rfl _ 154 rfl 3 3 Try.underlying154 _ w.heap.size xs.length _ rfl hown ?_)
      go_ret
      exact ⟨by rw [← HRES.out]; rfl, BW.out⟩
set_option maxHeartbeats 1000000 in
theorem once52 (g : Nat) (lb : Array Value) (eg : ∀ args w, (callFunc g args).run Try.prog w = .ok (.enter g args) w) (p : S52 → ByteArray) (v : Value) (xs : List S52) (w : World)
    (hs : Sl k52 w v xs) (hw : ∀ x ∈ xs, (p x).size ≤ maxLen)
    (hp : ∀ x W, Below w.heap.size w W → Calls Try.prog g (#[V52 x] ++ lb) W fun e w' => e = .returned (.string (p x)) ∧ Below W.heap.size W w') :
    Calls Try.prog 131 #[v, .func (.func g) #[] lb] w fun e w' => e = .returned (.bool (decide (xs.map p).Nodup)) ∧ Below w.heap.size w w' := by
  have hmax := hs.len
  obtain ⟨A, c, rfl, _, hC⟩ := hs
  have HC := Aside0.mk hC
  have HW := Aside0.mk hw
  clear hC hw
  have hmm := @run_makeMap Try.prog
  go_enter Try.func131, Try.ntmps131
  go_wp2
  go_loopg [7, 11] xs.length (fun gg _ s8 wr => ∃ kk : Nat, kk ≤ xs.length ∧ xs.length - kk ≤ gg ∧ s8 = .int .i64 kk ∧ Aside0 (Below w.heap.size w wr) ∧
    Aside0 (∃ D : DataW Unit, wr.ownsMap Try.prog 9 (plainElem Try.prog 3) w.heap.size kk D ∧ Seen D ((xs.take kk).map fun x => litStr (p x))))
  case atStart => exact ⟨0, Nat.zero_le _, by omega, rfl, ⟨(Below.refl _ w).alloc (Nat.le_refl _) _⟩, ⟨_, World.ownsMap_made _ _ _ _, Seen.start⟩⟩
  case round =>
    obtain ⟨kk, hkk, hg, rfl, BW, ⟨D, hown, hseen⟩⟩ := hrel
    have HS := Aside0.mk hseen
    clear hseen
    by_cases hlt : kk < xs.length
    · have hltz : (kk : Int) < (xs.length : Int) := by omega
      obtain ⟨ad, rfl, h0, h1, h2⟩ := get52 (Kd.C_below HC.out BW.out) kk hlt
      have HP := Aside0.mk (fun W => hp xs[kk] W)
      have hkey : keyOf Try.prog 9 (.string (p xs[kk])) = some (litStr (p xs[kk])) := Go.WideMaps.keyOf_string_mk Try.underlying9 (HW.out _ (List.getElem_mem hlt))
      have HT := Aside0.mk (take_keys (fun x => litStr (p x)) xs hlt)
      have HSTEP := Aside0.mk (fun d => HS.out.step (hown.tidy law9) (k := litStr (p xs[kk])) trivial d)
      generalize hy : xs[kk] = x at HP hkey HT HSTEP h0 h1 h2
      clear hy hp hmm
      have HKEY := Aside0.mk hkey
      clear hkey
      have HOWN := Aside0.mk hown
      clear hown
      go_wp2_with fail
      refine (HP.out _ (BW.out.alloc BW.out.size _)).mono ?_
      rintro e w2 ⟨rfl, hb2⟩
      have HB2 := Aside0.mk hb2
      have hown2 := (HOWN.out.alloc _).kept (grown_of_below hb2 none) (by simp)
      clear hb2
      go_wp2_with (first
        | (at_lookup; refine wpList_lookup_own_int _ rfl _ _ 127 rfl 9 3 .i64 law9 Try.underlying127 Try.underlying3 (zero3 _) w.heap.size kk _ rfl hown2 _ _ rfl HKEY.out ?_; intro c2 hat hwc; clear hat)
        | (at_mapUpdate; refine wpList_mapUpdate_own _ rfl _ _ _ 127 rfl 9 3 law9 Try.underlying127 _ w.heap.size kk _ rfl hown2 (by unfold maxLen; omega) _ _ _ rfl rfl HKEY.out _ [] (plainElem_int Try.underlying3 (wrap64_wf _)) ?_; intro w1 hown1 hgrow1))
      go_roundg (xs.length - (kk + 1))
      case measure => omega
      case rel =>
        have hb3 := (BW.out.alloc BW.out.size _).trans (HB2.out.mono (by have := BW.out.size; simp; omega))
        exact ⟨kk + 1, by omega, by omega, by go_num, ⟨hb3.grown hgrow1 hb3.size (fun k hk => by cases hk; exact Nat.le_refl _)⟩, ⟨_, hown1, by rw [HT.out]; exact HSTEP.out _⟩⟩
    · have hltz : ¬ (kk : Int) < (xs.length : Int) := by omega
      have : kk = xs.length := by omega
      subst this
      have hres : (((Go.Maps.size D : Nat) : Int) == (xs.length : Int)) = decide (xs.map p).Nodup := by
        have h1 := HS.out.all
        rw [List.take_length, List.length_map, nodup_lit p _ litStr_inj] at h1
        rw [Bool.eq_iff_iff, beq_iff_eq, decide_eq_true_iff, ← h1]
        omega
      have HRES := Aside0.mk hres
      clear hres hmm
      go_wp2_with (at_len; refine wpList_len_own _ rfl _ 127 rfl 9 3 Try.underlying127 _ w.heap.size xs.length _ rfl hown ?_)
      go_ret
      exact ⟨by rw [← HRES.out]; rfl, BW.out⟩
set_option maxHeartbeats 1000000 in
theorem once40 (g : Nat) (lb : Array Value) (eg : ∀ args w, (callFunc g args).run Try.prog w = .ok (.enter g args) w) (p : S40 → ByteArray) (v : Value) (xs : List S40) (w : World)
    (hs : Sl k40 w v xs) (hw : ∀ x ∈ xs, (p x).size ≤ maxLen)
    (hp : ∀ x W v, Below w.heap.size w W → Fm W v x → Calls Try.prog g (#[v] ++ lb) W fun e w' => e = .returned (.string (p x)) ∧ Below W.heap.size W w') :
    Calls Try.prog 68 #[v, .func (.func g) #[] lb] w fun e w' => e = .returned (.bool (decide (xs.map p).Nodup)) ∧ Below w.heap.size w w' := by
  have hmax := hs.len
  obtain ⟨A, c, rfl, _, hC⟩ := hs
  have HC := Aside0.mk hC
  have HW := Aside0.mk hw
  clear hC hw
  have hmm := @run_makeMap Try.prog
  go_enter Try.func68, Try.ntmps68
  go_wp2
  go_loopg [7, 11] xs.length (fun gg _ s8 wr => ∃ kk : Nat, kk ≤ xs.length ∧ xs.length - kk ≤ gg ∧ s8 = .int .i64 kk ∧ Aside0 (Below w.heap.size w wr) ∧
    Aside0 (∃ D : DataW Unit, wr.ownsMap Try.prog 9 (plainElem Try.prog 3) w.heap.size kk D ∧ Seen D ((xs.take kk).map fun x => litStr (p x))))
  case atStart => exact ⟨0, Nat.zero_le _, by omega, rfl, ⟨(Below.refl _ w).alloc (Nat.le_refl _) _⟩, ⟨_, World.ownsMap_made _ _ _ _, Seen.start⟩⟩
  case round =>
    obtain ⟨kk, hkk, hg, rfl, BW, ⟨D, hown, hseen⟩⟩ := hrel
    have HS := Aside0.mk hseen
    clear hseen
    by_cases hlt : kk < xs.length
    · have hltz : (kk : Int) < (xs.length : Int) := by omega
      obtain ⟨ad, A3, c3, A4, c4, rfl, h0, h1, h2, h3, h4, hfm⟩ := get40 (Kd.C_below HC.out BW.out) kk hlt
      have HP := Aside0.mk (fun W (hb : Below wr.heap.size wr W) => hp xs[kk] W _ (bb BW.out hb) (hfm.below hb))
      clear hfm
      have hkey : keyOf Try.prog 9 (.string (p xs[kk])) = some (litStr (p xs[kk])) := Go.WideMaps.keyOf_string_mk Try.underlying9 (HW.out _ (List.getElem_mem hlt))
      have HT := Aside0.mk (take_keys (fun x => litStr (p x)) xs hlt)
      have HSTEP := Aside0.mk (fun d => HS.out.step (hown.tidy law9) (k := litStr (p xs[kk])) trivial d)
      generalize hy : xs[kk] = x at HP hkey HT HSTEP h0 h1 h2 h3 h4
      clear hy hp hmm
      have HKEY := Aside0.mk hkey
      clear hkey
      have HOWN := Aside0.mk hown
      clear hown
      go_wp2_with fail
      refine (HP.out _ (below_alloc (Below.refl _ _) _)).mono ?_
      rintro e w2 ⟨rfl, hb2⟩
      have HB2 := Aside0.mk hb2
      have hown2 := (HOWN.out.alloc _).kept (grown_of_below hb2 none) (by simp)
      clear hb2
      go_wp2_with (first
        | (at_lookup; refine wpList_lookup_own_int _ rfl _ _ 127 rfl 9 3 .i64 law9 Try.underlying127 Try.underlying3 (zero3 _) w.heap.size kk _ rfl hown2 _ _ rfl HKEY.out ?_; intro c2 hat hwc; clear hat)
        | (at_mapUpdate; refine wpList_mapUpdate_own _ rfl _ _ _ 127 rfl 9 3 law9 Try.underlying127 _ w.heap.size kk _ rfl hown2 (by unfold maxLen; omega) _ _ _ rfl rfl HKEY.out _ [] (plainElem_int Try.underlying3 (wrap64_wf _)) ?_; intro w1 hown1 hgrow1))
      go_roundg (xs.length - (kk + 1))
      case measure => omega
      case rel =>
        have hb3 := (BW.out.alloc BW.out.size _).trans (HB2.out.mono (by have := BW.out.size; simp; omega))
        exact ⟨kk + 1, by omega, by omega, by go_num, ⟨hb3.grown hgrow1 hb3.size (fun k hk => by cases hk; exact Nat.le_refl _)⟩, ⟨_, hown1, by rw [HT.out]; exact HSTEP.out _⟩⟩
    · have hltz : ¬ (kk : Int) < (xs.length : Int) := by omega
      have : kk = xs.length := by omega
      subst this
      have hres : (((Go.Maps.size D : Nat) : Int) == (xs.length : Int)) = decide (xs.map p).Nodup := by
        have h1 := HS.out.all
        rw [List.take_length, List.length_map, nodup_lit p _ litStr_inj] at h1
        rw [Bool.eq_iff_iff, beq_iff_eq, decide_eq_true_iff, ← h1]
        omega
      have HRES := Aside0.mk hres
      clear hres hmm
      go_wp2_with (at_len; refine wpList_len_own _ rfl _ 127 rfl 9 3 Try.underlying127 _ w.heap.size xs.length _ rfl hown ?_)
      go_ret
      exact ⟨by rw [← HRES.out]; rfl, BW.out⟩
end Go.Proofs.Ytmgpoafoljkknaa.My
