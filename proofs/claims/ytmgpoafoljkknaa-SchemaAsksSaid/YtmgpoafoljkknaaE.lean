/- Contracts of schema.Written, Gone, Read, Column, and of the clones. Conditions: a slice has at most a million elements where it is copied. -/
import Derived.Test.YtmgpoafoljkknaaD
import Derived.WalkSpells
namespace Go.Proofs.Ytmgpoafoljkknaa.My
open Go.RowKit Go.Proofs.YtmgpoafoljkknaaW.PrintWords Go.Proofs.YtmgpoafoljkknaaW.PrintLast Go.Proofs.YtmgpoafoljkknaaW.PrintMore PSchemaReads

/-- A slice of the call's own, all of it in blocks from B on. -/
abbrev Nw {α : Type} (d : Kd α) (e B : Nat) (w : World) (v : Value) (xs : List α) : Prop := Kd.N d e w B (fun k => B ≤ k) v xs
theorem Nw.sl {α : Type} {d : Kd α} {e B : Nat} {w : World} {v : Value} {xs : List α} (h : Nw d e B w v xs) : Sl d w v xs := Kd.N_reads h
theorem Nw.lower {α : Type} {d : Kd α} {e B B' : Nat} {w : World} {v : Value} {xs : List α} (h : Nw d e B w v xs) (hb : B' ≤ B) : Nw d e B' w v xs :=
  Kd.N_mono (Kd.N_lower h hb) (fun _ hk => Nat.le_trans hb hk)
theorem info3 : (Try.prog.info? 3).map (fun i => (i.zero, i.size, i.bytes)) = some (some (.int .i64 0), 1, 8) := by kernel_rfl
theorem fk_int {k : IntKind} {W : World} {ok : Nat → Prop} (x : Int) : Kd.FK (Kd.int k) W ok x [.int k x] := fun _ _ => rfl

set_option maxHeartbeats 1000000 in
set_option maxRecDepth 100000 in
theorem groups_any (g : Nat) (eg : ∀ args w, (callFunc g args).run Try.prog w = .ok (.enter g args) w) (so : Int → Bool) (v : Value) (x : S40) (w : World) (h : Fm w v x) (hl : x.f3.length ≤ 1000000)
    (hp : ∀ n W, Calls Try.prog g #[.int .i64 n] W fun e w' => e = .returned (.bool (so n)) ∧ W = w') :
    Calls Try.prog 71 #[v, .func (.func g) #[] #[]] w fun e w' => ∃ v1, e = .returned v1 ∧ Nw (Kd.int .i64) 3 w.heap.size w' v1 ((x.f3.filter fun l => so l.f1).map (·.f0)) ∧ Below w.heap.size w w' := by
  obtain ⟨v3, v4, rfl, h3, h4⟩ := h
  have hmax := h3.len
  obtain ⟨A, c, rfl, _, hC⟩ := h3
  obtain ⟨A4, c4, rfl, _, _⟩ := h4
  have HC := Aside0.mk hC
  have HP := Aside0.mk hp
  clear hC hp
  generalize hys : x.f3 = xs at *
  clear hys
  go_enter Try.func71, Try.ntmps71
  go_wp2
  go_loopg [5, 7, 11] xs.length (fun gg s5 _ s8 wr => ∃ kk : Nat, kk ≤ xs.length ∧ xs.length - kk ≤ gg ∧ s8 = .int .i64 kk ∧ Aside0 (Below w.heap.size w wr) ∧ Aside0 (Nw (Kd.int .i64) 3 w.heap.size wr s5 (((xs.take kk).filter fun l => so l.f1).map (·.f0))))
  case atStart => exact ⟨0, Nat.zero_le _, by omega, rfl, ⟨(Below.refl _ w).alloc (Nat.le_refl _) _⟩, ⟨Kd.N_nil _ _ _ _ _⟩⟩
  case round =>
    obtain ⟨kk, hkk, hg, rfl, BW, HN⟩ := hrel
    by_cases hlt : kk < xs.length
    · have hltz : (kk : Int) < (xs.length : Int) := by omega
      obtain ⟨ad, rfl, h0, h1⟩ := get60 (Kd.C_below HC.out BW.out) kk hlt
      have HT := Aside0.mk (show (((xs.take (kk + 1)).filter fun l => so l.f1).map (·.f0)) = ((xs.take kk).filter fun l => so l.f1).map (·.f0) ++ (if so xs[kk].f1 then [xs[kk].f0] else []) by
        rw [List.take_succ_eq_append_getElem hlt, List.filter_append, List.map_append]
        congr 1
        cases hq : so xs[kk].f1 <;> simp [hq])
      have HLEN := Aside0.mk (show (((xs.take kk).filter fun l => so l.f1).map (·.f0)).length ≤ 1000000 by
        rw [List.length_map]; exact Nat.le_trans (List.length_filter_le _ _) (Nat.le_trans (List.length_take_le _ _) (by omega)))
      generalize hy : xs[kk] = y at h0 h1 HT
      clear hy
      generalize ((xs.take kk).filter fun l => so l.f1).map (·.f0) = acc at HN HT HLEN
      have HCALL := Aside0.mk (HP.out y.f1)
      rcases hq : so y.f1 with _ | _
      · rw [hq] at HCALL HT
        go_wp2_with (go_at_fn g; refine (HCALL.out _).mono ?_; rintro e w' ⟨rfl, rfl⟩)
        go_roundg (xs.length - (kk + 1))
        case measure => omega
        case rel => exact ⟨kk + 1, by omega, by omega, by go_num, ⟨BW.out.alloc BW.out.size _⟩, ⟨by rw [HT.out]; simp only [Bool.false_eq_true, if_false, List.append_nil]; exact Kd.N_alloc HN.out _⟩⟩
      · rw [hq] at HCALL HT
        go_wp2_with (first
          | (go_at_fn g; refine (HCALL.out _).mono ?_; rintro e w' ⟨rfl, rfl⟩)
          | (at_builtin; refine Kd.N_append (Kd.int .i64) (w0 := w) w.heap.size rfl (.tmp 19) (.tmp 22) 42 3 (.int .i64 0) 8 rfl Try.underlying42 info3 rfl (by decide) (by omega) u5 acc y.f0 [.int .i64 y.f0] (fun k => w.heap.size ≤ k) (fun _ => False) rfl (by show Value.slice (some ⟨wr.heap.size + 1, 0, none⟩) 1 1 = _; simp) (fk_int _) (fun _ hk => hk.elim) (fun k hk => by have := BW.out.size; simp at hk; omega) (Kd.N_alloc HN.out _) (BW.out.alloc BW.out.size _) (by have := BW.out.size; simp; omega) (by have := HLEN.out; omega) ?_; intro v1 w1 ho hb hg2 hat; have HO := Aside0.mk ho; have HB := Aside0.mk hb; clear ho hb hg2 hat))
        go_roundg (xs.length - (kk + 1))
        case measure => omega
        case rel => exact ⟨kk + 1, by omega, by omega, by go_num, HB, ⟨by rw [HT.out]; exact HO.out⟩⟩
    · have hltz : ¬ (kk : Int) < (xs.length : Int) := by omega
      have : kk = xs.length := by omega
      subst this
      have HN2 := HN.out
      rw [List.take_length] at HN2
      have HN := Aside0.mk HN2
      clear HN2
      go_wp2
      go_ret
      exact ⟨_, rfl, HN.out, BW.out⟩

theorem written_any (v : Value) (x : S40) (w : World) (h : Fm w v x) (hl : x.f3.length ≤ 1000000) :
    Calls Try.prog 22 #[v] w fun e w' => ∃ v1, e = .returned v1 ∧ Nw (Kd.int .i64) 3 w.heap.size w' v1 ((x.f3.filter fun l => l.f1 == 2 || l.f1 == 3).map (·.f0)) ∧ Below w.heap.size w w' := by
  have HF := Aside0.mk (fun W hb => groups_any 72 (enters_of Try.func72 (by kernel_rfl) rfl) (fun n => n == 2 || n == 3) v x W (h.below hb) hl written1_any)
  obtain ⟨_, _, rfl, ⟨A3, c3, rfl, _, _⟩, ⟨A4, c4, rfl, _, _⟩⟩ := h
  go_enter Try.func22, Try.ntmps22
  go_wp2_with (go_at_call 71; refine (HF.out _ ((Below.refl _ _).alloc (Nat.le_refl _) _)).mono ?_; rintro e w1 ⟨v1, rfl, hn, hb⟩)
  go_ret
  exact ⟨_, rfl, Nw.lower hn (by simp), bb ((Below.refl _ _).alloc (Nat.le_refl _) _) hb⟩
theorem gone_any (v : Value) (x : S40) (w : World) (h : Fm w v x) (hl : x.f3.length ≤ 1000000) :
    Calls Try.prog 23 #[v] w fun e w' => ∃ v1, e = .returned v1 ∧ Nw (Kd.int .i64) 3 w.heap.size w' v1 ((x.f3.filter fun l => l.f1 != 0).map (·.f0)) ∧ Below w.heap.size w w' := by
  have HF := Aside0.mk (fun W hb => groups_any 73 (enters_of Try.func73 (by kernel_rfl) rfl) (fun n => n != 0) v x W (h.below hb) hl gone1_any)
  obtain ⟨_, _, rfl, ⟨A3, c3, rfl, _, _⟩, ⟨A4, c4, rfl, _, _⟩⟩ := h
  go_enter Try.func23, Try.ntmps23
  go_wp2_with (go_at_call 71; refine (HF.out _ ((Below.refl _ _).alloc (Nat.le_refl _) _)).mono ?_; rintro e w1 ⟨v1, rfl, hn, hb⟩)
  go_ret
  exact ⟨_, rfl, Nw.lower hn (by simp), bb ((Below.refl _ _).alloc (Nat.le_refl _) _) hb⟩

/-! ### clones -/
theorem heap60 : Kd.Heap k60 := Kd.heap_iso _ (Kd.heap_pair (Kd.heap_int _) (Kd.heap_int _))
theorem heap52 : Kd.Heap k52 := Kd.heap_iso _ (Kd.heap_pair Kd.heap_string (Kd.heap_pair (Kd.heap_int _) (Kd.heap_int _)))
theorem heap40 : Kd.Heap k40 := Kd.heap_iso _ (Kd.heap_pair Kd.heap_string (Kd.heap_pair (Kd.heap_int _) (Kd.heap_pair (Kd.heap_int _) (Kd.heap_pair (Kd.heap_slice 60 heap60) (Kd.heap_slice 52 heap52)))))
/-- Bytes. -/
def kB : Kd UInt8 := Kd.iso (Kd.int .u8) (fun b => (b.toNat : Int))
abbrev kR : Kd (List UInt8) := Kd.slice 5 kB
theorem heapB : Kd.Heap kB := Kd.heap_iso _ (Kd.heap_int _)
theorem heapR : Kd.Heap kR := Kd.heap_slice 5 heapB
theorem F_all {α : Type} {d : Kd α} (hd : Kd.Heap d) {w : World} {A : Option Addr} {n : Nat} {xs : List α} (h : d.C w A n xs) : Kd.F d w (fun _ => True) A n xs :=
  fun _ hW => hd.C (fun k hk => hW k trivial hk) h
theorem N_empty {α : Type} (d : Kd α) (e : Nat) (w : World) (ok : Nat → Prop) (hok : ok w.heap.size) : Kd.N d e (w.alloc (.cells #[] e)) w.heap.size ok (.slice (some ⟨w.heap.size, 0, none⟩) 0 0) [] :=
  Kd.R_N ⟨fun k hk => by injection hk with hk; exact hk ▸ hok, OwnRow.lit w w.heap.size (Reps.none _ _) (Nat.le_refl _) (by simp)⟩
theorem F_old {α : Type} {d : Kd α} (hd : Kd.Heap d) {w w1 : World} {A : Option Addr} {n : Nat} {xs : List α} (h : d.C w A n xs) (hb : Below w.heap.size w w1) : Kd.F d w1 (fun k => k < w.heap.size) A n xs :=
  fun _ hW => hd.C (fun k hk => (hW k hk (Nat.lt_of_lt_of_le hk hb.size)).trans (hb.block k hk)) h
theorem C_none {α : Type} {d : Kd α} {w : World} {n : Nat} {xs : List α} (h : d.C w none n xs) : xs = [] := by
  rcases xs with _ | ⟨x, r⟩
  · rfl
  · obtain ⟨_, h2, _⟩ := h.2.2 (by have := h.1; simp at this; omega); cases h2
def Flat {α : Type} (d : Kd α) : Prop := ∀ w x c, d.K w x c → ∀ w2, d.K w2 x c
theorem N_flat {α : Type} {d : Kd α} (hf : Flat d) {e base : Nat} {ok : Nat → Prop} {w : World} {v : Value} {xs : List α} (h : Kd.N d e w base ok v xs) : Nw d e base w v xs := by
  have hb := Kd.N_base h
  obtain ⟨h0, rows, hl, hR, hF⟩ := h
  exact ⟨hb, rows, hl, hR, fun j x c hx hc => fun W2 _ => hf _ _ _ (Kd.FK_now (hF j x c hx hc)) W2⟩
theorem flat_int (k : IntKind) : Flat (Kd.int k) := fun _ _ _ h _ => h
theorem flat60 : Flat k60 := fun _ _ _ h w2 => by obtain rfl := k60_open h; exact k60_mk w2 _
theorem flat52 : Flat k52 := fun _ _ _ h w2 => by obtain rfl := k52_open h; exact k52_mk w2 _

theorem flatB : Flat kB := fun _ _ _ h _ => h
set_option maxHeartbeats 1000000 in
set_option maxRecDepth 100000 in
theorem clone109 (v : Value) (xs : List S60) (w : World) (hs : Sl k60 w v xs) (hl : xs.length ≤ 1000000) :
    Calls Try.prog 109 #[v] w fun e w' => ∃ v1, e = .returned v1 ∧ Nw k60 60 w.heap.size w' v1 xs ∧ Below w.heap.size w w' := by
  obtain ⟨A, c, rfl, _, hC⟩ := hs
  have HL := Aside0.mk hl
  clear hl
  rcases A with _ | ad
  · have h := fun W => Lib.run_eql_slice_nil (P := Try.prog) W 37 60 none 0 c 0 0 Try.underlying37
    obtain rfl := C_none hC
    clear hC HL
    show Calls Try.prog 109 #[.slice none 0 c] w _
    go_enter Try.func109, Try.ntmps109
    go_wp2
    go_ret
    exact ⟨_, rfl, Kd.N_nil _ _ _ _ _, Below.refl _ _⟩
  · have h := fun W => Lib.run_eql_slice_nil (P := Try.prog) W 37 60 (some ad) xs.length c 0 0 Try.underlying37
    have HC := Aside0.mk hC
    clear hC
    go_enter Try.func109, Try.ntmps109
    go_wp2_with (at_builtin; (refine Kd.N_append_rows k60 (w0 := w) w.heap.size rfl (.tmp 5) (.tmp 6) 37 60 (.agg #[.int .i64 0, .int .i64 0]) 16 rfl Try.underlying37 info60 rfl (by decide) (by omega) (.slice (some ⟨w.heap.size, 0, none⟩) 0 0) [] xs (some ad) xs.length c (fun _ => True) (fun k => k < w.heap.size) rfl rfl (N_empty _ _ _ _ trivial) (F_old heap60 HC.out ((Below.refl _ _).alloc (Nat.le_refl _) _)) (fun k hk => ⟨trivial, fun he => by simp [Value.ownBlock] at he; omega⟩) (fun _ _ => trivial) ((Below.refl _ _).alloc (Nat.le_refl _) _) (by simp) (by have := HL.out; simp; omega) ?_); intro v1 w1 ho hb hg2 hat; have HO := Aside0.mk ho; have HB := Aside0.mk hb; clear ho hb hg2 hat)
    go_ret
    exact ⟨_, rfl, N_flat flat60 HO.out, HB.out⟩
set_option maxHeartbeats 1000000 in
set_option maxRecDepth 100000 in
theorem clone110 (v : Value) (xs : List S52) (w : World) (hs : Sl k52 w v xs) (hl : xs.length ≤ 1000000) :
    Calls Try.prog 110 #[v] w fun e w' => ∃ v1, e = .returned v1 ∧ Nw k52 52 w.heap.size w' v1 xs ∧ Below w.heap.size w w' := by
  obtain ⟨A, c, rfl, _, hC⟩ := hs
  have HL := Aside0.mk hl
  clear hl
  rcases A with _ | ad
  · have h := fun W => Lib.run_eql_slice_nil (P := Try.prog) W 38 52 none 0 c 0 0 Try.underlying38
    obtain rfl := C_none hC
    clear hC HL
    show Calls Try.prog 110 #[.slice none 0 c] w _
    go_enter Try.func110, Try.ntmps110
    go_wp2
    go_ret
    exact ⟨_, rfl, Kd.N_nil _ _ _ _ _, Below.refl _ _⟩
  · have h := fun W => Lib.run_eql_slice_nil (P := Try.prog) W 38 52 (some ad) xs.length c 0 0 Try.underlying38
    have HC := Aside0.mk hC
    clear hC
    go_enter Try.func110, Try.ntmps110
    go_wp2_with (at_builtin; (refine Kd.N_append_rows k52 (w0 := w) w.heap.size rfl (.tmp 5) (.tmp 6) 38 52 (.agg #[.string ⟨#[]⟩, .int .i64 0, .int .i64 0]) 32 rfl Try.underlying38 info52 rfl (by decide) (by omega) (.slice (some ⟨w.heap.size, 0, none⟩) 0 0) [] xs (some ad) xs.length c (fun _ => True) (fun k => k < w.heap.size) rfl rfl (N_empty _ _ _ _ trivial) (F_old heap52 HC.out ((Below.refl _ _).alloc (Nat.le_refl _) _)) (fun k hk => ⟨trivial, fun he => by simp [Value.ownBlock] at he; omega⟩) (fun _ _ => trivial) ((Below.refl _ _).alloc (Nat.le_refl _) _) (by simp) (by have := HL.out; simp; omega) ?_); intro v1 w1 ho hb hg2 hat; have HO := Aside0.mk ho; have HB := Aside0.mk hb; clear ho hb hg2 hat)
    go_ret
    exact ⟨_, rfl, N_flat flat52 HO.out, HB.out⟩
set_option maxHeartbeats 1000000 in
set_option maxRecDepth 100000 in
theorem clone123 (v : Value) (xs : List UInt8) (w : World) (hs : Sl kB w v xs) (hl : xs.length ≤ 1000000) :
    Calls Try.prog 123 #[v] w fun e w' => ∃ v1, e = .returned v1 ∧ Nw kB 5 w.heap.size w' v1 xs ∧ Below w.heap.size w w' := by
  obtain ⟨A, c, rfl, _, hC⟩ := hs
  have HL := Aside0.mk hl
  clear hl
  rcases A with _ | ad
  · have h := fun W => Lib.run_eql_slice_nil (P := Try.prog) W 22 5 none 0 c 0 0 Try.underlying22
    obtain rfl := C_none hC
    clear hC HL
    show Calls Try.prog 123 #[.slice none 0 c] w _
    go_enter Try.func123, Try.ntmps123
    go_wp2
    go_ret
    exact ⟨_, rfl, Kd.N_nil _ _ _ _ _, Below.refl _ _⟩
  · have h := fun W => Lib.run_eql_slice_nil (P := Try.prog) W 22 5 (some ad) xs.length c 0 0 Try.underlying22
    have HC := Aside0.mk hC
    clear hC
    go_enter Try.func123, Try.ntmps123
    go_wp2_with (at_builtin; (refine Kd.N_append_rows kB (w0 := w) w.heap.size rfl (.tmp 5) (.tmp 6) 22 5 (.int .u8 0) 1 rfl Try.underlying22 info5 rfl (by decide) (by omega) (.slice (some ⟨w.heap.size, 0, none⟩) 0 0) [] xs (some ad) xs.length c (fun _ => True) (fun k => k < w.heap.size) rfl rfl (N_empty _ _ _ _ trivial) (F_old heapB HC.out ((Below.refl _ _).alloc (Nat.le_refl _) _)) (fun k hk => ⟨trivial, fun he => by simp [Value.ownBlock] at he; omega⟩) (fun _ _ => trivial) ((Below.refl _ _).alloc (Nat.le_refl _) _) (by simp) (by have := HL.out; simp; omega) ?_); intro v1 w1 ho hb hg2 hat; have HO := Aside0.mk ho; have HB := Aside0.mk hb; clear ho hb hg2 hat)
    go_ret
    exact ⟨_, rfl, N_flat flatB HO.out, HB.out⟩
set_option maxHeartbeats 1000000 in
set_option maxRecDepth 100000 in
theorem clone81 (v : Value) (xs : List S40) (w : World) (hs : Sl k40 w v xs) (hl : xs.length ≤ 1000000) :
    Calls Try.prog 81 #[v] w fun e w' => ∃ v1, e = .returned v1 ∧ Kd.N k40 40 w' w.heap.size (fun _ => True) v1 xs ∧ Below w.heap.size w w' := by
  obtain ⟨A, c, rfl, _, hC⟩ := hs
  have HL := Aside0.mk hl
  clear hl
  rcases A with _ | ad
  · have h := fun W => Lib.run_eql_slice_nil (P := Try.prog) W 24 40 none 0 c 0 0 Try.underlying24
    obtain rfl := C_none hC
    clear hC HL
    show Calls Try.prog 81 #[.slice none 0 c] w _
    go_enter Try.func81, Try.ntmps81
    go_wp2
    go_ret
    exact ⟨_, rfl, Kd.N_nil _ _ _ _ _, Below.refl _ _⟩
  · have h := fun W => Lib.run_eql_slice_nil (P := Try.prog) W 24 40 (some ad) xs.length c 0 0 Try.underlying24
    have HC := Aside0.mk hC
    clear hC
    go_enter Try.func81, Try.ntmps81
    go_wp2_with (at_builtin; (refine Kd.N_append_rows k40 (w0 := w) w.heap.size rfl (.tmp 5) (.tmp 6) 24 40 (.agg #[.string ⟨#[]⟩, .int .i64 0, .int .i64 0, .slice none 0 0, .slice none 0 0]) 80 rfl Try.underlying24 info40 rfl (by decide) (by omega) (.slice (some ⟨w.heap.size, 0, none⟩) 0 0) [] xs (some ad) xs.length c (fun _ => True) (fun k => k < w.heap.size) rfl rfl (N_empty _ _ _ _ trivial) (F_old heap40 HC.out ((Below.refl _ _).alloc (Nat.le_refl _) _)) (fun k hk => ⟨trivial, fun he => by simp [Value.ownBlock] at he; omega⟩) (fun _ _ => trivial) ((Below.refl _ _).alloc (Nat.le_refl _) _) (by simp) (by have := HL.out; simp; omega) ?_); intro v1 w1 ho hb hg2 hat; have HO := Aside0.mk ho; have HB := Aside0.mk hb; clear ho hb hg2 hat)
    go_ret
    exact ⟨_, rfl, HO.out, HB.out⟩

theorem blk_new (w : World) (cs : Array Value) (t : TypeId) : (w.alloc (.cells cs t)).heap[w.heap.size]? = some (.cells cs t (0, 0)) := heap_alloc_new w _
theorem blk_old {w : World} {g : Nat} {o : Obj} (h : w.heap[g]? = some o) (o2 : Obj) : (w.alloc o2).heap[g]? = some o := (Below.heap_alloc _ _ _ (blk_lt h)).trans h
theorem blk_keep {W w1 : World} (hb : Below W.heap.size W w1) {g : Nat} {o : Obj} (h : W.heap[g]? = some o) : w1.heap[g]? = some o := (hb.block g (blk_lt h)).trans h
/-- A family's value, its rows the call's own. -/
def FmN (B : Nat) (w : World) (v : Value) (x : S40) : Prop := ∃ v3 v4, v = .agg #[.string x.f0, .int .i64 x.f1, .int .i64 x.f2, v3, v4] ∧ Nw k60 60 B w v3 x.f3 ∧ Nw k52 52 B w v4 x.f4
theorem FmN.fm {B : Nat} {w : World} {v : Value} {x : S40} (h : FmN B w v x) : Fm w v x := by
  obtain ⟨v3, v4, rfl, h3, h4⟩ := h
  exact ⟨v3, v4, rfl, h3.sl, h4.sl⟩
theorem FmN.lower {B B' : Nat} {w : World} {v : Value} {x : S40} (h : FmN B w v x) (hb : B' ≤ B) : FmN B' w v x := by
  obtain ⟨v3, v4, rfl, h3, h4⟩ := h
  exact ⟨v3, v4, rfl, h3.lower hb, h4.lower hb⟩

set_option maxHeartbeats 1000000 in
set_option maxRecDepth 100000 in
theorem cloneF_any (v : Value) (x : S40) (w : World) (h : Fm w v x) (hl3 : x.f3.length ≤ 1000000) (hl4 : x.f4.length ≤ 1000000) :
    Calls Try.prog 78 #[v] w fun e w' => ∃ v1, e = .returned v1 ∧ FmN w.heap.size w' v1 x ∧ Below w.heap.size w w' := by
  obtain ⟨v3, v4, rfl, h3, h4⟩ := h
  have H3 := Aside0.mk (fun W hb => clone109 v3 x.f3 W (h3.below hb) hl3)
  have H4 := Aside0.mk (fun W hb => clone110 v4 x.f4 W (h4.below hb) hl4)
  obtain ⟨A3, c3, rfl, _, _⟩ := h3
  obtain ⟨A4, c4, rfl, _, _⟩ := h4
  clear hl3 hl4
  have HBX := Aside0.mk (fun (o o2 : Obj) => ((Below.refl w.heap.size w).alloc (Nat.le_refl _) o).alloc (by simp) o2)
  go_enter Try.func78, Try.ntmps78
  go_wp2_with fail
  refine (H3.out _ (HBX.out _ _)).mono ?_
  rintro e w1 ⟨v1, rfl, hn, hb⟩
  obtain ⟨A1, c1, rfl⟩ := Kd.N_slice hn
  have g1 := blk_keep hb (blk_old (blk_new w _ _) _)
  have r1 := blk_keep hb (blk_new (w.alloc _) _ _)
  have HN := Aside0.mk (Nw.lower (B' := w.heap.size + 2) hn (by simp))
  have HB := Aside0.mk (bb (HBX.out _ _) hb)
  have HS1 := Aside0.mk (show w.heap.size + 2 ≤ w1.heap.size by have := hb.size; simp at this; omega)
  clear hn hb
  simp only [World.size_alloc] at r1
  have gc1 := blk_cell g1
  have gf1 := blk_frozen g1
  go_wp2_with fail
  have HB2 := Aside0.mk (HB.out.setCell (p := ⟨w.heap.size, 3, none⟩) (Nat.le_refl _) (.slice A1 x.f3.length c1))
  have g2 := blk_set g1 3 (.slice A1 x.f3.length c1)
  have r2 := blk_far r1 (p := ⟨w.heap.size, 3, none⟩) (by simp) (.slice A1 x.f3.length c1)
  have HN2 := Aside0.mk (Kd.N_far HN.out (p := ⟨w.heap.size, 3, none⟩) (fun k hk => by simp at hk ⊢; omega) (.slice A1 x.f3.length c1))
  refine (H4.out _ HB2.out).mono ?_
  rintro e w2 ⟨v2, rfl, hn2, hb2⟩
  obtain ⟨A2, c2, rfl⟩ := Kd.N_slice hn2
  have g3 := blk_keep hb2 g2
  have r3 := blk_keep hb2 r2
  have HN3 := Aside0.mk (Kd.N_below HN2.out hb2)
  have HM := Aside0.mk (Nw.lower (B' := w.heap.size + 2) hn2 (by have := HS1.out; simp; omega))
  have HB3 := Aside0.mk (bb HB2.out hb2)
  clear hn2 hb2 g1 r1 g2 r2 gc1 gf1 HN HN2
  simp at g3
  have gc3 := blk_cell g3
  have gf3 := blk_frozen g3
  have rc3 := blk_cell r3
  have rf3 := blk_frozen r3
  go_wp2
  refine bodyPost_ret (v := .agg #[.string x.f0, .int .i64 x.f1, .int .i64 x.f2, .slice A1 x.f3.length c1, .slice A2 x.f4.length c2]) (by simp [results, Try.results78, go_sem, rc3]) rfl ⟨_, rfl, ⟨_, _, rfl, ?_, ?_⟩, ?_⟩
  · refine Nw.lower (B := w.heap.size + 2) ?_ (by omega)
    with_reducible repeat (first | exact HN3.out | refine Kd.N_far ?_ (fun k hk => by simp at hk ⊢; omega) _)
  · refine Nw.lower (B := w.heap.size + 2) ?_ (by omega)
    with_reducible repeat (first | exact HM.out | refine Kd.N_far ?_ (fun k hk => by simp at hk ⊢; omega) _)
  · with_reducible repeat (first | exact HB3.out | refine Below.setCell ?_ (by simp) _)
end Go.Proofs.Ytmgpoafoljkknaa.My
