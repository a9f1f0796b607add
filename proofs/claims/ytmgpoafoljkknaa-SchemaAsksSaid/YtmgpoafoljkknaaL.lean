/- Contracts of the taker: part, num, text, family. Conditions: a taker reads parts of at most a million bytes each. -/
import Derived.Test.YtmgpoafoljkknaaK
namespace Go.Proofs.Ytmgpoafoljkknaa.My
open Go.RowKit Go.Proofs.YtmgpoafoljkknaaW.PrintWords Go.Proofs.YtmgpoafoljkknaaW.PrintLast Go.Proofs.YtmgpoafoljkknaaW.PrintMore PSchemaReads
attribute [local go_sem] max2_int min2_int max_two min_two max_three min_three max_four min_four
def numOf (b : List UInt8) : Int := (takeL b).elim 0 fun p => (p.1 : Int)
/-- A taker: the block g holds its one field, a row that lies in older blocks; its parts are small. -/
structure Tk (g : Nat) (w : World) (parts : List (List UInt8)) : Prop where
  out : ∃ A c, w.heap[g]? = some (.cells #[.slice A parts.length c] 79 (0, 0)) ∧ parts.length ≤ c ∧ Kd.F kR w (fun k => k < g) A parts.length parts
  small : ∀ b ∈ parts, b.length ≤ 1000000
/-- All but the taker's block is as it was. -/
structure Kpg (g : Nat) (w w' : World) : Prop where
  keep : ∀ k, k < w.heap.size → k ≠ g → w'.heap[k]? = w.heap[k]?
  below : Below g w w'
theorem Kpg.refl (g : Nat) (w : World) : Kpg g w w := ⟨fun _ _ _ => rfl, Below.refl _ _⟩
theorem Kpg.trans {g : Nat} {w w1 w2 : World} (h : Kpg g w w1) (h2 : Kpg g w1 w2) : Kpg g w w2 :=
  ⟨fun k hk hg => (h2.keep k (Nat.lt_of_lt_of_le hk h.below.size) hg).trans (h.keep k hk hg), h.below.trans h2.below⟩
theorem Kpg.of {g : Nat} {w w' : World} (h : Below w.heap.size w w') (hg : g ≤ w.heap.size) : Kpg g w w' := ⟨fun k hk _ => h.block k hk, h.mono hg⟩
theorem Kpg.drew (g : Nat) (w : World) : Kpg g w w.drew := ⟨fun _ _ _ => rfl, (Below.refl g w).drew⟩
theorem Kpg.but {g : Nat} {w w' : World} (h : Kpg g w w') : KeepBut w w' g none := ⟨h.below.size, fun k hk hg _ => h.keep k hk hg⟩
theorem Kpg.blk {g k : Nat} {w w' : World} (h : Kpg g w w') {o : Obj} (hk : w.heap[k]? = some o) (hg : k ≠ g) : w'.heap[k]? = some o := (h.keep k (blk_lt hk) hg).trans hk
theorem Tk.lt {g : Nat} {w : World} {parts : List (List UInt8)} (h : Tk g w parts) : g < w.heap.size := by
  obtain ⟨A, c, hb, _⟩ := h.out
  exact blk_lt hb
theorem Tk.step {g : Nat} {w w' : World} {parts : List (List UInt8)} (h : Tk g w parts) (hb : ∀ k, k ≤ g → w'.heap[k]? = w.heap[k]?) : Tk g w' parts := by
  obtain ⟨A, c, h1, h2, h3⟩ := h.out
  exact ⟨⟨A, c, (hb g (Nat.le_refl _)).trans h1, h2, Kd.F_step h3 (fun k hk _ => hb k (Nat.le_of_lt hk))⟩, h.small⟩
theorem Tk.below {g : Nat} {w w' : World} {parts : List (List UInt8)} (h : Tk g w parts) (hb : Below (g + 1) w w') : Tk g w' parts := h.step (fun k hk => hb.block k (by omega))
theorem Tk.drew {g : Nat} {w : World} {parts : List (List UInt8)} (h : Tk g w parts) : Tk g w.drew parts := h.step (fun _ _ => rfl)
theorem info22s : ∃ i, Try.prog.info? 22 = some i ∧ i.size = 1 := by
  obtain ⟨i, hi, hz⟩ := Option.map_eq_some_iff.1 info22'
  exact ⟨i, hi, by simp only [Prod.mk.injEq] at hz; exact hz.2.1⟩
def TkR (g : Nat) (w w' : World) (parts : List (List UInt8)) : Prop := Tk g w' parts ∧ Kpg g w w'
def PartQ (g : Nat) (w : World) (b : List UInt8) (t : List (List UInt8)) (e : Ending) (w' : World) : Prop := ∃ A c, e = .returned (.slice A b.length c) ∧ b.length ≤ c ∧ Kd.F kB w' (fun k => k < g) A b.length b ∧ TkR g w w' t
set_option maxHeartbeats 1000000 in
theorem part_any (g : Nat) (parts : List (List UInt8)) (w : World) (h : Tk g w parts) : Calls Try.prog 101 #[.pointer (some ⟨g, 0, none⟩)] w (PartQ g w (parts.headD []) parts.tail) := by
  obtain ⟨A, c, hb, hc, hF⟩ := h.out
  have HT := Aside0.mk h
  have gc := blk_cell hb
  have gf := blk_frozen hb
  rcases parts with _ | ⟨b, t⟩
  · clear hF hb h
    simp only [List.length_nil] at gc
    go_enter Try.func101, Try.ntmps101
    go_wp2
    go_ret
    exact ⟨none, 0, rfl, Nat.le_refl _, Kd.F_nil _ _ _, HT.out, Kpg.refl _ _⟩
  · have hmax := Kd.F_max hF
    simp only [List.length_cons] at hmax
    have hlen : ((t.length + 1 : Nat) : Int) ≠ 0 := by omega
    obtain ⟨ad, cc, rfl, _, hK, h0, _⟩ := Kd.F_get hF ([] : List UInt8) 0 (by omega) (by simp)
    obtain ⟨A0, c0, rfl, hc0, hF0⟩ := Kd.FK_slice_open hK
    have h0 := h0 0 _ rfl
    obtain ⟨i5, hi5, hs5⟩ := info22s
    simp only [List.length_cons] at hc
    obtain ⟨A2, c2, hcut, hc2, hF2⟩ : ∃ A2 c2, (∀ W, (Instr.slice 74 (.slice (some ad) (t.length + 1) c) (some (.int .i64 1)) none none).run Try.prog W = .ok (.slice A2 t.length c2) W) ∧ t.length ≤ c2 ∧ Kd.F kR w (fun k => k < g) A2 t.length t :=
      ⟨_, _, cut_from (P := Try.prog) 74 22 .i64 Try.underlying74 hi5 1 hs5 (some ad) (t.length + 1) c 1 (by omega) (by omega), by simp; omega, by
        have := Kd.F_cut (m := 1) (c := c) hF (by simp) (by simpa using hc)
        simpa [show kR.sz = 1 from rfl] using this⟩
    have HF2 := Aside0.mk hF2
    have HF0 := Aside0.mk hF0
    have HB := Aside0.mk hb
    clear hF hb h hi5 hs5 hK hF2 hF0
    simp only [List.length_cons, Int.toNat_zero, List.getD_cons_zero] at h0 hc0 gc HF0
    rw [show ad.add (0 * kR.sz + 0) = ad by cases ad; simp [Addr.add]] at h0
    go_enter Try.func101, Try.ntmps101
    go_wp2
    go_ret
    refine ⟨A0, c0, rfl, hc0, ?_, ⟨⟨A2, c2, blk_set HB.out 0 _, hc2, ?_⟩, fun x hx => HT.out.small x (List.mem_cons_of_mem _ hx)⟩, ⟨fun k hk hg => Below.heap_setCell _ _ _ _ hg, (Below.refl g w).setCell (Nat.le_refl _) _⟩⟩
    · exact Kd.F_far HF0.out (fun k hk => by show k ≠ g; omega) _
    · exact Kd.F_far HF2.out (fun k hk => by show k ≠ g; omega) _
theorem Tk.head {g : Nat} {w : World} {parts : List (List UInt8)} (h : Tk g w parts) : (parts.headD []).length ≤ 1000000 := by
  rcases parts with _ | ⟨b, t⟩
  · simp
  · exact h.small b List.mem_cons_self
theorem TakeR.num {bs : List UInt8} {n : Int} {r : List UInt8} {ok : Bool} (h : TakeR bs n r ok) : n = numOf bs := by
  unfold TakeR at h
  unfold numOf
  cases hq : takeL bs with
  | none => rw [hq] at h; exact h.1
  | some p => rw [hq] at h; exact h.1
theorem TkR.trans {g : Nat} {w w1 w2 : World} {t t2 : List (List UInt8)} (h : TkR g w w1 t) (h2 : TkR g w1 w2 t2) : TkR g w w2 t2 := ⟨h2.1, h.2.trans h2.2⟩
theorem TkR.below {g : Nat} {w w1 w2 : World} {t : List (List UInt8)} (h : TkR g w w1 t) (hb : Below w1.heap.size w1 w2) : TkR g w w2 t := by
  have := h.1.lt
  exact ⟨h.1.below (hb.mono (by omega)), h.2.trans (Kpg.of hb (by omega))⟩
set_option maxHeartbeats 1000000 in
theorem tnum_any (g : Nat) (parts : List (List UInt8)) (w : World) (h : Tk g w parts) : Calls Try.prog 53 #[.pointer (some ⟨g, 0, none⟩)] w fun e w' => e = .returned (.int .i64 (numOf (parts.headD []))) ∧ TkR g w w' parts.tail := by
  have HP := Aside0.mk (part_any g parts w h)
  have HS := Aside0.mk h.head
  clear h
  generalize parts.headD [] = b at HP HS
  generalize parts.tail = t at HP
  go_enter Try.func53, Try.ntmps53
  go_wp2_with fail
  refine HP.out.mono ?_
  rintro e w1 ⟨A, c, rfl, hc, hF, ht⟩
  have HTK := Aside0.mk (take_all (.slice A b.length c) b w1 ⟨A, c, rfl, hc, Kd.F_now hF⟩ HS.out)
  have HT := Aside0.mk ht
  clear ht hF
  go_wp2_with fail
  refine HTK.out.mono ?_
  rintro e w2 ⟨v1, n, r, ok, rfl, hn, hb, hr⟩
  have HN := Aside0.mk hr.num
  have HB := Aside0.mk hb
  clear hn hb hr
  go_wp2
  go_ret
  exact ⟨by rw [HN.out]; rfl, HT.out.below HB.out⟩
def strB (b : List UInt8) : ByteArray := ⟨b.toArray⟩
theorem strB_nums (b : List UInt8) : strOfNums (b.map fun x => (x.toNat : Int)) = strB b := by
  unfold strB strOfNums
  have h : ((fun n : Int => UInt8.ofNat n.toNat) ∘ fun x : UInt8 => (x.toNat : Int)) = id := by
    funext x
    simp
  rw [List.map_map, h, List.map_id]
theorem ints_of {w : World} {A : Option Addr} {n : Nat} {xs : List UInt8} (h : Kd.C kB w A n xs) : Kd.C (Kd.int .u8) w A n (xs.map fun b => (b.toNat : Int)) := by
  refine ⟨by have := h.1; simpa using this, h.2.1, fun hn => ?_⟩
  obtain ⟨ad, e, hc⟩ := h.2.2 hn
  refine ⟨ad, e, fun j p hj => ?_⟩
  rw [List.getElem?_map] at hj
  cases hx : xs[j]? with
  | none => rw [hx] at hj; cases hj
  | some x => rw [hx] at hj; cases hj; exact hc j x hx
set_option maxHeartbeats 1000000 in
theorem ttext_any (g : Nat) (parts : List (List UInt8)) (w : World) (h : Tk g w parts) : Calls Try.prog 55 #[.pointer (some ⟨g, 0, none⟩)] w fun e w' => e = .returned (.string (strB (parts.headD []))) ∧ TkR g w w' parts.tail := by
  have HP := Aside0.mk (part_any g parts w h)
  have HS := Aside0.mk h.head
  clear h
  generalize parts.headD [] = b at HP HS
  generalize parts.tail = t at HP
  go_enter Try.func55, Try.ntmps55
  go_wp2_with fail
  refine HP.out.mono ?_
  rintro e w1 ⟨A, c, rfl, hc, hF, ht⟩
  have hcs := Kd.C_string (P := Try.prog) (c := c) Try.underlying22 Try.underlying5 Try.underlying9 (ints_of (Kd.F_now hF))
  rw [strB_nums] at hcs
  have HT := Aside0.mk ht
  clear ht hF
  go_wp2
  go_ret
  exact ⟨rfl, HT.out⟩
end Go.Proofs.Ytmgpoafoljkknaa.My
