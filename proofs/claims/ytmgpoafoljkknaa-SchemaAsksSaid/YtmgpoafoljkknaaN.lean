/- The contract of schema.Decode and what it computes. Conditions: at most a million bytes. -/
import Derived.Test.YtmgpoafoljkknaaM
import Derived.Test.YtmgpoafoljkknaaPSchemaReadsx4
namespace Go.Proofs.Ytmgpoafoljkknaa.My
open Go.RowKit Go.Proofs.YtmgpoafoljkknaaW.PrintWords Go.Proofs.YtmgpoafoljkknaaW.PrintLast Go.Proofs.YtmgpoafoljkknaaW.PrintMore PSchemaReads
theorem bytesEq_any (v u : Value) (xs ys : List UInt8) (w : World) (hs : Sl kB w v xs) (hu : Sl kB w u ys) : Calls Try.prog 56 #[v, u] w fun e w' => e = .returned (.bool (decide (xs = ys))) ∧ Below w.heap.size w w' := by
  obtain ⟨A, c, rfl, hc, hC⟩ := hs
  obtain ⟨A2, c2, rfl, hc2, hC2⟩ := hu
  have h := bytes_Equal.calls A c (xs.map fun x => (x.toNat : Int)) A2 c2 (ys.map fun x => (x.toNat : Int)) (decide (xs = ys)) w (by simpa using ints_of hC) (by simpa using hc) (by simpa using ints_of hC2) (by simpa using hc2) (by
    unfold bytes_Equal.f
    rw [strB_nums, strB_nums]
    congr 1
    rw [Bool.eq_iff_iff, beq_iff_eq, decide_eq_true_iff]
    constructor
    · intro h
      have h2 : (strB xs).data.toList = (strB ys).data.toList := by rw [toList_inj.1 h]
      exact h2
    · intro h; rw [h])
  rw [List.length_map, List.length_map] at h
  exact h.mono fun _ _ ⟨h1, h2⟩ => ⟨h1, h2.below⟩
def zSch : Sch := ⟨0, [], 0, ⟨#[]⟩, ⟨#[]⟩, 0, 0, 0, 0, 0⟩
def pt (r : List (List UInt8)) (i : Nat) : List UInt8 := (r.drop i).headD []
/-- The schema that a list's parts may tell. -/
def decRaw (l : List (List UInt8)) : Sch :=
  let r := l.drop (l.length - 8)
  ⟨numOf (pt l 0), ((l.drop 1).take (l.length - 9)).map famRaw, numOf (pt r 0), strB (pt r 1), strB (pt r 2), numOf (pt r 3), numOf (pt r 4), numOf (pt r 5), numOf (pt r 6), numOf (pt r 7)⟩
def decOk (b : List UInt8) : Option Sch := match partsL b with
  | none => none
  | some l => if 9 ≤ l.length ∧ l.length ≤ 15 then (if encOk (decRaw l) = true ∧ listL (encParts (decRaw l)) = b then some (decRaw l) else none) else none
def DecP (w : World) (b : List UInt8) (e : Ending) (w' : World) : Prop := ∃ v1 ok s, e = .returned (.tuple #[v1, .bool ok]) ∧ Sc w' v1 s ∧ Below w.heap.size w w' ∧ s = (decOk b).getD zSch ∧ ok = (decOk b).isSome
theorem DecP.no {w w' : World} {b : List UInt8} (h : decOk b = none) (hb : Below w.heap.size w w') : DecP w b (.returned (.tuple #[.agg #[.int .i64 0, .slice none 0 0, .int .i64 0, .string ⟨#[]⟩, .string ⟨#[]⟩, .int .i64 0, .int .i64 0, .int .i64 0, .int .i64 0, .int .i64 0], .bool false])) w' :=
  ⟨_, false, zSch, rfl, ⟨_, rfl, Sl.nil _ _⟩, hb, by rw [h]; rfl, by rw [h]; rfl⟩
theorem tnum_at (g : Nat) (r : List (List UInt8)) (i : Nat) (w : World) (h : Tk g w (r.drop i)) : Calls Try.prog 53 #[.pointer (some ⟨g, 0, none⟩)] w fun e w' => e = .returned (.int .i64 (numOf (pt r i))) ∧ TkR g w w' (r.drop (i + 1)) := by
  have := tnum_any g (r.drop i) w h
  rw [List.tail_drop] at this
  exact this
theorem ttext_at (g : Nat) (r : List (List UInt8)) (i : Nat) (w : World) (h : Tk g w (r.drop i)) : Calls Try.prog 55 #[.pointer (some ⟨g, 0, none⟩)] w fun e w' => e = .returned (.string (strB (pt r i))) ∧ TkR g w w' (r.drop (i + 1)) := by
  have := ttext_any g (r.drop i) w h
  rw [List.tail_drop] at this
  exact this
def FamX (g : Nat) (w : World) (x : S40) (t : List (List UInt8)) (e : Ending) (w' : World) : Prop := ∃ v, e = .returned v ∧ FmN w.heap.size w' v x ∧ TkR g w w' t
theorem tfam_at (g : Nat) (r : List (List UInt8)) (i : Nat) (w : World) (h : Tk g w (r.drop i)) : Calls Try.prog 54 #[.pointer (some ⟨g, 0, none⟩)] w (FamX g w (famRaw (pt r i)) (r.drop (i + 1))) := by
  have := tfam_any g (r.drop i) w h
  rw [List.tail_drop] at this
  exact this
set_option maxHeartbeats 4000000 in
set_option maxRecDepth 100000 in
theorem decode_any (v : Value) (b : List UInt8) (w : World) (hs : Sl kB w v b) (hl : b.length ≤ 1000000) : Calls Try.prog 15 #[v] w (DecP w b) := by
  have HPS := Aside0.mk (fun o => parts_any v b (w.alloc o) (hs.below (below_alloc (Below.refl _ _) o)) hl)
  have HV := Aside0.mk hs
  have HD := Aside0.mk (show decOk b = (match partsL b with
    | none => none
    | some l => if 9 ≤ l.length ∧ l.length ≤ 15 then (if encOk (decRaw l) = true ∧ listL (encParts (decRaw l)) = b then some (decRaw l) else none) else none) from rfl)
  clear hs
  go_enter Try.func15, Try.ntmps15
  go_wp2_with fail
  refine (HPS.out _).mono ?_
  rintro e w1 ⟨v1, l, ok, rfl, hn, hb, hr⟩
  obtain ⟨A1, c1, rfl⟩ := Kd.N_slice hn
  have hc1 := (Kd.N_reads' hn).2.1
  have a1 := blk_keep hb (blk_new w _ _)
  have HA := Aside0.mk a1
  have gca := blk_cell a1
  have gfa := blk_frozen a1
  have HB := Aside0.mk (((Below.refl w.heap.size w).alloc (Nat.le_refl _) _).trans (hb.mono (by simp)))
  have hmax : l.length ≤ 9223372036854775807 := hn.sl.len
  unfold PartsR at hr
  cases hq : partsL b with
  | none =>
    rw [hq] at hr
    obtain ⟨rfl, rfl⟩ := hr
    have HX := Aside0.mk (show decOk b = none by rw [HD.out, hq])
    clear hb hn a1 hq hc1
    go_wp2
    refine bodyPost_ret (v := .tuple #[.agg #[.int .i64 0, .slice none 0 0, .int .i64 0, .string ⟨#[]⟩, .string ⟨#[]⟩, .int .i64 0, .int .i64 0, .int .i64 0, .int .i64 0, .int .i64 0], .bool false]) (by simp [results, Try.results15, go_sem, gca]) rfl (DecP.no HX.out ?_)
    with_reducible repeat (first | exact HB.out | refine Below.setCell ?_ (by simp) _)
  | some m =>
    rw [hq] at hr
    obtain ⟨rfl, rfl⟩ := hr
    by_cases h9 : (l.length : Int) < 9
    · have HX := Aside0.mk (show decOk b = none by rw [HD.out, hq]; simp only; rw [if_neg (by omega)])
      clear hb hn a1 hq hc1
      go_wp2
      refine bodyPost_ret (v := .tuple #[.agg #[.int .i64 0, .slice none 0 0, .int .i64 0, .string ⟨#[]⟩, .string ⟨#[]⟩, .int .i64 0, .int .i64 0, .int .i64 0, .int .i64 0, .int .i64 0], .bool false]) (by simp [results, Try.results15, go_sem, gca]) rfl (DecP.no HX.out ?_)
      with_reducible repeat (first | exact HB.out | refine Below.setCell ?_ (by simp) _)
    · by_cases h15 : 15 < (l.length : Int)
      · have HX := Aside0.mk (show decOk b = none by rw [HD.out, hq]; simp only; rw [if_neg (by omega)])
        clear hb hn a1 hq hc1
        go_wp2
        refine bodyPost_ret (v := .tuple #[.agg #[.int .i64 0, .slice none 0 0, .int .i64 0, .string ⟨#[]⟩, .string ⟨#[]⟩, .int .i64 0, .int .i64 0, .int .i64 0, .int .i64 0, .int .i64 0], .bool false]) (by simp [results, Try.results15, go_sem, gca]) rfl (DecP.no HX.out ?_)
        with_reducible repeat (first | exact HB.out | refine Below.setCell ?_ (by simp) _)
      · have HX := Aside0.mk (show decOk b = if encOk (decRaw l) = true ∧ listL (encParts (decRaw l)) = b then some (decRaw l) else none by rw [HD.out, hq]; simp only; rw [if_pos (by omega)])
        have hsm := partsL_small hq
        have HU := Aside0.mk (Tk.box hc1 (Kd.F_mono (Kd.N_F hn) (fun _ _ => trivial)) (fun x hx => Nat.le_trans (hsm.2 x hx) hl))
        have HSZ := Aside0.mk (show w.heap.size < w1.heap.size from blk_lt a1)
        have HVW := Aside0.mk (HV.out.below HB.out)
        clear hb hn a1 hq hc1 hsm HD HPS
        obtain ⟨rr, hrr⟩ : ∃ x, l.drop (l.length - 8) = x := ⟨_, rfl⟩
        have HRR := Aside0.mk hrr
        have HRAW := Aside0.mk (show decRaw l = ⟨numOf (pt l 0), ((l.drop 1).take (l.length - 9)).map famRaw, numOf (pt rr 0), strB (pt rr 1), strB (pt rr 2), numOf (pt rr 3), numOf (pt rr 4), numOf (pt rr 5), numOf (pt rr 6), numOf (pt rr 7)⟩ by unfold decRaw; rw [hrr])
        clear hrr
        go_wp2_with fail
        refine (tnum_at w1.heap.size l 0 _ HU.out).mono ?_
        rintro e w2 ⟨rfl, ht2⟩
        have HT2 := Aside0.mk ht2
        have HB2 := Aside0.mk ((below_alloc (Below.refl _ _) _).trans ht2.2.below)
        have HUS := Aside0.mk (show w1.heap.size < w2.heap.size from ht2.1.lt)
        clear ht2
        obtain ⟨x0, hx0⟩ : ∃ x, numOf (pt l 0) = x := ⟨_, rfl⟩
        rw [hx0] at HRAW ⊢
        clear hx0
        obtain ⟨f, hf⟩ : ∃ f, w2.heap.size = f := ⟨_, rfl⟩
        have hfnew := blk_new w2 #[.int .i64 x0, .slice none 0 0, .int .i64 0, .string ⟨#[]⟩, .string ⟨#[]⟩, .int .i64 0, .int .i64 0, .int .i64 0, .int .i64 0, .int .i64 0] 28
        rw [hf] at hfnew HUS
        have HFN := Aside0.mk hfnew
        have HFF := Aside0.mk hf
        have HTN := Aside0.mk (HT2.out.1.below ((below_alloc (Below.refl _ _) (.cells #[.int .i64 x0, .slice none 0 0, .int .i64 0, .string ⟨#[]⟩, .string ⟨#[]⟩, .int .i64 0, .int .i64 0, .int .i64 0, .int .i64 0, .int .i64 0] 28)).mono (by have := HUS.out; omega)))
        have HBN := Aside0.mk (HB2.out.trans ((below_alloc (Below.refl _ _) (.cells #[.int .i64 x0, .slice none 0 0, .int .i64 0, .string ⟨#[]⟩, .string ⟨#[]⟩, .int .i64 0, .int .i64 0, .int .i64 0, .int .i64 0, .int .i64 0] 28)).mono (by have := HUS.out; omega)))
        clear hfnew hf HT2 HB2 HU
        go_wp2
        rw [HFF.out]
        go_loopg [] (l.length - 9) (fun gg wr => ∃ (i : Nat) (vf : Value), l.length - 9 - i ≤ gg ∧ i ≤ l.length - 9 ∧ Aside0 (Tk w1.heap.size wr (l.drop (i + 1))) ∧ Aside0 (Below w1.heap.size w1 wr) ∧ Aside0 (wr.heap[f]? = some (.cells #[.int .i64 x0, vf, .int .i64 0, .string ⟨#[]⟩, .string ⟨#[]⟩, .int .i64 0, .int .i64 0, .int .i64 0, .int .i64 0, .int .i64 0] 28 (0, 0))) ∧ Aside0 (Kd.N k40 40 wr (w1.heap.size + 1) (fun k => w1.heap.size + 1 ≤ k ∧ k ≠ f) vf (((l.drop 1).take i).map famRaw)))
        case atStart => exact ⟨0, .slice none 0 0, by omega, by omega, HTN, HBN, HFN, ⟨Kd.N_nil _ _ _ _ _⟩⟩
        case round =>
          obtain ⟨i, vf, hgg, hi, HTR, HBR, HFR, HNR⟩ := hrel
          obtain ⟨Au, cu, hbu, hcu, hFu⟩ := HTR.out.out
          have gcu := blk_cell hbu
          rw [List.length_drop] at gcu
          have HSF2 := Aside0.mk (blk_lt HFR.out)
          clear hbu hFu hcu
          by_cases hil : i < l.length - 9
          · have hrp : (8 : Int) < ((l.length - (i + 1) : Nat) : Int) := by omega
            have HFAM := Aside0.mk (fun W (h : Tk w1.heap.size W (l.drop (i + 1))) => tfam_at w1.heap.size l (i + 1) W h)
            have HTK := Aside0.mk (show ((l.drop 1).take (i + 1)).map famRaw = ((l.drop 1).take i).map famRaw ++ [famRaw (pt l (i + 1))] by
              rw [List.take_succ_eq_append_getElem (show i < (l.drop 1).length by rw [List.length_drop]; omega), List.map_append]
              congr 1
              simp only [List.map_cons, List.map_nil]
              congr 2
              rw [List.getElem_drop]
              unfold pt
              rw [List.headD_eq_head?_getD, List.head?_drop, List.getElem?_eq_getElem (show i + 1 < l.length by omega)]
              simp [Nat.add_comm])
            have HLEN := Aside0.mk (show (((l.drop 1).take i).map famRaw).length ≤ 15 by rw [List.length_map, List.length_take, List.length_drop]; omega)
            generalize ((l.drop 1).take i).map famRaw = acc at HNR HTK HLEN
            generalize famRaw (pt l (i + 1)) = x at HFAM HTK
            have gcf := fun o => blk_cell (w := wr.drew) (i := o) HFR.out
            go_wp2
            go_region_law (first
              | (go_simp; go_at_call 54; refine (HFAM.out _ (Tk.drew HTR.out)).mono ?_; rintro e w8 ⟨v8, rfl, hfm, ht8⟩; obtain ⟨v3, v4, rfl, h3, h4⟩ := hfm; obtain ⟨A3, c3, rfl⟩ := Kd.N_slice h3; obtain ⟨A4, c4, rfl⟩ := Kd.N_slice h4; have HN3 := Aside0.mk h3; have HN4 := Aside0.mk h4; have HT8 := Aside0.mk ht8; have f8 := ht8.2.blk (w := wr.drew) HFR.out (by have := HUS.out; omega); have HF8 := Aside0.mk f8; have gc8 := blk_cell f8; have gf8 := blk_frozen f8; have gc8' := fun o => blk_cell (blk_old f8 o); have HN8 := Aside0.mk (Kd.N_keep (Kd.N_drew HNR.out) ht8.2.but (fun k hk => by omega)); have HS8 := Aside0.mk (show wr.heap.size ≤ w8.heap.size from ht8.2.below.size); clear ht8 f8 h3 h4)
              | (refine Kd.N_append_step k40 (w0 := w8) (w1.heap.size + 1) rfl (.tmp 42) (.tmp 45) 24 40 (.agg #[.string ⟨#[]⟩, .int .i64 0, .int .i64 0, .slice none 0 0, .slice none 0 0]) 80 rfl Try.underlying24 info40 rfl (by decide) (by omega) vf acc x [.string x.f0, .int .i64 x.f1, .int .i64 x.f2, .slice A3 x.f3.length c3, .slice A4 x.f4.length c4] (fun k => w1.heap.size + 1 ≤ k ∧ k ≠ f) (fun k => wr.heap.size ≤ k) rfl rfl (k40_mkF _ _ _ (Kd.N_reads' HN3.out).2.1 (Kd.N_F HN3.out) (Kd.N_reads' HN4.out).2.1 (Kd.N_F HN4.out)) (fun k hk => ⟨by have := HSF2.out; have := HUS.out; omega, fun he => absurd (Kd.N_lt HNR.out k he.symm) (by omega)⟩) (fun k hk => by have := HSF2.out; have := HUS.out; have := HS8.out; omega) HN8.out (Below.refl _ _) (by have := HSF2.out; have := HUS.out; have := HS8.out; omega) (by have := HLEN.out; omega) ?_; intro v9 w9 ho hb hg9 hat; obtain ⟨A9, c9, rfl⟩ := Kd.N_slice ho; have HO := Aside0.mk ho; have HB9 := Aside0.mk hb; have f9 := blk_grown HF8.out hg9 (Kd.N_ne HN8.out HF8.out (by decide)); have HF9 := Aside0.mk f9; have gc9 := blk_cell f9; have gf9 := blk_frozen f9; clear ho hb hg9 hat f9))
            all_goals
              go_wp2
              go_roundg (l.length - 9 - (i + 1))
              case measure => omega
              case rel =>
                refine ⟨i + 1, .slice A9 (acc.length + 1) c9, by omega, by omega, ⟨(HT8.out.1.below HB9.out).step (fun k hk => Below.heap_setCell _ _ _ _ (by have := HUS.out; show k ≠ f; omega))⟩, ⟨?_⟩, ⟨blk_set HF9.out 1 _⟩, ⟨?_⟩⟩
                · have h1 := ((HBR.out.drew).trans HT8.out.2.below).trans (HB9.out.mono (Nat.le_succ _))
                  exact h1.setCell (by have := HUS.out; show _ ≤ f; omega) _
                · rw [HTK.out]
                  refine Kd.N_far ?_ (fun k hk => hk.2) _
                  have h1 := HO.out
                  rw [List.length_append, List.length_singleton] at h1
                  exact h1
          · obtain rfl : i = l.length - 9 := by omega
            have hrp : ¬ (8 : Int) < ((l.length - (l.length - 9 + 1) : Nat) : Int) := by omega
            have HTR0 := Aside0.mk (show Tk w1.heap.size wr (rr.drop 0) by
              have := HTR.out
              rw [show l.length - 9 + 1 = l.length - 8 by omega, HRR.out] at this
              exact this)
            obtain ⟨Af, cf, rfl⟩ := Kd.N_slice HNR.out
            have HNB := Aside0.mk (Kd.N_mono (ok' := fun k => w1.heap.size + 1 ≤ k ∧ k ≠ f ∧ k < wr.heap.size) (Kd.N_bound HNR.out) (fun k hk => ⟨hk.1.1, hk.1.2, hk.2⟩))
            have hfe : ((l.drop 1).take (l.length - 9)).map famRaw = (decRaw l).fams := by rw [HRAW.out]
            rw [hfe] at HNB HFR
            clear hfe
            have hz : ∀ i, 0 ≤ numOf (pt rr i) ∧ numOf (pt rr i) < 9223372036854775808 := fun i => numOf_pos _
            have hP : ∀ i W, Tk w1.heap.size W (rr.drop i) → Calls Try.prog 53 #[.pointer (some ⟨w1.heap.size, 0, none⟩)] W fun e w' => e = .returned (.int .i64 (numOf (pt rr i))) ∧ TkR w1.heap.size W w' (rr.drop (i + 1)) := fun i W h => tnum_at _ _ _ _ h
            have hQ : ∀ i W, Tk w1.heap.size W (rr.drop i) → Calls Try.prog 55 #[.pointer (some ⟨w1.heap.size, 0, none⟩)] W fun e w' => e = .returned (.string (strB (pt rr i))) ∧ TkR w1.heap.size W w' (rr.drop (i + 1)) := fun i W h => ttext_at _ _ _ _ h
            have HP0 := Aside0.mk (hP 0)
            have HP1 := Aside0.mk (hQ 1)
            have HP2 := Aside0.mk (hQ 2)
            have HP3 := Aside0.mk (hP 3)
            have HP4 := Aside0.mk (hP 4)
            have HP5 := Aside0.mk (hP 5)
            have HP6 := Aside0.mk (hP 6)
            have HP7 := Aside0.mk (hP 7)
            have HZ := Aside0.mk (⟨hz 3, hz 4, hz 5, hz 6⟩ : (0 ≤ numOf (pt rr 3) ∧ numOf (pt rr 3) < 9223372036854775808) ∧ (0 ≤ numOf (pt rr 4) ∧ numOf (pt rr 4) < 9223372036854775808) ∧ (0 ≤ numOf (pt rr 5) ∧ numOf (pt rr 5) < 9223372036854775808) ∧ (0 ≤ numOf (pt rr 6) ∧ numOf (pt rr 6) < 9223372036854775808))
            generalize numOf (pt rr 0) = z0 at HP0 HRAW
            generalize strB (pt rr 1) = z1 at HP1 HRAW
            generalize strB (pt rr 2) = z2 at HP2 HRAW
            generalize numOf (pt rr 3) = z3 at HP3 HRAW HZ
            generalize numOf (pt rr 4) = z4 at HP4 HRAW HZ
            generalize numOf (pt rr 5) = z5 at HP5 HRAW HZ
            generalize numOf (pt rr 6) = z6 at HP6 HRAW HZ
            generalize numOf (pt rr 7) = z7 at HP7 HRAW
            clear HTR HRR hz hP hQ HNR
            go_wp2_with fail
            refine (HP0.out _ HTR0.out).mono ?_
            clear gcu
            rintro e y1 ⟨rfl, ht⟩
            have HT1 := Aside0.mk ht
            clear ht
            go_wp2_with fail
            refine (HP1.out _ HT1.out.1).mono ?_
            rintro e y2 ⟨rfl, ht⟩
            have HT2 := Aside0.mk (HT1.out.trans ht)
            clear ht HT1
            go_wp2_with fail
            refine (HP2.out _ HT2.out.1).mono ?_
            rintro e y3 ⟨rfl, ht⟩
            have HT3 := Aside0.mk (HT2.out.trans ht)
            clear ht HT2
            obtain ⟨c, hc⟩ : ∃ c, y3.heap.size = c := ⟨_, rfl⟩
            have HCS := Aside0.mk hc
            have HUC := Aside0.mk (show w1.heap.size < c ∧ f < c ∧ wr.heap.size ≤ c by
              have h1 := HT3.out.1.lt
              have h2 := blk_lt HFR.out
              have h3 := HT3.out.2.below.size
              omega)
            have c3 := blk_new y3 #[.int .i64 z0, .string z1, .string z2, .int .i64 0, .int .i64 0, .int .i64 0, .int .i64 0] 26
            rw [hc] at c3
            clear hc
            go_wp2_with fail
            refine (HP3.out _ (HT3.out.1.below (below_alloc (Below.refl _ _) _ |>.mono (by have := HUC.out; have := HCS.out; omega)))).mono ?_
            rintro e y4 ⟨rfl, ht⟩
            have c4 := ht.2.blk c3 (by have := HUC.out; omega)
            have HT4 := Aside0.mk ((HT3.out.below (below_alloc (Below.refl _ _) _)).trans ht)
            clear ht HT3 c3
            go_wp2_with fail
            refine (HP4.out _ HT4.out.1).mono ?_
            rintro e y5 ⟨rfl, ht⟩
            have c5 := ht.2.blk c4 (by have := HUC.out; omega)
            have HC5 := Aside0.mk c5
            have gc5 := blk_cell c5
            have gd5 := blk_frozen c5
            have HT5 := Aside0.mk (HT4.out.trans ht)
            clear ht HT4 c4 c5
            rw [HCS.out]
            have c6 := blk_set (blk_set HC5.out 3 (.int .i64 z3)) 4 (.int .i64 z4)
            have HC6 := Aside0.mk c6
            have HS6 := Aside0.mk (fun k (hk : k ≠ c) => (Below.heap_setCell (y5.setCell ⟨c, 3, none⟩ (.int .i64 z3)) ⟨c, 4, none⟩ (.int .i64 z4) k hk).trans (Below.heap_setCell y5 ⟨c, 3, none⟩ (.int .i64 z3) k hk))
            have HB6 := Aside0.mk (show Below w1.heap.size y5 ((y5.setCell ⟨c, 3, none⟩ (.int .i64 z3)).setCell ⟨c, 4, none⟩ (.int .i64 z4)) from ((Below.refl _ _).setCell (by have := HUC.out; show _ ≤ c; omega) _).setCell (by have := HUC.out; show _ ≤ c; omega) _)
            go_wp2_with fail
            generalize (y5.setCell ⟨c, 3, none⟩ (.int .i64 z3)).setCell ⟨c, 4, none⟩ (.int .i64 z4) = y6 at HC6 HS6 HB6 ⊢
            clear gc5 gd5 c6 HC5
            refine (HP5.out _ (HT5.out.1.step (fun k hk => HS6.out k (by have := HUC.out; omega)))).mono ?_
            rintro e y7 ⟨rfl, ht⟩
            have c7 := ht.2.blk HC6.out (by have := HUC.out; omega)
            have HC7 := Aside0.mk c7
            have HT7 := Aside0.mk ht
            clear ht c7
            go_wp2_with fail
            refine (HP6.out _ HT7.out.1).mono ?_
            rintro e y8 ⟨rfl, ht⟩
            have c8 := ht.2.blk HC7.out (by have := HUC.out; omega)
            have HC8 := Aside0.mk c8
            have HT8 := Aside0.mk (HT7.out.trans ht)
            have f5 := HT5.out.2.blk HFR.out (by have := HUS.out; omega)
            have f6 := (HS6.out f (by have := HUC.out; omega)).trans f5
            have f8 := HT8.out.2.blk f6 (by have := HUS.out; omega)
            have HF8 := Aside0.mk f8
            have n5 := Kd.N_keep HNB.out HT5.out.2.but (fun k hk => by omega)
            have n6 := Kd.N_step n5 (fun k hk _ => HS6.out k (by have := HUC.out; omega))
            have n8 := Kd.N_keep n6 HT8.out.2.but (fun k hk => by omega)
            have HN8 := Aside0.mk n8
            have HB8 := Aside0.mk (((HBR.out.trans HT5.out.2.below).trans HB6.out).trans HT8.out.2.below)
            have gc8 := blk_cell c8
            have gd8 := blk_frozen c8
            have gf8 := blk_cell f8
            have gg8 := blk_frozen f8
            clear ht c8 f5 f6 f8 n5 n6 n8 HT7 HC7 HC6 HT5 HS6 HB6 HNB HFR HBR
            have hne : ¬ f = c := by have := HUC.out; omega
            have hne2 : ¬ c = f := by have := HUC.out; omega
            have fX := blk_set (blk_set (blk_set (blk_set (blk_set (blk_set (blk_set (blk_far (blk_far HF8.out (p := ⟨c, 5, none⟩) hne (.int .i64 z5)) (p := ⟨c, 6, none⟩) hne (.int .i64 z6)) 2 (.int .i64 z0)) 3 (.string z1)) 4 (.string z2)) 5 (.int .i64 z3)) 6 (.int .i64 z4)) 7 (.int .i64 z5)) 8 (.int .i64 z6)
            have HFX := Aside0.mk fX
            have HSX : Aside0 (∀ k, k ≠ c → k ≠ f → (((((((((y8.setCell ⟨c, 5, none⟩ (.int .i64 z5)).setCell ⟨c, 6, none⟩ (.int .i64 z6)).setCell ⟨f, 2, none⟩ (.int .i64 z0)).setCell ⟨f, 3, none⟩ (.string z1)).setCell ⟨f, 4, none⟩ (.string z2)).setCell ⟨f, 5, none⟩ (.int .i64 z3)).setCell ⟨f, 6, none⟩ (.int .i64 z4)).setCell ⟨f, 7, none⟩ (.int .i64 z5)).setCell ⟨f, 8, none⟩ (.int .i64 z6)).heap[k]? = y8.heap[k]?) := ⟨fun k h1 h2 => by
              with_reducible repeat (first | rfl | refine (Below.heap_setCell _ _ _ _ h1).trans ?_ | refine (Below.heap_setCell _ _ _ _ h2).trans ?_)⟩
            have HBX : Aside0 (Below w1.heap.size w1 (((((((((y8.setCell ⟨c, 5, none⟩ (.int .i64 z5)).setCell ⟨c, 6, none⟩ (.int .i64 z6)).setCell ⟨f, 2, none⟩ (.int .i64 z0)).setCell ⟨f, 3, none⟩ (.string z1)).setCell ⟨f, 4, none⟩ (.string z2)).setCell ⟨f, 5, none⟩ (.int .i64 z3)).setCell ⟨f, 6, none⟩ (.int .i64 z4)).setCell ⟨f, 7, none⟩ (.int .i64 z5)).setCell ⟨f, 8, none⟩ (.int .i64 z6))) := ⟨by
              have q1 : w1.heap.size ≤ c := by have := HUC.out; omega
              have q2 : w1.heap.size ≤ f := by have := HUS.out; omega
              with_reducible repeat (first | exact HB8.out | refine Below.setCell ?_ q1 _ | refine Below.setCell ?_ q2 _)⟩
            go_wp2_with fail
            generalize (((((((((y8.setCell ⟨c, 5, none⟩ (.int .i64 z5)).setCell ⟨c, 6, none⟩ (.int .i64 z6)).setCell ⟨f, 2, none⟩ (.int .i64 z0)).setCell ⟨f, 3, none⟩ (.string z1)).setCell ⟨f, 4, none⟩ (.string z2)).setCell ⟨f, 5, none⟩ (.int .i64 z3)).setCell ⟨f, 6, none⟩ (.int .i64 z4)).setCell ⟨f, 7, none⟩ (.int .i64 z5)).setCell ⟨f, 8, none⟩ (.int .i64 z6)) = y9 at HFX HSX HBX ⊢
            clear gc8 gd8 gf8 gg8 fX
            refine (HP7.out _ (HT8.out.1.step (fun k hk => HSX.out k (by have := HUC.out; omega) (by have := HUS.out; omega)))).mono ?_
            rintro e y10 ⟨rfl, ht⟩
            have f10 := ht.2.blk HFX.out (by have := HUS.out; omega)
            have HF10 := Aside0.mk f10
            have n9 := Kd.N_step HN8.out (fun k hk _ => HSX.out k (by have := HUC.out; omega) hk.2.1)
            have n10 := Kd.N_keep n9 ht.2.but (fun k hk => by omega)
            have HNX := Aside0.mk (Kd.N_far n10 (p := ⟨f, 9, none⟩) (fun k hk => hk.2.1) (.int .i64 z7))
            have HB10 := Aside0.mk (HBX.out.trans ht.2.below)
            have gf10 := blk_cell f10
            have gg10 := blk_frozen f10
            clear ht f10 n9 n10 HFX HSX HBX HN8 HB8 HT8 HF8 HC8
            have f11 := blk_set HF10.out 9 (.int .i64 z7)
            have HF11 := Aside0.mk f11
            have HB11 := Aside0.mk (HB10.out.setCell (p := ⟨f, 9, none⟩) (by have := HUS.out; show _ ≤ f; omega) (.int .i64 z7))
            have HZZ := Aside0.mk (show (decRaw l).typ ≤ 9223372036854775807 ∧ (decRaw l).grp ≤ 9223372036854775807 ∧ (decRaw l).vers ≤ 9223372036854775807 ∧ (decRaw l).life ≤ 9223372036854775807 by rw [HRAW.out]; have := HZ.out; simp only; omega)
            have HSC := Aside0.mk (show Vs (decRaw l) (.slice Af (decRaw l).fams.length cf) = .agg #[.int .i64 x0, .slice Af (decRaw l).fams.length cf, .int .i64 z0, .string z1, .string z2, .int .i64 z3, .int .i64 z4, .int .i64 z5, .int .i64 z6, .int .i64 z7] by
              conv => lhs; unfold Vs
              rw [HRAW.out])
            generalize decRaw l = s at HNX HF11 HF10 gf10 HZZ HSC HX
            clear f11
            go_wp2_with fail
            generalize y10.setCell ⟨f, 9, none⟩ (.int .i64 z7) = y11 at HNX HF11 HB11 ⊢
            clear gf10 gg10 HF10 HB10
            refine (encode_any _ s y11 ⟨_, HSC.out.symm, Kd.N_reads HNX.out⟩ HZZ.out).mono ?_
            rintro e y12 ⟨v12, l12, ok12, rfl, hn12, hb12, hl12, rfl⟩
            obtain ⟨A12, c12, rfl⟩ := Kd.N_slice hn12
            have f12 := blk_keep hb12 HF11.out
            have HF12 := Aside0.mk f12
            have HN12 := Aside0.mk (Kd.N_below HNX.out hb12)
            have hb1 : Below w1.heap.size w1 y12 := HB11.out.trans (hb12.mono HB11.out.size)
            have HB12 := Aside0.mk hb1
            have a12 := blk_keep hb1 HA.out
            have HA12 := Aside0.mk a12
            have gf12 := blk_cell f12
            have gg12 := blk_frozen f12
            have ga12 := blk_cell a12
            have gh12 := blk_frozen a12
            have HQ12 := Aside0.mk (bytesEq_any _ _ l12 b y12 hn12.sl (HVW.out.below hb1))
            have HL12 := Aside0.mk hl12
            clear hn12 hb12 hb1 f12 a12 hl12 HA HNX HF11 HB11 gca gfa
            cases hok : encOk s with
            | false =>
              have HXX := Aside0.mk (show decOk b = none by rw [HX.out, if_neg (by rw [hok]; simp)])
              clear HQ12 hok
              go_wp2
              refine bodyPost_ret (v := .tuple #[.agg #[.int .i64 0, .slice none 0 0, .int .i64 0, .string ⟨#[]⟩, .string ⟨#[]⟩, .int .i64 0, .int .i64 0, .int .i64 0, .int .i64 0, .int .i64 0], .bool false]) (by simp [results, Try.results15, go_sem, ga12]) rfl (DecP.no HXX.out ?_)
              have hbz := bb HB.out HB12.out
              with_reducible repeat (first | exact hbz | refine Below.setCell ?_ (by simp) _)
            | true =>
              rw [hok, if_pos rfl] at HL12
              by_cases hlb : l12 = b
              · have HXX := Aside0.mk (show decOk b = some s by rw [HX.out, if_pos ⟨hok, by rw [← HL12.out, hlb]⟩])
                rw [decide_eq_true hlb] at HQ12
                clear hok hlb
                go_wp2_with fail
                refine HQ12.out.mono ?_
                rintro e y13 ⟨rfl, hb13⟩
                have f13 := blk_keep hb13 HF12.out
                have gf13 := blk_cell f13
                have a13 := blk_keep hb13 HA12.out
                have ga13 := blk_cell a13
                have gh13 := blk_frozen a13
                have HN13 := Aside0.mk (Kd.N_below HN12.out hb13)
                have HB13 := Aside0.mk (bb (bb HB.out HB12.out) hb13)
                have HSA := Aside0.mk (show w.heap.size < f by have := HSZ.out; have := HUS.out; omega)
                have hna : ¬ f = w.heap.size := by have := HSA.out; omega
                have hna2 : ¬ w.heap.size = f := by have := HSA.out; omega
                clear hb13 f13 a13 gf12 gg12 ga12 gh12 HF12 HA12
                go_wp2
                refine bodyPost_ret (v := .tuple #[.agg #[.int .i64 x0, .slice Af s.fams.length cf, .int .i64 z0, .string z1, .string z2, .int .i64 z3, .int .i64 z4, .int .i64 z5, .int .i64 z6, .int .i64 z7], .bool true]) (by simp [results, Try.results15, go_sem, ga13]) rfl ⟨_, true, s, rfl, ⟨_, HSC.out.symm, ?_⟩, ?_, by rw [HXX.out]; rfl, by rw [HXX.out]; rfl⟩
                · refine Kd.N_reads (ok := fun k => w1.heap.size + 1 ≤ k ∧ k ≠ f ∧ k < wr.heap.size) (base := w1.heap.size + 1) (e := 40) ?_
                  have h3 := HN13.out
                  with_reducible repeat (first | exact h3 | refine Kd.N_far ?_ (fun k hk => by have := HSZ.out; simp at hk ⊢; omega) _)
                · with_reducible repeat (first | exact HB13.out | refine Below.setCell ?_ (by simp) _)
              · have HXX := Aside0.mk (show decOk b = none by rw [HX.out, if_neg (fun h => hlb (by rw [HL12.out, h.2]))])
                rw [decide_eq_false hlb] at HQ12
                clear hok
                go_wp2_with fail
                refine HQ12.out.mono ?_
                rintro e y13 ⟨rfl, hb13⟩
                have a13 := blk_keep hb13 HA12.out
                have ga13 := blk_cell a13
                have gh13 := blk_frozen a13
                have HB13 := Aside0.mk (bb (bb HB.out HB12.out) hb13)
                clear hb13 a13 gf12 gg12 ga12 gh12 HF12 HA12
                go_wp2
                refine bodyPost_ret (v := .tuple #[.agg #[.int .i64 0, .slice none 0 0, .int .i64 0, .string ⟨#[]⟩, .string ⟨#[]⟩, .int .i64 0, .int .i64 0, .int .i64 0, .int .i64 0, .int .i64 0], .bool false]) (by simp [results, Try.results15, go_sem, ga13]) rfl (DecP.no HXX.out ?_)
                with_reducible repeat (first | exact HB13.out | refine Below.setCell ?_ (by simp) _)
end Go.Proofs.Ytmgpoafoljkknaa.My
