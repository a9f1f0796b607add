/- Contracts of the packer of families and of schema.Encode. Conditions: what is packed is at most a thousand parts; numbers fit an int. -/
import Derived.Test.YtmgpoafoljkknaaI
namespace Go.Proofs.Ytmgpoafoljkknaa.My
open Go.RowKit Go.Proofs.YtmgpoafoljkknaaW.PrintWords Go.Proofs.YtmgpoafoljkknaaW.PrintLast Go.Proofs.YtmgpoafoljkknaaW.PrintMore PSchemaReads

theorem Pk.below {base g : Nat} {w w' : World} {v : Value} {parts : List (List UInt8)} (h : Pk base g w v parts) (hb : Below w.heap.size w w') : Pk base g w' v parts :=
  ⟨blk_keep hb h.blk, h.le, Kd.N_below h.n hb⟩
/-- A literal of numbers, laid for a call. -/
theorem lit_ints {base g : Nat} {W : World} {v : Value} {parts : List (List UInt8)} (h : Pk base g W v parts) (ns : List Int) (hm : ns.length ≤ 1000000) :
    ∃ A c, (Value.slice (some ⟨W.heap.size, 0, none⟩) ns.length ns.length) = .slice A ns.length c ∧ Kd.F (Kd.int .i64) (W.alloc (.cells (ns.map (Value.int .i64)).toArray 3)) (fun k => k ≠ g ∧ some k ≠ v.ownBlock) A ns.length ns := by
  refine ⟨_, _, rfl, ?_⟩
  refine Kd.F_mono (ok := fun k => k = W.heap.size) ?_ (fun k hk => ⟨by have := h.lt; omega, fun he => absurd (Kd.N_lt h.n k he.symm) (by omega)⟩)
  intro W2 hW
  refine ⟨rfl, by omega, fun _ => ⟨_, rfl, fun j p hj => ?_⟩⟩
  refine ⟨[.int .i64 p], rfl, rfl, fun i u hu => ?_⟩
  rcases i with _ | i
  · simp at hu
    subst hu
    have hb : W2.heap[W.heap.size]? = some (.cells (ns.map (Value.int .i64)).toArray 3 (0, 0)) := (hW W.heap.size rfl (by simp)).trans (blk_new W _ 3)
    rw [add_plain, show (Kd.int .i64).sz = 1 from rfl, Nat.mul_one, Nat.add_zero, blk_cell hb]
    simp [hj]
  · simp at hu
def famParts (x : S40) : List (List UInt8) :=
  [x.f0.data.toList, numL x.f1, numL x.f2, numL (x.f3.length : Int)] ++ x.f3.flatMap (fun l => [numL l.f0, numL l.f1]) ++ x.f4.flatMap (fun c => [c.f0.data.toList, numL c.f1, numL c.f2])
structure FamOk (x : S40) : Prop where
  s0 : x.f0.size ≤ 1000
  n1 : x.f1 ≤ 9223372036854775807
  n2 : x.f2 ≤ 9223372036854775807
  l3 : x.f3.length ≤ 1000
  l4 : x.f4.length ≤ 1000
  m3 : ∀ l ∈ x.f3, l.f0 ≤ 9223372036854775807 ∧ l.f1 ≤ 9223372036854775807
  m4 : ∀ c ∈ x.f4, c.f0.size ≤ 1000 ∧ c.f1 ≤ 9223372036854775807 ∧ c.f2 ≤ 9223372036854775807
theorem flat2_len {α β : Type} (f : α → List β) (n : Nat) (l : List α) (h : ∀ a, (f a).length = n) : (l.flatMap f).length = l.length * n := by
  induction l with
  | nil => simp
  | cons a l ih => rw [List.flatMap_cons, List.length_append, h, ih, List.length_cons, Nat.add_mul]; omega
theorem numL_le {n : Int} (h : n ≤ 9223372036854775807) : (numL n).length ≤ 9 := numL_len h
theorem flatten_le (n m : Nat) : ∀ l : List (List UInt8), l.length ≤ m → (∀ b ∈ l, b.length ≤ n) → l.flatten.length ≤ m * n
  | [], _, _ => by simp
  | b :: l, h, hb => by
    obtain ⟨k, rfl⟩ : ∃ k, m = k + 1 := ⟨m - 1, by simp at h; omega⟩
    have := flatten_le n k l (by simpa using h) (fun c hc => hb c (List.mem_cons_of_mem _ hc))
    have := hb b List.mem_cons_self
    rw [List.flatten_cons, List.length_append, Nat.add_mul]; omega
theorem famParts_count (x : S40) : (famParts x).length = 4 + x.f3.length * 2 + x.f4.length * 3 := by
  rw [famParts, List.length_append, List.length_append, flat2_len _ 2 _ (fun _ => rfl), flat2_len _ 3 _ (fun _ => rfl)]; rfl
theorem famParts_small {x : S40} (h : FamOk x) : ∀ b ∈ famParts x, b.length ≤ 1000 := by
  intro b hb
  simp only [famParts, List.mem_append, List.mem_cons, List.not_mem_nil, or_false, List.mem_flatMap] at hb
  have n9 : ∀ {n : Int}, n ≤ 9223372036854775807 → (numL n).length ≤ 1000 := fun hn => Nat.le_trans (numL_len hn) (by omega)
  rcases hb with (hb | ⟨l, hl, hb⟩) | ⟨c, hc, hb⟩
  · rcases hb with rfl | rfl | rfl | rfl
    · rw [data_length]; exact h.s0
    · exact n9 h.n1
    · exact n9 h.n2
    · exact n9 (by have := h.l3; omega)
  · have := h.m3 l hl
    rcases hb with rfl | rfl
    · exact n9 this.1
    · exact n9 this.2
  · have := h.m4 c hc
    rcases hb with rfl | rfl | rfl
    · rw [data_length]; exact this.1
    · exact n9 this.2.1
    · exact n9 this.2.2
theorem famParts_len {x : S40} (h : FamOk x) : (famParts x).flatten.length ≤ 100000000 ∧ (famParts x).length ≤ 1000000 := by
  have hc := famParts_count x
  have h3 := h.l3
  have h4 := h.l4
  refine ⟨Nat.le_trans (flatten_le 1000 10000 _ (by omega) (famParts_small h)) (by omega), by omega⟩
theorem flat2_take {α β : Type} (f : α → List β) (l : List α) {k : Nat} (h : k < l.length) : (l.take (k + 1)).flatMap f = (l.take k).flatMap f ++ f l[k] := by
  rw [List.take_succ_eq_append_getElem h, List.flatMap_append]; simp
set_option maxHeartbeats 4000000 in
set_option maxRecDepth 100000 in
theorem familyP_aux (base g : Nat) (v vf : Value) (x : S40) (parts : List (List UInt8)) (pb : List UInt8) (hpb : listL (famParts x) = pb) (w : World) (hP : Pk base g w v parts) (hf : Fm w vf x) (hok : FamOk x) (hlen : parts.length ≤ 1000) :
    Calls Try.prog 61 #[.pointer (some ⟨g, 0, none⟩), vf] w (PkP base g w v (parts ++ [pb])) := by
  have HP := Aside0.mk hP
  have HOK := Aside0.mk hok
  have HPB := Aside0.mk hpb
  clear hpb
  obtain ⟨v3, v4, rfl, h3, h4⟩ := hf
  have H3 := Aside0.mk h3
  have H4 := Aside0.mk h4
  obtain ⟨A3, c3, rfl, hc3, hC3⟩ := h3
  obtain ⟨A4, c4, rfl, hc4, hC4⟩ := h4
  have HC3 := Aside0.mk hC3
  have HC4 := Aside0.mk hC4
  have hl3 := hok.l3
  have hl4 := hok.l4
  clear hP hok hC3 hC4
  go_enter Try.func61, Try.ntmps61
  go_wp2_with fail
  have hp0 : Pk (w.heap.size + 1) (w.heap.size + 1) ((w.alloc (.cells #[.string x.f0, .int .i64 x.f1, .int .i64 x.f2, .slice A3 x.f3.length c3, .slice A4 x.f4.length c4] 40)).alloc (.cells #[.slice none 0 0] 86)) (.slice none 0 0) [] :=
    ⟨blk_new2 w _ _ _, Nat.le_refl _, Kd.N_nil _ _ _ _ _⟩
  refine (text_any (w.heap.size + 1) (w.heap.size + 1) (.slice none 0 0) x.f0 [] _ hp0 (by have := HOK.out.s0; omega) (by simp)).mono ?_
  clear hp0
  rintro e w1 ⟨rfl, hb1, v1, hp1, _⟩
  have g1 := (hb1.block w.heap.size (Nat.lt_succ_self _)).trans (blk_old (blk_new w _ _) _)
  have BW1 := Aside0.mk (((Below.refl w.heap.size w).alloc (Nat.le_refl _) _).alloc (by simp) _ |>.trans (hb1.mono (Nat.le_succ _)))
  have HP1 := Aside0.mk hp1
  have gc1 := blk_cell g1
  have G1 := Aside0.mk g1
  clear hb1 hp1 g1
  go_wp2_with fail
  have hl1 := lit_ints HP1.out [x.f1, x.f2, (x.f3.length : Int)] (by simp)
  refine (nums_any (w.heap.size + 1) (w.heap.size + 1) v1 _ _ [x.f1, x.f2, (x.f3.length : Int)] _ (HP1.out.below (below_alloc (Below.refl _ _) _)) hl1 (by intro n hn; simp at hn; have := HOK.out; rcases hn with rfl | rfl | rfl; exact this.n1; exact this.n2; omega) (by simp)).mono ?_
  rintro e w2 ⟨rfl, hb2, v2, hp2, _⟩
  have hal1 : Below (w.heap.size + 1) w1 w2 := ((Below.refl (w.heap.size + 1) w1).alloc (Nat.le_of_lt HP1.out.lt) _).trans hb2
  have g2 := (hal1.block w.heap.size (Nat.lt_succ_self _)).trans G1.out
  have BW2 := Aside0.mk (BW1.out.trans (hal1.mono (Nat.le_succ _)))
  have HP2 := Aside0.mk hp2
  have gc2 := blk_cell g2
  have G2 := Aside0.mk g2
  clear hb2 hp2 g2 hal1 hl1 gc1
  go_wp2
  have hz3 : x.f3.length ≤ 9223372036854775807 := by omega
  go_loopg [6, 28] x.f3.length (fun gg _ s28 wr => ∃ (kk : Nat) (vq : Value), kk ≤ x.f3.length ∧ x.f3.length - kk ≤ gg ∧ s28 = .int .i64 kk ∧ Aside0 (Pk (w.heap.size + 1) (w.heap.size + 1) wr vq ([x.f0.data.toList, numL x.f1, numL x.f2, numL (x.f3.length : Int)] ++ (x.f3.take kk).flatMap (fun l => [numL l.f0, numL l.f1]))) ∧ Aside0 (Below w.heap.size w wr) ∧ Aside0 (wr.heap[w.heap.size]? = some (.cells #[.string x.f0, .int .i64 x.f1, .int .i64 x.f2, .slice A3 x.f3.length c3, .slice A4 x.f4.length c4] 40 (0, 0))))
  case atStart => exact ⟨0, v2, by omega, by omega, rfl, HP2, BW2, G2⟩
  case round =>
    obtain ⟨kk, vq, hkk, hg, rfl, HQ, BW, HG⟩ := hrel
    by_cases hlt : kk < x.f3.length
    · have hltz : (kk : Int) < (x.f3.length : Int) := by omega
      obtain ⟨ad, rfl, h0, h1⟩ := get60 (Kd.C_below HC3.out BW.out) kk hlt
      have HT := Aside0.mk (flat2_take (fun l : S60 => [numL l.f0, numL l.f1]) x.f3 hlt)
      have HM := Aside0.mk (HOK.out.m3 _ (List.getElem_mem hlt))
      have HLEN := Aside0.mk (show ([x.f0.data.toList, numL x.f1, numL x.f2, numL (x.f3.length : Int)] ++ (x.f3.take kk).flatMap (fun l => [numL l.f0, numL l.f1])).length ≤ 10000 by
        rw [List.length_append, flat2_len _ 2 _ (fun _ => rfl), List.length_take]; simp; omega)
      generalize x.f3[kk] = l at h0 h1 HT HM
      generalize hacc : [x.f0.data.toList, numL x.f1, numL x.f2, numL (x.f3.length : Int)] ++ (x.f3.take kk).flatMap (fun l => [numL l.f0, numL l.f1]) = acc at HQ HLEN
      have HACC := Aside0.mk hacc
      clear hacc
      go_wp2_with fail
      have hq1 := HQ.out.below (below_alloc (Below.refl _ _) (.cells #[.int .i64 l.f0, .int .i64 l.f1] 60))
      have hl1 := lit_ints hq1 [l.f0, l.f1] (by simp)
      rw [World.size_alloc] at hl1
      refine (nums_any (w.heap.size + 1) (w.heap.size + 1) vq _ _ [l.f0, l.f1] _ (hq1.below (below_alloc (Below.refl _ _) _)) hl1 (by intro n hn; simp at hn; rcases hn with rfl | rfl; exact HM.out.1; exact HM.out.2) (by have := HLEN.out; simp; omega)).mono ?_
      rintro e w3 ⟨rfl, hb3, v3, hp3, hk3⟩
      have hal : Below (w.heap.size + 1) wr w3 := (((Below.refl (w.heap.size + 1) wr).alloc (Nat.le_of_lt HQ.out.lt) _).alloc (Nat.le_of_lt hq1.lt) _).trans hb3
      have G3 := Aside0.mk ((hal.block w.heap.size (Nat.lt_succ_self _)).trans HG.out)
      have BW3 := Aside0.mk (BW.out.trans (hal.mono (Nat.le_succ _)))
      have HP3 := Aside0.mk hp3
      clear hb3 hp3 hal hl1 hq1
      go_wp2
      go_roundg (x.f3.length - (kk + 1))
      case measure => omega
      case rel => exact ⟨kk + 1, v3, by omega, by omega, by go_num, ⟨by rw [HT.out, ← List.append_assoc, HACC.out]; exact HP3.out⟩, BW3, G3⟩
    · have hltz : ¬ (kk : Int) < (x.f3.length : Int) := by omega
      obtain rfl : kk = x.f3.length := by omega
      have hq := HQ.out
      rw [List.take_length] at hq
      have HQ := Aside0.mk hq
      have gc := blk_cell HG.out
      have HLEN0 := Aside0.mk (show ([x.f0.data.toList, numL x.f1, numL x.f2, numL (x.f3.length : Int)] ++ x.f3.flatMap (fun l => [numL l.f0, numL l.f1])).length ≤ 10000 by
        rw [List.length_append, flat2_len _ 2 _ (fun _ => rfl)]; simp; omega)
      have HFP := Aside0.mk (show famParts x = ([x.f0.data.toList, numL x.f1, numL x.f2, numL (x.f3.length : Int)] ++ x.f3.flatMap (fun l => [numL l.f0, numL l.f1])) ++ x.f4.flatMap (fun c => [c.f0.data.toList, numL c.f1, numL c.f2]) from rfl)
      generalize [x.f0.data.toList, numL x.f1, numL x.f2, numL (x.f3.length : Int)] ++ x.f3.flatMap (fun l => [numL l.f0, numL l.f1]) = acc0 at hq HQ HLEN0 HFP
      clear hq
      go_wp2
      clear gc
      have hz4 : x.f4.length ≤ 9223372036854775807 := by omega
      go_loopg [8, 43] x.f4.length (fun gg _ s43 wr => ∃ (kk : Nat) (vq : Value), kk ≤ x.f4.length ∧ x.f4.length - kk ≤ gg ∧ s43 = .int .i64 kk ∧ Aside0 (Pk (w.heap.size + 1) (w.heap.size + 1) wr vq (acc0 ++ (x.f4.take kk).flatMap (fun c => [c.f0.data.toList, numL c.f1, numL c.f2]))) ∧ Aside0 (Below w.heap.size w wr))
      case atStart => exact ⟨0, vq, by omega, by omega, rfl, ⟨by simpa using HQ.out⟩, BW⟩
      case round =>
        obtain ⟨kk, vq, hkk, hg, rfl, HQ, BW⟩ := hrel
        by_cases hlt4 : kk < x.f4.length
        · have hltz : (kk : Int) < (x.f4.length : Int) := by omega
          obtain ⟨ad, rfl, h0, h1, h2⟩ := get52 (Kd.C_below HC4.out BW.out) kk hlt4
          have HT := Aside0.mk (flat2_take (fun c : S52 => [c.f0.data.toList, numL c.f1, numL c.f2]) x.f4 hlt4)
          have HM := Aside0.mk (HOK.out.m4 _ (List.getElem_mem hlt4))
          have HLEN := Aside0.mk (show (acc0 ++ (x.f4.take kk).flatMap (fun c => [c.f0.data.toList, numL c.f1, numL c.f2])).length ≤ 20000 by
            rw [List.length_append, flat2_len _ 3 _ (fun _ => rfl), List.length_take]; have := HLEN0.out; omega)
          generalize x.f4[kk] = l at h0 h1 h2 HT HM
          generalize hacc : acc0 ++ (x.f4.take kk).flatMap (fun c => [c.f0.data.toList, numL c.f1, numL c.f2]) = acc at HQ HLEN
          have HACC := Aside0.mk hacc
          clear hacc
          go_wp2_with fail
          have hq1 := HQ.out.below (below_alloc (Below.refl _ _) (.cells #[.string l.f0, .int .i64 l.f1, .int .i64 l.f2] 52))
          refine (text_any (w.heap.size + 1) (w.heap.size + 1) vq l.f0 _ _ hq1 (by have := HM.out.1; omega) (by have := HLEN.out; omega)).mono ?_
          rintro e w3 ⟨rfl, hb3, v3, hp3, hk3⟩
          have hal3 : Below (w.heap.size + 1) wr w3 := ((Below.refl (w.heap.size + 1) wr).alloc (Nat.le_of_lt HQ.out.lt) _).trans hb3
          have bx := (hk3.keep wr.heap.size (by simp) (by have := HQ.out.lt; omega) (fun he => absurd (Kd.N_lt HQ.out.n _ he.symm) (by omega))).trans (blk_new wr _ _)
          have bc := blk_cell bx
          have HP3 := Aside0.mk hp3
          have BW3 := Aside0.mk (BW.out.trans (hal3.mono (Nat.le_succ _)))
          clear hb3 hp3 hk3 hal3 hq1 bx
          go_wp2_with fail
          have hl1 := lit_ints HP3.out [l.f1, l.f2] (by simp)
          refine (nums_any (w.heap.size + 1) (w.heap.size + 1) v3 _ _ [l.f1, l.f2] _ (HP3.out.below (below_alloc (Below.refl _ _) _)) hl1 (by intro n hn; simp at hn; rcases hn with rfl | rfl; exact HM.out.2.1; exact HM.out.2.2) (by have := HLEN.out; simp; omega)).mono ?_
          rintro e w4 ⟨rfl, hb4, v4, hp4, _⟩
          have hal : Below (w.heap.size + 1) w3 w4 := ((Below.refl (w.heap.size + 1) w3).alloc (Nat.le_of_lt HP3.out.lt) _).trans hb4
          have BW4 := Aside0.mk (BW3.out.trans (hal.mono (Nat.le_succ _)))
          have HP4 := Aside0.mk hp4
          clear hb4 hp4 hal hl1 bc
          go_wp2
          go_roundg (x.f4.length - (kk + 1))
          case measure => omega
          case rel => exact ⟨kk + 1, v4, by omega, by omega, by go_num, ⟨by rw [HT.out, ← List.append_assoc, HACC.out]; simpa using HP4.out⟩, BW4⟩
        · have hltz : ¬ (kk : Int) < (x.f4.length : Int) := by omega
          obtain rfl : kk = x.f4.length := by omega
          have hq := HQ.out
          rw [List.take_length, ← HFP.out] at hq
          have HQ := Aside0.mk hq
          clear hq
          have HPW := Aside0.mk (HP.out.below BW.out)
          have HNP := Aside0.mk HPW.out.n
          have HLE := Aside0.mk HPW.out.le
          have HGL := Aside0.mk HPW.out.lt
          have gc := blk_cell HPW.out.blk
          have gf := blk_frozen HPW.out.blk
          have HFL := Aside0.mk (famParts_len HOK.out)
          have HBY := Aside0.mk (fun W (hb : Below wr.heap.size wr W) => HPB.out ▸ bytes_any (w.heap.size + 1) (w.heap.size + 1) vq (famParts x) W (HQ.out.below hb) HFL.out.1 HFL.out.2)
          have HBB := Aside0.mk (BW.out.mono (show base ≤ w.heap.size by have := HLE.out; have := HP.out.lt; omega))
          clear HP HQ HFP HLEN0 HFL HPB
          go_wp2
          go_region_law (first
            | (go_simp; go_at_call 63; refine (HBY.out _ (Below.refl _ _).drew).mono ?_; rintro e w2 ⟨v2, rfl, hn2, hb2⟩; obtain ⟨A2, c2, rfl⟩ := Kd.N_slice hn2; have gk := blk_keep (W := wr.drew) hb2 HPW.out.blk; have gc2 := blk_cell gk; have gf2 := blk_frozen gk; have gc2' := fun o => blk_cell (blk_old gk o); have HN2 := Aside0.mk hn2; have HB2 := Aside0.mk hb2; have HS2 := Aside0.mk (show wr.heap.size ≤ w2.heap.size from hb2.size); clear hn2 hb2 gk)
            | (refine Kd.N_append_step kR (w0 := w) base rfl (.tmp 63) (.tmp 66) 74 22 (.slice none 0 0) 24 rfl Try.underlying74 info22 rfl (by decide) (by omega) v parts (pb) [.slice A2 pb.length c2] (fun k => base ≤ k ∧ k ≠ g) (fun k => wr.heap.size ≤ k) rfl rfl (Kd.FK_slice_mk (Kd.N_reads' HN2.out).2.1 (Kd.N_F HN2.out)) (fun k hk => ⟨⟨by have := HLE.out; have := HGL.out; omega, by have := HGL.out; omega⟩, fun he => absurd (Kd.N_lt HNP.out k he.symm) (by omega)⟩) (fun k hk => by have := HLE.out; have := HGL.out; have := HS2.out; omega) (Kd.N_below (Kd.N_drew HNP.out) HB2.out) (HBB.out.drew.trans (HB2.out.mono (by have := HLE.out; have := HGL.out; show base ≤ wr.heap.size; omega))) (by have := HLE.out; have := HGL.out; have := HS2.out; omega) (by omega) ?_; intro v3 w3 ho hb hg3 hat; obtain ⟨A3, c3, rfl⟩ := Kd.N_slice ho; have HO := Aside0.mk ho; have HB3 := Aside0.mk hb; have HG := Aside0.mk hg3; have HAT := Aside0.mk hat; have g3 := blk_grown (blk_keep (W := wr.drew) HB2.out HPW.out.blk) hg3 (Kd.N_ne HNP.out HPW.out.blk (by decide)); have gc3 := blk_cell g3; have gf3 := blk_frozen g3; clear ho hb hg3 hat))
          all_goals
            go_wp2
            go_end0
            refine ⟨rfl, HB3.out.setCell HLE.out _, .slice A3 (parts.length + 1) c3, ⟨?_, HLE.out, ?_⟩, ?_⟩
            · exact blk_set g3 0 _
            · refine Kd.N_far ?_ (fun k hk => hk.2) _
              have := HO.out
              rw [List.length_append, List.length_singleton] at this
              exact this
            · have h2 := HAT.out
              rw [List.length_append, List.length_singleton] at h2
              exact kpt_step (((BW.out.drew).trans (HB2.out.mono BW.out.size))) HG.out h2 _
theorem familyP_any (base g : Nat) (v vf : Value) (x : S40) (parts : List (List UInt8)) (w : World) (hP : Pk base g w v parts) (hf : Fm w vf x) (hok : FamOk x) (hlen : parts.length ≤ 1000) :
    Calls Try.prog 61 #[.pointer (some ⟨g, 0, none⟩), vf] w (PkP base g w v (parts ++ [listL (famParts x)])) :=
  familyP_aux base g v vf x parts _ rfl w hP hf hok hlen
end Go.Proofs.Ytmgpoafoljkknaa.My
