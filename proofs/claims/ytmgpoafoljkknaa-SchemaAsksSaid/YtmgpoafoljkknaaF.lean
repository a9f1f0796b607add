/- Contracts of schema.Read, Column, Find. Conditions: a found family's rows have at most a million elements. -/
import Derived.Test.YtmgpoafoljkknaaE
namespace Go.Proofs.Ytmgpoafoljkknaa.My
open Go.RowKit Go.Proofs.YtmgpoafoljkknaaW.PrintWords Go.Proofs.YtmgpoafoljkknaaW.PrintLast Go.Proofs.YtmgpoafoljkknaaW.PrintMore PSchemaReads

theorem find_cases {α : Type} (p : α → Bool) (l : List α) : (idxI p l = -1 ∧ l.find? p = none) ∨ ∃ i, ∃ h : i < l.length, idxI p l = i ∧ l.find? p = some l[i] := by
  cases h : l.findIdx? p with
  | none =>
    left
    refine ⟨by simp [idxI, h], ?_⟩
    rw [List.findIdx?_eq_none_iff] at h
    rw [List.find?_eq_none]
    intro x hx; rw [h x hx]; decide
  | some i =>
    right
    have h2 := h
    rw [List.findIdx?_eq_some_iff_getElem] at h
    obtain ⟨hi, hp, hb⟩ := h
    refine ⟨i, hi, by simp [idxI, h2], ?_⟩
    rw [List.find?_eq_some_iff_getElem]
    exact ⟨hp, i, hi, rfl, fun j hj => by have := hb j hj; simpa using this⟩

def readR (x : S40) : Int × Bool := match x.f3.find? pubB with | some l => (l.f0, true) | none => (0, false)
set_option maxHeartbeats 1000000 in
theorem read_any (v : Value) (x : S40) (w : World) (h : Fm w v x) :
    Calls Try.prog 24 #[v] w fun e w' => e = .returned (.tuple #[.int .i64 (readR x).1, .bool (readR x).2]) ∧ Below w.heap.size w w' := by
  obtain ⟨v3, v4, rfl, h3, h4⟩ := h
  have hmax := h3.len
  have HF := Aside0.mk (fun W (hb : Below w.heap.size w W) => index60 75 #[] (enters_of Try.func75 (by kernel_rfl) rfl) pubB v3 x.f3 W (h3.below hb) (fun y W2 hb2 => (read1_any y W2).mono fun _ _ ⟨h, k⟩ => ⟨h, bb hb2 k⟩))
  have HBX := Aside0.mk (fun (o : Obj) => (Below.refl w.heap.size w).alloc (Nat.le_refl _) o)
  obtain ⟨A, c, rfl, _, hC⟩ := h3
  obtain ⟨A4, c4, rfl, _, _⟩ := h4
  have HR : readR x = (match x.f3.find? pubB with | some l => (l.f0, true) | none => (0, false)) := rfl
  generalize hys : x.f3 = xs at *
  rcases find_cases pubB xs with ⟨q1, q2⟩ | ⟨i, hi, q1, q2⟩
  · rw [q1] at HF
    rw [q2] at HR
    have HR := Aside0.mk HR
    clear hys
    go_enter Try.func24, Try.ntmps24
    go_wp2_with (go_at_call 74; refine (HF.out _ (HBX.out _)).mono ?_; rintro e w1 ⟨rfl, hb1⟩)
    go_ret2
    exact ⟨by rw [HR.out]; rfl, bb (HBX.out _) hb1⟩
  · rw [q1] at HF
    rw [q2] at HR
    have HR := Aside0.mk HR
    have HQ := Aside0.mk q2
    clear hys q1 q2
    obtain ⟨ad, rfl, h0, _⟩ := get60 hC i hi
    have HC := Aside0.mk hC
    have hin := World.block_lt_of_cell? w _ h0
    have hiz : (i : Int) < (xs.length : Int) := by omega
    generalize xs[i] = y at h0 HR HQ
    clear hC
    go_enter Try.func24, Try.ntmps24
    go_wp2_with fail
    refine (HF.out _ (HBX.out _)).mono ?_
    rintro e w1 ⟨rfl, hb1⟩
    have g1 := blk_keep hb1 (blk_new w _ _)
    have gc1 := blk_cell g1
    have HB := Aside0.mk (bb (HBX.out _) hb1)
    have h0 := (HB.out.cell hin).trans h0
    clear hb1
    go_wp2
    go_ret2
    exact ⟨by rw [HR.out]; rfl, HB.out⟩

def sameS (a b : ByteArray) : Bool := a.toList == b.toList
def colR (l : List S52) (q : ByteArray) : S52 × Bool := match l.find? (fun c => c.f0.toList == q.toList) with | some c => (c, true) | none => (z52, false)
set_option maxHeartbeats 1000000 in
set_option maxRecDepth 100000 in
theorem column_any (v : Value) (x : S40) (q : ByteArray) (w : World) (h : Fm w v x) :
    Calls Try.prog 29 #[v, .string q] w fun e w' => e = .returned (.tuple #[V52 (colR x.f4 q).1, .bool (colR x.f4 q).2]) ∧ Below w.heap.size w w' := by
  obtain ⟨v3, v4, rfl, h3, h4⟩ := h
  have hmax := h4.len
  have HF := Aside0.mk (fun W (B : Nat) (hb : Below w.heap.size w W) (hB : B < W.heap.size) (hc : W.cell? ⟨B, 0, none⟩ = some (.string q)) => index52 80 #[.pointer (some ⟨B, 0, none⟩)] (enters_of Try.func80 (by kernel_rfl) rfl) (fun c => c.f0.toList == q.toList) v4 x.f4 W (h4.below hb)
    (fun y W2 hb2 => (column1_any y W2 B q (Nat.lt_of_lt_of_le hB hb2.size) ((hb2.cell (p := ⟨B, 0, none⟩) hB).trans hc)).mono fun _ _ ⟨h, k⟩ => ⟨h, bb hb2 k⟩))
  have HBX := Aside0.mk (fun (o o2 o3 : Obj) => (((Below.refl w.heap.size w).alloc (Nat.le_refl _) o).alloc (by simp) o2).alloc (by simp; omega) o3)
  obtain ⟨A3, c3, rfl, _, _⟩ := h3
  obtain ⟨A, c, rfl, _, hC⟩ := h4
  have HR : colR x.f4 q = (match x.f4.find? (fun c => c.f0.toList == q.toList) with | some c => (c, true) | none => (z52, false)) := rfl
  generalize hys : x.f4 = xs at *
  rcases find_cases (fun c : S52 => c.f0.toList == q.toList) xs with ⟨q1, q2⟩ | ⟨i, hi, q1, q2⟩
  · simp only [q1] at HF
    rw [q2] at HR
    have HR := Aside0.mk HR
    clear hys q1 q2 hC
    go_enter Try.func29, Try.ntmps29
    go_wp2_with fail
    refine (HF.out _ (w.heap.size + 1) (HBX.out _ _ _) (by simp) (by go_simp)).mono ?_
    rintro e w1 ⟨rfl, hb1⟩
    have g1 := blk_keep hb1 (blk_new _ _ _)
    simp only [World.size_alloc] at g1
    have gc1 := blk_cell g1
    have gf1 := blk_frozen g1
    have HB := Aside0.mk (bb (HBX.out _ _ _) hb1)
    clear hb1
    go_wp2
    refine bodyPost_ret (v := .tuple #[V52 z52, .bool false]) (by simp [results, Try.results29, go_sem, gc1, z52]) rfl ⟨by rw [HR.out], ?_⟩
    with_reducible repeat (first | exact HB.out | refine Below.setCell ?_ (by simp; omega) _)
  · simp only [q1] at HF
    rw [q2] at HR
    have HR := Aside0.mk HR
    clear hys q1 q2
    obtain ⟨ad, rfl, h0, h1, h2⟩ := get52 hC i hi
    have hin := World.block_lt_of_cell? w _ h0
    have hiz : (i : Int) < (xs.length : Int) := by omega
    generalize xs[i] = y at h0 h1 h2 HR
    clear hC
    go_enter Try.func29, Try.ntmps29
    go_wp2_with fail
    refine (HF.out _ (w.heap.size + 1) (HBX.out _ _ _) (by simp) (by go_simp)).mono ?_
    rintro e w1 ⟨rfl, hb1⟩
    have g1 := blk_keep hb1 (blk_new _ _ _)
    simp only [World.size_alloc] at g1
    have gc1 := blk_cell g1
    have gf1 := blk_frozen g1
    have k1 := blk_keep hb1 (blk_old (blk_old (blk_new w _ _) _) _)
    have kc1 := blk_cell k1
    have HB := Aside0.mk (bb (HBX.out _ _ _) hb1)
    have h0 := pw_cell_below HB.out h0
    have h1 := pw_cell_below HB.out h1
    have h2 := pw_cell_below HB.out h2
    clear hb1
    go_wp2
    refine bodyPost_ret (v := .tuple #[V52 y, .bool true]) (by simp [results, Try.results29, go_sem, gc1]) rfl ⟨by rw [HR.out], ?_⟩
    with_reducible repeat (first | exact HB.out | refine Below.setCell ?_ (by simp; omega) _)

def findR (l : List S40) (q : ByteArray) : S40 × Bool := match l.find? (fun f => f.f0.toList == q.toList) with | some f => (f, true) | none => (z40, false)
set_option maxHeartbeats 1000000 in
set_option maxRecDepth 100000 in
theorem find_any (v : Value) (s : Sch) (q : ByteArray) (w : World) (h : Sc w v s) (hl : ∀ f ∈ s.fams, f.f3.length ≤ 1000000 ∧ f.f4.length ≤ 1000000) :
    Calls Try.prog 27 #[v, .string q] w fun e w' => ∃ v1, e = .returned (.tuple #[v1, .bool (findR s.fams q).2]) ∧ FmN w.heap.size w' v1 (findR s.fams q).1 ∧ Below w.heap.size w w' := by
  obtain ⟨v3, rfl, h3⟩ := h
  obtain ⟨ver, fams, kind, fam, qual, typ, grp, vers, life, step⟩ := s
  simp only at h3 hl ⊢
  have hmax := h3.len
  have HF := Aside0.mk (fun W (B : Nat) (hb : Below w.heap.size w W) (hB : B < W.heap.size) (hc : W.cell? ⟨B, 0, none⟩ = some (.string q)) => index40 77 #[.pointer (some ⟨B, 0, none⟩)] (enters_of Try.func77 (by kernel_rfl) rfl) (fun c => c.f0.toList == q.toList) v3 fams W (h3.below hb)
    (fun y W2 v2 hb2 hf => (find1_any v2 y W2 B q hf (Nat.lt_of_lt_of_le hB hb2.size) ((hb2.cell (p := ⟨B, 0, none⟩) hB).trans hc)).mono fun _ _ ⟨h, k⟩ => ⟨h, bb hb2 k⟩))
  have HBX := Aside0.mk (fun (o o2 o3 : Obj) => (((Below.refl w.heap.size w).alloc (Nat.le_refl _) o).alloc (by simp) o2).alloc (by simp; omega) o3)
  obtain ⟨A, c, rfl, _, hC⟩ := h3
  have HR : findR fams q = (match fams.find? (fun c => c.f0.toList == q.toList) with | some c => (c, true) | none => (z40, false)) := rfl
  rcases find_cases (fun c : S40 => c.f0.toList == q.toList) fams with ⟨q1, q2⟩ | ⟨i, hi, q1, q2⟩
  · simp only [q1] at HF
    rw [q2] at HR
    have HR := Aside0.mk HR
    clear q1 q2 hC hl
    go_enter Try.func27, Try.ntmps27
    go_wp2_with fail
    refine (HF.out _ (w.heap.size + 1) (HBX.out _ _ _) (by simp) (by go_simp)).mono ?_
    rintro e w1 ⟨rfl, hb1⟩
    have g1 := blk_keep hb1 (blk_new _ _ _)
    simp only [World.size_alloc] at g1
    have gc1 := blk_cell g1
    have gf1 := blk_frozen g1
    have HB := Aside0.mk (bb (HBX.out _ _ _) hb1)
    clear hb1
    go_wp2
    refine bodyPost_ret (v := .tuple #[.agg #[.string z40.f0, .int .i64 z40.f1, .int .i64 z40.f2, .slice none 0 0, .slice none 0 0], .bool false]) (by simp [results, Try.results27, go_sem, gc1, z40]) rfl ⟨_, by rw [HR.out], ⟨_, _, by rw [HR.out], by rw [HR.out]; exact Kd.N_nil _ _ _ _ _, by rw [HR.out]; exact Kd.N_nil _ _ _ _ _⟩, ?_⟩
    with_reducible repeat (first | exact HB.out | refine Below.setCell ?_ (by simp; omega) _)
  · simp only [q1] at HF
    rw [q2] at HR
    have HR := Aside0.mk HR
    have hm := hl fams[i] (List.getElem_mem hi)
    obtain ⟨ad, A3, c3, A4, c4, rfl, h0, h1, h2, h3, h4, hfm⟩ := get40 hC i hi
    have hiz : (i : Int) < (fams.length : Int) := by omega
    generalize fams[i] = y at h0 h1 h2 h3 h4 HR hfm hm
    have HCL := Aside0.mk (fun W (hb : Below w.heap.size w W) => cloneF_any _ y W (hfm.below hb) hm.1 hm.2)
    clear hC q1 q2 hl hfm hm
    go_enter Try.func27, Try.ntmps27
    go_wp2_with fail
    refine (HF.out _ (w.heap.size + 1) (HBX.out _ _ _) (by simp) (by go_simp)).mono ?_
    rintro e w1 ⟨rfl, hb1⟩
    have g1 := blk_keep hb1 (blk_new _ _ _)
    simp only [World.size_alloc] at g1
    have k1 := blk_keep hb1 (blk_old (blk_old (blk_new w _ _) _) _)
    have kc1 := blk_cell k1
    have HB := Aside0.mk (bb (HBX.out _ _ _) hb1)
    have HS := Aside0.mk (show w.heap.size + 3 ≤ w1.heap.size by have := hb1.size; simp at this; omega)
    have h0 := pw_cell_below HB.out h0
    have h1 := pw_cell_below HB.out h1
    have h2 := pw_cell_below HB.out h2
    have h3 := pw_cell_below HB.out h3
    have h4 := pw_cell_below HB.out h4
    clear hb1
    go_wp2_with fail
    refine (HCL.out _ HB.out).mono ?_
    rintro e w2 ⟨v1, rfl, hfn, hb2⟩
    obtain ⟨v3, v4, rfl, n3, n4⟩ := hfn
    obtain ⟨A5, c5, rfl⟩ := Kd.N_slice n3
    obtain ⟨A6, c6, rfl⟩ := Kd.N_slice n4
    have g2 := blk_keep hb2 g1
    have gc2 := blk_cell g2
    have gf2 := blk_frozen g2
    have HB2 := Aside0.mk (bb HB.out hb2)
    have N3 := Aside0.mk (Nw.lower (B' := w.heap.size + 3) n3 HS.out)
    have N4 := Aside0.mk (Nw.lower (B' := w.heap.size + 3) n4 HS.out)
    clear hb2 n3 n4 g1 k1 kc1 h0 h1 h2 h3 h4 g2
    go_wp2
    refine bodyPost_ret (v := .tuple #[.agg #[.string y.f0, .int .i64 y.f1, .int .i64 y.f2, .slice A5 y.f3.length c5, .slice A6 y.f4.length c6], .bool true]) (by simp [results, Try.results27, go_sem, gc2]) rfl ?_
    rw [HR.out]
    refine ⟨_, rfl, ⟨_, _, rfl, Nw.lower (B := w.heap.size + 3) ?_ (by omega), Nw.lower (B := w.heap.size + 3) ?_ (by omega)⟩, ?_⟩
    · with_reducible repeat (first | exact N3.out | refine Kd.N_far ?_ (fun k hk => by simp at hk ⊢; omega) _)
    · with_reducible repeat (first | exact N4.out | refine Kd.N_far ?_ (fun k hk => by simp at hk ⊢; omega) _)
    · with_reducible repeat (first | exact HB2.out | refine Below.setCell ?_ (by simp; omega) _)
end Go.Proofs.Ytmgpoafoljkknaa.My
