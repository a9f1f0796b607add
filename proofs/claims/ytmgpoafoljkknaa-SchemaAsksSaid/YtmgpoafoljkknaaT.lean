/- Contracts of the reference's Find, Column, Read, Groups and Gone. Conditions: a family's rows have at most a million elements. -/
import Derived.Test.YtmgpoafoljkknaaK1
namespace Go.Proofs.Ytmgpoafoljkknaa.My
open Go.RowKit Go.Proofs.YtmgpoafoljkknaaW.PrintWords Go.Proofs.YtmgpoafoljkknaaW.PrintLast Go.Proofs.YtmgpoafoljkknaaW.PrintMore PSchemaReads
def wrL (x : S40) : List Int := (x.f3.filter fun l => l.f1 == 2 || l.f1 == 3).map (·.f0)
def goL (x : S40) : List Int := (x.f3.filter fun l => l.f1 != 0).map (·.f0)
theorem find_step {α : Type} {p : α → Bool} {l : List α} {i : Nat} (h : i < l.length) : (l.drop i).find? p = if p l[i] = true then some l[i] else (l.drop (i + 1)).find? p := by
  rw [List.drop_eq_getElem_cons h, List.find?_cons]
  cases p l[i] <;> simp
set_option maxHeartbeats 2000000 in
set_option maxRecDepth 100000 in
theorem find31 (v : Value) (s : Sch) (q : ByteArray) (w : World) (h : Sc w v s) (hl : ∀ f ∈ s.fams, f.f3.length ≤ 1000000 ∧ f.f4.length ≤ 1000000) :
    Calls Try.prog 31 #[v, .string q] w fun e w' => ∃ v1, e = .returned (.tuple #[v1, .bool (findR s.fams q).2]) ∧ FmN w.heap.size w' v1 (findR s.fams q).1 ∧ Below w.heap.size w w' := by
  obtain ⟨v3, rfl, h3⟩ := h
  have hmax := h3.len
  obtain ⟨A, c, rfl, _, hC⟩ := h3
  have HC := Aside0.mk hC
  have HL := Aside0.mk hl
  have HR := Aside0.mk (show findR s.fams q = (match (s.fams.drop 0).find? (fun c => c.f0.toList == q.toList) with | some c => (c, true) | none => (z40, false)) from rfl)
  clear hC hl
  have G1 := Aside0.mk (blk_new2 w (.cells #[.int .i64 s.ver, .slice A s.fams.length c, .int .i64 s.kind, .string s.fam, .string s.qual, .int .i64 s.typ, .int .i64 s.grp, .int .i64 s.vers, .int .i64 s.life, .int .i64 s.step] 28) #[.string ⟨#[]⟩, .int .i64 0, .int .i64 0, .slice none 0 0, .slice none 0 0] 40)
  have G0 := Aside0.mk (blk_old (blk_new w #[.int .i64 s.ver, .slice A s.fams.length c, .int .i64 s.kind, .string s.fam, .string s.qual, .int .i64 s.typ, .int .i64 s.grp, .int .i64 s.vers, .int .i64 s.life, .int .i64 s.step] 28) (.cells #[.string ⟨#[]⟩, .int .i64 0, .int .i64 0, .slice none 0 0, .slice none 0 0] 40))
  have HBB := Aside0.mk (((Below.refl w.heap.size w).alloc (Nat.le_refl _) (.cells #[.int .i64 s.ver, .slice A s.fams.length c, .int .i64 s.kind, .string s.fam, .string s.qual, .int .i64 s.typ, .int .i64 s.grp, .int .i64 s.vers, .int .i64 s.life, .int .i64 s.step] 28)).alloc (by simp) (.cells #[.string ⟨#[]⟩, .int .i64 0, .int .i64 0, .slice none 0 0, .slice none 0 0] 40))
  go_enter Try.func31, Try.ntmps31
  go_wp2
  go_loopg [6] s.fams.length (fun gg sI wr => ∃ kk : Nat, kk ≤ s.fams.length ∧ s.fams.length - kk ≤ gg ∧ sI = .int .i64 kk ∧ Aside0 (Below w.heap.size w wr) ∧ Aside0 (wr.heap[w.heap.size]? = some (.cells #[.int .i64 s.ver, .slice A s.fams.length c, .int .i64 s.kind, .string s.fam, .string s.qual, .int .i64 s.typ, .int .i64 s.grp, .int .i64 s.vers, .int .i64 s.life, .int .i64 s.step] 28 (0, 0))) ∧ Aside0 (wr.heap[w.heap.size + 1]? = some (.cells #[.string ⟨#[]⟩, .int .i64 0, .int .i64 0, .slice none 0 0, .slice none 0 0] 40 (0, 0))) ∧ Aside0 (findR s.fams q = (match (s.fams.drop kk).find? (fun c => c.f0.toList == q.toList) with | some c => (c, true) | none => (z40, false))))
  case atStart => exact ⟨0, Nat.zero_le _, by omega, rfl, HBB, G0, G1, HR⟩
  case round =>
    clear HBB G0 G1 HR
    obtain ⟨kk, hkk, hg, rfl, BW, G0, G1, HA⟩ := hrel
    have g0 := blk_cell G0.out
    have g1 := blk_cell G1.out
    have f1 := blk_frozen G1.out
    have HS := Aside0.mk (show w.heap.size + 2 ≤ wr.heap.size by have := blk_lt G1.out; omega)
    by_cases hlt : kk < s.fams.length
    · have hltz : (kk : Int) < (s.fams.length : Int) := by omega
      have hm := HL.out s.fams[kk] (List.getElem_mem hlt)
      have hst := find_step (p := fun c : S40 => c.f0.toList == q.toList) hlt
      obtain ⟨ad, A3, c3, A4, c4, rfl, h0, h1, h2, h3, h4, hfm⟩ := get40 (Kd.C_below HC.out BW.out) kk hlt
      have HE := Aside0.mk HA.out
      rw [hst] at HE
      generalize s.fams[kk] = y at h0 h1 h2 h3 h4 hfm hm HE
      have HCL := Aside0.mk (copyF82 _ y wr hfm hm.1 hm.2)
      clear hst hfm hm HA
      rcases hq : (y.f0.toList == q.toList) with _ | _
      · have HE := Aside0.mk HE.out
        rw [if_neg (by simp only [hq]; decide)] at HE
        go_wp2
        go_roundg (s.fams.length - (kk + 1))
        case measure => omega
        case rel => exact ⟨kk + 1, by omega, by omega, by go_num, BW, G0, G1, HE⟩
      · have HE := Aside0.mk HE.out
        rw [if_pos (by simp only [hq])] at HE
        go_wp2_with fail
        refine HCL.out.mono ?_
        rintro e w2 ⟨v1, rfl, hfn, hb2⟩
        obtain ⟨v3, v4, rfl, n3, n4⟩ := hfn
        obtain ⟨A5, c5, rfl⟩ := Kd.N_slice n3
        obtain ⟨A6, c6, rfl⟩ := Kd.N_slice n4
        have g2 := blk_keep hb2 G1.out
        have gc2 := blk_cell g2
        have gf2 := blk_frozen g2
        have HB2 := Aside0.mk (bb BW.out hb2)
        have N3 := Aside0.mk (Nw.lower (B' := w.heap.size + 2) n3 HS.out)
        have N4 := Aside0.mk (Nw.lower (B' := w.heap.size + 2) n4 HS.out)
        clear hb2 n3 n4 g0 g1 f1 h0 h1 h2 h3 h4 g2
        go_wp2
        refine bodyPost_ret (v := .tuple #[.agg #[.string y.f0, .int .i64 y.f1, .int .i64 y.f2, .slice A5 y.f3.length c5, .slice A6 y.f4.length c6], .bool true]) (by simp [results, Try.results31, go_sem, gc2]) rfl ?_
        rw [HE.out]
        refine ⟨_, rfl, ⟨_, _, rfl, Nw.lower (B := w.heap.size + 2) ?_ (by omega), Nw.lower (B := w.heap.size + 2) ?_ (by omega)⟩, ?_⟩
        · with_reducible repeat (first | exact N3.out | refine Kd.N_far ?_ (fun k hk => by simp at hk ⊢; omega) _)
        · with_reducible repeat (first | exact N4.out | refine Kd.N_far ?_ (fun k hk => by simp at hk ⊢; omega) _)
        · with_reducible repeat (first | exact HB2.out | refine Below.setCell ?_ (by simp) _)
    · have hltz : ¬ (kk : Int) < (s.fams.length : Int) := by omega
      have : kk = s.fams.length := by omega
      subst this
      have HE := Aside0.mk HA.out
      rw [List.drop_length] at HE
      go_wp2
      refine bodyPost_ret (v := .tuple #[.agg #[.string z40.f0, .int .i64 z40.f1, .int .i64 z40.f2, .slice none 0 0, .slice none 0 0], .bool false]) (by simp [results, Try.results31, go_sem, g1, z40]) rfl ⟨_, by rw [HE.out]; rfl, ⟨_, _, by rw [HE.out]; rfl, by rw [HE.out]; exact Kd.N_nil _ _ _ _ _, by rw [HE.out]; exact Kd.N_nil _ _ _ _ _⟩, ?_⟩
      with_reducible repeat (first | exact BW.out | refine Below.setCell ?_ (by simp) _)
set_option maxHeartbeats 2000000 in
set_option maxRecDepth 100000 in
theorem column34 (v : Value) (x : S40) (q : ByteArray) (w : World) (h : Fm w v x) :
    Calls Try.prog 34 #[v, .string q] w fun e w' => e = .returned (.tuple #[V52 (colR x.f4 q).1, .bool (colR x.f4 q).2]) ∧ Below w.heap.size w w' := by
  obtain ⟨v3, v4, rfl, h3, h4⟩ := h
  have hmax := h4.len
  obtain ⟨A3, c3, rfl, _, _⟩ := h3
  obtain ⟨A4, c4, rfl, _, hC⟩ := h4
  have HC := Aside0.mk hC
  have HR := Aside0.mk (show colR x.f4 q = (match (x.f4.drop 0).find? (fun c => c.f0.toList == q.toList) with | some c => (c, true) | none => (z52, false)) from rfl)
  clear hC
  have G1 := Aside0.mk (blk_new2 w (.cells #[.string x.f0, .int .i64 x.f1, .int .i64 x.f2, .slice A3 x.f3.length c3, .slice A4 x.f4.length c4] 40) #[.string ⟨#[]⟩, .int .i64 0, .int .i64 0] 52)
  have G0 := Aside0.mk (blk_old (blk_new w #[.string x.f0, .int .i64 x.f1, .int .i64 x.f2, .slice A3 x.f3.length c3, .slice A4 x.f4.length c4] 40) (.cells #[.string ⟨#[]⟩, .int .i64 0, .int .i64 0] 52))
  have HBB := Aside0.mk (((Below.refl w.heap.size w).alloc (Nat.le_refl _) (.cells #[.string x.f0, .int .i64 x.f1, .int .i64 x.f2, .slice A3 x.f3.length c3, .slice A4 x.f4.length c4] 40)).alloc (by simp) (.cells #[.string ⟨#[]⟩, .int .i64 0, .int .i64 0] 52))
  go_enter Try.func34, Try.ntmps34
  go_wp2
  go_loopg [6] x.f4.length (fun gg sI wr => ∃ kk : Nat, kk ≤ x.f4.length ∧ x.f4.length - kk ≤ gg ∧ sI = .int .i64 kk ∧ Aside0 (Below w.heap.size w wr) ∧ Aside0 (wr.heap[w.heap.size]? = some (.cells #[.string x.f0, .int .i64 x.f1, .int .i64 x.f2, .slice A3 x.f3.length c3, .slice A4 x.f4.length c4] 40 (0, 0))) ∧ Aside0 (wr.heap[w.heap.size + 1]? = some (.cells #[.string ⟨#[]⟩, .int .i64 0, .int .i64 0] 52 (0, 0))) ∧ Aside0 (colR x.f4 q = (match (x.f4.drop kk).find? (fun c => c.f0.toList == q.toList) with | some c => (c, true) | none => (z52, false))))
  case atStart => exact ⟨0, Nat.zero_le _, by omega, rfl, HBB, G0, G1, HR⟩
  case round =>
    clear HBB G0 G1 HR
    obtain ⟨kk, hkk, hg, rfl, BW, G0, G1, HA⟩ := hrel
    have g0 := blk_cell G0.out
    have g1 := blk_cell G1.out
    have f1 := blk_frozen G1.out
    by_cases hlt : kk < x.f4.length
    · have hltz : (kk : Int) < (x.f4.length : Int) := by omega
      have hst := find_step (p := fun c : S52 => c.f0.toList == q.toList) hlt
      obtain ⟨ad, rfl, h0, h1, h2⟩ := get52 (Kd.C_below HC.out BW.out) kk hlt
      have HE := Aside0.mk HA.out
      rw [hst] at HE
      generalize x.f4[kk] = y at h0 h1 h2 HE
      clear hst HA
      rcases hq : (y.f0.toList == q.toList) with _ | _
      · have HE := Aside0.mk HE.out
        rw [if_neg (by simp only [hq]; decide)] at HE
        go_wp2
        go_roundg (x.f4.length - (kk + 1))
        case measure => omega
        case rel => exact ⟨kk + 1, by omega, by omega, by go_num, BW, G0, G1, HE⟩
      · have HE := Aside0.mk HE.out
        rw [if_pos (by simp only [hq])] at HE
        go_wp2
        refine bodyPost_ret (v := .tuple #[V52 y, .bool true]) (by simp [results, Try.results34, go_sem, g1]) rfl ⟨by rw [HE.out], ?_⟩
        with_reducible repeat (first | exact BW.out | refine Below.setCell ?_ (by simp) _)
    · have hltz : ¬ (kk : Int) < (x.f4.length : Int) := by omega
      have : kk = x.f4.length := by omega
      subst this
      have HE := Aside0.mk HA.out
      rw [List.drop_length] at HE
      go_wp2
      refine bodyPost_ret (v := .tuple #[V52 z52, .bool false]) (by simp [results, Try.results34, go_sem, g1, z52]) rfl ⟨by rw [HE.out]; rfl, ?_⟩
      with_reducible repeat (first | exact BW.out | refine Below.setCell ?_ (by simp) _)
set_option maxHeartbeats 2000000 in
set_option maxRecDepth 100000 in
theorem read35 (v : Value) (x : S40) (w : World) (h : Fm w v x) :
    Calls Try.prog 35 #[v] w fun e w' => e = .returned (.tuple #[.int .i64 (readR x).1, .bool (readR x).2]) ∧ Below w.heap.size w w' := by
  obtain ⟨v3, v4, rfl, h3, h4⟩ := h
  have hmax := h3.len
  obtain ⟨A3, c3, rfl, _, hC⟩ := h3
  obtain ⟨A4, c4, rfl, _, _⟩ := h4
  have HC := Aside0.mk hC
  have HR := Aside0.mk (show readR x = (match (x.f3.drop 0).find? pubB with | some l => (l.f0, true) | none => (0, false)) from rfl)
  clear hC
  have G0 := Aside0.mk (blk_new w #[.string x.f0, .int .i64 x.f1, .int .i64 x.f2, .slice A3 x.f3.length c3, .slice A4 x.f4.length c4] 40)
  have HBB := Aside0.mk ((Below.refl w.heap.size w).alloc (Nat.le_refl _) (.cells #[.string x.f0, .int .i64 x.f1, .int .i64 x.f2, .slice A3 x.f3.length c3, .slice A4 x.f4.length c4] 40))
  go_enter Try.func35, Try.ntmps35
  go_wp2
  go_loopg [4] x.f3.length (fun gg sI wr => ∃ kk : Nat, kk ≤ x.f3.length ∧ x.f3.length - kk ≤ gg ∧ sI = .int .i64 kk ∧ Aside0 (Below w.heap.size w wr) ∧ Aside0 (wr.heap[w.heap.size]? = some (.cells #[.string x.f0, .int .i64 x.f1, .int .i64 x.f2, .slice A3 x.f3.length c3, .slice A4 x.f4.length c4] 40 (0, 0))) ∧ Aside0 (readR x = (match (x.f3.drop kk).find? pubB with | some l => (l.f0, true) | none => (0, false))))
  case atStart => exact ⟨0, Nat.zero_le _, by omega, rfl, HBB, G0, HR⟩
  case round =>
    clear HBB G0 HR
    obtain ⟨kk, hkk, hg, rfl, BW, G0, HA⟩ := hrel
    have g0 := blk_cell G0.out
    by_cases hlt : kk < x.f3.length
    · have hltz : (kk : Int) < (x.f3.length : Int) := by omega
      have hst := find_step (p := pubB) hlt
      obtain ⟨ad, rfl, h0, h1⟩ := get60 (Kd.C_below HC.out BW.out) kk hlt
      have HE := Aside0.mk HA.out
      rw [hst] at HE
      generalize x.f3[kk] = y at h0 h1 HE
      clear hst HA
      rcases hq : (y.f1 == 3) with _ | _
      · have HE := Aside0.mk HE.out
        rw [if_neg (show ¬ pubB y = true by show ¬ (y.f1 == 3) = true; rw [hq]; decide)] at HE
        go_wp2
        go_roundg (x.f3.length - (kk + 1))
        case measure => omega
        case rel => exact ⟨kk + 1, by omega, by omega, by go_num, BW, G0, HE⟩
      · have HE := Aside0.mk HE.out
        rw [if_pos (show pubB y = true from hq)] at HE
        go_wp2
        go_ret2
        exact ⟨by rw [HE.out]; rfl, BW.out⟩
    · have hltz : ¬ (kk : Int) < (x.f3.length : Int) := by omega
      have : kk = x.f3.length := by omega
      subst this
      have HE := Aside0.mk HA.out
      rw [List.drop_length] at HE
      go_wp2
      go_ret2
      exact ⟨by rw [HE.out]; rfl, BW.out⟩
set_option maxHeartbeats 2000000 in
set_option maxRecDepth 100000 in
theorem groups38 (v : Value) (x : S40) (n : Int) (w : World) (h : Fm w v x) (hl : x.f3.length ≤ 1000000) :
    Calls Try.prog 38 #[v, .int .i64 n] w fun e w' => ∃ v1, e = .returned v1 ∧ Nw (Kd.int .i64) 3 w.heap.size w' v1 ((x.f3.filter fun l => decide (n ≤ l.f1) && decide (l.f1 ≤ 3)).map (·.f0)) ∧ Below w.heap.size w w' := by
  obtain ⟨v3, v4, rfl, h3, h4⟩ := h
  have hmax := h3.len
  obtain ⟨A3, c3, rfl, _, hC⟩ := h3
  obtain ⟨A4, c4, rfl, _, _⟩ := h4
  have HC := Aside0.mk hC
  clear hC
  have G0 := Aside0.mk (blk_old (blk_new w #[.string x.f0, .int .i64 x.f1, .int .i64 x.f2, .slice A3 x.f3.length c3, .slice A4 x.f4.length c4] 40) (.cells #[] 3))
  have HBB := Aside0.mk (((Below.refl w.heap.size w).alloc (Nat.le_refl _) (.cells #[.string x.f0, .int .i64 x.f1, .int .i64 x.f2, .slice A3 x.f3.length c3, .slice A4 x.f4.length c4] 40)).alloc (by simp) (.cells #[] 3))
  have HN0 := Aside0.mk (Nw.lower (B' := w.heap.size + 1) (by have := N_empty (Kd.int .i64) 3 (w.alloc (.cells #[.string x.f0, .int .i64 x.f1, .int .i64 x.f2, .slice A3 x.f3.length c3, .slice A4 x.f4.length c4] 40)) (fun k => w.heap.size + 1 ≤ k) (by simp); rw [World.size_alloc] at this; exact this) (Nat.le_refl _))
  go_enter Try.func38, Try.ntmps38
  go_wp2
  go_loopg [5, 6] x.f3.length (fun gg sO sI wr => ∃ kk : Nat, kk ≤ x.f3.length ∧ x.f3.length - kk ≤ gg ∧ sI = .int .i64 kk ∧ Aside0 (Below w.heap.size w wr) ∧ Aside0 (wr.heap[w.heap.size]? = some (.cells #[.string x.f0, .int .i64 x.f1, .int .i64 x.f2, .slice A3 x.f3.length c3, .slice A4 x.f4.length c4] 40 (0, 0))) ∧ Aside0 (Nw (Kd.int .i64) 3 (w.heap.size + 1) wr sO (((x.f3.take kk).filter fun l => decide (n ≤ l.f1) && decide (l.f1 ≤ 3)).map (·.f0))))
  case atStart => exact ⟨0, Nat.zero_le _, by omega, rfl, HBB, G0, HN0⟩
  case round =>
    clear HBB G0 HN0
    obtain ⟨kk, hkk, hg, rfl, BW, G0, HN⟩ := hrel
    have g0 := blk_cell G0.out
    have HS := Aside0.mk (show w.heap.size + 1 ≤ wr.heap.size by have := blk_lt G0.out; omega)
    by_cases hlt : kk < x.f3.length
    · have hltz : (kk : Int) < (x.f3.length : Int) := by omega
      obtain ⟨ad, rfl, h0, h1⟩ := get60 (Kd.C_below HC.out BW.out) kk hlt
      have HT := Aside0.mk (show (((x.f3.take (kk + 1)).filter fun l => decide (n ≤ l.f1) && decide (l.f1 ≤ 3)).map (·.f0)) = ((x.f3.take kk).filter fun l => decide (n ≤ l.f1) && decide (l.f1 ≤ 3)).map (·.f0) ++ (if (fun l : S60 => decide (n ≤ l.f1) && decide (l.f1 ≤ 3)) x.f3[kk] = true then [x.f3[kk].f0] else []) by
        rw [List.take_succ_eq_append_getElem hlt, List.filter_append, List.map_append]
        congr 1
        cases hq : (fun l : S60 => decide (n ≤ l.f1) && decide (l.f1 ≤ 3)) x.f3[kk] <;> simp [hq])
      have HLEN := Aside0.mk (show (((x.f3.take kk).filter fun l => decide (n ≤ l.f1) && decide (l.f1 ≤ 3)).map (·.f0)).length ≤ 1000000 by
        rw [List.length_map]; exact Nat.le_trans (List.length_filter_le _ _) (Nat.le_trans (List.length_take_le _ _) (by omega)))
      generalize hy : x.f3[kk] = y at h0 h1 HT
      clear hy
      generalize ((x.f3.take kk).filter fun l => decide (n ≤ l.f1) && decide (l.f1 ≤ 3)).map (·.f0) = acc at HN HT HLEN
      by_cases c1 : n ≤ y.f1
      · by_cases c2 : y.f1 ≤ 3
        · have HT := Aside0.mk (HT.out.trans (show _ = acc ++ [y.f0] by rw [if_pos (by simp [c1, c2])]))
          go_wp2_with (at_builtin; refine Kd.N_append (Kd.int .i64) (w0 := wr) (w.heap.size + 1) rfl (.tmp 32) (.tmp 39) 42 3 (.int .i64 0) 8 rfl Try.underlying42 info3 rfl (by decide) (by omega) u5 acc y.f0 [.int .i64 y.f0] (fun k => w.heap.size + 1 ≤ k) (fun _ => False) rfl rfl (fk_int _) (fun _ hk => hk.elim) (fun k hk => by have := HS.out; omega) HN.out (Below.refl _ _) HS.out (by have := HLEN.out; omega) ?_; intro v1 w1 ho hb hg2 hat; have HO := Aside0.mk ho; have HB := Aside0.mk (BW.out.trans (hb.mono (Nat.le_succ _))); have G0' := Aside0.mk ((hb.block w.heap.size (by omega)).trans G0.out); clear ho hb hg2 hat)
          go_roundg (x.f3.length - (kk + 1))
          case measure => omega
          case rel => exact ⟨kk + 1, by omega, by omega, by go_num, HB, G0', ⟨by rw [HT.out]; exact HO.out⟩⟩
        · have HT := Aside0.mk (HT.out.trans (show _ = acc by rw [if_neg (by simp [c2])]; exact List.append_nil _))
          go_wp2
          go_roundg (x.f3.length - (kk + 1))
          case measure => omega
          case rel => exact ⟨kk + 1, by omega, by omega, by go_num, BW, G0, ⟨by rw [HT.out]; exact HN.out⟩⟩
      · have HT := Aside0.mk (HT.out.trans (show _ = acc by rw [if_neg (by simp [c1])]; exact List.append_nil _))
        go_wp2
        go_roundg (x.f3.length - (kk + 1))
        case measure => omega
        case rel => exact ⟨kk + 1, by omega, by omega, by go_num, BW, G0, ⟨by rw [HT.out]; exact HN.out⟩⟩
    · have hltz : ¬ (kk : Int) < (x.f3.length : Int) := by omega
      have : kk = x.f3.length := by omega
      subst this
      have HN2 := HN.out
      rw [List.take_length] at HN2
      have HN := Aside0.mk (Nw.lower (B' := w.heap.size) HN2 (by omega))
      clear HN2
      go_wp2
      go_ret
      exact ⟨_, rfl, HN.out, BW.out⟩
set_option maxHeartbeats 2000000 in
set_option maxRecDepth 100000 in
theorem gone39 (v : Value) (x : S40) (w : World) (h : Fm w v x) (hl : x.f3.length ≤ 1000000) :
    Calls Try.prog 39 #[v] w fun e w' => ∃ v1, e = .returned v1 ∧ Nw (Kd.int .i64) 3 w.heap.size w' v1 ((x.f3.filter fun l => l.f1 != 0).map (·.f0)) ∧ Below w.heap.size w w' := by
  obtain ⟨v3, v4, rfl, h3, h4⟩ := h
  have hmax := h3.len
  obtain ⟨A3, c3, rfl, _, hC⟩ := h3
  obtain ⟨A4, c4, rfl, _, _⟩ := h4
  have HC := Aside0.mk hC
  clear hC
  have G0 := Aside0.mk (blk_old (blk_new w #[.string x.f0, .int .i64 x.f1, .int .i64 x.f2, .slice A3 x.f3.length c3, .slice A4 x.f4.length c4] 40) (.cells #[] 3))
  have HBB := Aside0.mk (((Below.refl w.heap.size w).alloc (Nat.le_refl _) (.cells #[.string x.f0, .int .i64 x.f1, .int .i64 x.f2, .slice A3 x.f3.length c3, .slice A4 x.f4.length c4] 40)).alloc (by simp) (.cells #[] 3))
  have HN0 := Aside0.mk (Nw.lower (B' := w.heap.size + 1) (by have := N_empty (Kd.int .i64) 3 (w.alloc (.cells #[.string x.f0, .int .i64 x.f1, .int .i64 x.f2, .slice A3 x.f3.length c3, .slice A4 x.f4.length c4] 40)) (fun k => w.heap.size + 1 ≤ k) (by simp); rw [World.size_alloc] at this; exact this) (Nat.le_refl _))
  go_enter Try.func39, Try.ntmps39
  go_wp2
  go_loopg [3, 4] x.f3.length (fun gg sO sI wr => ∃ kk : Nat, kk ≤ x.f3.length ∧ x.f3.length - kk ≤ gg ∧ sI = .int .i64 kk ∧ Aside0 (Below w.heap.size w wr) ∧ Aside0 (wr.heap[w.heap.size]? = some (.cells #[.string x.f0, .int .i64 x.f1, .int .i64 x.f2, .slice A3 x.f3.length c3, .slice A4 x.f4.length c4] 40 (0, 0))) ∧ Aside0 (Nw (Kd.int .i64) 3 (w.heap.size + 1) wr sO (((x.f3.take kk).filter fun l => l.f1 != 0).map (·.f0))))
  case atStart => exact ⟨0, Nat.zero_le _, by omega, rfl, HBB, G0, HN0⟩
  case round =>
    clear HBB G0 HN0
    obtain ⟨kk, hkk, hg, rfl, BW, G0, HN⟩ := hrel
    have g0 := blk_cell G0.out
    have HS := Aside0.mk (show w.heap.size + 1 ≤ wr.heap.size by have := blk_lt G0.out; omega)
    by_cases hlt : kk < x.f3.length
    · have hltz : (kk : Int) < (x.f3.length : Int) := by omega
      obtain ⟨ad, rfl, h0, h1⟩ := get60 (Kd.C_below HC.out BW.out) kk hlt
      have HT := Aside0.mk (show (((x.f3.take (kk + 1)).filter fun l => l.f1 != 0).map (·.f0)) = ((x.f3.take kk).filter fun l => l.f1 != 0).map (·.f0) ++ (if (fun l : S60 => l.f1 != 0) x.f3[kk] = true then [x.f3[kk].f0] else []) by
        rw [List.take_succ_eq_append_getElem hlt, List.filter_append, List.map_append]
        congr 1
        cases hq : (fun l : S60 => l.f1 != 0) x.f3[kk] <;> simp [hq])
      have HLEN := Aside0.mk (show (((x.f3.take kk).filter fun l => l.f1 != 0).map (·.f0)).length ≤ 1000000 by
        rw [List.length_map]; exact Nat.le_trans (List.length_filter_le _ _) (Nat.le_trans (List.length_take_le _ _) (by omega)))
      generalize hy : x.f3[kk] = y at h0 h1 HT
      clear hy
      generalize ((x.f3.take kk).filter fun l => l.f1 != 0).map (·.f0) = acc at HN HT HLEN
      rcases hq : (y.f1 == 0) with _ | _
      · have hn : (y.f1 != 0) = true := by rw [bne, hq]; rfl
        have HT := Aside0.mk (HT.out.trans (show _ = acc ++ [y.f0] by rw [if_pos (hn)]))
        go_wp2_with (at_builtin; refine Kd.N_append (Kd.int .i64) (w0 := wr) (w.heap.size + 1) rfl (.tmp 20) (.tmp 27) 42 3 (.int .i64 0) 8 rfl Try.underlying42 info3 rfl (by decide) (by omega) u3 acc y.f0 [.int .i64 y.f0] (fun k => w.heap.size + 1 ≤ k) (fun _ => False) rfl rfl (fk_int _) (fun _ hk => hk.elim) (fun k hk => by have := HS.out; omega) HN.out (Below.refl _ _) HS.out (by have := HLEN.out; omega) ?_; intro v1 w1 ho hb hg2 hat; have HO := Aside0.mk ho; have HB := Aside0.mk (BW.out.trans (hb.mono (Nat.le_succ _))); have G0' := Aside0.mk ((hb.block w.heap.size (by omega)).trans G0.out); clear ho hb hg2 hat)
        go_roundg (x.f3.length - (kk + 1))
        case measure => omega
        case rel => exact ⟨kk + 1, by omega, by omega, by go_num, HB, G0', ⟨by rw [HT.out]; exact HO.out⟩⟩
      · have hn : (y.f1 != 0) = false := by rw [bne, hq]; rfl
        have HT := Aside0.mk (HT.out.trans (show _ = acc by rw [if_neg (by simp only [hn]; decide)]; exact List.append_nil _))
        go_wp2
        go_roundg (x.f3.length - (kk + 1))
        case measure => omega
        case rel => exact ⟨kk + 1, by omega, by omega, by go_num, BW, G0, ⟨by rw [HT.out]; exact HN.out⟩⟩
    · have hltz : ¬ (kk : Int) < (x.f3.length : Int) := by omega
      have : kk = x.f3.length := by omega
      subst this
      have HN2 := HN.out
      rw [List.take_length] at HN2
      have HN := Aside0.mk (Nw.lower (B' := w.heap.size) HN2 (by omega))
      clear HN2
      go_wp2
      go_ret
      exact ⟨_, rfl, HN.out, BW.out⟩
end Go.Proofs.Ytmgpoafoljkknaa.My
