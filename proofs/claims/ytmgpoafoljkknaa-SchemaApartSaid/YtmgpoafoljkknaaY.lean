/- The law SchemaFinds returns true. Conditions: the arguments are of their types. -/
import Derived.Test.YtmgpoafoljkknaaV
import Derived.Test.YtmgpoafoljkknaaQ
import Derived.Deep.RegionHeld3
import Derived.Deep.DeepCutAuto
import Derived.Test.YtmgpoafoljkknaaPSchemaReadsx2
namespace Go.Proofs.Ytmgpoafoljkknaa.My
open Go.RowKit Go.Proofs.YtmgpoafoljkknaaW.PrintWords Go.Proofs.YtmgpoafoljkknaaW.PrintLast Go.Proofs.YtmgpoafoljkknaaW.PrintMore PSchemaReads
theorem find_nodup {α β : Type} (p : α → β) (q : α → Bool) {l : List α} (hn : (l.map p).Nodup) {i : Nat} (hi : i < l.length) (hq : ∀ y, q y = true ↔ p y = p l[i]) : l.find? q = some l[i] := by
  rw [List.find?_eq_some_iff_getElem]
  refine ⟨(hq _).2 rfl, i, hi, rfl, fun j hj => ?_⟩
  have h1 : ¬ q (l[j]'(by omega)) = true := fun h => by
    have := nodup_at hn (i := j) (j := i) (by simp; omega) (by simpa using hi) (by omega)
    simp only [List.getElem_map] at this
    exact this ((hq _).1 h)
  simpa using h1
theorem find_right {l : List S40} (hn : (l.map (·.f0)).Nodup) {i : Nat} (hi : i < l.length) : findR l l[i].f0 = (l[i], true) := by
  unfold findR
  rw [find_nodup (·.f0) (fun f : S40 => f.f0.toList == l[i].f0.toList) hn hi (fun y => by rw [beq_iff_eq, toList_inj])]
theorem col_right {l : List S52} (hn : (l.map (·.f0)).Nodup) {i : Nat} (hi : i < l.length) : colR l l[i].f0 = (l[i], true) := by
  unfold colR
  rw [find_nodup (·.f0) (fun f : S52 => f.f0.toList == l[i].f0.toList) hn hi (fun y => by rw [beq_iff_eq, toList_inj])]
theorem right_names {s : Sch} (h : rightB s = true) : (s.fams.map (·.f0)).Nodup := by
  simp only [rightB, Bool.and_eq_true, decide_eq_true_eq] at h
  exact h.1.2
theorem right_fam {s : Sch} (h : rightB s = true) : ∀ f ∈ s.fams, familyB f = true := by
  simp only [rightB, Bool.and_eq_true] at h
  exact List.all_eq_true.1 h.1.1.2
theorem fam_cols {x : S40} (h : familyB x = true) : (x.f4.map (·.f0)).Nodup := by
  simp only [familyB, colsB, Bool.and_eq_true, decide_eq_true_eq] at h
  exact h.2.2
/-- A box that holds a family. -/
def FamBox (w : World) (p : Value) (x : S40) : Prop := ∃ g B3 d3 B4 d4, p = .pointer (some ⟨g, 0, none⟩) ∧ w.heap[g]? = some (.cells #[.string x.f0, .int .i64 x.f1, .int .i64 x.f2, .slice B3 x.f3.length d3, .slice B4 x.f4.length d4] 40 (0, 0)) ∧ Fm w (.agg #[.string x.f0, .int .i64 x.f1, .int .i64 x.f2, .slice B3 x.f3.length d3, .slice B4 x.f4.length d4]) x
theorem famBox_new {w : World} {x : S40} {B3 B4 : Option Addr} {d3 d4 : Nat} (h : Fm w (.agg #[.string x.f0, .int .i64 x.f1, .int .i64 x.f2, .slice B3 x.f3.length d3, .slice B4 x.f4.length d4]) x) :
    FamBox (w.alloc (.cells #[.string x.f0, .int .i64 x.f1, .int .i64 x.f2, .slice B3 x.f3.length d3, .slice B4 x.f4.length d4] 40)) (.pointer (some ⟨w.heap.size, 0, none⟩)) x :=
  ⟨_, _, _, _, _, rfl, blk_new _ _ _, h.below (below_alloc (Below.refl _ _) _)⟩
abbrev put5 (w : World) (g : Nat) (u0 u1 u2 u3 u4 : Value) : World := ((((w.setCell ⟨g, 0, none⟩ u0).setCell ⟨g, 1, none⟩ u1).setCell ⟨g, 2, none⟩ u2).setCell ⟨g, 3, none⟩ u3).setCell ⟨g, 4, none⟩ u4
theorem put5_other {w : World} {g k : Nat} (u0 u1 u2 u3 u4 : Value) (h : k ≠ g) : (put5 w g u0 u1 u2 u3 u4).heap[k]? = w.heap[k]? := by
  unfold put5
  rw [Below.heap_setCell _ _ _ _ h, Below.heap_setCell _ _ _ _ h, Below.heap_setCell _ _ _ _ h, Below.heap_setCell _ _ _ _ h, Below.heap_setCell _ _ _ _ h]
theorem put5_below {B : Nat} {w0 w : World} {g : Nat} (h : Below B w0 w) (hg : B ≤ g) (u0 u1 u2 u3 u4 : Value) : Below B w0 (put5 w g u0 u1 u2 u3 u4) :=
  ((((h.setCell (p := ⟨g, 0, none⟩) hg u0).setCell (p := ⟨g, 1, none⟩) hg u1).setCell (p := ⟨g, 2, none⟩) hg u2).setCell (p := ⟨g, 3, none⟩) hg u3).setCell (p := ⟨g, 4, none⟩) hg u4
theorem famBox_old {w : World} {x : S40} {B3 B4 : Option Addr} {d3 d4 g : Nat} {z0 z1 z2 z3 z4 : Value} (hg : w.heap[g]? = some (.cells #[z0, z1, z2, z3, z4] 40 (0, 0)))
    (h3 : Nw k60 60 (g + 1) w (.slice B3 x.f3.length d3) x.f3) (h4 : Nw k52 52 (g + 1) w (.slice B4 x.f4.length d4) x.f4) :
    FamBox (put5 w g (.string x.f0) (.int .i64 x.f1) (.int .i64 x.f2) (.slice B3 x.f3.length d3) (.slice B4 x.f4.length d4)) (.pointer (some ⟨g, 0, none⟩)) x := by
  refine ⟨g, B3, d3, B4, d4, rfl, ?_, _, _, rfl, ?_, ?_⟩
  · exact blk_set (blk_set (blk_set (blk_set (blk_set hg 0 _) 1 _) 2 _) 3 _) 4 _
  · exact Nw.sl (Kd.N_step h3 (fun k hk _ => put5_other _ _ _ _ _ (by omega)))
  · exact Nw.sl (Kd.N_step h4 (fun k hk _ => put5_other _ _ _ _ _ (by omega)))
/-- A box that holds a column. -/
def ColBox (w : World) (p : Value) (y : S52) : Prop := ∃ g, p = .pointer (some ⟨g, 0, none⟩) ∧ w.heap[g]? = some (.cells #[.string y.f0, .int .i64 y.f1, .int .i64 y.f2] 52 (0, 0))
theorem colBox_new (w : World) (y : S52) : ColBox (w.alloc (.cells #[.string y.f0, .int .i64 y.f1, .int .i64 y.f2] 52)) (.pointer (some ⟨w.heap.size, 0, none⟩)) y := ⟨_, rfl, blk_new _ _ _⟩
abbrev put3 (w : World) (g : Nat) (u0 u1 u2 : Value) : World := ((w.setCell ⟨g, 0, none⟩ u0).setCell ⟨g, 1, none⟩ u1).setCell ⟨g, 2, none⟩ u2
theorem put3_other {w : World} {g k : Nat} (u0 u1 u2 : Value) (h : k ≠ g) : (put3 w g u0 u1 u2).heap[k]? = w.heap[k]? := by
  unfold put3
  rw [Below.heap_setCell _ _ _ _ h, Below.heap_setCell _ _ _ _ h, Below.heap_setCell _ _ _ _ h]
theorem put3_below {B : Nat} {w0 w : World} {g : Nat} (h : Below B w0 w) (hg : B ≤ g) (u0 u1 u2 : Value) : Below B w0 (put3 w g u0 u1 u2) :=
  ((h.setCell (p := ⟨g, 0, none⟩) hg u0).setCell (p := ⟨g, 1, none⟩) hg u1).setCell (p := ⟨g, 2, none⟩) hg u2
theorem colBox_old {w : World} {y : S52} {g : Nat} {z0 z1 z2 : Value} (hg : w.heap[g]? = some (.cells #[z0, z1, z2] 52 (0, 0))) :
    ColBox (put3 w g (.string y.f0) (.int .i64 y.f1) (.int .i64 y.f2)) (.pointer (some ⟨g, 0, none⟩)) y :=
  ⟨g, rfl, blk_set (blk_set (blk_set hg 0 _) 1 _) 2 _⟩
theorem get40c {w : World} {A : Option Addr} {xs : List S40} (h : Kd.C k40 w A xs.length xs) (i : Nat) (hi : i < xs.length) {x : S40} (hx : xs[i] = x) :
    ∃ ad A3 c3 A4 c4, A = some ad ∧ w.cell? (ad.add (i * 5)) = some (.string x.f0) ∧ w.cell? ⟨(ad.add (i * 5)).block, (ad.add (i * 5)).off + 1, none⟩ = some (.int .i64 x.f1) ∧
      w.cell? ⟨(ad.add (i * 5)).block, (ad.add (i * 5)).off + 2, none⟩ = some (.int .i64 x.f2) ∧
      w.cell? ⟨(ad.add (i * 5)).block, (ad.add (i * 5)).off + 3, none⟩ = some (.slice A3 x.f3.length c3) ∧
      w.cell? ⟨(ad.add (i * 5)).block, (ad.add (i * 5)).off + 4, none⟩ = some (.slice A4 x.f4.length c4) ∧
      k60.C w A3 x.f3.length x.f3 ∧ k52.C w A4 x.f4.length x.f4 := by
  obtain ⟨ad, A3, c3, A4, c4, e, h0, h1, h2, h3, h4, l3, g3, l4, g4⟩ := at_T40 h (i : Int) (by omega) (by omega)
  have hrd : rd_T40 xs i = x := by simp [rd_T40, hi, hx]
  rw [hrd] at h0 h1 h2 h3 h4 g3 g4
  exact ⟨ad, A3, c3, A4, c4, e, h0, h1, h2, h3, h4, g3, g4⟩
abbrev Oc (s : Sch) (A : Option Addr) (c : Nat) : Obj := .cells #[.int .i64 s.ver, .slice A s.fams.length c, .int .i64 s.kind, .string s.fam, .string s.qual, .int .i64 s.typ, .int .i64 s.grp, .int .i64 s.vers, .int .i64 s.life, .int .i64 s.step] 28
attribute [local go_sem high] eqA52
set_option maxHeartbeats 4000000 in
set_option maxRecDepth 100000 in
theorem finds6_any (v : Value) (s : Sch) (w : World) (h : Sc w v s) : Calls Try.prog 6 #[v] w (RetB w true) := by
  have HSC := Aside0.mk h
  obtain ⟨vf, rfl, hs⟩ := h
  have hmax := hs.len
  obtain ⟨A, c, rfl, _, hC⟩ := hs
  have HC := Aside0.mk hC
  clear hC
  have HB0 := Aside0.mk (below_alloc (Below.refl _ w) (Oc s A c))
  have HA0 := Aside0.mk (blk_new w #[.int .i64 s.ver, .slice A s.fams.length c, .int .i64 s.kind, .string s.fam, .string s.qual, .int .i64 s.typ, .int .i64 s.grp, .int .i64 s.vers, .int .i64 s.life, .int .i64 s.step] 28)
  go_enter Try.func6, Try.ntmps6
  go_wp2_with fail
  refine (alive_any _).mono ?_
  rintro e w1 ⟨rfl, hb⟩
  have HA1 := Aside0.mk (blk_keep hb HA0.out)
  have HB1 := Aside0.mk (bb HB0.out hb)
  have ga := blk_cell HA1.out
  clear hb HA0 HB0
  go_wp2_with fail
  clear ga
  refine (long_any _ s _ (HSC.out.below HB1.out)).mono ?_
  rintro e w2 ⟨b, rfl, hb, hsm⟩
  have HA2 := Aside0.mk (blk_keep hb HA1.out)
  have HB2 := Aside0.mk (bb HB1.out hb)
  have ga := blk_cell HA2.out
  clear hb HA1 HB1
  cases b with
  | true =>
    clear hsm
    go_wp2
    go_ret
    exact ⟨rfl, HB2.out⟩
  | false =>
    have HSM := Aside0.mk (hsm rfl)
    clear hsm
    go_wp2_with fail
    clear ga
    rcases hr : rightB s with _ | _
    · refine (right_any _ s _ (HSC.out.below HB2.out)).mono ?_
      rw [hr]
      rintro e w3 ⟨rfl, hb⟩
      have HB3 := Aside0.mk (bb HB2.out hb)
      clear hb
      go_wp2
      go_ret
      exact ⟨rfl, HB3.out⟩
    · refine (right_any _ s _ (HSC.out.below HB2.out)).mono ?_
      rw [hr]
      rintro e w3 ⟨rfl, hb⟩
      have HA3 := Aside0.mk (blk_keep hb HA2.out)
      have HB3 := Aside0.mk (bb HB2.out hb)
      have HR := Aside0.mk hr
      have ga := blk_cell HA3.out
      clear hb HA2 HB2 hr
      go_wp2
      clear ga
      go_loopg [3, 4, 5, 6, 7, 8] s.fams.length (fun gg s3 _ _ _ _ _ wr => ∃ kk : Nat, kk ≤ s.fams.length ∧ s.fams.length - kk ≤ gg ∧ s3 = .int .i64 kk ∧ Aside0 (Below w.heap.size w wr) ∧ Aside0 (wr.heap[w.heap.size]? = some (Oc s A c)))
      case atStart => exact ⟨0, by omega, by omega, rfl, HB3, HA3⟩
      case round =>
        clear HA3 HB3
        obtain ⟨kk, hkk, hg, rfl, BW, HA⟩ := hrel
        by_cases hlt : kk < s.fams.length
        · have hltz : (kk : Int) < (s.fams.length : Int) := by omega
          have ga := blk_cell HA.out
          obtain ⟨ad, A3, c3, A4, c4, rfl, h0, h1, h2, h3, h4, hfm⟩ := get40 (Kd.C_below HC.out BW.out) kk hlt
          have HFIND := Aside0.mk (fun v W (h : Sc W v s) => find_any v s s.fams[kk].f0 W h (fun f hf => by have := HSM.out.2.2.2 f hf; have := this.2; omega))
          rw [find_right (right_names HR.out) hlt] at HFIND
          generalize hx : s.fams[kk] = x at h0 h1 h2 h3 h4 hfm HFIND
          go_upto_region 8 with fail
          go_cut [4, 5] (fun s4 s5 wx => s5 = .bool true ∧ Aside0 (FamBox wx s4 x) ∧ Aside0 (Below w.heap.size w wx) ∧ Aside0 (wx.heap[w.heap.size]? = some (Oc s (some ad) c)))
          case first =>
            have HNE := Aside0.mk (show w.heap.size ≠ wr.heap.size by have := blk_lt HA.out; omega)
            have gb := fun o => blk_cell (blk_old (w := wr) HA.out o)
            have ha0 := fun o => pw_cell_below (w1 := wr.alloc o) (below_alloc (Below.refl _ wr) o) h0
            go_region_law (go_simp; go_at_call 27; refine (HFIND.out _ _ (HSC.out.below (by with_reducible repeat (first | exact BW.out | refine Below.drew ?_ | refine bba ?_ _)))).mono ?_; rintro e w8 ⟨v1, rfl, ⟨u3, u4, rfl, n3, n4⟩, hb2⟩; obtain ⟨B3, d3, rfl⟩ := Kd.N_slice n3; obtain ⟨B4, d4, rfl⟩ := Kd.N_slice n4; have HF8 := Aside0.mk (show Fm w8 (.agg #[.string x.f0, .int .i64 x.f1, .int .i64 x.f2, .slice B3 x.f3.length d3, .slice B4 x.f4.length d4]) x from ⟨_, _, rfl, n3.sl, n4.sl⟩); have HN3 := Aside0.mk n3; have HN4 := Aside0.mk n4; have hbr : Below wr.heap.size wr w8 := bb (by with_reducible repeat (first | exact Below.refl _ _ | refine Below.drew ?_ | refine bba ?_ _)) hb2; have HB8 := Aside0.mk (bb BW.out hbr); have HA8 := Aside0.mk (blk_keep hbr HA.out); clear hbr; (first | (have g8 : w8.heap[wr.heap.size]? = some (.cells #[.string ⟨#[]⟩, .int .i64 0, .int .i64 0, .slice none 0 0, .slice none 0 0] 40 (0, 0)) := blk_keep hb2 (blk_new wr _ _); have gc8 := blk_cell g8; have gf8 := blk_frozen g8; have HG8 := Aside0.mk g8; clear g8) | skip); clear hb2 n3 n4)
            all_goals
              go_wp2
              go_meet
              refine ⟨rfl, ⟨?_⟩, ⟨?_⟩, ⟨?_⟩⟩
            all_goals with_reducible first
              | exact famBox_new HF8.out
              | exact bba HB8.out _
              | exact blk_old HA8.out _
              | exact famBox_old HG8.out (Nw.lower HN3.out (by simp)) (Nw.lower HN4.out (by simp))
              | exact put5_below HB8.out BW.out.size _ _ _ _ _
              | exact (put5_other _ _ _ _ _ HNE.out).trans HA8.out
          case rest =>
            obtain ⟨rfl, HFB, BW2, HA2⟩ := hcut
            obtain ⟨wd, rfl⟩ : ∃ wd : World, wd = wc := ⟨_, rfl⟩
            obtain ⟨g, B3, d3, B4, d4, rfl, hg2, hfm2⟩ := HFB.out
            have HFM := Aside0.mk hfm2
            have HG2 := Aside0.mk hg2
            clear ga h0 h1 h2 h3 h4 hfm HFB HFIND BW HA
            have ga := blk_cell HA2.out
            have gg := blk_cell hg2
            obtain ⟨ad2, A5, c5, A6, c6, he, h0, h1, h2, h3, h4, hfm3⟩ := get40 (Kd.C_below HC.out BW2.out) kk hlt
            injection he with he
            subst he
            rw [hx] at h0 h1 h2 h3 h4 hfm3
            have HS28 := Aside0.mk (fun W (hb : Below wd.heap.size wd W) => (eq40_iff x x).2 rfl ▸ same28_any _ _ x x W (hfm2.below hb) (hfm3.below hb))
            have HFX := Aside0.mk hfm3
            have HX := Aside0.mk hx
            clear hfm2 hfm3 hg2 hx
            go_upto_region 9 with fail
            go_cut [47] (fun s47 wx => s47 = .bool false ∧ Aside0 (Below wd.heap.size wd wx))
            case first =>
              go_region_law (go_simp; go_at_call 28; refine (HS28.out _ (by with_reducible repeat (first | exact Below.refl _ _ | refine Below.drew ?_ | refine bba ?_ _))).mono ?_; rintro e w8 ⟨rfl, hb2⟩; have HB8 := Aside0.mk (show Below wd.heap.size wd w8 from bb (by with_reducible repeat (first | exact Below.refl _ _ | refine Below.drew ?_ | refine bba ?_ _)) hb2); clear hb2)
              all_goals
                go_wp2
                go_meet
                exact ⟨rfl, HB8⟩
            case rest =>
              obtain ⟨rfl, HB9⟩ := hcut
              have HG9 := Aside0.mk (blk_keep HB9.out HG2.out)
              have hm4 : x.f4.length ≤ 9223372036854775807 := by
                obtain ⟨_, _, _, _, q⟩ := HFX.out
                exact q.len
              clear ga gg h0 h1 h2 h3 h4 HS28
              go_wp2
              have gg := blk_cell HG9.out
              go_loopg [6, 7, 8] x.f4.length (fun gg s6 _ _ w3 => ∃ jj : Nat, jj ≤ x.f4.length ∧ x.f4.length - jj ≤ gg ∧ s6 = .int .i64 jj ∧ Aside0 (Below wd.heap.size wd w3))
              case atStart => exact ⟨0, by omega, by omega, rfl, HB9⟩
              case round =>
                clear HB9 HG9 gg
                obtain ⟨jj, hjj, hg2, rfl, BI⟩ := hrel
                have HG := Aside0.mk (blk_keep BI.out HG2.out)
                have HA := Aside0.mk (blk_keep BI.out HA2.out)
                have gg := blk_cell HG.out
                have ga := blk_cell HA.out
                by_cases hltj : jj < x.f4.length
                · have hltjz : (jj : Int) < (x.f4.length : Int) := by omega
                  obtain ⟨ad2, A5, c5, A6, c6, he, _, _, _, _, h4, _, hC6⟩ := get40c (Kd.C_below HC.out (bb BW2.out BI.out)) kk hlt HX.out
                  injection he with he
                  subst he
                  obtain ⟨ad6, rfl, q0, q1, q2⟩ := get52 hC6 jj hltj
                  have HCOL := Aside0.mk (fun v W (h : Fm W v x) => column_any v x x.f4[jj].f0 W h)
                  rw [col_right (fam_cols (right_fam HR.out x (HX.out ▸ List.getElem_mem hlt))) hltj] at HCOL
                  generalize x.f4[jj] = y at q0 q1 q2 HCOL
                  clear hC6
                  have h4' := fun o => pw_cell_below (w1 := wr.alloc o) (below_alloc (Below.refl _ wr) o) h4
                  have q0' := fun o => pw_cell_below (w1 := wr.alloc o) (below_alloc (Below.refl _ wr) o) q0
                  have ga' := fun o => blk_cell (blk_old (w := wr) HA.out o)
                  have gg' := fun o => blk_cell (blk_old (w := wr) HG.out o)
                  obtain ⟨we, hwe⟩ : ∃ we : World, we = wr := ⟨_, rfl⟩
                  subst hwe
                  go_upto_region 14 with fail
                  go_cut [7, 8] (fun s7 s8 wx => s8 = .bool true ∧ Aside0 (ColBox wx s7 y) ∧ Aside0 (Below we.heap.size we wx))
                  case first =>
                    go_region_law (go_simp; go_at_call 29; refine (HCOL.out _ _ (HFM.out.below (bb BI.out (by with_reducible repeat (first | exact Below.refl _ _ | refine Below.drew ?_ | refine bba ?_ _))))).mono ?_; rintro e w8 ⟨rfl, hb2⟩; have HB8 := Aside0.mk (show Below we.heap.size we w8 from bb (by with_reducible repeat (first | exact Below.refl _ _ | refine Below.drew ?_ | refine bba ?_ _)) hb2); (first | (have g8 : w8.heap[we.heap.size]? = some (.cells #[.string ⟨#[]⟩, .int .i64 0, .int .i64 0] 52 (0, 0)) := blk_keep hb2 (blk_new we _ _); have gc8 := blk_cell g8; have gf8 := blk_frozen g8; have HG8 := Aside0.mk g8; clear g8) | skip); clear hb2)
                    all_goals
                      go_wp2
                      go_meet
                      refine ⟨rfl, ⟨?_⟩, ⟨?_⟩⟩
                    all_goals with_reducible first
                      | exact colBox_new _ _
                      | exact bba HB8.out _
                      | exact colBox_old HG8.out
                      | exact put3_below HB8.out (Nat.le_refl _) _ _ _
                  case rest =>
                    obtain ⟨rfl, HCB, BC⟩ := hcut
                    obtain ⟨gc, rfl, hgc⟩ := HCB.out
                    have h4 := pw_cell_below BC.out h4
                    have q0 := pw_cell_below BC.out q0
                    have q1 := pw_cell_below BC.out q1
                    have q2 := pw_cell_below BC.out q2
                    have ga := blk_cell (blk_keep BC.out HA.out)
                    have gc1 := blk_cell hgc
                    have HBI2 := Aside0.mk (bb BI.out BC.out)
                    clear h4' q0' ga' gg' gg HCB HCOL hgc
                    go_upto_region 15 with fail
                    go_quiet (fail)
                    go_wp2
                    go_roundg (x.f4.length - (jj + 1))
                    case measure => omega
                    case rel => exact ⟨jj + 1, by omega, by omega, by go_num, ⟨below_dN HBI2.out _⟩⟩
                · have hltjz : ¬ (jj : Int) < (x.f4.length : Int) := by omega
                  go_wp2
                  go_roundg (s.fams.length - (kk + 1))
                  case measure => omega
                  case rel => exact ⟨kk + 1, by omega, by omega, by go_num, ⟨bb BW2.out BI.out⟩, HA⟩
        · have hltz : ¬ (kk : Int) < (s.fams.length : Int) := by omega
          have ga := blk_cell HA.out
          go_wp2
          go_ret
          exact ⟨rfl, BW.out⟩
end Go.Proofs.Ytmgpoafoljkknaa.My
