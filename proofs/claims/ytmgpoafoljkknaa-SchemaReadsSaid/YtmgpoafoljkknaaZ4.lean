/- What the reference's family reads, and its contract. Conditions: bytes are at most a million. -/
import Derived.Test.YtmgpoafoljkknaaZ2
import Derived.Deep.RegionHeld3
import Derived.Deep.DeepCutAuto
namespace Go.Proofs.Ytmgpoafoljkknaa.My
open Go.RowKit Go.Proofs.YtmgpoafoljkknaaW.PrintWords Go.Proofs.YtmgpoafoljkknaaW.PrintLast Go.Proofs.YtmgpoafoljkknaaW.PrintMore PSchemaReads
def rLay : Nat → List (List UInt8) → List S60 × List (List UInt8)
  | 0, p => ([], p)
  | n + 1, a :: b :: r => (⟨numOf a, numOf b⟩ :: (rLay n r).1, (rLay n r).2)
  | _ + 1, p => ([], p)
def rCol : List (List UInt8) → List S52
  | a :: b :: c :: r => ⟨strB a, numOf b, numOf c⟩ :: rCol r
  | _ => []
/-- The family of a list's parts, as the reference reads it. -/
def refFamL (l : List (List UInt8)) : S40 := if l.length < 4 then z40 else
  ⟨strB (pt l 0), numOf (pt l 1), numOf (pt l 2), (rLay (min (numOf (pt l 3)).toNat 3) (l.drop 4)).1, rCol (rLay (min (numOf (pt l 3)).toNat 3) (l.drop 4)).2⟩
def refFam (b : List UInt8) : S40 := match partsL b with | none => z40 | some l => refFamL l
theorem rLay_short (n : Nat) {p : List (List UInt8)} (h : p.length < 2) : rLay n p = ([], p) := by
  match n, p, h with
  | 0, _, _ => rfl
  | _ + 1, [], _ => rfl
  | _ + 1, [_], _ => rfl
theorem rCol_short {p : List (List UInt8)} (h : p.length < 3) : rCol p = [] := by
  match p, h with
  | [], _ => rfl
  | [_], _ => rfl
  | [_, _], _ => rfl
theorem drop2 {p : List (List UInt8)} {i : Nat} (h : i + 1 < p.length) : p.drop i = pt p i :: pt p (i + 1) :: p.drop (i + 2) := by
  rw [List.drop_eq_getElem_cons (by omega), List.drop_eq_getElem_cons (by omega)]
  simp [pt, List.head?_drop, h, show i < p.length by omega]
theorem drop3 {p : List (List UInt8)} {i : Nat} (h : i + 2 < p.length) : p.drop i = pt p i :: pt p (i + 1) :: pt p (i + 2) :: p.drop (i + 3) := by
  rw [drop2 (by omega), List.drop_eq_getElem_cons (by omega)]
  simp [pt, List.head?_drop, h]
/-- A part of a row of parts, in whatever world comes behind. -/
theorem part_at {w : World} {A : Option Addr} {l : List (List UInt8)} (hC : Kd.C kR w A l.length l) (hs : ∀ b ∈ l, b.length ≤ 1000000) (i : Nat) (hi : i < l.length) :
    ∃ ad B d, A = some ad ∧ (pt l i).length ≤ d ∧ (pt l i).length ≤ 1000000 ∧ ∀ W, Below w.heap.size w W → W.cell? (ad.add i) = some (.slice B (pt l i).length d) ∧ Sl kB W (.slice B (pt l i).length d) (pt l i) ∧
      (convert 22 9 (.slice B (pt l i).length d)).run Try.prog W = .ok (.string (strB (pt l i))) W := by
  have hp : pt l i = l[i] := by simp [pt, List.head?_drop, hi]
  obtain ⟨ad, B, d, rfl, h0, hd, hB⟩ := getR hC i hi
  rw [hp]
  refine ⟨ad, B, d, rfl, hd, hs _ (List.getElem_mem hi), fun W hb => ⟨pw_cell_below hb h0, ⟨B, d, rfl, hd, Kd.C_below hB hb⟩, ?_⟩⟩
  have hcs := Kd.C_string (P := Try.prog) (c := d) Try.underlying22 Try.underlying5 Try.underlying9 (ints_of (Kd.C_below hB hb))
  rw [strB_nums] at hcs
  exact hcs
/-- The box of a family that is being read. -/
def RBox (w1 w : World) (p : Value) (n : ByteArray) (a b : Int) (v3 v4 : Value) : Prop := ∃ g, p = .pointer (some ⟨g, 0, none⟩) ∧ w1.heap.size ≤ g ∧ w.heap[g]? = some (.cells #[.string n, .int .i64 a, .int .i64 b, v3, v4] 40 (0, 0))
theorem rbox_new {w1 w : World} {n : ByteArray} {a b : Int} {v3 v4 : Value} (h : Below w1.heap.size w1 w) : RBox w1 (w.alloc (.cells #[.string n, .int .i64 a, .int .i64 b, v3, v4] 40)) (.pointer (some ⟨w.heap.size, 0, none⟩)) n a b v3 v4 :=
  ⟨_, rfl, h.size, blk_new _ _ _⟩
theorem rbox_old {w1 w : World} {n : ByteArray} {a b : Int} {v3 v4 z0 z1 z2 z3 z4 : Value} {g : Nat} (h : w.heap[g]? = some (.cells #[z0, z1, z2, z3, z4] 40 (0, 0))) (hg : w1.heap.size ≤ g) :
    RBox w1 (((((w.setCell ⟨g, 0, none⟩ (.string n)).setCell ⟨g, 1, none⟩ (.int .i64 a)).setCell ⟨g, 2, none⟩ (.int .i64 b)).setCell ⟨g, 3, none⟩ v3).setCell ⟨g, 4, none⟩ v4) (.pointer (some ⟨g, 0, none⟩)) n a b v3 v4 :=
  ⟨g, rfl, hg, blk_set (blk_set (blk_set (blk_set (blk_set h 0 _) 1 _) 2 _) 3 _) 4 _⟩
theorem rLay_step {n : Nat} {p : List (List UInt8)} {i : Nat} (h : i + 1 < p.length) : rLay (n + 1) (p.drop i) = (⟨numOf (pt p i), numOf (pt p (i + 1))⟩ :: (rLay n (p.drop (i + 2))).1, (rLay n (p.drop (i + 2))).2) := by
  rw [drop2 h, rLay]
theorem rCol_step {p : List (List UInt8)} {i : Nat} (h : i + 2 < p.length) : rCol (p.drop i) = ⟨strB (pt p i), numOf (pt p (i + 1)), numOf (pt p (i + 2))⟩ :: rCol (p.drop (i + 3)) := by
  rw [drop3 h, rCol]
set_option linter.unusedSimpArgs false in
set_option maxHeartbeats 8000000 in
set_option maxRecDepth 100000 in
theorem rfam59 (v : Value) (b : List UInt8) (w : World) (hs : Sl kB w v b) (hl : b.length ≤ 1000000) : Calls Try.prog 59 #[v] w (fun e w' => ∃ v1, e = .returned v1 ∧ FmN w.heap.size w' v1 (refFam b) ∧ Below w.heap.size w w') := by
  have HPS := Aside0.mk (fun o => parts57 v b (w.alloc o) (hs.below (below_alloc (Below.refl _ _) o)) hl)
  have HD := Aside0.mk (show refFam b = (match partsL b with | none => z40 | some l => refFamL l) from rfl)
  clear hs
  go_enter Try.func59, Try.ntmps59
  go_wp2_with fail
  refine (HPS.out _).mono ?_
  rintro e w1 ⟨v1, l, ok, rfl, hn, hb, hr⟩
  obtain ⟨A1, c1, rfl⟩ := Kd.N_slice hn
  have a1 := blk_keep hb (blk_new w _ _)
  have HA := Aside0.mk a1
  have gca := blk_cell a1
  have gfa := blk_frozen a1
  have HB := Aside0.mk (((Below.refl w.heap.size w).alloc (Nat.le_refl _) _).trans (hb.mono (by simp)))
  have hmax : l.length ≤ 9223372036854775807 := hn.sl.len
  unfold PartsR at hr
  cases hq : partsL b with
  | none =>
    rw [hq] at hr
    obtain ⟨rfl, rfl⟩ := hr
    have HX := Aside0.mk (show refFam b = z40 by rw [HD.out, hq])
    clear hb hn a1 hq
    go_wp2
    refine bodyPost_ret (v := .agg #[.string ⟨#[]⟩, .int .i64 0, .int .i64 0, .slice none 0 0, .slice none 0 0]) (by simp [results, Try.results59, go_sem, gca]) rfl ⟨_, rfl, ⟨_, _, by rw [HX.out]; rfl, by rw [HX.out]; exact Kd.N_nil _ _ _ _ _, by rw [HX.out]; exact Kd.N_nil _ _ _ _ _⟩, ?_⟩
    with_reducible repeat (first | exact HB.out | refine Below.setCell ?_ (by simp) _)
  | some m =>
    rw [hq] at hr
    obtain ⟨rfl, rfl⟩ := hr
    by_cases h4 : (l.length : Int) < 4
    · have HX := Aside0.mk (show refFam b = z40 by rw [HD.out, hq]; simp only; rw [refFamL, if_pos (by omega)])
      clear hb hn a1 hq
      go_wp2
      refine bodyPost_ret (v := .agg #[.string ⟨#[]⟩, .int .i64 0, .int .i64 0, .slice none 0 0, .slice none 0 0]) (by simp [results, Try.results59, go_sem, gca]) rfl ⟨_, rfl, ⟨_, _, by rw [HX.out]; rfl, by rw [HX.out]; exact Kd.N_nil _ _ _ _ _, by rw [HX.out]; exact Kd.N_nil _ _ _ _ _⟩, ?_⟩
      with_reducible repeat (first | exact HB.out | refine Below.setCell ?_ (by simp) _)
    · have hsm := partsL_small hq
      have HX := Aside0.mk (show refFam b = ⟨strB (pt l 0), numOf (pt l 1), numOf (pt l 2), (rLay (min (numOf (pt l 3)).toNat 3) (l.drop 4)).1, rCol (rLay (min (numOf (pt l 3)).toNat 3) (l.drop 4)).2⟩ by
        rw [HD.out, hq]; simp only; rw [refFamL, if_neg (by omega)])
      have HPT := Aside0.mk (part_at (Kd.N_reads' hn).2.2 (fun x hx => Nat.le_trans (hsm.2 x hx) hl))
      have HLL := Aside0.mk (show l.length ≤ 1000000 by omega)
      clear hb hn a1 hq hsm HD HPS gca gfa
      obtain ⟨ad, B0, d0, rfl, _, hz0, hp0⟩ := HPT.out 0 (by omega)
      obtain ⟨ad', B1, d1, he, _, hz1, hp1⟩ := HPT.out 1 (by omega)
      injection he with he
      subst he
      obtain ⟨ad', B2, d2, he, _, hz2, hp2⟩ := HPT.out 2 (by omega)
      injection he with he
      subst he
      obtain ⟨ad', B3, d3, he, _, hz3, hp3⟩ := HPT.out 3 (by omega)
      injection he with he
      subst he
      rw [Addr.add_zero'] at hp0
      have HP0 := Aside0.mk hp0
      have HP1 := Aside0.mk hp1
      have HP2 := Aside0.mk hp2
      have HP3 := Aside0.mk hp3
      have HN1 := Aside0.mk (fun W hb => num58 _ _ W (hp1 W hb).2.1 hz1)
      have HN2 := Aside0.mk (fun W hb => num58 _ _ W (hp2 W hb).2.1 hz2)
      have HN3 := Aside0.mk (fun W hb => num58 _ _ W (hp3 W hb).2.1 hz3)
      clear hp0 hp1 hp2 hp3 hz0 hz1 hz2 hz3
      have HS : Aside0 (∀ W, Below w1.heap.size w1 W → Below w1.heap.size w1 W ∧ W.cell? ad = some (.slice B0 (pt l 0).length d0) ∧ W.cell? ⟨ad.block, ad.off + 1, none⟩ = some (.slice B1 (pt l 1).length d1) ∧ W.cell? ⟨ad.block, ad.off + 2, none⟩ = some (.slice B2 (pt l 2).length d2) ∧ (convert 22 9 (.slice B0 (pt l 0).length d0)).run Try.prog W = .ok (.string (strB (pt l 0))) W) :=
        ⟨fun W hb => ⟨hb, (HP0.out W hb).1, (HP1.out W hb).1, (HP2.out W hb).1, (HP0.out W hb).2.2⟩⟩
      have HBW := Aside0.mk (Below.refl w1.heap.size w1)
      have i0 : 0 < l.length := by omega
      have i1 : (1 : Int) < (l.length : Int) := by omega
      have i2 : (2 : Int) < (l.length : Int) := by omega
      have i3 : (3 : Int) < (l.length : Int) := by omega
      go_upto_region 4 with fail
      go_cut [5] (fun s5 wx => Aside0 (RBox w1 wx s5 (strB (pt l 0)) (numOf (pt l 1)) (numOf (pt l 2)) (.slice none 0 0) (.slice none 0 0)) ∧ Aside0 (Below w1.heap.size w1 wx))
      case first =>
        go_region_held3 (fun W => Below w1.heap.size w1 W ∧ W.cell? ad = some (.slice B0 (pt l 0).length d0) ∧ W.cell? ⟨ad.block, ad.off + 1, none⟩ = some (.slice B1 (pt l 1).length d1) ∧ W.cell? ⟨ad.block, ad.off + 2, none⟩ = some (.slice B2 (pt l 2).length d2) ∧ (convert 22 9 (.slice B0 (pt l 0).length d0)).run Try.prog W = .ok (.string (strB (pt l 0))) W)
          (exact HS.out _ (by with_reducible repeat (first | exact HBW.out | refine Below.drew ?_ | refine bba ?_ _ | refine Below.setCell ?_ (by first | exact Nat.le_refl _ | exact HBV.out.size | exact HBW.out.size) _)))
          (first
            | (go_at_call 58; (with_reducible refine (HN1.out _ (And.left ‹Below w1.heap.size w1 _ ∧ _›)).mono ?_); rintro e w8 ⟨rfl, hb2⟩; have HBV := HBW; have HBW := Aside0.mk (bb (And.left ‹Below w1.heap.size w1 _ ∧ _›) hb2); (first | (have g8 := blk_keep hb2 HG8.out; have gc8 := blk_cell g8; have gf8 := blk_frozen g8; have HG8 := Aside0.mk g8; clear g8) | (have g8 := blk_keep hb2 (blk_new _ #[.string ⟨#[]⟩, .int .i64 0, .int .i64 0, .slice none 0 0, .slice none 0 0] 40); have gc8 := blk_cell g8; have gf8 := blk_frozen g8; have HG8 := Aside0.mk g8; clear g8) | skip); clear hb2)
            | (go_at_call 58; (with_reducible refine (HN2.out _ (And.left ‹Below w1.heap.size w1 _ ∧ _›)).mono ?_); rintro e w8 ⟨rfl, hb2⟩; have HBV := HBW; have HBW := Aside0.mk (bb (And.left ‹Below w1.heap.size w1 _ ∧ _›) hb2); (first | (have g8 := blk_keep hb2 HG8.out; have gc8 := blk_cell g8; have gf8 := blk_frozen g8; have HG8 := Aside0.mk g8; clear g8) | (have g8 := blk_keep hb2 (blk_new _ #[.string ⟨#[]⟩, .int .i64 0, .int .i64 0, .slice none 0 0, .slice none 0 0] 40); have gc8 := blk_cell g8; have gf8 := blk_frozen g8; have HG8 := Aside0.mk g8; clear g8) | skip); clear hb2))
        all_goals
          go_wp2
          go_meet
          refine ⟨⟨?_⟩, ⟨?_⟩⟩
        all_goals with_reducible first
          | exact rbox_new HBW.out
          | exact bba HBW.out _
          | exact rbox_old HG8.out (Nat.le_refl _)
          | exact rbox_old HG8.out HBV.out.size
          | repeat (first | exact HBW.out | refine Below.setCell ?_ (by first | exact Nat.le_refl _ | exact HBV.out.size) _)
      case rest =>
        obtain ⟨HRB, HBC⟩ := hcut
        obtain ⟨g, rfl, hgw, hg⟩ := HRB.out
        obtain ⟨x0, hx0⟩ : ∃ x, strB (pt l 0) = x := ⟨_, rfl⟩
        obtain ⟨x1, hx1⟩ : ∃ x, numOf (pt l 1) = x := ⟨_, rfl⟩
        obtain ⟨x2, hx2⟩ : ∃ x, numOf (pt l 2) = x := ⟨_, rfl⟩
        obtain ⟨x3, hx3⟩ : ∃ x, numOf (pt l 3) = x := ⟨_, rfl⟩
        have HX3 := Aside0.mk (show 0 ≤ x3 by have := numOf_pos (pt l 3); rw [hx3] at this; exact this.1)
        rw [hx0, hx1, hx2] at hg
        rw [hx0, hx1, hx2, hx3] at HX
        rw [hx3] at HN3
        have HG := Aside0.mk hg
        have HGW := Aside0.mk hgw
        have h03 : wc.cell? ⟨ad.block, ad.off + 3, none⟩ = some (.slice B3 (pt l 3).length d3) := (HP3.out _ HBC.out).1
        clear hg hgw HRB HBW HS HP0 HP1 HP2 HN1 HN2 hx0 hx1 hx2 hx3
        go_wp2_with fail
        clear h03
        refine (HN3.out _ HBC.out).mono ?_
        rintro e w2 ⟨rfl, hb2⟩
        have HG2 := Aside0.mk (blk_keep hb2 HG.out)
        have HB2 := Aside0.mk (bb HBC.out hb2)
        clear hb2 HG HBC HN3 HP3 i0 i1 i2 i3
        go_wp2
        go_loopg [7, 8] 3 (fun gg s7 s8 wr => ∃ (i : Nat) (v3 : Value) (acc : List S60), i ≤ 3 ∧ 3 - i ≤ gg ∧ s7 = .int .i64 ((4 + 2 * i : Nat) : Int) ∧ s8 = .int .i64 i ∧ (i : Int) ≤ x3 ∧ Aside0 (acc.length = i) ∧ Aside0 (rLay (min x3.toNat 3) (l.drop 4) = (acc ++ (rLay (min x3.toNat 3 - i) (l.drop (4 + 2 * i))).1, (rLay (min x3.toNat 3 - i) (l.drop (4 + 2 * i))).2)) ∧ Aside0 (Below w1.heap.size w1 wr) ∧ Aside0 (wr.heap[g]? = some (.cells #[.string x0, .int .i64 x1, .int .i64 x2, v3, .slice none 0 0] 40 (0, 0))) ∧ Aside0 (Kd.N k60 60 wr w1.heap.size (fun k => w1.heap.size ≤ k ∧ k ≠ g) v3 acc))
        case atStart => exact ⟨0, .slice none 0 0, [], by omega, by omega, rfl, rfl, HX3.out, ⟨rfl⟩, ⟨by simp⟩, HB2, HG2, ⟨Kd.N_nil _ _ _ _ _⟩⟩
        case round =>
          obtain ⟨i, v3, acc, hi3, hg3, rfl, rfl, hix, HAL, HRL, BW, HGB, HNV⟩ := hrel
          obtain ⟨wq, rfl⟩ : ∃ wq : World, wq = wr := ⟨_, rfl⟩
          obtain ⟨q, hq⟩ : ∃ q, 4 + 2 * i = q := ⟨_, rfl⟩
          rw [hq] at HRL ⊢
          have HQ := Aside0.mk hq
          clear hq
          by_cases dd : (i : Int) < x3 ∧ i < 3 ∧ q + 1 < l.length
          · obtain ⟨d1, d2, d3⟩ := dd
            have d2z : (i : Int) < 3 := by omega
            have d3z : (q : Int) + 1 < (l.length : Int) := by omega
            have dq : (q : Int) < (l.length : Int) := by omega
            have dqn : q < l.length := by omega
            obtain ⟨ad', Ba, da, he, _, hza, hpa⟩ := HPT.out q (by omega)
            injection he with he
            subst he
            obtain ⟨ad', Bb, db, he, _, hzb, hpb⟩ := HPT.out (q + 1) (by omega)
            injection he with he
            subst he
            have HNA := Aside0.mk (fun W hb => num58 _ _ W (hpa W hb).2.1 hza)
            have HNB := Aside0.mk (fun W hb => num58 _ _ W (hpb W hb).2.1 hzb)
            have HS : Aside0 (∀ W, Below w1.heap.size w1 W → Below w1.heap.size w1 W ∧ W.cell? (ad.add q) = some (.slice Ba (pt l q).length da) ∧ W.cell? ⟨ad.block, ad.off + (q + 1), none⟩ = some (.slice Bb (pt l (q + 1)).length db)) :=
              ⟨fun W hb => ⟨hb, (hpa W hb).1, (hpb W hb).1⟩⟩
            have HRL2 := Aside0.mk (show rLay (min x3.toNat 3) (l.drop 4) = ((acc ++ [(⟨numOf (pt l q), numOf (pt l (q + 1))⟩ : S60)]) ++ (rLay (min x3.toNat 3 - (i + 1)) (l.drop (q + 2))).1, (rLay (min x3.toNat 3 - (i + 1)) (l.drop (q + 2))).2) by
              rw [HRL.out, show min x3.toNat 3 - i = (min x3.toNat 3 - (i + 1)) + 1 by omega, rLay_step d3]; simp)
            have HLEN := Aside0.mk (show acc.length ≤ 1000000 by have := HAL.out; omega)
            clear hpa hpb hza hzb
            obtain ⟨y0, hy0⟩ : ∃ x, numOf (pt l q) = x := ⟨_, rfl⟩
            obtain ⟨y1, hy1⟩ : ∃ x, numOf (pt l (q + 1)) = x := ⟨_, rfl⟩
            rw [hy0] at HNA HRL2
            rw [hy1] at HNB HRL2
            clear hy0 hy1
            have gcb := blk_cell HGB.out
            have HBW := BW
            obtain ⟨A3, c3, rfl⟩ := Kd.N_slice HNV.out
            go_upto_region 10 with fail
            go_cut [] (fun wx => ∃ A9 c9, Aside0 (Below w1.heap.size w1 wx) ∧ Aside0 (wx.heap[g]? = some (.cells #[.string x0, .int .i64 x1, .int .i64 x2, .slice A9 (acc.length + 1) c9, .slice none 0 0] 40 (0, 0))) ∧ Aside0 (Kd.N k60 60 wx w1.heap.size (fun k => w1.heap.size ≤ k ∧ k ≠ g) (.slice A9 (acc.length + 1) c9) (acc ++ [(⟨y0, y1⟩ : S60)])))
            case first =>
              have hw1 : IntKind.i64.wrap ((q : Int) + 1) = (q : Int) + 1 := by rw [IntKind.wrap_i64]; have := HLL.out; omega
              have ht1 : ((q : Int) + 1).toNat = q + 1 := by omega
              have hz1 : (0 : Int) ≤ (q : Int) + 1 := by omega
              refine wp_region_held_drew (S := fun W => Below w1.heap.size w1 W ∧ W.cell? (ad.add q) = some (.slice Ba (pt l q).length da) ∧ W.cell? ⟨ad.block, ad.off + (q + 1), none⟩ = some (.slice Bb (pt l (q + 1)).length db)) (by kernel_rfl) (HS.out _ (Below.drew HBW.out)) (fun hHeld => ?_)
              refine wpAnyH_take (i := 0) (oi := _) (v := ?_) rfl (by kernel_rfl) (by kernel_rfl) (by kernel_rfl) (fun _ _ _ h => h) (Or.inl ⟨by rfl, ?_⟩) (by assumption) ?_
              rotate_left
              · (intro wz hSw; (try dsimp only at hSw); go_simp; (try with_reducible rfl))
              try simp only [Act.put, List.setIfInBounds_toArray, List.set_cons_zero, List.set_cons_succ]
              refine wpAnyH_take (i := 2) (oi := _) (v := ?_) rfl (by kernel_rfl) (by kernel_rfl) (by kernel_rfl) (fun _ _ _ h => h) (Or.inl ⟨by rfl, ?_⟩) (by assumption) ?_
              rotate_left
              · (intro wz hSw; (try dsimp only at hSw); go_simp; (try with_reducible rfl))
              try simp only [Act.put, List.setIfInBounds_toArray, List.set_cons_zero, List.set_cons_succ]
              refine wpAnyH_take (i := 3) (oi := _) (v := ?_) rfl (by kernel_rfl) (by kernel_rfl) (by kernel_rfl) (fun _ _ _ h => h) (Or.inl ⟨by rfl, ?_⟩) (by assumption) ?_
              rotate_left
              · (intro wz hSw; (try dsimp only at hSw); go_simp; (try with_reducible rfl))
              try simp only [Act.put, List.setIfInBounds_toArray, List.set_cons_zero, List.set_cons_succ]
              refine wpAnyH_take (i := 4) (oi := _) (v := ?_) rfl (by kernel_rfl) (by kernel_rfl) (by kernel_rfl) (fun _ _ _ h => h) (Or.inl ⟨by rfl, ?_⟩) (by assumption) ?_
              rotate_left
              · (intro wz hSw; (try dsimp only at hSw); go_simp; (try with_reducible rfl))
              try simp only [Act.put, List.setIfInBounds_toArray, List.set_cons_zero, List.set_cons_succ]
              refine wpAnyH_take (i := 5) (oi := _) (v := ?_) rfl (by kernel_rfl) (by kernel_rfl) (by kernel_rfl) (fun _ _ _ h => h) (Or.inl ⟨by rfl, ?_⟩) (by assumption) ?_
              rotate_left
              · (intro wz hSw; (try dsimp only at hSw); go_simp; (try with_reducible rfl))
              try simp only [Act.put, List.setIfInBounds_toArray, List.set_cons_zero, List.set_cons_succ]
              refine wpAnyH_take (i := 7) (oi := _) (v := ?_) rfl (by kernel_rfl) (by kernel_rfl) (by kernel_rfl) (fun _ _ _ h => h) (Or.inl ⟨by rfl, ?_⟩) (by assumption) ?_
              rotate_left
              · (intro wz hSw; (try dsimp only at hSw); go_simp; (try with_reducible rfl))
              try simp only [Act.put, List.setIfInBounds_toArray, List.set_cons_zero, List.set_cons_succ]
              refine wpAnyH_take (i := 8) (oi := _) (v := ?_) rfl (by kernel_rfl) (by kernel_rfl) (by kernel_rfl) (fun _ _ _ h => h) (Or.inl ⟨by rfl, ?_⟩) (by assumption) ?_
              rotate_left
              · (intro wz hSw; (try dsimp only at hSw); go_simp; (try with_reducible rfl))
              try simp only [Act.put, List.setIfInBounds_toArray, List.set_cons_zero, List.set_cons_succ]
              refine wpAnyH_take (i := 9) (oi := _) (v := ?_) rfl (by kernel_rfl) (by kernel_rfl) (by kernel_rfl) (fun _ _ _ h => h) (Or.inl ⟨by rfl, ?_⟩) (by assumption) ?_
              rotate_left
              · (intro wz hSw; (try dsimp only at hSw); go_simp; (try with_reducible rfl))
              try simp only [Act.put, List.setIfInBounds_toArray, List.set_cons_zero, List.set_cons_succ]
              refine wpAnyH_take (i := 10) (oi := _) (v := ?_) rfl (by kernel_rfl) (by kernel_rfl) (by kernel_rfl) (fun _ _ _ h => h) (Or.inl ⟨by rfl, ?_⟩) (by assumption) ?_
              rotate_left
              · (intro wz hSw; (try dsimp only at hSw); go_simp; (try with_reducible rfl))
              try simp only [Act.put, List.setIfInBounds_toArray, List.set_cons_zero, List.set_cons_succ]
              refine wpAnyH_take (i := 11) (oi := _) (v := ?_) rfl (by kernel_rfl) (by kernel_rfl) (by kernel_rfl) (fun _ _ _ h => h) (Or.inl ⟨by rfl, ?_⟩) (by assumption) ?_
              rotate_left
              · (intro wz hSw; (try dsimp only at hSw); go_simp; (try with_reducible rfl))
              try simp only [Act.put, List.setIfInBounds_toArray, List.set_cons_zero, List.set_cons_succ]
              refine wpAnyH_ready (rs := [1, 6]) (by kernel_rfl) (by simp) ?_
              refine AllReadyH.cons (o := _) rfl (fun K hK => ?_) ?_
              · go_simp
                refine hK.out _ _ ?_ (fun hHeld => ?_)
                · exact HS.out _ (by with_reducible repeat (first | exact HBW.out | refine Below.drew ?_ | refine bba ?_ _ | refine Below.setCell ?_ HGW.out _))
                clear hK K
                try simp only [Act.put, List.setIfInBounds_toArray, List.set_cons_zero, List.set_cons_succ]
                refine wpAnyH_ready (rs := [6]) (by kernel_rfl) (by simp) ?_
                refine AllReadyH.cons (o := _) rfl (fun K hK => ?_) ?_
                · (go_simp; go_at_call 58; refine (HNA.out _ hHeld.1).mono ?_; rintro e w8 ⟨rfl, hb2⟩; have HBW := Aside0.mk (bb hHeld.1 hb2); have HGB := Aside0.mk (blk_keep hb2 HGB.out); (first | (with_reducible have hnx := Kd.N_below HNV.out hb2) | (have hnx := Kd.N_below (Kd.N_drew HNV.out) hb2)); have HNV := Aside0.mk hnx; clear hnx; have gcb := blk_cell HGB.out; have gfb := blk_frozen HGB.out; have gcb' := fun o => blk_cell (blk_old HGB.out o); clear hb2)
                  refine hK.out _ _ ?_ (fun hHeld => ?_)
                  · exact HS.out _ (by with_reducible repeat (first | exact HBW.out | refine Below.drew ?_ | refine bba ?_ _ | refine Below.setCell ?_ HGW.out _))
                  clear hK K
                  try simp only [Act.put, List.setIfInBounds_toArray, List.set_cons_zero, List.set_cons_succ]
                  refine wpAnyH_ready (rs := [12]) (by kernel_rfl) (by simp) ?_
                  refine AllReadyH.cons (o := _) rfl (fun K hK => ?_) ?_
                  · (go_simp; go_at_call 58; refine (HNB.out _ hHeld.1).mono ?_; rintro e w8 ⟨rfl, hb2⟩; have HBW := Aside0.mk (bb hHeld.1 hb2); have HGB := Aside0.mk (blk_keep hb2 HGB.out); (first | (with_reducible have hnx := Kd.N_below HNV.out hb2) | (have hnx := Kd.N_below (Kd.N_drew HNV.out) hb2)); have HNV := Aside0.mk hnx; clear hnx; have gcb := blk_cell HGB.out; have gfb := blk_frozen HGB.out; have gcb' := fun o => blk_cell (blk_old HGB.out o); clear hb2)
                    refine hK.out _ _ ?_ (fun hHeld => ?_)
                    · exact HS.out _ (by with_reducible repeat (first | exact HBW.out | refine Below.drew ?_ | refine bba ?_ _ | refine Below.setCell ?_ HGW.out _))
                    clear hK K
                    try simp only [Act.put, List.setIfInBounds_toArray, List.set_cons_zero, List.set_cons_succ]
                    refine wpAnyH_take (i := 13) (oi := _) (v := ?_) rfl (by kernel_rfl) (by kernel_rfl) (by kernel_rfl) (fun _ _ _ h => h) (Or.inl ⟨by rfl, ?_⟩) (by assumption) ?_
                    rotate_left
                    · (intro wz hSw; (try dsimp only at hSw); go_simp; (try with_reducible rfl))
                    try simp only [Act.put, List.setIfInBounds_toArray, List.set_cons_zero, List.set_cons_succ]
                    refine wpAnyH_ready (rs := [14]) (by kernel_rfl) (by simp) ?_
                    refine AllReadyH.cons (o := _) rfl (fun K hK => ?_) ?_
                    · go_simp
                      refine hK.out _ _ ?_ (fun hHeld => ?_)
                      · exact HS.out _ (by with_reducible repeat (first | exact HBW.out | refine Below.drew ?_ | refine bba ?_ _ | refine Below.setCell ?_ HGW.out _))
                      clear hK K
                      try simp only [Act.put, List.setIfInBounds_toArray, List.set_cons_zero, List.set_cons_succ]
                      refine wpAnyH_ready (rs := [15]) (by kernel_rfl) (by simp) ?_
                      refine AllReadyH.cons (o := _) rfl (fun K hK => ?_) ?_
                      · (refine Kd.N_append_step k60 (w0 := w8) w1.heap.size rfl (.tmp 56) (.tmp 69) 37 60 (.agg #[.int .i64 0, .int .i64 0]) 16 rfl Try.underlying37 info60 rfl (by decide) (by omega) (.slice A3 acc.length c3) acc (⟨y0, y1⟩ : S60) [.int .i64 y0, .int .i64 y1] (fun k => w1.heap.size ≤ k ∧ k ≠ g) (fun _ => False) rfl rfl (k60_mkF _ _ _) (fun _ hk => hk.elim) (fun k hk => by have := blk_lt HGB.out; have := HBW.out.size; omega) HNV.out (Below.refl _ _) HBW.out.size (by have := HLEN.out; omega) ?_; intro v3' w9 ho hb hg9 hat; obtain ⟨A9, c9, rfl⟩ := Kd.N_slice ho; have HO := Aside0.mk ho; have HBW := Aside0.mk (HBW.out.trans hb); have f9 := blk_grown HGB.out hg9 (Kd.N_ne HNV.out HGB.out (by decide)); have HGB := Aside0.mk f9; have gcb := blk_cell f9; have gfb := blk_frozen f9; clear ho hb hg9 hat f9)
                        refine hK.out _ _ ?_ (fun hHeld => ?_)
                        · exact HS.out _ (by with_reducible repeat (first | exact HBW.out | refine Below.drew ?_ | refine bba ?_ _ | refine Below.setCell ?_ HGW.out _))
                        clear hK K
                        try simp only [Act.put, List.setIfInBounds_toArray, List.set_cons_zero, List.set_cons_succ]
                        refine wpAnyH_take (i := 16) (oi := _) (v := ?_) rfl (by kernel_rfl) (by kernel_rfl) (by kernel_rfl) (fun _ _ _ h => h) (Or.inl ⟨by rfl, ?_⟩) (by assumption) ?_
                        rotate_left
                        · (intro wz hSw; (try dsimp only at hSw); go_simp; (try with_reducible rfl))
                        try simp only [Act.put, List.setIfInBounds_toArray, List.set_cons_zero, List.set_cons_succ]
                        refine wpAnyH_ready (rs := [17]) (by kernel_rfl) (by simp) ?_
                        refine AllReadyH.cons (o := _) rfl (fun K hK => ?_) ?_
                        · go_simp
                          refine hK.out _ _ ?_ (fun hHeld => ?_)
                          · exact HS.out _ (by with_reducible repeat (first | exact HBW.out | refine Below.drew ?_ | refine bba ?_ _ | refine Below.setCell ?_ HGW.out _))
                          clear hK K
                          try simp only [Act.put, List.setIfInBounds_toArray, List.set_cons_zero, List.set_cons_succ]
                          refine wpAnyH_done (by kernel_rfl) ?_ _
                          (go_wp2; go_meet; exact ⟨A9, c9, ⟨HBW.out.setCell HGW.out _⟩, ⟨blk_set HGB.out 3 _⟩, ⟨by have h1 := HO.out; rw [List.length_append, List.length_singleton] at h1; exact Kd.N_far h1 (fun k hk => hk.2) _⟩⟩)
                        exact AllReadyH.nil
                      exact AllReadyH.nil
                    exact AllReadyH.nil
                  exact AllReadyH.nil
                exact AllReadyH.nil
              refine AllReadyH.cons (o := _) rfl (fun K hK => ?_) ?_
              · (go_simp; go_at_call 58; refine (HNA.out _ hHeld.1).mono ?_; rintro e w8 ⟨rfl, hb2⟩; have HBW := Aside0.mk (bb hHeld.1 hb2); have HGB := Aside0.mk (blk_keep hb2 HGB.out); (first | (with_reducible have hnx := Kd.N_below HNV.out hb2) | (have hnx := Kd.N_below (Kd.N_drew HNV.out) hb2)); have HNV := Aside0.mk hnx; clear hnx; have gcb := blk_cell HGB.out; have gfb := blk_frozen HGB.out; have gcb' := fun o => blk_cell (blk_old HGB.out o); clear hb2)
                refine hK.out _ _ ?_ (fun hHeld => ?_)
                · exact HS.out _ (by with_reducible repeat (first | exact HBW.out | refine Below.drew ?_ | refine bba ?_ _ | refine Below.setCell ?_ HGW.out _))
                clear hK K
                try simp only [Act.put, List.setIfInBounds_toArray, List.set_cons_zero, List.set_cons_succ]
                refine wpAnyH_ready (rs := [1, 12]) (by kernel_rfl) (by simp) ?_
                refine AllReadyH.cons (o := _) rfl (fun K hK => ?_) ?_
                · go_simp
                  refine hK.out _ _ ?_ (fun hHeld => ?_)
                  · exact HS.out _ (by with_reducible repeat (first | exact HBW.out | refine Below.drew ?_ | refine bba ?_ _ | refine Below.setCell ?_ HGW.out _))
                  clear hK K
                  try simp only [Act.put, List.setIfInBounds_toArray, List.set_cons_zero, List.set_cons_succ]
                  refine wpAnyH_ready (rs := [12]) (by kernel_rfl) (by simp) ?_
                  refine AllReadyH.cons (o := _) rfl (fun K hK => ?_) ?_
                  · (go_simp; go_at_call 58; refine (HNB.out _ hHeld.1).mono ?_; rintro e w8 ⟨rfl, hb2⟩; have HBW := Aside0.mk (bb hHeld.1 hb2); have HGB := Aside0.mk (blk_keep hb2 HGB.out); (first | (with_reducible have hnx := Kd.N_below HNV.out hb2) | (have hnx := Kd.N_below (Kd.N_drew HNV.out) hb2)); have HNV := Aside0.mk hnx; clear hnx; have gcb := blk_cell HGB.out; have gfb := blk_frozen HGB.out; have gcb' := fun o => blk_cell (blk_old HGB.out o); clear hb2)
                    refine hK.out _ _ ?_ (fun hHeld => ?_)
                    · exact HS.out _ (by with_reducible repeat (first | exact HBW.out | refine Below.drew ?_ | refine bba ?_ _ | refine Below.setCell ?_ HGW.out _))
                    clear hK K
                    try simp only [Act.put, List.setIfInBounds_toArray, List.set_cons_zero, List.set_cons_succ]
                    refine wpAnyH_take (i := 13) (oi := _) (v := ?_) rfl (by kernel_rfl) (by kernel_rfl) (by kernel_rfl) (fun _ _ _ h => h) (Or.inl ⟨by rfl, ?_⟩) (by assumption) ?_
                    rotate_left
                    · (intro wz hSw; (try dsimp only at hSw); go_simp; (try with_reducible rfl))
                    try simp only [Act.put, List.setIfInBounds_toArray, List.set_cons_zero, List.set_cons_succ]
                    refine wpAnyH_ready (rs := [14]) (by kernel_rfl) (by simp) ?_
                    refine AllReadyH.cons (o := _) rfl (fun K hK => ?_) ?_
                    · go_simp
                      refine hK.out _ _ ?_ (fun hHeld => ?_)
                      · exact HS.out _ (by with_reducible repeat (first | exact HBW.out | refine Below.drew ?_ | refine bba ?_ _ | refine Below.setCell ?_ HGW.out _))
                      clear hK K
                      try simp only [Act.put, List.setIfInBounds_toArray, List.set_cons_zero, List.set_cons_succ]
                      refine wpAnyH_ready (rs := [15]) (by kernel_rfl) (by simp) ?_
                      refine AllReadyH.cons (o := _) rfl (fun K hK => ?_) ?_
                      · (refine Kd.N_append_step k60 (w0 := w8) w1.heap.size rfl (.tmp 56) (.tmp 69) 37 60 (.agg #[.int .i64 0, .int .i64 0]) 16 rfl Try.underlying37 info60 rfl (by decide) (by omega) (.slice A3 acc.length c3) acc (⟨y0, y1⟩ : S60) [.int .i64 y0, .int .i64 y1] (fun k => w1.heap.size ≤ k ∧ k ≠ g) (fun _ => False) rfl rfl (k60_mkF _ _ _) (fun _ hk => hk.elim) (fun k hk => by have := blk_lt HGB.out; have := HBW.out.size; omega) HNV.out (Below.refl _ _) HBW.out.size (by have := HLEN.out; omega) ?_; intro v3' w9 ho hb hg9 hat; obtain ⟨A9, c9, rfl⟩ := Kd.N_slice ho; have HO := Aside0.mk ho; have HBW := Aside0.mk (HBW.out.trans hb); have f9 := blk_grown HGB.out hg9 (Kd.N_ne HNV.out HGB.out (by decide)); have HGB := Aside0.mk f9; have gcb := blk_cell f9; have gfb := blk_frozen f9; clear ho hb hg9 hat f9)
                        refine hK.out _ _ ?_ (fun hHeld => ?_)
                        · exact HS.out _ (by with_reducible repeat (first | exact HBW.out | refine Below.drew ?_ | refine bba ?_ _ | refine Below.setCell ?_ HGW.out _))
                        clear hK K
                        try simp only [Act.put, List.setIfInBounds_toArray, List.set_cons_zero, List.set_cons_succ]
                        refine wpAnyH_take (i := 16) (oi := _) (v := ?_) rfl (by kernel_rfl) (by kernel_rfl) (by kernel_rfl) (fun _ _ _ h => h) (Or.inl ⟨by rfl, ?_⟩) (by assumption) ?_
                        rotate_left
                        · (intro wz hSw; (try dsimp only at hSw); go_simp; (try with_reducible rfl))
                        try simp only [Act.put, List.setIfInBounds_toArray, List.set_cons_zero, List.set_cons_succ]
                        refine wpAnyH_ready (rs := [17]) (by kernel_rfl) (by simp) ?_
                        refine AllReadyH.cons (o := _) rfl (fun K hK => ?_) ?_
                        · go_simp
                          refine hK.out _ _ ?_ (fun hHeld => ?_)
                          · exact HS.out _ (by with_reducible repeat (first | exact HBW.out | refine Below.drew ?_ | refine bba ?_ _ | refine Below.setCell ?_ HGW.out _))
                          clear hK K
                          try simp only [Act.put, List.setIfInBounds_toArray, List.set_cons_zero, List.set_cons_succ]
                          refine wpAnyH_done (by kernel_rfl) ?_ _
                          (go_wp2; go_meet; exact ⟨A9, c9, ⟨HBW.out.setCell HGW.out _⟩, ⟨blk_set HGB.out 3 _⟩, ⟨by have h1 := HO.out; rw [List.length_append, List.length_singleton] at h1; exact Kd.N_far h1 (fun k hk => hk.2) _⟩⟩)
                        exact AllReadyH.nil
                      exact AllReadyH.nil
                    exact AllReadyH.nil
                  exact AllReadyH.nil
                refine AllReadyH.cons (o := _) rfl (fun K hK => ?_) ?_
                · (go_simp; go_at_call 58; refine (HNB.out _ hHeld.1).mono ?_; rintro e w8 ⟨rfl, hb2⟩; have HBW := Aside0.mk (bb hHeld.1 hb2); have HGB := Aside0.mk (blk_keep hb2 HGB.out); (first | (with_reducible have hnx := Kd.N_below HNV.out hb2) | (have hnx := Kd.N_below (Kd.N_drew HNV.out) hb2)); have HNV := Aside0.mk hnx; clear hnx; have gcb := blk_cell HGB.out; have gfb := blk_frozen HGB.out; have gcb' := fun o => blk_cell (blk_old HGB.out o); clear hb2)
                  refine hK.out _ _ ?_ (fun hHeld => ?_)
                  · exact HS.out _ (by with_reducible repeat (first | exact HBW.out | refine Below.drew ?_ | refine bba ?_ _ | refine Below.setCell ?_ HGW.out _))
                  clear hK K
                  try simp only [Act.put, List.setIfInBounds_toArray, List.set_cons_zero, List.set_cons_succ]
                  refine wpAnyH_take (i := 13) (oi := _) (v := ?_) rfl (by kernel_rfl) (by kernel_rfl) (by kernel_rfl) (fun _ _ _ h => h) (Or.inl ⟨by rfl, ?_⟩) (by assumption) ?_
                  rotate_left
                  · (intro wz hSw; (try dsimp only at hSw); go_simp; (try with_reducible rfl))
                  try simp only [Act.put, List.setIfInBounds_toArray, List.set_cons_zero, List.set_cons_succ]
                  refine wpAnyH_ready (rs := [1, 14]) (by kernel_rfl) (by simp) ?_
                  refine AllReadyH.cons (o := _) rfl (fun K hK => ?_) ?_
                  · go_simp
                    refine hK.out _ _ ?_ (fun hHeld => ?_)
                    · exact HS.out _ (by with_reducible repeat (first | exact HBW.out | refine Below.drew ?_ | refine bba ?_ _ | refine Below.setCell ?_ HGW.out _))
                    clear hK K
                    try simp only [Act.put, List.setIfInBounds_toArray, List.set_cons_zero, List.set_cons_succ]
                    refine wpAnyH_ready (rs := [14]) (by kernel_rfl) (by simp) ?_
                    refine AllReadyH.cons (o := _) rfl (fun K hK => ?_) ?_
                    · go_simp
                      refine hK.out _ _ ?_ (fun hHeld => ?_)
                      · exact HS.out _ (by with_reducible repeat (first | exact HBW.out | refine Below.drew ?_ | refine bba ?_ _ | refine Below.setCell ?_ HGW.out _))
                      clear hK K
                      try simp only [Act.put, List.setIfInBounds_toArray, List.set_cons_zero, List.set_cons_succ]
                      refine wpAnyH_ready (rs := [15]) (by kernel_rfl) (by simp) ?_
                      refine AllReadyH.cons (o := _) rfl (fun K hK => ?_) ?_
                      · (refine Kd.N_append_step k60 (w0 := w8) w1.heap.size rfl (.tmp 56) (.tmp 69) 37 60 (.agg #[.int .i64 0, .int .i64 0]) 16 rfl Try.underlying37 info60 rfl (by decide) (by omega) (.slice A3 acc.length c3) acc (⟨y0, y1⟩ : S60) [.int .i64 y0, .int .i64 y1] (fun k => w1.heap.size ≤ k ∧ k ≠ g) (fun _ => False) rfl rfl (k60_mkF _ _ _) (fun _ hk => hk.elim) (fun k hk => by have := blk_lt HGB.out; have := HBW.out.size; omega) HNV.out (Below.refl _ _) HBW.out.size (by have := HLEN.out; omega) ?_; intro v3' w9 ho hb hg9 hat; obtain ⟨A9, c9, rfl⟩ := Kd.N_slice ho; have HO := Aside0.mk ho; have HBW := Aside0.mk (HBW.out.trans hb); have f9 := blk_grown HGB.out hg9 (Kd.N_ne HNV.out HGB.out (by decide)); have HGB := Aside0.mk f9; have gcb := blk_cell f9; have gfb := blk_frozen f9; clear ho hb hg9 hat f9)
                        refine hK.out _ _ ?_ (fun hHeld => ?_)
                        · exact HS.out _ (by with_reducible repeat (first | exact HBW.out | refine Below.drew ?_ | refine bba ?_ _ | refine Below.setCell ?_ HGW.out _))
                        clear hK K
                        try simp only [Act.put, List.setIfInBounds_toArray, List.set_cons_zero, List.set_cons_succ]
                        refine wpAnyH_take (i := 16) (oi := _) (v := ?_) rfl (by kernel_rfl) (by kernel_rfl) (by kernel_rfl) (fun _ _ _ h => h) (Or.inl ⟨by rfl, ?_⟩) (by assumption) ?_
                        rotate_left
                        · (intro wz hSw; (try dsimp only at hSw); go_simp; (try with_reducible rfl))
                        try simp only [Act.put, List.setIfInBounds_toArray, List.set_cons_zero, List.set_cons_succ]
                        refine wpAnyH_ready (rs := [17]) (by kernel_rfl) (by simp) ?_
                        refine AllReadyH.cons (o := _) rfl (fun K hK => ?_) ?_
                        · go_simp
                          refine hK.out _ _ ?_ (fun hHeld => ?_)
                          · exact HS.out _ (by with_reducible repeat (first | exact HBW.out | refine Below.drew ?_ | refine bba ?_ _ | refine Below.setCell ?_ HGW.out _))
                          clear hK K
                          try simp only [Act.put, List.setIfInBounds_toArray, List.set_cons_zero, List.set_cons_succ]
                          refine wpAnyH_done (by kernel_rfl) ?_ _
                          (go_wp2; go_meet; exact ⟨A9, c9, ⟨HBW.out.setCell HGW.out _⟩, ⟨blk_set HGB.out 3 _⟩, ⟨by have h1 := HO.out; rw [List.length_append, List.length_singleton] at h1; exact Kd.N_far h1 (fun k hk => hk.2) _⟩⟩)
                        exact AllReadyH.nil
                      exact AllReadyH.nil
                    exact AllReadyH.nil
                  refine AllReadyH.cons (o := _) rfl (fun K hK => ?_) ?_
                  · go_simp
                    refine hK.out _ _ ?_ (fun hHeld => ?_)
                    · exact HS.out _ (by with_reducible repeat (first | exact HBW.out | refine Below.drew ?_ | refine bba ?_ _ | refine Below.setCell ?_ HGW.out _))
                    clear hK K
                    try simp only [Act.put, List.setIfInBounds_toArray, List.set_cons_zero, List.set_cons_succ]
                    refine wpAnyH_ready (rs := [1]) (by kernel_rfl) (by simp) ?_
                    refine AllReadyH.cons (o := _) rfl (fun K hK => ?_) ?_
                    · go_simp
                      refine hK.out _ _ ?_ (fun hHeld => ?_)
                      · exact HS.out _ (by with_reducible repeat (first | exact HBW.out | refine Below.drew ?_ | refine bba ?_ _ | refine Below.setCell ?_ HGW.out _))
                      clear hK K
                      try simp only [Act.put, List.setIfInBounds_toArray, List.set_cons_zero, List.set_cons_succ]
                      refine wpAnyH_ready (rs := [15]) (by kernel_rfl) (by simp) ?_
                      refine AllReadyH.cons (o := _) rfl (fun K hK => ?_) ?_
                      · (refine Kd.N_append_step k60 (w0 := w8) w1.heap.size rfl (.tmp 56) (.tmp 69) 37 60 (.agg #[.int .i64 0, .int .i64 0]) 16 rfl Try.underlying37 info60 rfl (by decide) (by omega) (.slice A3 acc.length c3) acc (⟨y0, y1⟩ : S60) [.int .i64 y0, .int .i64 y1] (fun k => w1.heap.size ≤ k ∧ k ≠ g) (fun _ => False) rfl rfl (k60_mkF _ _ _) (fun _ hk => hk.elim) (fun k hk => by have := blk_lt HGB.out; have := HBW.out.size; omega) HNV.out (Below.refl _ _) HBW.out.size (by have := HLEN.out; omega) ?_; intro v3' w9 ho hb hg9 hat; obtain ⟨A9, c9, rfl⟩ := Kd.N_slice ho; have HO := Aside0.mk ho; have HBW := Aside0.mk (HBW.out.trans hb); have f9 := blk_grown HGB.out hg9 (Kd.N_ne HNV.out HGB.out (by decide)); have HGB := Aside0.mk f9; have gcb := blk_cell f9; have gfb := blk_frozen f9; clear ho hb hg9 hat f9)
                        refine hK.out _ _ ?_ (fun hHeld => ?_)
                        · exact HS.out _ (by with_reducible repeat (first | exact HBW.out | refine Below.drew ?_ | refine bba ?_ _ | refine Below.setCell ?_ HGW.out _))
                        clear hK K
                        try simp only [Act.put, List.setIfInBounds_toArray, List.set_cons_zero, List.set_cons_succ]
                        refine wpAnyH_take (i := 16) (oi := _) (v := ?_) rfl (by kernel_rfl) (by kernel_rfl) (by kernel_rfl) (fun _ _ _ h => h) (Or.inl ⟨by rfl, ?_⟩) (by assumption) ?_
                        rotate_left
                        · (intro wz hSw; (try dsimp only at hSw); go_simp; (try with_reducible rfl))
                        try simp only [Act.put, List.setIfInBounds_toArray, List.set_cons_zero, List.set_cons_succ]
                        refine wpAnyH_ready (rs := [17]) (by kernel_rfl) (by simp) ?_
                        refine AllReadyH.cons (o := _) rfl (fun K hK => ?_) ?_
                        · go_simp
                          refine hK.out _ _ ?_ (fun hHeld => ?_)
                          · exact HS.out _ (by with_reducible repeat (first | exact HBW.out | refine Below.drew ?_ | refine bba ?_ _ | refine Below.setCell ?_ HGW.out _))
                          clear hK K
                          try simp only [Act.put, List.setIfInBounds_toArray, List.set_cons_zero, List.set_cons_succ]
                          refine wpAnyH_done (by kernel_rfl) ?_ _
                          (go_wp2; go_meet; exact ⟨A9, c9, ⟨HBW.out.setCell HGW.out _⟩, ⟨blk_set HGB.out 3 _⟩, ⟨by have h1 := HO.out; rw [List.length_append, List.length_singleton] at h1; exact Kd.N_far h1 (fun k hk => hk.2) _⟩⟩)
                        exact AllReadyH.nil
                      exact AllReadyH.nil
                    exact AllReadyH.nil
                  exact AllReadyH.nil
                exact AllReadyH.nil
              exact AllReadyH.nil
            case rest =>
              obtain ⟨A9, c9, BW2, HG2, HN2⟩ := hcut
              go_wp2
              go_roundg (3 - (i + 1))
              case measure => omega
              case rel =>
                have hq2 : q + 2 = 4 + 2 * (i + 1) := by have := HQ.out; omega
                refine ⟨i + 1, .slice A9 (acc.length + 1) c9, acc ++ [(⟨y0, y1⟩ : S60)], by omega, by omega, ?_, by go_num, by omega, ⟨by have := HAL.out; simp; omega⟩, ⟨by rw [← hq2]; exact HRL2.out⟩, BW2, HG2, HN2⟩
                rw [← hq2]; go_num
          · have HEND := Aside0.mk (show rLay (min x3.toNat 3) (l.drop 4) = (acc, l.drop q) by
              rw [HRL.out]
              by_cases d1 : (i : Int) < x3 ∧ i < 3
              · rw [rLay_short _ (by rw [List.length_drop]; omega)]; simp
              · rw [show min x3.toNat 3 - i = 0 by omega]; simp [rLay])
            have hd : ¬ (i : Int) < x3 ∨ ((i : Int) < x3 ∧ ¬ (i : Int) < 3) ∨ ((i : Int) < x3 ∧ (i : Int) < 3 ∧ ¬ (q : Int) + 1 < (l.length : Int)) := by omega
            have HQL := Aside0.mk (show q ≤ 10 by have := HQ.out; omega)
            have HN3 := Aside0.mk (N_own flat60 HNV.out)
            obtain ⟨A3, c3, rfl⟩ := Kd.N_slice HNV.out
            clear dd HRL HAL HNV
            have HRW := Aside0.mk (show refFam b = ⟨x0, x1, x2, acc, rCol (l.drop q)⟩ by rw [HX.out, HEND.out])
            clear HX HEND HQ
            have hql := HQL.out
            rcases hd with d1 | ⟨d1, d2⟩ | ⟨d1, d2, d3⟩
            all_goals
              go_wp2
              go_loopg [7] l.length (fun gg s7 wr => ∃ (p : Nat) (v4 : Value) (acc4 : List S52), l.length - p ≤ gg ∧ s7 = .int .i64 p ∧ Aside0 (p ≤ l.length + 10) ∧ Aside0 (rCol (l.drop q) = acc4 ++ rCol (l.drop p)) ∧ Aside0 (acc4.length + (l.length - p) ≤ 1000000) ∧ Aside0 (Below w1.heap.size w1 wr) ∧ Aside0 (wr.heap[g]? = some (.cells #[.string x0, .int .i64 x1, .int .i64 x2, .slice A3 acc.length c3, v4] 40 (0, 0))) ∧ Aside0 (Kd.N k60 60 wr w1.heap.size (fun k => (Value.slice A3 acc.length c3).ownBlock = some k) (.slice A3 acc.length c3) acc) ∧ Aside0 (Kd.N k52 52 wr w1.heap.size (fun k => v4.ownBlock = some k) v4 acc4))
              case atStart => exact ⟨q, .slice none 0 0, [], by omega, rfl, ⟨by have := HQL.out; omega⟩, ⟨rfl⟩, ⟨by have := HLL.out; simp; omega⟩, BW, HGB, HN3, ⟨Kd.N_nil _ _ _ _ _⟩⟩
              case round =>
                obtain ⟨p, v4, acc4, hgg, rfl, HPL, HCG, HAL4, HBR, HGR, HN3R, HN4⟩ := hrel
                have hpl := HPL.out
                have hll := HLL.out
                by_cases e1 : (p : Int) + 2 < (l.length : Int)
                · have e1n : p + 2 < l.length := by omega
                  have hp0 : (p : Int) < (l.length : Int) := by omega
                  have hp0n : p < l.length := by omega
                  have hp1 : (p : Int) + 1 < (l.length : Int) := by omega
                  obtain ⟨ad', Ba, da, he, _, _, hpa⟩ := HPT.out p (by omega)
                  injection he with he
                  subst he
                  obtain ⟨ad', Bb, db, he, _, hzb, hpb⟩ := HPT.out (p + 1) (by omega)
                  injection he with he
                  subst he
                  obtain ⟨ad', Bc, dc, he, _, hzc, hpc⟩ := HPT.out (p + 2) (by omega)
                  injection he with he
                  subst he
                  have HNB := Aside0.mk (fun W hb => num58 _ _ W (hpb W hb).2.1 hzb)
                  have HNC := Aside0.mk (fun W hb => num58 _ _ W (hpc W hb).2.1 hzc)
                  have HRC2 := Aside0.mk (show rCol (l.drop q) = (acc4 ++ [(⟨strB (pt l p), numOf (pt l (p + 1)), numOf (pt l (p + 2))⟩ : S52)]) ++ rCol (l.drop (p + 3)) by
                    rw [HCG.out, rCol_step e1n]; simp)
                  have HLEN := Aside0.mk (show acc4.length ≤ 1000000 by have := HAL4.out; omega)
                  obtain ⟨y0, hy0⟩ : ∃ x, strB (pt l p) = x := ⟨_, rfl⟩
                  obtain ⟨y1, hy1⟩ : ∃ x, numOf (pt l (p + 1)) = x := ⟨_, rfl⟩
                  obtain ⟨y2, hy2⟩ : ∃ x, numOf (pt l (p + 2)) = x := ⟨_, rfl⟩
                  rw [hy0, hy1, hy2] at HRC2
                  rw [hy1] at HNB
                  rw [hy2] at HNC
                  have HS : Aside0 (∀ W, Below w1.heap.size w1 W → Below w1.heap.size w1 W ∧ W.cell? (ad.add p) = some (.slice Ba (pt l p).length da) ∧ W.cell? ⟨ad.block, ad.off + (p + 1), none⟩ = some (.slice Bb (pt l (p + 1)).length db) ∧ W.cell? ⟨ad.block, ad.off + (p + 2), none⟩ = some (.slice Bc (pt l (p + 2)).length dc) ∧ (convert 22 9 (.slice Ba (pt l p).length da)).run Try.prog W = .ok (.string y0) W) :=
                    ⟨fun W hb => ⟨hb, (hpa W hb).1, (hpb W hb).1, (hpc W hb).1, hy0 ▸ (hpa W hb).2.2⟩⟩
                  clear hpa hpb hpc hzb hzc hy0 hy1 hy2
                  have gcb := blk_cell HGR.out
                  have HBW := HBR
                  obtain ⟨A4, c4, rfl⟩ := Kd.N_slice HN4.out
                  go_upto_region 13 with fail
                  have hw1 : IntKind.i64.wrap ((p : Int) + 1) = (p : Int) + 1 := by rw [IntKind.wrap_i64]; omega
                  have ht1 : ((p : Int) + 1).toNat = p + 1 := by omega
                  have hz1 : (0 : Int) ≤ (p : Int) + 1 := by omega
                  have hw2 : IntKind.i64.wrap ((p : Int) + 2) = (p : Int) + 2 := by rw [IntKind.wrap_i64]; omega
                  have ht2 : ((p : Int) + 2).toNat = p + 2 := by omega
                  have hz2 : (0 : Int) ≤ (p : Int) + 2 := by omega
                  go_cut [] (fun wx => ∃ A9 c9, Aside0 (Below w1.heap.size w1 wx) ∧ Aside0 (wx.heap[g]? = some (.cells #[.string x0, .int .i64 x1, .int .i64 x2, .slice A3 acc.length c3, .slice A9 (acc4.length + 1) c9] 40 (0, 0))) ∧ Aside0 (Kd.N k60 60 wx w1.heap.size (fun k => (Value.slice A3 acc.length c3).ownBlock = some k) (.slice A3 acc.length c3) acc) ∧ Aside0 (Kd.N k52 52 wx w1.heap.size (fun k => (Value.slice A9 (acc4.length + 1) c9).ownBlock = some k) (.slice A9 (acc4.length + 1) c9) (acc4 ++ [(⟨y0, y1, y2⟩ : S52)])))
                  case first =>
                    refine wp_region_held_drew (S := fun W => Below w1.heap.size w1 W ∧ W.cell? (ad.add p) = some (.slice Ba (pt l p).length da) ∧ W.cell? ⟨ad.block, ad.off + (p + 1), none⟩ = some (.slice Bb (pt l (p + 1)).length db) ∧ W.cell? ⟨ad.block, ad.off + (p + 2), none⟩ = some (.slice Bc (pt l (p + 2)).length dc) ∧ (convert 22 9 (.slice Ba (pt l p).length da)).run Try.prog W = .ok (.string y0) W) (by kernel_rfl) (HS.out _ (Below.drew HBW.out)) (fun hHeld => ?_)
                    refine wpAnyH_take (i := 0) (oi := _) (v := ?_) rfl (by kernel_rfl) (by kernel_rfl) (by kernel_rfl) (fun _ _ _ h => h) (Or.inl ⟨by rfl, ?_⟩) (by assumption) ?_
                    rotate_left
                    · (intro wz hSw; (try dsimp only at hSw); go_simp; (try with_reducible rfl))
                    try simp only [Act.put, List.setIfInBounds_toArray, List.set_cons_zero, List.set_cons_succ]
                    refine wpAnyH_take (i := 2) (oi := _) (v := ?_) rfl (by kernel_rfl) (by kernel_rfl) (by kernel_rfl) (fun _ _ _ h => h) (Or.inl ⟨by rfl, ?_⟩) (by assumption) ?_
                    rotate_left
                    · (intro wz hSw; (try dsimp only at hSw); go_simp; (try with_reducible rfl))
                    try simp only [Act.put, List.setIfInBounds_toArray, List.set_cons_zero, List.set_cons_succ]
                    refine wpAnyH_take (i := 3) (oi := _) (v := ?_) rfl (by kernel_rfl) (by kernel_rfl) (by kernel_rfl) (fun _ _ _ h => h) (Or.inl ⟨by rfl, ?_⟩) (by assumption) ?_
                    rotate_left
                    · (intro wz hSw; (try dsimp only at hSw); go_simp; (try with_reducible rfl))
                    try simp only [Act.put, List.setIfInBounds_toArray, List.set_cons_zero, List.set_cons_succ]
                    refine wpAnyH_take (i := 4) (oi := _) (v := ?_) rfl (by kernel_rfl) (by kernel_rfl) (by kernel_rfl) (fun _ _ _ h => h) (Or.inl ⟨by rfl, ?_⟩) (by assumption) ?_
                    rotate_left
                    · (intro wz hSw; (try dsimp only at hSw); go_simp; (try with_reducible rfl))
                    try simp only [Act.put, List.setIfInBounds_toArray, List.set_cons_zero, List.set_cons_succ]
                    refine wpAnyH_take (i := 5) (oi := _) (v := ?_) rfl (by kernel_rfl) (by kernel_rfl) (by kernel_rfl) (fun _ _ _ h => h) (Or.inl ⟨by rfl, ?_⟩) (by assumption) ?_
                    rotate_left
                    · (intro wz hSw; (try dsimp only at hSw); go_simp; (try with_reducible rfl))
                    try simp only [Act.put, List.setIfInBounds_toArray, List.set_cons_zero, List.set_cons_succ]
                    refine wpAnyH_take (i := 6) (oi := _) (v := ?_) rfl (by kernel_rfl) (by kernel_rfl) (by kernel_rfl) (fun _ _ _ h => h) (Or.inl ⟨by rfl, ?_⟩) (by assumption) ?_
                    rotate_left
                    · (intro wz hSw; (try dsimp only at hSw); go_simp; (try with_reducible rfl))
                    try simp only [Act.put, List.setIfInBounds_toArray, List.set_cons_zero, List.set_cons_succ]
                    refine wpAnyH_take (i := 7) (oi := _) (v := ?_) rfl (by kernel_rfl) (by kernel_rfl) (by kernel_rfl) (fun _ _ _ h => h) (Or.inl ⟨by rfl, ?_⟩) (by assumption) ?_
                    rotate_left
                    · (intro wz hSw; (try dsimp only at hSw); go_simp; (try with_reducible rfl))
                    try simp only [Act.put, List.setIfInBounds_toArray, List.set_cons_zero, List.set_cons_succ]
                    refine wpAnyH_take (i := 8) (oi := _) (v := ?_) rfl (by kernel_rfl) (by kernel_rfl) (by kernel_rfl) (fun _ _ _ h => h) (Or.inl ⟨by rfl, ?_⟩) (by assumption) ?_
                    rotate_left
                    · (intro wz hSw; (try dsimp only at hSw); go_simp; (try with_reducible rfl))
                    try simp only [Act.put, List.setIfInBounds_toArray, List.set_cons_zero, List.set_cons_succ]
                    refine wpAnyH_take (i := 9) (oi := _) (v := ?_) rfl (by kernel_rfl) (by kernel_rfl) (by kernel_rfl) (fun _ _ _ h => h) (Or.inl ⟨by rfl, ?_⟩) (by assumption) ?_
                    rotate_left
                    · (intro wz hSw; (try dsimp only at hSw); go_simp; (try with_reducible rfl))
                    try simp only [Act.put, List.setIfInBounds_toArray, List.set_cons_zero, List.set_cons_succ]
                    refine wpAnyH_take (i := 10) (oi := _) (v := ?_) rfl (by kernel_rfl) (by kernel_rfl) (by kernel_rfl) (fun _ _ _ h => h) (Or.inl ⟨by rfl, ?_⟩) (by assumption) ?_
                    rotate_left
                    · (intro wz hSw; (try dsimp only at hSw); go_simp; (try with_reducible rfl))
                    try simp only [Act.put, List.setIfInBounds_toArray, List.set_cons_zero, List.set_cons_succ]
                    refine wpAnyH_take (i := 11) (oi := _) (v := ?_) rfl (by kernel_rfl) (by kernel_rfl) (by kernel_rfl) (fun _ _ _ h => h) (Or.inl ⟨by rfl, ?_⟩) (by assumption) ?_
                    rotate_left
                    · (intro wz hSw; (try dsimp only at hSw); go_simp; (try with_reducible rfl))
                    try simp only [Act.put, List.setIfInBounds_toArray, List.set_cons_zero, List.set_cons_succ]
                    refine wpAnyH_take (i := 13) (oi := _) (v := ?_) rfl (by kernel_rfl) (by kernel_rfl) (by kernel_rfl) (fun _ _ _ h => h) (Or.inl ⟨by rfl, ?_⟩) (by assumption) ?_
                    rotate_left
                    · (intro wz hSw; (try dsimp only at hSw); go_simp; (try with_reducible rfl))
                    try simp only [Act.put, List.setIfInBounds_toArray, List.set_cons_zero, List.set_cons_succ]
                    refine wpAnyH_take (i := 14) (oi := _) (v := ?_) rfl (by kernel_rfl) (by kernel_rfl) (by kernel_rfl) (fun _ _ _ h => h) (Or.inl ⟨by rfl, ?_⟩) (by assumption) ?_
                    rotate_left
                    · (intro wz hSw; (try dsimp only at hSw); go_simp; (try with_reducible rfl))
                    try simp only [Act.put, List.setIfInBounds_toArray, List.set_cons_zero, List.set_cons_succ]
                    refine wpAnyH_take (i := 15) (oi := _) (v := ?_) rfl (by kernel_rfl) (by kernel_rfl) (by kernel_rfl) (fun _ _ _ h => h) (Or.inl ⟨by rfl, ?_⟩) (by assumption) ?_
                    rotate_left
                    · (intro wz hSw; (try dsimp only at hSw); go_simp; (try with_reducible rfl))
                    try simp only [Act.put, List.setIfInBounds_toArray, List.set_cons_zero, List.set_cons_succ]
                    refine wpAnyH_take (i := 16) (oi := _) (v := ?_) rfl (by kernel_rfl) (by kernel_rfl) (by kernel_rfl) (fun _ _ _ h => h) (Or.inl ⟨by rfl, ?_⟩) (by assumption) ?_
                    rotate_left
                    · (intro wz hSw; (try dsimp only at hSw); go_simp; (try with_reducible rfl))
                    try simp only [Act.put, List.setIfInBounds_toArray, List.set_cons_zero, List.set_cons_succ]
                    refine wpAnyH_take (i := 17) (oi := _) (v := ?_) rfl (by kernel_rfl) (by kernel_rfl) (by kernel_rfl) (fun _ _ _ h => h) (Or.inl ⟨by rfl, ?_⟩) (by assumption) ?_
                    rotate_left
                    · (intro wz hSw; (try dsimp only at hSw); go_simp; (try with_reducible rfl))
                    try simp only [Act.put, List.setIfInBounds_toArray, List.set_cons_zero, List.set_cons_succ]
                    refine wpAnyH_ready (rs := [1, 12]) (by kernel_rfl) (by simp) ?_
                    refine AllReadyH.cons (o := _) rfl (fun K hK => ?_) ?_
                    · go_simp
                      refine hK.out _ _ ?_ (fun hHeld => ?_)
                      · exact HS.out _ (by with_reducible repeat (first | exact HBW.out | refine Below.drew ?_ | refine bba ?_ _ | refine Below.setCell ?_ HGW.out _))
                      clear hK K
                      try simp only [Act.put, List.setIfInBounds_toArray, List.set_cons_zero, List.set_cons_succ]
                      refine wpAnyH_ready (rs := [12]) (by kernel_rfl) (by simp) ?_
                      refine AllReadyH.cons (o := _) rfl (fun K hK => ?_) ?_
                      · (go_simp; go_at_call 58; refine (HNB.out _ hHeld.1).mono ?_; rintro e w8 ⟨rfl, hb2⟩; have HBW := Aside0.mk (bb hHeld.1 hb2); have HGR := Aside0.mk (blk_keep hb2 HGR.out); (first | (with_reducible have hnx := Kd.N_below HN4.out hb2) | (have hnx := Kd.N_below (Kd.N_drew HN4.out) hb2)); have HN4 := Aside0.mk hnx; clear hnx; (first | (with_reducible have hnx := Kd.N_below HN3R.out hb2) | (have hnx := Kd.N_below (Kd.N_drew HN3R.out) hb2)); have HN3R := Aside0.mk hnx; clear hnx; have gcb := blk_cell HGR.out; have gfb := blk_frozen HGR.out; have gcb' := fun o => blk_cell (blk_old HGR.out o); clear hb2)
                        refine hK.out _ _ ?_ (fun hHeld => ?_)
                        · exact HS.out _ (by with_reducible repeat (first | exact HBW.out | refine Below.drew ?_ | refine bba ?_ _ | refine Below.setCell ?_ HGW.out _))
                        clear hK K
                        try simp only [Act.put, List.setIfInBounds_toArray, List.set_cons_zero, List.set_cons_succ]
                        refine wpAnyH_ready (rs := [18]) (by kernel_rfl) (by simp) ?_
                        refine AllReadyH.cons (o := _) rfl (fun K hK => ?_) ?_
                        · (go_simp; go_at_call 58; refine (HNC.out _ hHeld.1).mono ?_; rintro e w8 ⟨rfl, hb2⟩; have HBW := Aside0.mk (bb hHeld.1 hb2); have HGR := Aside0.mk (blk_keep hb2 HGR.out); (first | (with_reducible have hnx := Kd.N_below HN4.out hb2) | (have hnx := Kd.N_below (Kd.N_drew HN4.out) hb2)); have HN4 := Aside0.mk hnx; clear hnx; (first | (with_reducible have hnx := Kd.N_below HN3R.out hb2) | (have hnx := Kd.N_below (Kd.N_drew HN3R.out) hb2)); have HN3R := Aside0.mk hnx; clear hnx; have gcb := blk_cell HGR.out; have gfb := blk_frozen HGR.out; have gcb' := fun o => blk_cell (blk_old HGR.out o); clear hb2)
                          refine hK.out _ _ ?_ (fun hHeld => ?_)
                          · exact HS.out _ (by with_reducible repeat (first | exact HBW.out | refine Below.drew ?_ | refine bba ?_ _ | refine Below.setCell ?_ HGW.out _))
                          clear hK K
                          try simp only [Act.put, List.setIfInBounds_toArray, List.set_cons_zero, List.set_cons_succ]
                          refine wpAnyH_take (i := 19) (oi := _) (v := ?_) rfl (by kernel_rfl) (by kernel_rfl) (by kernel_rfl) (fun _ _ _ h => h) (Or.inl ⟨by rfl, ?_⟩) (by assumption) ?_
                          rotate_left
                          · (intro wz hSw; (try dsimp only at hSw); go_simp; (try with_reducible rfl))
                          try simp only [Act.put, List.setIfInBounds_toArray, List.set_cons_zero, List.set_cons_succ]
                          refine wpAnyH_ready (rs := [20]) (by kernel_rfl) (by simp) ?_
                          refine AllReadyH.cons (o := _) rfl (fun K hK => ?_) ?_
                          · go_simp
                            refine hK.out _ _ ?_ (fun hHeld => ?_)
                            · exact HS.out _ (by with_reducible repeat (first | exact HBW.out | refine Below.drew ?_ | refine bba ?_ _ | refine Below.setCell ?_ HGW.out _))
                            clear hK K
                            try simp only [Act.put, List.setIfInBounds_toArray, List.set_cons_zero, List.set_cons_succ]
                            refine wpAnyH_ready (rs := [21]) (by kernel_rfl) (by simp) ?_
                            refine AllReadyH.cons (o := _) rfl (fun K hK => ?_) ?_
                            · (refine Kd.N_append_step k52 (w0 := w8) w1.heap.size rfl (.tmp 80) (.tmp 99) 38 52 (.agg #[.string ⟨#[]⟩, .int .i64 0, .int .i64 0]) 32 rfl Try.underlying38 info52 rfl (by decide) (by omega) (.slice A4 acc4.length c4) acc4 (⟨y0, y1, y2⟩ : S52) [.string y0, .int .i64 y1, .int .i64 y2] (fun k => w1.heap.size ≤ k ∧ k ≠ g) (fun _ => False) rfl rfl (k52_mkF _ _ _) (fun _ hk => hk.elim) (fun k hk => by have := blk_lt HGR.out; have := HBW.out.size; omega) (Kd.N_mono HN4.out (fun k hk => ⟨Kd.N_base HN4.out k hk, fun he => by have := Kd.N_ne HN4.out HGR.out (by decide); rw [hk, he] at this; exact this rfl⟩)) (Below.refl _ _) HBW.out.size (by have := HLEN.out; omega) ?_; intro v4' w9 ho hb hg9 hat; obtain ⟨A9, c9, rfl⟩ := Kd.N_slice ho; have HO := Aside0.mk ho; have HBW := Aside0.mk (HBW.out.trans hb); have HN39 := Aside0.mk (Kd.N_grown HN3R.out hg9 (own_ne HN3R.out HN4.out (by decide))); have f9 := blk_grown HGR.out hg9 (Kd.N_ne HN4.out HGR.out (by decide)); have HGR := Aside0.mk f9; have gcb := blk_cell f9; have gfb := blk_frozen f9; clear ho hb hg9 hat f9)
                              refine hK.out _ _ ?_ (fun hHeld => ?_)
                              · exact HS.out _ (by with_reducible repeat (first | exact HBW.out | refine Below.drew ?_ | refine bba ?_ _ | refine Below.setCell ?_ HGW.out _))
                              clear hK K
                              try simp only [Act.put, List.setIfInBounds_toArray, List.set_cons_zero, List.set_cons_succ]
                              refine wpAnyH_take (i := 22) (oi := _) (v := ?_) rfl (by kernel_rfl) (by kernel_rfl) (by kernel_rfl) (fun _ _ _ h => h) (Or.inl ⟨by rfl, ?_⟩) (by assumption) ?_
                              rotate_left
                              · (intro wz hSw; (try dsimp only at hSw); go_simp; (try with_reducible rfl))
                              try simp only [Act.put, List.setIfInBounds_toArray, List.set_cons_zero, List.set_cons_succ]
                              refine wpAnyH_ready (rs := [23]) (by kernel_rfl) (by simp) ?_
                              refine AllReadyH.cons (o := _) rfl (fun K hK => ?_) ?_
                              · go_simp
                                refine hK.out _ _ ?_ (fun hHeld => ?_)
                                · exact HS.out _ (by with_reducible repeat (first | exact HBW.out | refine Below.drew ?_ | refine bba ?_ _ | refine Below.setCell ?_ HGW.out _))
                                clear hK K
                                try simp only [Act.put, List.setIfInBounds_toArray, List.set_cons_zero, List.set_cons_succ]
                                refine wpAnyH_done (by kernel_rfl) ?_ _
                                (go_wp2; go_meet; exact ⟨A9, c9, ⟨HBW.out.setCell HGW.out _⟩, ⟨blk_set HGR.out 4 _⟩, ⟨Kd.N_far HN39.out (fun k hk he => by have := Kd.N_ne HN39.out HGR.out (by decide); rw [hk, he] at this; exact this rfl) _⟩, ⟨by have h1 := HO.out; rw [List.length_append, List.length_singleton] at h1; exact N_own flat52 (Kd.N_far h1 (p := ⟨g, 4, none⟩) (fun k hk => hk.2) _)⟩⟩)
                              exact AllReadyH.nil
                            exact AllReadyH.nil
                          exact AllReadyH.nil
                        exact AllReadyH.nil
                      exact AllReadyH.nil
                    refine AllReadyH.cons (o := _) rfl (fun K hK => ?_) ?_
                    · (go_simp; go_at_call 58; refine (HNB.out _ hHeld.1).mono ?_; rintro e w8 ⟨rfl, hb2⟩; have HBW := Aside0.mk (bb hHeld.1 hb2); have HGR := Aside0.mk (blk_keep hb2 HGR.out); (first | (with_reducible have hnx := Kd.N_below HN4.out hb2) | (have hnx := Kd.N_below (Kd.N_drew HN4.out) hb2)); have HN4 := Aside0.mk hnx; clear hnx; (first | (with_reducible have hnx := Kd.N_below HN3R.out hb2) | (have hnx := Kd.N_below (Kd.N_drew HN3R.out) hb2)); have HN3R := Aside0.mk hnx; clear hnx; have gcb := blk_cell HGR.out; have gfb := blk_frozen HGR.out; have gcb' := fun o => blk_cell (blk_old HGR.out o); clear hb2)
                      refine hK.out _ _ ?_ (fun hHeld => ?_)
                      · exact HS.out _ (by with_reducible repeat (first | exact HBW.out | refine Below.drew ?_ | refine bba ?_ _ | refine Below.setCell ?_ HGW.out _))
                      clear hK K
                      try simp only [Act.put, List.setIfInBounds_toArray, List.set_cons_zero, List.set_cons_succ]
                      refine wpAnyH_ready (rs := [1, 18]) (by kernel_rfl) (by simp) ?_
                      refine AllReadyH.cons (o := _) rfl (fun K hK => ?_) ?_
                      · go_simp
                        refine hK.out _ _ ?_ (fun hHeld => ?_)
                        · exact HS.out _ (by with_reducible repeat (first | exact HBW.out | refine Below.drew ?_ | refine bba ?_ _ | refine Below.setCell ?_ HGW.out _))
                        clear hK K
                        try simp only [Act.put, List.setIfInBounds_toArray, List.set_cons_zero, List.set_cons_succ]
                        refine wpAnyH_ready (rs := [18]) (by kernel_rfl) (by simp) ?_
                        refine AllReadyH.cons (o := _) rfl (fun K hK => ?_) ?_
                        · (go_simp; go_at_call 58; refine (HNC.out _ hHeld.1).mono ?_; rintro e w8 ⟨rfl, hb2⟩; have HBW := Aside0.mk (bb hHeld.1 hb2); have HGR := Aside0.mk (blk_keep hb2 HGR.out); (first | (with_reducible have hnx := Kd.N_below HN4.out hb2) | (have hnx := Kd.N_below (Kd.N_drew HN4.out) hb2)); have HN4 := Aside0.mk hnx; clear hnx; (first | (with_reducible have hnx := Kd.N_below HN3R.out hb2) | (have hnx := Kd.N_below (Kd.N_drew HN3R.out) hb2)); have HN3R := Aside0.mk hnx; clear hnx; have gcb := blk_cell HGR.out; have gfb := blk_frozen HGR.out; have gcb' := fun o => blk_cell (blk_old HGR.out o); clear hb2)
                          refine hK.out _ _ ?_ (fun hHeld => ?_)
                          · exact HS.out _ (by with_reducible repeat (first | exact HBW.out | refine Below.drew ?_ | refine bba ?_ _ | refine Below.setCell ?_ HGW.out _))
                          clear hK K
                          try simp only [Act.put, List.setIfInBounds_toArray, List.set_cons_zero, List.set_cons_succ]
                          refine wpAnyH_take (i := 19) (oi := _) (v := ?_) rfl (by kernel_rfl) (by kernel_rfl) (by kernel_rfl) (fun _ _ _ h => h) (Or.inl ⟨by rfl, ?_⟩) (by assumption) ?_
                          rotate_left
                          · (intro wz hSw; (try dsimp only at hSw); go_simp; (try with_reducible rfl))
                          try simp only [Act.put, List.setIfInBounds_toArray, List.set_cons_zero, List.set_cons_succ]
                          refine wpAnyH_ready (rs := [20]) (by kernel_rfl) (by simp) ?_
                          refine AllReadyH.cons (o := _) rfl (fun K hK => ?_) ?_
                          · go_simp
                            refine hK.out _ _ ?_ (fun hHeld => ?_)
                            · exact HS.out _ (by with_reducible repeat (first | exact HBW.out | refine Below.drew ?_ | refine bba ?_ _ | refine Below.setCell ?_ HGW.out _))
                            clear hK K
                            try simp only [Act.put, List.setIfInBounds_toArray, List.set_cons_zero, List.set_cons_succ]
                            refine wpAnyH_ready (rs := [21]) (by kernel_rfl) (by simp) ?_
                            refine AllReadyH.cons (o := _) rfl (fun K hK => ?_) ?_
                            · (refine Kd.N_append_step k52 (w0 := w8) w1.heap.size rfl (.tmp 80) (.tmp 99) 38 52 (.agg #[.string ⟨#[]⟩, .int .i64 0, .int .i64 0]) 32 rfl Try.underlying38 info52 rfl (by decide) (by omega) (.slice A4 acc4.length c4) acc4 (⟨y0, y1, y2⟩ : S52) [.string y0, .int .i64 y1, .int .i64 y2] (fun k => w1.heap.size ≤ k ∧ k ≠ g) (fun _ => False) rfl rfl (k52_mkF _ _ _) (fun _ hk => hk.elim) (fun k hk => by have := blk_lt HGR.out; have := HBW.out.size; omega) (Kd.N_mono HN4.out (fun k hk => ⟨Kd.N_base HN4.out k hk, fun he => by have := Kd.N_ne HN4.out HGR.out (by decide); rw [hk, he] at this; exact this rfl⟩)) (Below.refl _ _) HBW.out.size (by have := HLEN.out; omega) ?_; intro v4' w9 ho hb hg9 hat; obtain ⟨A9, c9, rfl⟩ := Kd.N_slice ho; have HO := Aside0.mk ho; have HBW := Aside0.mk (HBW.out.trans hb); have HN39 := Aside0.mk (Kd.N_grown HN3R.out hg9 (own_ne HN3R.out HN4.out (by decide))); have f9 := blk_grown HGR.out hg9 (Kd.N_ne HN4.out HGR.out (by decide)); have HGR := Aside0.mk f9; have gcb := blk_cell f9; have gfb := blk_frozen f9; clear ho hb hg9 hat f9)
                              refine hK.out _ _ ?_ (fun hHeld => ?_)
                              · exact HS.out _ (by with_reducible repeat (first | exact HBW.out | refine Below.drew ?_ | refine bba ?_ _ | refine Below.setCell ?_ HGW.out _))
                              clear hK K
                              try simp only [Act.put, List.setIfInBounds_toArray, List.set_cons_zero, List.set_cons_succ]
                              refine wpAnyH_take (i := 22) (oi := _) (v := ?_) rfl (by kernel_rfl) (by kernel_rfl) (by kernel_rfl) (fun _ _ _ h => h) (Or.inl ⟨by rfl, ?_⟩) (by assumption) ?_
                              rotate_left
                              · (intro wz hSw; (try dsimp only at hSw); go_simp; (try with_reducible rfl))
                              try simp only [Act.put, List.setIfInBounds_toArray, List.set_cons_zero, List.set_cons_succ]
                              refine wpAnyH_ready (rs := [23]) (by kernel_rfl) (by simp) ?_
                              refine AllReadyH.cons (o := _) rfl (fun K hK => ?_) ?_
                              · go_simp
                                refine hK.out _ _ ?_ (fun hHeld => ?_)
                                · exact HS.out _ (by with_reducible repeat (first | exact HBW.out | refine Below.drew ?_ | refine bba ?_ _ | refine Below.setCell ?_ HGW.out _))
                                clear hK K
                                try simp only [Act.put, List.setIfInBounds_toArray, List.set_cons_zero, List.set_cons_succ]
                                refine wpAnyH_done (by kernel_rfl) ?_ _
                                (go_wp2; go_meet; exact ⟨A9, c9, ⟨HBW.out.setCell HGW.out _⟩, ⟨blk_set HGR.out 4 _⟩, ⟨Kd.N_far HN39.out (fun k hk he => by have := Kd.N_ne HN39.out HGR.out (by decide); rw [hk, he] at this; exact this rfl) _⟩, ⟨by have h1 := HO.out; rw [List.length_append, List.length_singleton] at h1; exact N_own flat52 (Kd.N_far h1 (p := ⟨g, 4, none⟩) (fun k hk => hk.2) _)⟩⟩)
                              exact AllReadyH.nil
                            exact AllReadyH.nil
                          exact AllReadyH.nil
                        exact AllReadyH.nil
                      refine AllReadyH.cons (o := _) rfl (fun K hK => ?_) ?_
                      · (go_simp; go_at_call 58; refine (HNC.out _ hHeld.1).mono ?_; rintro e w8 ⟨rfl, hb2⟩; have HBW := Aside0.mk (bb hHeld.1 hb2); have HGR := Aside0.mk (blk_keep hb2 HGR.out); (first | (with_reducible have hnx := Kd.N_below HN4.out hb2) | (have hnx := Kd.N_below (Kd.N_drew HN4.out) hb2)); have HN4 := Aside0.mk hnx; clear hnx; (first | (with_reducible have hnx := Kd.N_below HN3R.out hb2) | (have hnx := Kd.N_below (Kd.N_drew HN3R.out) hb2)); have HN3R := Aside0.mk hnx; clear hnx; have gcb := blk_cell HGR.out; have gfb := blk_frozen HGR.out; have gcb' := fun o => blk_cell (blk_old HGR.out o); clear hb2)
                        refine hK.out _ _ ?_ (fun hHeld => ?_)
                        · exact HS.out _ (by with_reducible repeat (first | exact HBW.out | refine Below.drew ?_ | refine bba ?_ _ | refine Below.setCell ?_ HGW.out _))
                        clear hK K
                        try simp only [Act.put, List.setIfInBounds_toArray, List.set_cons_zero, List.set_cons_succ]
                        refine wpAnyH_take (i := 19) (oi := _) (v := ?_) rfl (by kernel_rfl) (by kernel_rfl) (by kernel_rfl) (fun _ _ _ h => h) (Or.inl ⟨by rfl, ?_⟩) (by assumption) ?_
                        rotate_left
                        · (intro wz hSw; (try dsimp only at hSw); go_simp; (try with_reducible rfl))
                        try simp only [Act.put, List.setIfInBounds_toArray, List.set_cons_zero, List.set_cons_succ]
                        refine wpAnyH_ready (rs := [1, 20]) (by kernel_rfl) (by simp) ?_
                        refine AllReadyH.cons (o := _) rfl (fun K hK => ?_) ?_
                        · go_simp
                          refine hK.out _ _ ?_ (fun hHeld => ?_)
                          · exact HS.out _ (by with_reducible repeat (first | exact HBW.out | refine Below.drew ?_ | refine bba ?_ _ | refine Below.setCell ?_ HGW.out _))
                          clear hK K
                          try simp only [Act.put, List.setIfInBounds_toArray, List.set_cons_zero, List.set_cons_succ]
                          refine wpAnyH_ready (rs := [20]) (by kernel_rfl) (by simp) ?_
                          refine AllReadyH.cons (o := _) rfl (fun K hK => ?_) ?_
                          · go_simp
                            refine hK.out _ _ ?_ (fun hHeld => ?_)
                            · exact HS.out _ (by with_reducible repeat (first | exact HBW.out | refine Below.drew ?_ | refine bba ?_ _ | refine Below.setCell ?_ HGW.out _))
                            clear hK K
                            try simp only [Act.put, List.setIfInBounds_toArray, List.set_cons_zero, List.set_cons_succ]
                            refine wpAnyH_ready (rs := [21]) (by kernel_rfl) (by simp) ?_
                            refine AllReadyH.cons (o := _) rfl (fun K hK => ?_) ?_
                            · (refine Kd.N_append_step k52 (w0 := w8) w1.heap.size rfl (.tmp 80) (.tmp 99) 38 52 (.agg #[.string ⟨#[]⟩, .int .i64 0, .int .i64 0]) 32 rfl Try.underlying38 info52 rfl (by decide) (by omega) (.slice A4 acc4.length c4) acc4 (⟨y0, y1, y2⟩ : S52) [.string y0, .int .i64 y1, .int .i64 y2] (fun k => w1.heap.size ≤ k ∧ k ≠ g) (fun _ => False) rfl rfl (k52_mkF _ _ _) (fun _ hk => hk.elim) (fun k hk => by have := blk_lt HGR.out; have := HBW.out.size; omega) (Kd.N_mono HN4.out (fun k hk => ⟨Kd.N_base HN4.out k hk, fun he => by have := Kd.N_ne HN4.out HGR.out (by decide); rw [hk, he] at this; exact this rfl⟩)) (Below.refl _ _) HBW.out.size (by have := HLEN.out; omega) ?_; intro v4' w9 ho hb hg9 hat; obtain ⟨A9, c9, rfl⟩ := Kd.N_slice ho; have HO := Aside0.mk ho; have HBW := Aside0.mk (HBW.out.trans hb); have HN39 := Aside0.mk (Kd.N_grown HN3R.out hg9 (own_ne HN3R.out HN4.out (by decide))); have f9 := blk_grown HGR.out hg9 (Kd.N_ne HN4.out HGR.out (by decide)); have HGR := Aside0.mk f9; have gcb := blk_cell f9; have gfb := blk_frozen f9; clear ho hb hg9 hat f9)
                              refine hK.out _ _ ?_ (fun hHeld => ?_)
                              · exact HS.out _ (by with_reducible repeat (first | exact HBW.out | refine Below.drew ?_ | refine bba ?_ _ | refine Below.setCell ?_ HGW.out _))
                              clear hK K
                              try simp only [Act.put, List.setIfInBounds_toArray, List.set_cons_zero, List.set_cons_succ]
                              refine wpAnyH_take (i := 22) (oi := _) (v := ?_) rfl (by kernel_rfl) (by kernel_rfl) (by kernel_rfl) (fun _ _ _ h => h) (Or.inl ⟨by rfl, ?_⟩) (by assumption) ?_
                              rotate_left
                              · (intro wz hSw; (try dsimp only at hSw); go_simp; (try with_reducible rfl))
                              try simp only [Act.put, List.setIfInBounds_toArray, List.set_cons_zero, List.set_cons_succ]
                              refine wpAnyH_ready (rs := [23]) (by kernel_rfl) (by simp) ?_
                              refine AllReadyH.cons (o := _) rfl (fun K hK => ?_) ?_
                              · go_simp
                                refine hK.out _ _ ?_ (fun hHeld => ?_)
                                · exact HS.out _ (by with_reducible repeat (first | exact HBW.out | refine Below.drew ?_ | refine bba ?_ _ | refine Below.setCell ?_ HGW.out _))
                                clear hK K
                                try simp only [Act.put, List.setIfInBounds_toArray, List.set_cons_zero, List.set_cons_succ]
                                refine wpAnyH_done (by kernel_rfl) ?_ _
                                (go_wp2; go_meet; exact ⟨A9, c9, ⟨HBW.out.setCell HGW.out _⟩, ⟨blk_set HGR.out 4 _⟩, ⟨Kd.N_far HN39.out (fun k hk he => by have := Kd.N_ne HN39.out HGR.out (by decide); rw [hk, he] at this; exact this rfl) _⟩, ⟨by have h1 := HO.out; rw [List.length_append, List.length_singleton] at h1; exact N_own flat52 (Kd.N_far h1 (p := ⟨g, 4, none⟩) (fun k hk => hk.2) _)⟩⟩)
                              exact AllReadyH.nil
                            exact AllReadyH.nil
                          exact AllReadyH.nil
                        refine AllReadyH.cons (o := _) rfl (fun K hK => ?_) ?_
                        · go_simp
                          refine hK.out _ _ ?_ (fun hHeld => ?_)
                          · exact HS.out _ (by with_reducible repeat (first | exact HBW.out | refine Below.drew ?_ | refine bba ?_ _ | refine Below.setCell ?_ HGW.out _))
                          clear hK K
                          try simp only [Act.put, List.setIfInBounds_toArray, List.set_cons_zero, List.set_cons_succ]
                          refine wpAnyH_ready (rs := [1]) (by kernel_rfl) (by simp) ?_
                          refine AllReadyH.cons (o := _) rfl (fun K hK => ?_) ?_
                          · go_simp
                            refine hK.out _ _ ?_ (fun hHeld => ?_)
                            · exact HS.out _ (by with_reducible repeat (first | exact HBW.out | refine Below.drew ?_ | refine bba ?_ _ | refine Below.setCell ?_ HGW.out _))
                            clear hK K
                            try simp only [Act.put, List.setIfInBounds_toArray, List.set_cons_zero, List.set_cons_succ]
                            refine wpAnyH_ready (rs := [21]) (by kernel_rfl) (by simp) ?_
                            refine AllReadyH.cons (o := _) rfl (fun K hK => ?_) ?_
                            · (refine Kd.N_append_step k52 (w0 := w8) w1.heap.size rfl (.tmp 80) (.tmp 99) 38 52 (.agg #[.string ⟨#[]⟩, .int .i64 0, .int .i64 0]) 32 rfl Try.underlying38 info52 rfl (by decide) (by omega) (.slice A4 acc4.length c4) acc4 (⟨y0, y1, y2⟩ : S52) [.string y0, .int .i64 y1, .int .i64 y2] (fun k => w1.heap.size ≤ k ∧ k ≠ g) (fun _ => False) rfl rfl (k52_mkF _ _ _) (fun _ hk => hk.elim) (fun k hk => by have := blk_lt HGR.out; have := HBW.out.size; omega) (Kd.N_mono HN4.out (fun k hk => ⟨Kd.N_base HN4.out k hk, fun he => by have := Kd.N_ne HN4.out HGR.out (by decide); rw [hk, he] at this; exact this rfl⟩)) (Below.refl _ _) HBW.out.size (by have := HLEN.out; omega) ?_; intro v4' w9 ho hb hg9 hat; obtain ⟨A9, c9, rfl⟩ := Kd.N_slice ho; have HO := Aside0.mk ho; have HBW := Aside0.mk (HBW.out.trans hb); have HN39 := Aside0.mk (Kd.N_grown HN3R.out hg9 (own_ne HN3R.out HN4.out (by decide))); have f9 := blk_grown HGR.out hg9 (Kd.N_ne HN4.out HGR.out (by decide)); have HGR := Aside0.mk f9; have gcb := blk_cell f9; have gfb := blk_frozen f9; clear ho hb hg9 hat f9)
                              refine hK.out _ _ ?_ (fun hHeld => ?_)
                              · exact HS.out _ (by with_reducible repeat (first | exact HBW.out | refine Below.drew ?_ | refine bba ?_ _ | refine Below.setCell ?_ HGW.out _))
                              clear hK K
                              try simp only [Act.put, List.setIfInBounds_toArray, List.set_cons_zero, List.set_cons_succ]
                              refine wpAnyH_take (i := 22) (oi := _) (v := ?_) rfl (by kernel_rfl) (by kernel_rfl) (by kernel_rfl) (fun _ _ _ h => h) (Or.inl ⟨by rfl, ?_⟩) (by assumption) ?_
                              rotate_left
                              · (intro wz hSw; (try dsimp only at hSw); go_simp; (try with_reducible rfl))
                              try simp only [Act.put, List.setIfInBounds_toArray, List.set_cons_zero, List.set_cons_succ]
                              refine wpAnyH_ready (rs := [23]) (by kernel_rfl) (by simp) ?_
                              refine AllReadyH.cons (o := _) rfl (fun K hK => ?_) ?_
                              · go_simp
                                refine hK.out _ _ ?_ (fun hHeld => ?_)
                                · exact HS.out _ (by with_reducible repeat (first | exact HBW.out | refine Below.drew ?_ | refine bba ?_ _ | refine Below.setCell ?_ HGW.out _))
                                clear hK K
                                try simp only [Act.put, List.setIfInBounds_toArray, List.set_cons_zero, List.set_cons_succ]
                                refine wpAnyH_done (by kernel_rfl) ?_ _
                                (go_wp2; go_meet; exact ⟨A9, c9, ⟨HBW.out.setCell HGW.out _⟩, ⟨blk_set HGR.out 4 _⟩, ⟨Kd.N_far HN39.out (fun k hk he => by have := Kd.N_ne HN39.out HGR.out (by decide); rw [hk, he] at this; exact this rfl) _⟩, ⟨by have h1 := HO.out; rw [List.length_append, List.length_singleton] at h1; exact N_own flat52 (Kd.N_far h1 (p := ⟨g, 4, none⟩) (fun k hk => hk.2) _)⟩⟩)
                              exact AllReadyH.nil
                            exact AllReadyH.nil
                          exact AllReadyH.nil
                        exact AllReadyH.nil
                      exact AllReadyH.nil
                    exact AllReadyH.nil
                  case rest =>
                    obtain ⟨A9, c9, BW2, HG2, HN32, HN42⟩ := hcut
                    go_wp2
                    go_roundg (l.length - (p + 3))
                    case measure => omega
                    case rel => exact ⟨p + 3, .slice A9 (acc4.length + 1) c9, acc4 ++ [(⟨y0, y1, y2⟩ : S52)], by omega, by go_num, ⟨by omega⟩, HRC2, ⟨by have := HAL4.out; simp; omega⟩, BW2, HG2, HN32, HN42⟩
                · have HRW2 := Aside0.mk (show refFam b = ⟨x0, x1, x2, acc, acc4⟩ by
                    rw [HRW.out, HCG.out, rCol_short (by rw [List.length_drop]; omega), List.append_nil])
                  have gcf := blk_cell HGR.out
                  obtain ⟨A4', c4', rfl⟩ := Kd.N_slice HN4.out
                  have HSZ := Aside0.mk (blk_lt HA.out)
                  have HAW := Aside0.mk ((HBR.out.block w.heap.size HSZ.out).trans HA.out)
                  have gca := blk_cell HAW.out
                  have gfa := blk_frozen HAW.out
                  go_wp2
                  refine bodyPost_ret (v := .agg #[.string x0, .int .i64 x1, .int .i64 x2, .slice A3 acc.length c3, .slice A4' acc4.length c4']) (by simp [results, Try.results59, go_sem, gca]) rfl ⟨_, rfl, ⟨_, _, by rw [HRW2.out], ?_, ?_⟩, ?_⟩
                  · rw [HRW2.out]
                    refine Nw.lower (B := w1.heap.size) ?_ (Nat.le_of_lt HSZ.out)
                    have h3 := N_flat flat60 HN3R.out
                    with_reducible repeat (first | exact h3 | refine Kd.N_far ?_ (fun k hk => by have := HSZ.out; simp at hk ⊢; omega) _)
                  · rw [HRW2.out]
                    refine Nw.lower (B := w1.heap.size) ?_ (Nat.le_of_lt HSZ.out)
                    have h3 := N_flat flat52 HN4.out
                    with_reducible repeat (first | exact h3 | refine Kd.N_far ?_ (fun k hk => by have := HSZ.out; simp at hk ⊢; omega) _)
                  · have h1 := bb HB.out HBR.out
                    with_reducible repeat (first | exact h1 | refine Below.setCell ?_ (by simp) _)
end Go.Proofs.Ytmgpoafoljkknaa.My
