/- The law SchemaBack returns true. Conditions: the arguments are of their types. -/
import Derived.Test.YtmgpoafoljkknaaR
import Derived.Test.YtmgpoafoljkknaaQ
namespace Go.Proofs.Ytmgpoafoljkknaa.My
open Go.RowKit Go.Proofs.YtmgpoafoljkknaaW.PrintWords Go.Proofs.YtmgpoafoljkknaaW.PrintLast Go.Proofs.YtmgpoafoljkknaaW.PrintMore PSchemaReads
theorem dec_num (l : List (List UInt8)) : (decRaw l).typ ≤ 9223372036854775807 ∧ (decRaw l).grp ≤ 9223372036854775807 ∧ (decRaw l).vers ≤ 9223372036854775807 ∧ (decRaw l).life ≤ 9223372036854775807 := by
  have h : ∀ b, numOf b ≤ 9223372036854775807 := fun b => by have := numOf_pos b; omega
  exact ⟨h _, h _, h _, h _⟩
theorem dec_some {b : List UInt8} {s : Sch} (h : decOk b = some s) : encOk s = true ∧ listL (encParts s) = b ∧ (s.typ ≤ 9223372036854775807 ∧ s.grp ≤ 9223372036854775807 ∧ s.vers ≤ 9223372036854775807 ∧ s.life ≤ 9223372036854775807) := by
  unfold decOk at h
  cases hq : partsL b with
  | none => rw [hq] at h; cases h
  | some l =>
    rw [hq] at h
    simp only at h
    split at h
    · split at h
      · rename_i h2
        cases h
        exact ⟨h2.1, h2.2, dec_num l⟩
      · cases h
    · cases h
theorem dec_cut {s : Sch} (h : encOk s = true) (hn : s.typ ≤ 9223372036854775807 ∧ s.grp ≤ 9223372036854775807 ∧ s.vers ≤ 9223372036854775807 ∧ s.life ≤ 9223372036854775807) {k : Nat} (hk : k < (listL (encParts s)).length) : decOk ((listL (encParts s)).take k) = none := by
  cases hq : decOk ((listL (encParts s)).take k) with
  | none => rfl
  | some s' =>
    obtain ⟨h1, h2, h3⟩ := dec_some hq
    obtain ⟨c1, c2, c3⟩ := encParts_small h hn
    obtain ⟨d1, d2, d3⟩ := encParts_small h1 h3
    have hp := list_prefix (l := encParts s') (m := encParts s) (by omega) (by omega) d3 c3 (r := (listL (encParts s)).drop k) (by rw [h2, List.take_append_drop])
    have := congrArg List.length hp
    rw [List.length_drop, List.length_nil] at this
    omega
set_option maxHeartbeats 4000000 in
set_option maxRecDepth 100000 in
theorem back_any (v : Value) (s : Sch) (n : Int) (w : World) (h : Sc w v s) (hg : gSch s) : Calls Try.prog 4 #[v, .int .i64 n] w (RetB w true) := by
  have hnn : s.typ ≤ 9223372036854775807 ∧ s.grp ≤ 9223372036854775807 ∧ s.vers ≤ 9223372036854775807 ∧ s.life ≤ 9223372036854775807 := ⟨hg.1.2.2.1.2, hg.1.2.2.2.1.2, hg.1.2.2.2.2.1.2, hg.1.2.2.2.2.2.1.2⟩
  have HNN := Aside0.mk hnn
  have HENC := Aside0.mk (fun v W (h : Sc W v s) => encode_any v s W h hnn)
  have HS17 := Aside0.mk (fun v u W (h : Sc W v s) (h2 : Sc W u s) => (eqSch_iff s s).2 rfl ▸ same17_any v u s s W h h2)
  obtain ⟨vf, rfl, hsl⟩ := h
  obtain ⟨Af, cf, rfl, hcf, hCf⟩ := hsl
  have HSC := Aside0.mk (show Sc w (Vs s (.slice Af s.fams.length cf)) s from ⟨_, rfl, Af, cf, rfl, hcf, hCf⟩)
  have HB0 := Aside0.mk (below_alloc (Below.refl _ w) (.cells #[.int .i64 s.ver, .slice Af s.fams.length cf, .int .i64 s.kind, .string s.fam, .string s.qual, .int .i64 s.typ, .int .i64 s.grp, .int .i64 s.vers, .int .i64 s.life, .int .i64 s.step] 28))
  have HA0 := Aside0.mk (blk_new w #[.int .i64 s.ver, .slice Af s.fams.length cf, .int .i64 s.kind, .string s.fam, .string s.qual, .int .i64 s.typ, .int .i64 s.grp, .int .i64 s.vers, .int .i64 s.life, .int .i64 s.step] 28)
  clear hcf hCf hnn hg
  go_enter Try.func4, Try.ntmps4
  go_wp2_with fail
  refine (alive_any _).mono ?_
  rintro e w1 ⟨rfl, hb⟩
  have HA1 := Aside0.mk (blk_keep hb HA0.out)
  have HB1 := Aside0.mk (bb HB0.out hb)
  have ga := blk_cell HA1.out
  clear hb HA0 HB0
  go_wp2_with fail
  clear ga
  refine (long_any _ s _ (HSC.out.below HB1.out)).mono ?_
  rintro e w2 ⟨b, rfl, hb, _⟩
  have HA2 := Aside0.mk (blk_keep hb HA1.out)
  have HB2 := Aside0.mk (bb HB1.out hb)
  have ga := blk_cell HA2.out
  clear hb HA1 HB1
  cases b with
  | true =>
    go_wp2
    go_ret
    exact ⟨rfl, HB2.out⟩
  | false =>
    go_wp2_with fail
    clear ga
    refine (HENC.out _ _ (HSC.out.below HB2.out)).mono ?_
    rintro e w3 ⟨v3, l, ok, rfl, hn3, hb, hl, rfl⟩
    obtain ⟨A3, c3, rfl⟩ := Kd.N_slice hn3
    have HA3 := Aside0.mk (blk_keep hb HA2.out)
    have HB3 := Aside0.mk (bb HB2.out hb)
    have hc3 := (Kd.N_reads' hn3).2.1
    have HN3 := Aside0.mk hn3
    have hmax3 := hn3.sl.len
    clear hb hn3 HA2 HB2
    cases hok : encOk s with
    | false =>
      rw [hok] at hl
      have hl' : l = [] := hl
      subst hl'
      clear hl
      go_wp2
      go_ret
      exact ⟨rfl, HB3.out⟩
    | true =>
      rw [hok, if_pos rfl] at hl
      have HL := Aside0.mk hl
      have HT := Aside0.mk (show l.length ≤ 1000000 by rw [hl]; exact enc_total hok HNN.out)
      have HD := Aside0.mk (show decOk l = some s by rw [hl]; exact decOk_enc hok HNN.out)
      have HDEC := Aside0.mk (fun W (hb : Below w3.heap.size w3 W) => decode_any _ l W (HN3.out.sl.below hb) HT.out)
      have hr : rightB s = true := by
        simp only [encOk, Bool.and_eq_true] at hok
        exact hok.1.1.1
      have HR := Aside0.mk (fun v W (h : Sc W v s) => hr ▸ right_any v s W h)
      have HCUT := Aside0.mk (fun (k : Nat) (hk : k < l.length) => show decOk (l.take k) = none by rw [hl] at hk ⊢; exact dec_cut hok HNN.out hk)
      clear hl hok hr
      go_wp2_with fail
      refine (HDEC.out _ (Below.refl _ _)).mono ?_
      rintro e w4 ⟨v4, ok4, s4, rfl, hs4, hb, e1, e2⟩
      rw [HD.out] at e1 e2
      simp only [Option.getD_some, Option.isSome_some] at e1 e2
      rw [e1] at hs4
      subst e2
      clear e1
      obtain ⟨vf4, rfl, hsl4⟩ := hs4
      obtain ⟨Ag, cg, rfl, hcg, hCg⟩ := hsl4
      have HS4 := Aside0.mk (show Sc w4 (Vs s (.slice Ag s.fams.length cg)) s from ⟨_, rfl, Ag, cg, rfl, hcg, hCg⟩)
      have HA4 := Aside0.mk (blk_old (blk_keep hb HA3.out) (.cells #[.int .i64 s.ver, .slice Ag s.fams.length cg, .int .i64 s.kind, .string s.fam, .string s.qual, .int .i64 s.typ, .int .i64 s.grp, .int .i64 s.vers, .int .i64 s.life, .int .i64 s.step] 28))
      have HB4 := Aside0.mk (bba (bb HB3.out hb) (.cells #[.int .i64 s.ver, .slice Ag s.fams.length cg, .int .i64 s.kind, .string s.fam, .string s.qual, .int .i64 s.typ, .int .i64 s.grp, .int .i64 s.vers, .int .i64 s.life, .int .i64 s.step] 28))
      have HC4 := Aside0.mk (below_alloc (Below.refl _ w4) (.cells #[.int .i64 s.ver, .slice Ag s.fams.length cg, .int .i64 s.kind, .string s.fam, .string s.qual, .int .i64 s.typ, .int .i64 s.grp, .int .i64 s.vers, .int .i64 s.life, .int .i64 s.step] 28))
      have HE4 := Aside0.mk (bba hb (.cells #[.int .i64 s.ver, .slice Ag s.fams.length cg, .int .i64 s.kind, .string s.fam, .string s.qual, .int .i64 s.typ, .int .i64 s.grp, .int .i64 s.vers, .int .i64 s.life, .int .i64 s.step] 28))
      have ga := blk_cell HA4.out
      clear hb hcg hCg HA3 HB3
      go_wp2_with fail
      clear ga
      refine (HS17.out _ _ _ (HSC.out.below HB4.out) (HS4.out.below HC4.out)).mono ?_
      rintro e w5 ⟨rfl, hb⟩
      have HA5 := Aside0.mk (blk_keep hb HA4.out)
      have HB5 := Aside0.mk (bb HB4.out hb)
      have HE5 := Aside0.mk (bb HE4.out hb)
      have ga := blk_cell HA5.out
      clear hb HA4 HB4 HC4 HE4 HS4
      go_wp2_with fail
      clear ga
      refine (HR.out _ _ (HSC.out.below HB5.out)).mono ?_
      rintro e w6 ⟨rfl, hb⟩
      have HB6 := Aside0.mk (bb HB5.out hb)
      have HE6 := Aside0.mk (bb HE5.out hb)
      clear hb HA5 HB5 HE5
      by_cases k0 : 0 ≤ n
      · by_cases k1 : n < (l.length : Int)
        · obtain ⟨k, rfl⟩ := Int.eq_ofNat_of_zero_le k0
          have hk : k < l.length := by omega
          obtain ⟨i5, hi5, _⟩ := info5'
          have hcut := cut_to (P := Try.prog) 22 5 .i64 Try.underlying22 hi5 A3 l.length c3 (k : Int) (by omega) (by omega) hc3
          have HSL := Aside0.mk (show Sl kB w3 (.slice A3 k c3) (l.take k) from ⟨A3, c3, by rw [List.length_take]; congr 1; omega, by rw [List.length_take]; omega, by
            have := Kd.C_take (m := k) (Kd.N_reads' HN3.out).2.2 (by omega)
            exact this⟩)
          have HDEC2 := Aside0.mk (decode_any _ _ w6 (HSL.out.below HE6.out) (by have := HT.out; rw [List.length_take]; omega))
          have HCT := Aside0.mk (HCUT.out k hk)
          rw [Int.toNat_natCast] at hcut
          go_wp2_with fail
          refine HDEC2.out.mono ?_
          rintro e w7 ⟨v7, ok7, s7, rfl, hs7, hb, e1, e2⟩
          rw [HCT.out] at e2
          simp only [Option.isSome_none] at e2
          subst e2
          have HB7 := Aside0.mk (bb HB6.out hb)
          clear hb hs7 e1
          go_wp2
          go_ret
          exact ⟨rfl, HB7.out⟩
        · go_wp2
          go_ret
          exact ⟨rfl, HB6.out⟩
      · go_wp2
        go_ret
        exact ⟨rfl, HB6.out⟩
end Go.Proofs.Ytmgpoafoljkknaa.My
