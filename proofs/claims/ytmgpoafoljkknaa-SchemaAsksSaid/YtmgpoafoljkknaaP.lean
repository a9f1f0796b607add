/- The contract of the laws' alive. Conditions: none. -/
import Derived.Test.YtmgpoafoljkknaaO
import Derived.Test.YtmgpoafoljkknaaU
namespace Go.Proofs.Ytmgpoafoljkknaa.My
open Go.RowKit Go.Proofs.YtmgpoafoljkknaaW.PrintWords Go.Proofs.YtmgpoafoljkknaaW.PrintLast Go.Proofs.YtmgpoafoljkknaaW.PrintMore PSchemaReads
theorem slI_lit (W : World) (ns : List Int) (hm : ns.length ≤ 9223372036854775807) :
    Sl (Kd.int .i64) (W.alloc (.cells (ns.map (Value.int .i64)).toArray 3)) (.slice (some ⟨W.heap.size, 0, none⟩) ns.length ns.length) ns := by
  refine ⟨_, _, rfl, Nat.le_refl _, rfl, hm, fun _ => ⟨_, rfl, fun j p hj => ⟨[.int .i64 p], rfl, rfl, fun i u hu => ?_⟩⟩⟩
  rcases i with _ | i
  · simp at hu
    subst hu
    have hb := blk_cell (blk_new W (ns.map (Value.int .i64)).toArray 3) j
    rw [add_plain, show (Kd.int .i64).sz = 1 from rfl, Nat.mul_one, Nat.add_zero, hb]
    simp [hj]
  · simp at hu
def OneP (w : World) (s : Sch) (e : Ending) (w' : World) : Prop := ∃ v, e = .returned v ∧ Sc w' v s ∧ Below w.heap.size w w'
def RetB (w : World) (b : Bool) (e : Ending) (w' : World) : Prop := e = .returned (.bool b) ∧ Below w.heap.size w w'
theorem bba {w w1 : World} (h : Below w.heap.size w w1) (o : Obj) : Below w.heap.size w (w1.alloc o) := h.alloc h.size o
set_option maxHeartbeats 4000000 in
set_option maxRecDepth 100000 in
theorem alive_aux (s : Sch) (x : S40) (q0 : ByteArray) (q2 : Int) (hone : ∀ w, Calls Try.prog 51 #[] w (OneP w s)) (hok : encOk s = true) (hr : rightB s = true) (hz : rightB zSch = false)
    (hn : s.typ ≤ 9223372036854775807 ∧ s.grp ≤ 9223372036854775807 ∧ s.vers ≤ 9223372036854775807 ∧ s.life ≤ 9223372036854775807) (hf : findR s.fams ⟨#[102]⟩ = (x, true))
    (hlen : ∀ f ∈ s.fams, f.f3.length ≤ 1000000 ∧ f.f4.length ≤ 1000000) (hlb : (listL (encParts s)).length ≤ 1000000)
    (hrd : readR x = (0, true)) (hc : colR x.f4 ⟨#[113]⟩ = (⟨q0, 1, q2⟩, true)) (hx3 : x.f3.length ≤ 1000000)
    (hw : (x.f3.filter fun l => l.f1 == 2 || l.f1 == 3).map (·.f0) = [0, 1]) (hg : (x.f3.filter fun l => l.f1 != 0).map (·.f0) = [0, 1]) (w : World) :
    Calls Try.prog 14 #[] w (RetB w true) := by
  have HONE := Aside0.mk hone
  have HENC := Aside0.mk (fun v W (h : Sc W v s) => encode_any v s W h hn)
  have HD := Aside0.mk (decOk_enc hok hn)
  have HOK := Aside0.mk hok
  have HFND := Aside0.mk (fun v W (h : Sc W v s) => hf ▸ find_any v s ⟨#[102]⟩ W h hlen)
  have HRD := Aside0.mk (fun v W (h : Fm W v x) => hrd ▸ read_any v x W h)
  have HCOL := Aside0.mk (fun v W (h : Fm W v x) => hc ▸ column_any v x ⟨#[113]⟩ W h)
  have HS33 := Aside0.mk (fun v u W (h : Sc W v s) (h2 : Sc W u s) => (eqSch_iff s s).2 rfl ▸ same33_any v u s s W h h2)
  have HS17 := Aside0.mk (fun v u W (h : Sc W v s) (h2 : Sc W u s) => (eqSch_iff s s).2 rfl ▸ same17_any v u s s W h h2)
  have HLB := Aside0.mk hlb
  have HR := Aside0.mk (fun v W (h : Sc W v s) => hr ▸ right_any v s W h)
  have HZ := Aside0.mk (fun v W (h : Sc W v zSch) => hz ▸ right_any v zSch W h)
  have HW := Aside0.mk (fun v W (h : Fm W v x) => hw ▸ written_any v x W h hx3)
  have HG := Aside0.mk (fun v W (h : Fm W v x) => hg ▸ gone_any v x W h hx3)
  clear hone hok hr hz hn hf hlen hrd hc hw hg hlb
  go_enter Try.func14, Try.ntmps14
  go_wp2_with fail
  refine (HONE.out _).mono ?_
  rintro e w1 ⟨v1, rfl, ⟨vf, rfl, hsl⟩, hb1⟩
  obtain ⟨Af, cf, rfl, hcf, hCf⟩ := hsl
  have HSC := Aside0.mk (show Sc w1 (Vs s (.slice Af s.fams.length cf)) s from ⟨_, rfl, Af, cf, rfl, hcf, hCf⟩)
  have HB := Aside0.mk hb1
  have HB1 := Aside0.mk (below_alloc (Below.refl _ w1) (.cells #[.int .i64 s.ver, .slice Af s.fams.length cf, .int .i64 s.kind, .string s.fam, .string s.qual, .int .i64 s.typ, .int .i64 s.grp, .int .i64 s.vers, .int .i64 s.life, .int .i64 s.step] 28))
  have HA1 := Aside0.mk (blk_new w1 #[.int .i64 s.ver, .slice Af s.fams.length cf, .int .i64 s.kind, .string s.fam, .string s.qual, .int .i64 s.typ, .int .i64 s.grp, .int .i64 s.vers, .int .i64 s.life, .int .i64 s.step] 28)
  clear hb1 hcf hCf
  go_wp2_with fail
  refine (HENC.out _ _ (HSC.out.below HB1.out)).mono ?_
  rintro e w2 ⟨v2, l, ok, rfl, hn2, hb2, hl, rfl⟩
  obtain ⟨A2, c2, rfl⟩ := Kd.N_slice hn2
  have HL := Aside0.mk (show l = listL (encParts s) by rw [hl, if_pos HOK.out])
  have HOK2 := Aside0.mk HOK.out
  have HB2 := Aside0.mk (bb HB1.out hb2)
  have HA2 := Aside0.mk (blk_keep hb2 HA1.out)
  have HDEC := Aside0.mk (decode_any _ l w2 hn2.sl (by rw [HL.out]; exact HLB.out))
  have hoks := HOK.out
  clear hn2 hb2 hl HA1 HB1
  go_wp2_with fail
  clear hoks
  refine HDEC.out.mono ?_
  rintro e w3 ⟨v3, ok3, s3, rfl, hs3, hb3, h3a, h3b⟩
  rw [HL.out, HD.out] at h3a h3b
  simp only [Option.getD_some, Option.isSome_some] at h3a h3b
  rw [h3a] at hs3
  clear h3a
  subst h3b
  obtain ⟨vf3, rfl, hsl3⟩ := hs3
  obtain ⟨Ag, cg, rfl, hcg, hCg⟩ := hsl3
  have HS3 := Aside0.mk (show Sc w3 (Vs s (.slice Ag s.fams.length cg)) s from ⟨_, rfl, Ag, cg, rfl, hcg, hCg⟩)
  have HA3 := Aside0.mk (blk_old (blk_keep hb3 HA2.out) (.cells #[.int .i64 s.ver, .slice Ag s.fams.length cg, .int .i64 s.kind, .string s.fam, .string s.qual, .int .i64 s.typ, .int .i64 s.grp, .int .i64 s.vers, .int .i64 s.life, .int .i64 s.step] 28))
  have HBB3 := Aside0.mk (blk_new w3 #[.int .i64 s.ver, .slice Ag s.fams.length cg, .int .i64 s.kind, .string s.fam, .string s.qual, .int .i64 s.typ, .int .i64 s.grp, .int .i64 s.vers, .int .i64 s.life, .int .i64 s.step] 28)
  have HB3 := Aside0.mk (bba (bb HB2.out hb3) (.cells #[.int .i64 s.ver, .slice Ag s.fams.length cg, .int .i64 s.kind, .string s.fam, .string s.qual, .int .i64 s.typ, .int .i64 s.grp, .int .i64 s.vers, .int .i64 s.life, .int .i64 s.step] 28))
  have HC3 := Aside0.mk (below_alloc (Below.refl _ w3) (.cells #[.int .i64 s.ver, .slice Ag s.fams.length cg, .int .i64 s.kind, .string s.fam, .string s.qual, .int .i64 s.typ, .int .i64 s.grp, .int .i64 s.vers, .int .i64 s.life, .int .i64 s.step] 28))
  clear hb3 hcg hCg HA2 HB2
  have ga := blk_cell HA3.out
  go_wp2_with fail
  clear ga
  refine (HFND.out _ _ (HSC.out.below HB3.out)).mono ?_
  rintro e w4 ⟨v4, rfl, ⟨u3, u4, rfl, h3, h4⟩, hb4⟩
  obtain ⟨A3, c3, rfl⟩ := Kd.N_slice h3
  obtain ⟨A4, c4, rfl⟩ := Kd.N_slice h4
  have HFM := Aside0.mk (show Fm w4 (.agg #[.string x.f0, .int .i64 x.f1, .int .i64 x.f2, .slice A3 x.f3.length c3, .slice A4 x.f4.length c4]) x from ⟨_, _, rfl, h3.sl, h4.sl⟩)
  have HA4 := Aside0.mk (blk_old (blk_keep hb4 HA3.out) (.cells #[.string x.f0, .int .i64 x.f1, .int .i64 x.f2, .slice A3 x.f3.length c3, .slice A4 x.f4.length c4] 40))
  have HBB4 := Aside0.mk (blk_old (blk_keep hb4 HBB3.out) (.cells #[.string x.f0, .int .i64 x.f1, .int .i64 x.f2, .slice A3 x.f3.length c3, .slice A4 x.f4.length c4] 40))
  have HDD4 := Aside0.mk (blk_new w4 #[.string x.f0, .int .i64 x.f1, .int .i64 x.f2, .slice A3 x.f3.length c3, .slice A4 x.f4.length c4] 40)
  have HB4 := Aside0.mk (bba (bb HB3.out hb4) (.cells #[.string x.f0, .int .i64 x.f1, .int .i64 x.f2, .slice A3 x.f3.length c3, .slice A4 x.f4.length c4] 40))
  have HC4 := Aside0.mk (bba (bb HC3.out hb4) (.cells #[.string x.f0, .int .i64 x.f1, .int .i64 x.f2, .slice A3 x.f3.length c3, .slice A4 x.f4.length c4] 40))
  have HD4 := Aside0.mk (below_alloc (Below.refl _ w4) (.cells #[.string x.f0, .int .i64 x.f1, .int .i64 x.f2, .slice A3 x.f3.length c3, .slice A4 x.f4.length c4] 40))
  clear hb4 h3 h4 HA3 HBB3 HB3 HC3
  go_wp2_with fail
  refine (HRD.out _ _ (HFM.out.below HD4.out)).mono ?_
  rintro e w5 ⟨rfl, hb5⟩
  have HA5 := Aside0.mk (blk_keep hb5 HA4.out)
  have HBB5 := Aside0.mk (blk_keep hb5 HBB4.out)
  have HDD5 := Aside0.mk (blk_keep hb5 HDD4.out)
  have HB5 := Aside0.mk (bb HB4.out hb5)
  have HC5 := Aside0.mk (bb HC4.out hb5)
  have HD5 := Aside0.mk (bb HD4.out hb5)
  clear hb5 HA4 HBB4 HDD4 HB4 HC4 HD4
  have gd := blk_cell HDD5.out
  go_wp2_with fail
  clear gd
  refine (HCOL.out _ _ (HFM.out.below HD5.out)).mono ?_
  rintro e w6 ⟨rfl, hb6⟩
  have HA6 := Aside0.mk (blk_old (blk_keep hb6 HA5.out) (.cells #[.string q0, .int .i64 1, .int .i64 q2] 52))
  have HBB6 := Aside0.mk (blk_old (blk_keep hb6 HBB5.out) (.cells #[.string q0, .int .i64 1, .int .i64 q2] 52))
  have HDD6 := Aside0.mk (blk_old (blk_keep hb6 HDD5.out) (.cells #[.string q0, .int .i64 1, .int .i64 q2] 52))
  have HB6 := Aside0.mk (bba (bb HB5.out hb6) (.cells #[.string q0, .int .i64 1, .int .i64 q2] 52))
  have HC6 := Aside0.mk (bba (bb HC5.out hb6) (.cells #[.string q0, .int .i64 1, .int .i64 q2] 52))
  have HD6 := Aside0.mk (bba (bb HD5.out hb6) (.cells #[.string q0, .int .i64 1, .int .i64 q2] 52))
  clear hb6 HA5 HBB5 HDD5 HB5 HC5 HD5
  have ga := blk_cell HA6.out
  have gb := blk_cell HBB6.out
  go_wp2_with fail
  clear ga gb
  refine (HS33.out _ _ _ (HSC.out.below HB6.out) (HS3.out.below HC6.out)).mono ?_
  rintro e w7 ⟨rfl, hb7⟩
  have HA7 := Aside0.mk (blk_keep hb7 HA6.out)
  have HBB7 := Aside0.mk (blk_keep hb7 HBB6.out)
  have HDD7 := Aside0.mk (blk_keep hb7 HDD6.out)
  have HB7 := Aside0.mk (bb HB6.out hb7)
  have HC7 := Aside0.mk (bb HC6.out hb7)
  have HD7 := Aside0.mk (bb HD6.out hb7)
  clear hb7 HA6 HBB6 HDD6 HB6 HC6 HD6
  have ga := blk_cell HA7.out
  have gb := blk_cell HBB7.out
  go_wp2_with fail
  clear ga gb
  refine (HS17.out _ _ _ (HSC.out.below HB7.out) (HS3.out.below HC7.out)).mono ?_
  rintro e w8 ⟨rfl, hb8⟩
  have HA8 := Aside0.mk (blk_keep hb8 HA7.out)
  have HDD8 := Aside0.mk (blk_keep hb8 HDD7.out)
  have HB8 := Aside0.mk (bb HB7.out hb8)
  have HD8 := Aside0.mk (bb HD7.out hb8)
  clear hb8 HA7 HBB7 HDD7 HB7 HC7 HD7 HS3
  have ga := blk_cell HA8.out
  go_wp2_with fail
  clear ga
  refine (HR.out _ _ (HSC.out.below HB8.out)).mono ?_
  rintro e w9 ⟨rfl, hb9⟩
  have HDD9 := Aside0.mk (blk_keep hb9 HDD8.out)
  have HB9 := Aside0.mk (bb HB8.out hb9)
  have HD9 := Aside0.mk (bb HD8.out hb9)
  clear hb9 HA8 HDD8 HB8 HD8
  go_wp2_with fail
  refine (HZ.out _ _ ⟨_, rfl, Sl.nil _ _⟩).mono ?_
  rintro e w10 ⟨rfl, hb10⟩
  have HDD10 := Aside0.mk (blk_keep hb10 HDD9.out)
  have HB10 := Aside0.mk (bb HB9.out hb10)
  have HD10 := Aside0.mk (bb HD9.out hb10)
  clear hb10 HDD9 HB9 HD9
  have gd := blk_cell HDD10.out
  go_wp2_with fail
  clear gd
  refine (HW.out _ _ (HFM.out.below HD10.out)).mono ?_
  rintro e w11 ⟨v11, rfl, hn11, hb11⟩
  have HDD11 := Aside0.mk (blk_keep hb11 HDD10.out)
  have HB11 := Aside0.mk (bb HB10.out hb11)
  have HD11 := Aside0.mk (bb HD10.out hb11)
  have HS11 := Aside0.mk hn11.sl
  clear hb11 hn11 HDD10 HB10 HD10
  go_wp2_with fail
  have HL11 := Aside0.mk (slI_lit w11 [0, 1] (by simp))
  have HB11' := Aside0.mk (below_alloc (Below.refl _ w11) (.cells #[.int .i64 0, .int .i64 1] 3))
  refine (same37_any v11 _ [0, 1] [0, 1] _ (HS11.out.below HB11'.out) HL11.out).mono ?_
  rintro e w12 ⟨rfl, hb12⟩
  have HDD12 := Aside0.mk (blk_keep hb12 (blk_old HDD11.out _))
  have HB12 := Aside0.mk (bb (bba HB11.out _) hb12)
  have HD12 := Aside0.mk (bb (bba HD11.out _) hb12)
  clear hb12 HDD11 HB11 HD11 HS11 HL11 HB11'
  have gd := blk_cell HDD12.out
  go_wp2_with fail
  clear gd
  refine (HG.out _ _ (HFM.out.below HD12.out)).mono ?_
  rintro e w13 ⟨v13, rfl, hn13, hb13⟩
  have HB13 := Aside0.mk (bb HB12.out hb13)
  have HS13 := Aside0.mk hn13.sl
  clear hb13 hn13 HDD12 HB12 HD12
  go_wp2_with fail
  have HL13 := Aside0.mk (slI_lit w13 [0, 1] (by simp))
  refine (same37_any v13 _ [0, 1] [0, 1] _ (HS13.out.below (below_alloc (Below.refl _ w13) _)) HL13.out).mono ?_
  rintro e w14 ⟨rfl, hb14⟩
  have HB14 := Aside0.mk (bb HB.out (bb (bba HB13.out _) hb14))
  clear hb14
  go_wp2
  go_ret
  exact ⟨rfl, HB14.out⟩
def oneS : Sch := ⟨1, [⟨⟨#[102]⟩, 1, 0, [⟨0, 3⟩, ⟨1, 2⟩], [⟨⟨#[113]⟩, 1, 3⟩]⟩], 0, ⟨#[]⟩, ⟨#[]⟩, 0, 0, 0, 0, 0⟩
theorem one_any (w : World) : Calls Try.prog 51 #[] w (OneP w oneS) :=
  (joistlaw14_one.calls _ _ _ _ _ _ _ _ _ _ w rfl).mono fun _ _ ⟨_, he, hn, hb⟩ => ⟨_, he, ⟨_, rfl, Kd.N_reads hn⟩, hb⟩
theorem one_right : rightB oneS = true := by kernel_rfl
theorem one_enc : encOk oneS = true := by kernel_rfl
theorem z_right : rightB zSch = false := by kernel_rfl
theorem enc_total {s : Sch} (h : encOk s = true) (hn : s.typ ≤ 9223372036854775807 ∧ s.grp ≤ 9223372036854775807 ∧ s.vers ≤ 9223372036854775807 ∧ s.life ≤ 9223372036854775807) : (listL (encParts s)).length ≤ 1000000 := by
  obtain ⟨hc, hf6, hsm⟩ := encParts_small h hn
  simp only [encOk, Bool.and_eq_true, decide_eq_true_eq] at h
  obtain ⟨h1, h2, h3, h4, h5⟩ := rightB_fams h.1.1.1
  have e0 := listL_len (encParts s) hsm
  have e1 := encN_len9 (show (encParts s).length < 9223372036854775808 by omega)
  have n9 : ∀ {n : Int}, n ≤ 9223372036854775807 → (numL n).length ≤ 100 := fun hn => Nat.le_trans (numL_len hn) (by omega)
  have em : (s.fams.map (fun f => listL (famParts f))).flatten.length ≤ 6 * 100909 := by
    refine Nat.le_trans (flatten_le 100909 6 _ (by simpa using hf6) (fun b hb => ?_)) (by omega)
    obtain ⟨f, hf, rfl⟩ := List.mem_map.1 hb
    have hfo := famOk_of (h3 f hf)
    have h3' := famOk_parts (h3 f hf)
    have hsm := famParts_small hfo
    have e1 := listL_len (famParts f) (fun b hb => by have := hsm b hb; omega)
    have e2 := flatten_le 1000 100 (famParts f) h3' hsm
    have e3 := encN_len9 (show (famParts f).length < 9223372036854775808 by omega)
    rw [listL, List.length_append]
    omega
  have et : ([numL s.kind, s.fam.data.toList, s.qual.data.toList, numL s.typ, numL s.grp, numL s.vers, numL s.life, numL s.step]).flatten.length ≤ 100 * 8 := by
    refine Nat.le_trans (flatten_le 100 8 _ (by simp) (fun b hb => ?_)) (by omega)
    simp only [List.mem_cons, List.not_mem_nil, or_false] at hb
    rcases hb with rfl | rfl | rfl | rfl | rfl | rfl | rfl | rfl
    · exact n9 (by omega)
    · rw [data_length]; omega
    · rw [data_length]; omega
    · exact n9 hn.1
    · exact n9 hn.2.1
    · exact n9 hn.2.2.1
    · exact n9 hn.2.2.2
    · exact n9 (by omega)
  have ev : (numL s.ver).length ≤ 100 := n9 (by omega)
  have e2 : (encParts s).flatten.length = (numL s.ver).length + (s.fams.map (fun f => listL (famParts f))).flatten.length + ([numL s.kind, s.fam.data.toList, s.qual.data.toList, numL s.typ, numL s.grp, numL s.vers, numL s.life, numL s.step]).flatten.length := by
    unfold encParts
    rw [List.flatten_append, List.flatten_append, List.length_append, List.length_append]
    simp
  rw [listL, List.length_append]
  omega
theorem alive_any (w : World) : Calls Try.prog 14 #[] w (RetB w true) :=
  alive_aux oneS ⟨⟨#[102]⟩, 1, 0, [⟨0, 3⟩, ⟨1, 2⟩], [⟨⟨#[113]⟩, 1, 3⟩]⟩ ⟨#[113]⟩ 3 one_any one_enc one_right z_right (by decide) (by kernel_rfl) (by decide) (enc_total one_enc (by decide)) rfl (by kernel_rfl) (by decide) rfl rfl w
end Go.Proofs.Ytmgpoafoljkknaa.My
