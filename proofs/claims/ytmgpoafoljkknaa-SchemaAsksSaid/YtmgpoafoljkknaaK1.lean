/- Contracts of the references' CopyFamily and CopySchema. Conditions: slices have at most a million elements. -/
import Derived.Test.YtmgpoafoljkknaaV
import Derived.Deep.DeepCutAuto
import Derived.Deep.RegionLaw
namespace Go.Proofs.Ytmgpoafoljkknaa.My
open Go.RowKit Go.Proofs.YtmgpoafoljkknaaW.PrintWords Go.Proofs.YtmgpoafoljkknaaW.PrintLast Go.Proofs.YtmgpoafoljkknaaW.PrintMore PSchemaReads
set_option maxHeartbeats 2000000 in
set_option maxRecDepth 100000 in
theorem copyF82 (v : Value) (x : S40) (w : World) (h : Fm w v x) (hl3 : x.f3.length ≤ 1000000) (hl4 : x.f4.length ≤ 1000000) :
    Calls Try.prog 82 #[v] w fun e w' => ∃ v1, e = .returned v1 ∧ FmN w.heap.size w' v1 x ∧ Below w.heap.size w w' := by
  obtain ⟨v3, v4, rfl, h3, h4⟩ := h
  obtain ⟨A3, c3, rfl, hc3, hC3⟩ := h3
  obtain ⟨A4, c4, rfl, hc4, hC4⟩ := h4
  have HC3 := Aside0.mk hC3
  have HC4 := Aside0.mk hC4
  have HL := Aside0.mk (And.intro hl3 hl4)
  clear hC3 hC4 hl3 hl4
  have hs0 : (((w.alloc (.cells #[.string x.f0, .int .i64 x.f1, .int .i64 x.f2, .slice A3 x.f3.length c3, .slice A4 x.f4.length c4] 40)).alloc (.cells #[.string ⟨#[]⟩, .int .i64 0, .int .i64 0, .slice none 0 0, .slice none 0 0] 40)).alloc (.cells #[.string x.f0, .int .i64 x.f1, .int .i64 x.f2, .slice A3 x.f3.length c3, .slice A4 x.f4.length c4] 40)).heap.size = w.heap.size + 1 + 1 + 1 := by simp
  have HB0 := Aside0.mk (bba (bba (below_alloc (Below.refl _ w) (.cells #[.string x.f0, .int .i64 x.f1, .int .i64 x.f2, .slice A3 x.f3.length c3, .slice A4 x.f4.length c4] 40)) (.cells #[.string ⟨#[]⟩, .int .i64 0, .int .i64 0, .slice none 0 0, .slice none 0 0] 40)) (.cells #[.string x.f0, .int .i64 x.f1, .int .i64 x.f2, .slice A3 x.f3.length c3, .slice A4 x.f4.length c4] 40))
  have g1 := blk_old (blk_old (blk_new w #[.string x.f0, .int .i64 x.f1, .int .i64 x.f2, .slice A3 x.f3.length c3, .slice A4 x.f4.length c4] 40) (.cells #[.string ⟨#[]⟩, .int .i64 0, .int .i64 0, .slice none 0 0, .slice none 0 0] 40)) (.cells #[.string x.f0, .int .i64 x.f1, .int .i64 x.f2, .slice A3 x.f3.length c3, .slice A4 x.f4.length c4] 40)
  have g2 := blk_old (blk_new (w.alloc (.cells #[.string x.f0, .int .i64 x.f1, .int .i64 x.f2, .slice A3 x.f3.length c3, .slice A4 x.f4.length c4] 40)) #[.string ⟨#[]⟩, .int .i64 0, .int .i64 0, .slice none 0 0, .slice none 0 0] 40) (.cells #[.string x.f0, .int .i64 x.f1, .int .i64 x.f2, .slice A3 x.f3.length c3, .slice A4 x.f4.length c4] 40)
  have g3 := blk_new ((w.alloc (.cells #[.string x.f0, .int .i64 x.f1, .int .i64 x.f2, .slice A3 x.f3.length c3, .slice A4 x.f4.length c4] 40)).alloc (.cells #[.string ⟨#[]⟩, .int .i64 0, .int .i64 0, .slice none 0 0, .slice none 0 0] 40)) #[.string x.f0, .int .i64 x.f1, .int .i64 x.f2, .slice A3 x.f3.length c3, .slice A4 x.f4.length c4] 40
  simp only [World.size_alloc] at g2 g3
  obtain ⟨W0, hW0⟩ : ∃ W0, ((w.alloc (.cells #[.string x.f0, .int .i64 x.f1, .int .i64 x.f2, .slice A3 x.f3.length c3, .slice A4 x.f4.length c4] 40)).alloc (.cells #[.string ⟨#[]⟩, .int .i64 0, .int .i64 0, .slice none 0 0, .slice none 0 0] 40)).alloc (.cells #[.string x.f0, .int .i64 x.f1, .int .i64 x.f2, .slice A3 x.f3.length c3, .slice A4 x.f4.length c4] 40) = W0 := ⟨_, rfl⟩
  have HW0 := Aside0.mk hW0
  rw [hW0] at hs0 HB0 g1 g2 g3
  have HS0 := Aside0.mk hs0
  have G1 := Aside0.mk g1
  have G2 := Aside0.mk g2
  have G3 := Aside0.mk g3
  have hn1 := N_empty k60 60 W0 (fun _ => True) trivial
  have HN1 := Aside0.mk (Kd.N_lower hn1 HB0.out.size)
  clear hW0 hs0 g1 g2 g3 hn1
  go_enter Try.func82, Try.ntmps82
  go_upto_region 2 with fail
  rw [HW0.out]
  have gc1 := fun o => blk_cell (blk_old G1.out o)
  go_upto_region 3 with (at_builtin; refine Kd.N_append_rows k60 (w0 := w) w.heap.size rfl (.tmp 5) (.tmp 7) 37 60 (.agg #[.int .i64 0, .int .i64 0]) 16 rfl Try.underlying37 info60 rfl (by decide) (by omega) (.slice (some ⟨W0.heap.size, 0, none⟩) 0 0) [] x.f3 A3 x.f3.length c3 (fun _ => True) (fun k => k < w.heap.size) rfl rfl HN1.out (F_old heap60 HC3.out (bba HB0.out _)) (fun k hk => ⟨trivial, fun he => by have := HB0.out.size; have h2 := Option.some.inj (show some k = some W0.heap.size from he); omega⟩) (fun _ _ => trivial) (bba HB0.out _) (bba HB0.out _).size (by have := HL.out.1; show (0 + x.f3.length) * 16 ≤ _; omega) ?_; intro v1 w1 ho hb hg2 hat; have hne : ∀ k, k < W0.heap.size → some k ≠ (Value.slice (some ⟨W0.heap.size, 0, none⟩) 0 0).ownBlock := fun k hk he => absurd (Option.some.inj he) (Nat.ne_of_lt hk); have G1 := Aside0.mk (blk_grown (blk_old G1.out _) hg2 (hne _ (blk_lt G1.out))); have G2 := Aside0.mk (blk_grown (blk_old G2.out _) hg2 (hne _ (blk_lt G2.out))); have G3 := Aside0.mk (blk_grown (blk_old G3.out _) hg2 (hne _ (blk_lt G3.out))); obtain ⟨A5, c5, rfl⟩ := Kd.N_slice ho; have HO := Aside0.mk (N_own flat60 ho); have HB := Aside0.mk hb; have gc3 := blk_cell G3.out; have gf3 := blk_frozen G3.out; clear ho hb hg2 hat hne gc1)
  rw [List.nil_append] at HO
  have hs0 := HS0.out
  have GS1 := Aside0.mk (blk_far G1.out (p := ⟨w.heap.size + 1 + 1, 3, none⟩) (by show w.heap.size ≠ w.heap.size + 1 + 1; omega) (.slice A5 x.f3.length c5))
  have GS2 := Aside0.mk (blk_far G2.out (p := ⟨w.heap.size + 1 + 1, 3, none⟩) (by show w.heap.size + 1 ≠ w.heap.size + 1 + 1; omega) (.slice A5 x.f3.length c5))
  have GS3 := Aside0.mk (blk_set G3.out 3 (.slice A5 x.f3.length c5))
  have HOS := Aside0.mk (Kd.N_far HO.out (p := ⟨w.heap.size + 1 + 1, 3, none⟩) (fun k hk he => by
    have h1 := Kd.N_ne HO.out G3.out (by decide)
    rw [show k = w.heap.size + 1 + 1 from he] at hk
    exact h1 hk.symm) (.slice A5 x.f3.length c5))
  have HBS := Aside0.mk (HB.out.setCell (p := ⟨w.heap.size + 1 + 1, 3, none⟩) (by show w.heap.size ≤ w.heap.size + 1 + 1; omega) (.slice A5 x.f3.length c5))
  have HSZ := Aside0.mk (show w.heap.size + 1 + 1 < w1.heap.size from blk_lt G3.out)
  clear gc3 gf3 hs0 HN1 HO HB
  generalize w1.setCell ⟨w.heap.size + 1 + 1, 3, none⟩ (.slice A5 x.f3.length c5) = w2 at GS1 GS2 GS3 HOS HBS ⊢
  have gc1 := fun o => blk_cell (blk_old GS1.out o)
  have HN2 := Aside0.mk (Kd.N_lower (N_empty k52 52 w2 (fun _ => True) trivial) HBS.out.size)
  go_upto_region 4 with (at_builtin; refine Kd.N_append_rows k52 (w0 := w) w.heap.size rfl (.tmp 10) (.tmp 12) 38 52 (.agg #[.string ⟨#[]⟩, .int .i64 0, .int .i64 0]) 32 rfl Try.underlying38 info52 rfl (by decide) (by omega) (.slice (some ⟨w2.heap.size, 0, none⟩) 0 0) [] x.f4 A4 x.f4.length c4 (fun _ => True) (fun k => k < w.heap.size) rfl rfl HN2.out (F_old heap52 HC4.out (bba HBS.out _)) (fun k hk => ⟨trivial, fun he => by have := HBS.out.size; have h2 := Option.some.inj (show some k = some w2.heap.size from he); omega⟩) (fun _ _ => trivial) (bba HBS.out _) (bba HBS.out _).size (by have := HL.out.2; show (0 + x.f4.length) * 32 ≤ _; omega) ?_; intro v3 w3 ho hb hg2 hat; have hne : ∀ k, k < w2.heap.size → some k ≠ (Value.slice (some ⟨w2.heap.size, 0, none⟩) 0 0).ownBlock := fun k hk he => absurd (Option.some.inj he) (Nat.ne_of_lt hk); have G1 := Aside0.mk (blk_grown (blk_old GS1.out _) hg2 (hne _ (blk_lt GS1.out))); have G2 := Aside0.mk (blk_grown (blk_old GS2.out _) hg2 (hne _ (blk_lt GS2.out))); have G3 := Aside0.mk (blk_grown (blk_old GS3.out _) hg2 (hne _ (blk_lt GS3.out))); have HO3 := Aside0.mk (Kd.N_grown (Kd.N_alloc HOS.out _) hg2 (fun k hk => hne k (Kd.N_lt HOS.out k hk))); obtain ⟨A6, c6, rfl⟩ := Kd.N_slice ho; have HO := Aside0.mk (N_own flat52 ho); have HB := Aside0.mk hb; have gc3 := blk_cell G3.out; have gf3 := blk_frozen G3.out; clear ho hb hg2 hat hne gc1)
  rw [List.nil_append] at HO
  have hs3 := HS0.out
  have GS3 := Aside0.mk (blk_set G3.out 4 (.slice A6 x.f4.length c6))
  have GS2 := Aside0.mk (blk_far G2.out (p := ⟨w.heap.size + 1 + 1, 4, none⟩) (by show w.heap.size + 1 ≠ w.heap.size + 1 + 1; omega) (.slice A6 x.f4.length c6))
  have HOA := Aside0.mk (Kd.N_far HO3.out (p := ⟨w.heap.size + 1 + 1, 4, none⟩) (fun k hk he => by
    have h1 := Kd.N_ne HO3.out G3.out (by decide)
    rw [show k = w.heap.size + 1 + 1 from he] at hk
    exact h1 hk.symm) (.slice A6 x.f4.length c6))
  have HOB := Aside0.mk (Kd.N_far HO.out (p := ⟨w.heap.size + 1 + 1, 4, none⟩) (fun k hk he => by
    have h1 := Kd.N_ne HO.out G3.out (by decide)
    rw [show k = w.heap.size + 1 + 1 from he] at hk
    exact h1 hk.symm) (.slice A6 x.f4.length c6))
  have HBT := Aside0.mk (HB.out.setCell (p := ⟨w.heap.size + 1 + 1, 4, none⟩) (by show w.heap.size ≤ w.heap.size + 1 + 1; omega) (.slice A6 x.f4.length c6))
  clear gc3 gf3 hs3 HN2 HO HB HO3 HOS
  generalize w3.setCell ⟨w.heap.size + 1 + 1, 4, none⟩ (.slice A6 x.f4.length c6) = w4 at GS2 GS3 HOA HOB HBT ⊢
  have gc3 := blk_cell GS3.out
  have gc2 := blk_cell GS2.out
  have gf2 := blk_frozen GS2.out
  have HNA : Aside0 (∀ k, (Value.slice A5 x.f3.length c5).ownBlock = some k → k ≠ w.heap.size + 1) := ⟨fun k hk he => by
    have h1 := Kd.N_ne HOA.out GS2.out (by decide)
    rw [he] at hk
    exact h1 hk.symm⟩
  have HNB : Aside0 (∀ k, (Value.slice A6 x.f4.length c6).ownBlock = some k → k ≠ w.heap.size + 1) := ⟨fun k hk he => by
    have h1 := Kd.N_ne HOB.out GS2.out (by decide)
    rw [he] at hk
    exact h1 hk.symm⟩
  go_wp2
  refine bodyPost_ret (v := .agg #[.string x.f0, .int .i64 x.f1, .int .i64 x.f2, .slice A5 x.f3.length c5, .slice A6 x.f4.length c6]) (by simp [results, Try.results82, go_sem, gc2]) rfl ⟨_, rfl, ⟨_, _, rfl, N_flat flat60 (ok := fun k => (Value.slice A5 x.f3.length c5).ownBlock = some k) ?_, N_flat flat52 (ok := fun k => (Value.slice A6 x.f4.length c6).ownBlock = some k) ?_⟩, ?_⟩
  · with_reducible repeat (first | exact HOA.out | refine Kd.N_far ?_ (fun k hk => HNA.out k hk) _)
  · with_reducible repeat (first | exact HOB.out | refine Kd.N_far ?_ (fun k hk => HNB.out k hk) _)
  · with_reducible repeat (first | exact HBT.out | refine Below.setCell ?_ (by simp) _)
set_option maxHeartbeats 4000000 in
set_option maxRecDepth 100000 in
theorem copyS41 (v : Value) (s : Sch) (w : World) (h : Sc w v s) (hl : ∀ f ∈ s.fams, f.f3.length ≤ 1000000 ∧ f.f4.length ≤ 1000000) (hlf : s.fams.length ≤ 1000000) : Calls Try.prog 41 #[v] w (OneP w s) := by
  obtain ⟨vf, rfl, hs⟩ := h
  have hmax := hs.len
  obtain ⟨A, c, rfl, _, hC⟩ := hs
  have HC := Aside0.mk hC
  have HL := Aside0.mk hl
  have HLF := Aside0.mk hlf
  clear hC hl hlf
  obtain ⟨W0, hW0⟩ : ∃ W0, ((w.alloc (.cells #[.int .i64 s.ver, .slice A s.fams.length c, .int .i64 s.kind, .string s.fam, .string s.qual, .int .i64 s.typ, .int .i64 s.grp, .int .i64 s.vers, .int .i64 s.life, .int .i64 s.step] 28)).alloc (.cells #[.int .i64 0, .slice none 0 0, .int .i64 0, .string ⟨#[]⟩, .string ⟨#[]⟩, .int .i64 0, .int .i64 0, .int .i64 0, .int .i64 0, .int .i64 0] 28)).alloc (.cells #[.int .i64 s.ver, (.slice (some ⟨w.heap.size + 1 + 1 + 1, 0, none⟩) 0 0), .int .i64 s.kind, .string s.fam, .string s.qual, .int .i64 s.typ, .int .i64 s.grp, .int .i64 s.vers, .int .i64 s.life, .int .i64 s.step] 28) = W0 := ⟨_, rfl⟩
  have hs0 : W0.heap.size = w.heap.size + 1 + 1 + 1 := by rw [← hW0]; simp
  have HB0 : Aside0 (Below w.heap.size w W0) := ⟨by rw [← hW0]; exact bba (bba (below_alloc (Below.refl _ w) _) _) _⟩
  have G1 : Aside0 (W0.heap[w.heap.size]? = some (.cells #[.int .i64 s.ver, .slice A s.fams.length c, .int .i64 s.kind, .string s.fam, .string s.qual, .int .i64 s.typ, .int .i64 s.grp, .int .i64 s.vers, .int .i64 s.life, .int .i64 s.step] 28)) := ⟨by rw [← hW0]; exact blk_old (blk_old (blk_new w _ _) _) _⟩
  have G2 : Aside0 (W0.heap[w.heap.size + 1]? = some (.cells #[.int .i64 0, .slice none 0 0, .int .i64 0, .string ⟨#[]⟩, .string ⟨#[]⟩, .int .i64 0, .int .i64 0, .int .i64 0, .int .i64 0, .int .i64 0] 28)) := ⟨by
    have := blk_old (blk_new (w.alloc (.cells #[.int .i64 s.ver, .slice A s.fams.length c, .int .i64 s.kind, .string s.fam, .string s.qual, .int .i64 s.typ, .int .i64 s.grp, .int .i64 s.vers, .int .i64 s.life, .int .i64 s.step] 28)) #[.int .i64 0, .slice none 0 0, .int .i64 0, .string ⟨#[]⟩, .string ⟨#[]⟩, .int .i64 0, .int .i64 0, .int .i64 0, .int .i64 0, .int .i64 0] 28) (.cells #[.int .i64 s.ver, (.slice (some ⟨w.heap.size + 1 + 1 + 1, 0, none⟩) 0 0), .int .i64 s.kind, .string s.fam, .string s.qual, .int .i64 s.typ, .int .i64 s.grp, .int .i64 s.vers, .int .i64 s.life, .int .i64 s.step] 28)
    rw [World.size_alloc] at this
    rw [← hW0]; exact this⟩
  have G3 : Aside0 (W0.heap[w.heap.size + 1 + 1]? = some (.cells #[.int .i64 s.ver, (.slice (some ⟨w.heap.size + 1 + 1 + 1, 0, none⟩) 0 0), .int .i64 s.kind, .string s.fam, .string s.qual, .int .i64 s.typ, .int .i64 s.grp, .int .i64 s.vers, .int .i64 s.life, .int .i64 s.step] 28)) := ⟨by
    have := blk_new ((w.alloc (.cells #[.int .i64 s.ver, .slice A s.fams.length c, .int .i64 s.kind, .string s.fam, .string s.qual, .int .i64 s.typ, .int .i64 s.grp, .int .i64 s.vers, .int .i64 s.life, .int .i64 s.step] 28)).alloc (.cells #[.int .i64 0, .slice none 0 0, .int .i64 0, .string ⟨#[]⟩, .string ⟨#[]⟩, .int .i64 0, .int .i64 0, .int .i64 0, .int .i64 0, .int .i64 0] 28)) #[.int .i64 s.ver, (.slice (some ⟨w.heap.size + 1 + 1 + 1, 0, none⟩) 0 0), .int .i64 s.kind, .string s.fam, .string s.qual, .int .i64 s.typ, .int .i64 s.grp, .int .i64 s.vers, .int .i64 s.life, .int .i64 s.step] 28
    rw [World.size_alloc, World.size_alloc] at this
    rw [← hW0]; exact this⟩
  have HS0 := Aside0.mk hs0
  have HW0 := Aside0.mk hW0
  have hn := N_empty k40 40 W0 (fun k => w.heap.size + 1 + 1 + 1 ≤ k) (Nat.le_of_eq hs0.symm)
  rw [hs0] at hn
  have HN := Aside0.mk hn
  clear hn hW0 hs0
  go_enter Try.func41, Try.ntmps41
  go_wp2
  rw [HW0.out]
  go_loopg [4] s.fams.length (fun gg s4 wr => ∃ (kk : Nat) (vq : Value), kk ≤ s.fams.length ∧ s.fams.length - kk ≤ gg ∧ s4 = .int .i64 kk ∧ Aside0 (Below w.heap.size w wr) ∧ Aside0 (wr.heap[w.heap.size]? = some (.cells #[.int .i64 s.ver, .slice A s.fams.length c, .int .i64 s.kind, .string s.fam, .string s.qual, .int .i64 s.typ, .int .i64 s.grp, .int .i64 s.vers, .int .i64 s.life, .int .i64 s.step] 28)) ∧ Aside0 (wr.heap[w.heap.size + 1]? = some (.cells #[.int .i64 0, .slice none 0 0, .int .i64 0, .string ⟨#[]⟩, .string ⟨#[]⟩, .int .i64 0, .int .i64 0, .int .i64 0, .int .i64 0, .int .i64 0] 28)) ∧ Aside0 (wr.heap[w.heap.size + 1 + 1]? = some (.cells #[.int .i64 s.ver, vq, .int .i64 s.kind, .string s.fam, .string s.qual, .int .i64 s.typ, .int .i64 s.grp, .int .i64 s.vers, .int .i64 s.life, .int .i64 s.step] 28 (0, 0))) ∧ Aside0 (Kd.N k40 40 wr (w.heap.size + 1 + 1 + 1) (fun k => w.heap.size + 1 + 1 + 1 ≤ k) vq (s.fams.take kk)))
  case atStart => exact ⟨0, .slice (some ⟨w.heap.size + 1 + 1 + 1, 0, none⟩) 0 0, by omega, by omega, rfl, ⟨bba HB0.out _⟩, ⟨blk_old G1.out _⟩, ⟨blk_old G2.out _⟩, ⟨blk_old G3.out _⟩, HN⟩
  case round =>
    clear HB0 G1 G2 G3 HN
    obtain ⟨kk, vq, hkk, hg, rfl, BW, G1, G2, G3, HN⟩ := hrel
    have gc1 := blk_cell G1.out
    have HS := Aside0.mk (show w.heap.size + 1 + 1 < wr.heap.size from blk_lt G3.out)
    by_cases hlt : kk < s.fams.length
    · have hltz : (kk : Int) < (s.fams.length : Int) := by omega
      have HT := Aside0.mk (List.take_succ_eq_append_getElem hlt)
      have HLEN := Aside0.mk (show (s.fams.take kk).length ≤ 1000000 by rw [List.length_take]; have := HLF.out; omega)
      have HXL := Aside0.mk (HL.out _ (List.getElem_mem hlt))
      obtain ⟨ad, A3, c3, A4, c4, rfl, h0, h1, h2, h3, h4, hfm⟩ := get40 (Kd.C_below HC.out BW.out) kk hlt
      generalize s.fams[kk] = x at h0 h1 h2 h3 h4 hfm HT HXL
      generalize s.fams.take kk = acc at HN HT HLEN
      obtain ⟨Aq, cq, rfl⟩ := Kd.N_slice HN.out
      have HCP := Aside0.mk (fun W (hb : Below wr.heap.size wr W) => copyF82 _ x W (hfm.below hb) HXL.out.1 HXL.out.2)
      clear hfm
      have gc3 := blk_cell G3.out
      go_wp2
      go_region_law (first
        | (go_simp; go_at_call 82; refine (HCP.out _ (by with_reducible repeat (first | exact Below.refl _ _ | refine Below.drew ?_))).mono ?_; rintro e w8 ⟨v8, rfl, ⟨u3, u4, rfl, n3, n4⟩, hb2⟩; obtain ⟨B3, d3, rfl⟩ := Kd.N_slice n3; obtain ⟨B4, d4, rfl⟩ := Kd.N_slice n4; have HB8 := Aside0.mk (show Below wr.heap.size wr w8 from bb (by with_reducible repeat (first | exact Below.refl _ _ | refine Below.drew ?_)) hb2); have HN3 := Aside0.mk n3; have HN4 := Aside0.mk n4; have G38 := Aside0.mk (blk_keep HB8.out G3.out); have HN8 := Aside0.mk (Kd.N_below HN.out HB8.out); have gc8 := blk_cell G38.out; have gf8 := blk_frozen G38.out; have gc8' := fun o => blk_cell (blk_old G38.out o); have HS8 := Aside0.mk HB8.out.size; clear hb2 n3 n4)
        | (refine Kd.N_append_step k40 (w0 := w8) (w.heap.size + 1 + 1 + 1) rfl (.tmp 16) (.tmp 23) 24 40 (.agg #[.string ⟨#[]⟩, .int .i64 0, .int .i64 0, .slice none 0 0, .slice none 0 0]) 80 rfl Try.underlying24 info40 rfl (by decide) (by omega) (.slice Aq acc.length cq) acc x [.string x.f0, .int .i64 x.f1, .int .i64 x.f2, .slice B3 x.f3.length d3, .slice B4 x.f4.length d4] (fun k => w.heap.size + 1 + 1 + 1 ≤ k) (fun k => wr.heap.size ≤ k) rfl rfl (k40_mkF _ _ _ (Kd.N_reads' HN3.out).2.1 (Kd.N_F HN3.out) (Kd.N_reads' HN4.out).2.1 (Kd.N_F HN4.out)) (fun k hk => ⟨by have := HS.out; omega, fun he => absurd (Kd.N_lt HN.out k he.symm) (by omega)⟩) (fun k hk => by have := HS.out; have := HS8.out; omega) HN8.out (Below.refl _ _) (by have := HS.out; have := HS8.out; omega) (by have := HLEN.out; omega) ?_; intro v9 w9 ho hb hg9 hat; obtain ⟨A9, c9, rfl⟩ := Kd.N_slice ho; have HO := Aside0.mk ho; have HB9 := Aside0.mk hb; have f9 := blk_grown G38.out hg9 (Kd.N_ne HN8.out G38.out (by decide)); have G39 := Aside0.mk f9; have G19 := Aside0.mk (blk_grown (blk_keep HB8.out G1.out) hg9 (Kd.N_ne HN8.out (blk_keep HB8.out G1.out) (by decide))); have G29 := Aside0.mk (blk_grown (blk_keep HB8.out G2.out) hg9 (Kd.N_ne HN8.out (blk_keep HB8.out G2.out) (by decide))); have gc9 := blk_cell f9; have gf9 := blk_frozen f9; clear ho hb hg9 hat f9))
      all_goals
        go_wp2
        go_roundg (s.fams.length - (kk + 1))
        case measure => omega
        case rel =>
          refine ⟨kk + 1, .slice A9 (acc.length + 1) c9, by omega, by omega, by go_num, ⟨?_⟩, ⟨(blk_far G19.out (by show w.heap.size ≠ w.heap.size + 1 + 1; omega) _)⟩, ⟨(blk_far G29.out (by show w.heap.size + 1 ≠ w.heap.size + 1 + 1; omega) _)⟩, ⟨blk_set G39.out 1 _⟩, ⟨?_⟩⟩
          · exact ((bb BW.out HB8.out).trans (HB9.out.mono (by omega))).setCell (by show w.heap.size ≤ w.heap.size + 1 + 1; omega) _
          · rw [HT.out]
            refine Kd.N_far ?_ (fun k hk => by show k ≠ w.heap.size + 1 + 1; omega) _
            have h1 := HO.out
            rw [List.length_append, List.length_singleton] at h1
            exact h1
    · have hltz : ¬ (kk : Int) < (s.fams.length : Int) := by omega
      obtain rfl : kk = s.fams.length := by omega
      have hn := HN.out
      rw [List.take_length] at hn
      have HN := Aside0.mk hn
      clear hn
      obtain ⟨Aq, cq, rfl⟩ := Kd.N_slice HN.out
      have gc3 := blk_cell G3.out
      have gc2 := blk_cell G2.out
      have gf2 := blk_frozen G2.out
      go_wp2
      refine bodyPost_ret (v := .agg #[.int .i64 s.ver, .slice Aq s.fams.length cq, .int .i64 s.kind, .string s.fam, .string s.qual, .int .i64 s.typ, .int .i64 s.grp, .int .i64 s.vers, .int .i64 s.life, .int .i64 s.step]) (by simp [results, Try.results41, go_sem, gc2]) rfl ⟨_, rfl, ⟨_, rfl, Kd.N_reads (ok := fun k => w.heap.size + 1 + 1 + 1 ≤ k) (base := w.heap.size + 1 + 1 + 1) (e := 40) ?_⟩, ?_⟩
      · with_reducible repeat (first | exact HN.out | refine Kd.N_far ?_ (fun k hk => by simp at hk ⊢; omega) _)
      · with_reducible repeat (first | exact BW.out | refine Below.setCell ?_ (by simp) _)
end Go.Proofs.Ytmgpoafoljkknaa.My
