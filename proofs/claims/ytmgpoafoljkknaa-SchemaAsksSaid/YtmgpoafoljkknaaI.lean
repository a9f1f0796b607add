/- Contracts of the packer and of schema.Encode. Conditions: what is packed is at most a million parts. -/
import Derived.Test.YtmgpoafoljkknaaH
import Derived.Deep.RegionLaw
namespace Go.Proofs.Ytmgpoafoljkknaa.My
open Go.RowKit Go.Proofs.YtmgpoafoljkknaaW.PrintWords Go.Proofs.YtmgpoafoljkknaaW.PrintLast Go.Proofs.YtmgpoafoljkknaaW.PrintMore PSchemaReads

/-- A packer: the block g holds its one field, a row of the call's own. -/
structure Pk (base g : Nat) (w : World) (v : Value) (parts : List (List UInt8)) : Prop where
  blk : w.heap[g]? = some (.cells #[v] 86 (0, 0))
  le : base ≤ g
  n : Kd.N kR 22 w base (fun k => base ≤ k ∧ k ≠ g) v parts
theorem Pk.lt {base g : Nat} {w : World} {v : Value} {parts : List (List UInt8)} (h : Pk base g w v parts) : g < w.heap.size := blk_lt h.blk

/-- All but the packer's block and its old row is as it was. -/
structure Kpt (g : Nat) (w w' : World) (v v' : Value) : Prop where
  keep : ∀ k, k < w.heap.size → k ≠ g → some k ≠ v.ownBlock → w'.heap[k]? = w.heap[k]?
  at_ : v'.ownBlock = v.ownBlock ∨ ∃ b, v'.ownBlock = some b ∧ w.heap.size ≤ b
  size : w.heap.size ≤ w'.heap.size
theorem Kpt.refl (g : Nat) (w : World) (v : Value) : Kpt g w w v v := ⟨fun _ _ _ _ => rfl, .inl rfl, Nat.le_refl _⟩
theorem Kpt.trans {g : Nat} {w w1 w2 : World} {v v1 v2 : Value} (h : Kpt g w w1 v v1) (h2 : Kpt g w1 w2 v1 v2) : Kpt g w w2 v v2 := by
  refine ⟨fun k hk hg hv => ?_, ?_, Nat.le_trans h.size h2.size⟩
  · rw [h2.keep k (Nat.lt_of_lt_of_le hk h.size) hg ?_, h.keep k hk hg hv]
    intro he
    rcases h.at_ with e | ⟨b, e, hb⟩
    · exact hv (by rw [← e]; exact he)
    · rw [e] at he; injection he with he; omega
  · rcases h2.at_ with e | ⟨b, e, hb⟩
    · rw [e]; exact h.at_
    · exact .inr ⟨b, e, Nat.le_trans h.size hb⟩
def PkP (base g : Nat) (w : World) (v : Value) (parts : List (List UInt8)) (e : Ending) (w' : World) : Prop := e = .returned (.tuple #[]) ∧ Below base w w' ∧ ∃ v', Pk base g w' v' parts ∧ Kpt g w w' v v'
theorem kpt_step {g : Nat} {w w2 w3 : World} {v v3 : Value} (hb : Below w.heap.size w w2) (hg3 : w2.grownBy w3 v.ownBlock) (hat : v3.ownBlock = v.ownBlock ∨ ∃ b, v3.ownBlock = some b ∧ w2.heap.size ≤ b) (u : Value) : Kpt g w (w3.setCell ⟨g, 0, none⟩ u) v v3 := by
  refine ⟨fun k hk hg hv => ?_, ?_, ?_⟩
  · rw [Below.heap_setCell _ _ _ _ hg, hg3.block k (Nat.lt_of_lt_of_le hk hb.size) hv, hb.block k hk]
  · rcases hat with e | ⟨b, e, h⟩
    · exact .inl e
    · exact .inr ⟨b, e, Nat.le_trans hb.size h⟩
  · have := hg3.size
    have := hb.size
    simp [World.setCell]
    omega
set_option maxHeartbeats 2000000 in
set_option maxRecDepth 100000 in
theorem nums_any (base g : Nat) (v vl : Value) (parts : List (List UInt8)) (ns : List Int) (w : World) (hP : Pk base g w v parts)
    (hl : ∃ A c, vl = .slice A ns.length c ∧ Kd.F (Kd.int .i64) w (fun k => k ≠ g ∧ some k ≠ v.ownBlock) A ns.length ns) (hns : ∀ n ∈ ns, n ≤ 9223372036854775807) (hlen : parts.length + ns.length ≤ 1000000) :
    Calls Try.prog 60 #[.pointer (some ⟨g, 0, none⟩), vl] w (PkP base g w v (parts ++ ns.map numL)) := by
  obtain ⟨A, c, rfl, hF⟩ := hl
  have hmax := Kd.F_max hF
  have HF := Aside0.mk hF
  have HP := Aside0.mk hP
  have HNS := Aside0.mk hns
  clear hF hP hns
  go_enter Try.func60, Try.ntmps60
  go_wp2
  go_loopg [5, 8] ns.length (fun gg _ s8 wr => ∃ (kk : Nat) (vp : Value), kk ≤ ns.length ∧ ns.length - kk ≤ gg ∧ s8 = .int .i64 kk ∧ Aside0 (Pk base g wr vp (parts ++ (ns.take kk).map numL)) ∧ Aside0 (Below base w wr) ∧ Aside0 (Kd.F (Kd.int .i64) wr (fun k => k ≠ g ∧ some k ≠ vp.ownBlock) A ns.length ns) ∧ Aside0 (Kpt g w wr v vp))
  case atStart => exact ⟨0, v, by omega, by omega, rfl, ⟨by simpa using HP.out⟩, ⟨Below.refl _ _⟩, HF, ⟨Kpt.refl _ _ _⟩⟩
  case round =>
    obtain ⟨kk, vp, hkk, hg, rfl, HPR, BW, HFR, HKP⟩ := hrel
    by_cases hlt : kk < ns.length
    · have hltz : (kk : Int) < (ns.length : Int) := by omega
      obtain ⟨ad, rfl, h0⟩ := Kd.at_int (Kd.F_now HFR.out) (kk : Int) (by omega) hltz
      have hrd : rd ns (kk : Int) = ns[kk] := by simp [rd, hlt]
      rw [hrd, Int.toNat_natCast] at h0
      have HT := Aside0.mk (show parts ++ (ns.take (kk + 1)).map numL = (parts ++ (ns.take kk).map numL) ++ [numL ns[kk]] by
        rw [List.take_succ_eq_append_getElem hlt, List.map_append, List.append_assoc]; rfl)
      have HLEN := Aside0.mk (show (parts ++ (ns.take kk).map numL).length ≤ 1000000 by
        rw [List.length_append, List.length_map]; have := List.length_take_le' kk ns; omega)
      have HNB := Aside0.mk (HNS.out _ (List.getElem_mem hlt))
      generalize ns[kk] = x at h0 HT HNB
      generalize parts ++ (ns.take kk).map numL = acc at HPR HT HLEN
      have gc := blk_cell HPR.out.blk
      have gf := blk_frozen HPR.out.blk
      have HNUM := Aside0.mk (fun W => num_any x W HNB.out)
      have HNP := Aside0.mk HPR.out.n
      have HLE := Aside0.mk HPR.out.le
      have HGL := Aside0.mk HPR.out.lt
      go_wp2
      go_region_law (first
        | (go_simp; go_at_call 104; refine (HNUM.out _).mono ?_; rintro e w2 ⟨v2, rfl, hn2, hb2⟩; obtain ⟨A2, c2, rfl⟩ := Kd.N_slice hn2; have gk := blk_keep (W := wr.drew) hb2 HPR.out.blk; have gc2 := blk_cell gk; have gf2 := blk_frozen gk; have gc2' := fun o => blk_cell (blk_old gk o); have HN2 := Aside0.mk hn2; have HB2 := Aside0.mk hb2; have HS2 := Aside0.mk (show wr.heap.size ≤ w2.heap.size from hb2.size); clear hn2 hb2 gk)
        | (refine Kd.N_append_step kR (w0 := w) base rfl (.tmp 16) (.tmp 19) 74 22 (.slice none 0 0) 24 rfl Try.underlying74 info22 rfl (by decide) (by omega) vp acc (numL x) [.slice A2 (numL x).length c2] (fun k => base ≤ k ∧ k ≠ g) (fun k => wr.heap.size ≤ k) rfl rfl (Kd.FK_slice_mk (Kd.N_reads' HN2.out).2.1 (Kd.N_F HN2.out)) (fun k hk => ⟨⟨by have := HLE.out; have := HGL.out; omega, by have := HGL.out; omega⟩, fun he => absurd (Kd.N_lt HNP.out k he.symm) (by omega)⟩) (fun k hk => by have := HLE.out; have := HGL.out; have := HS2.out; omega) (Kd.N_below (Kd.N_drew HNP.out) HB2.out) (BW.out.drew.trans (HB2.out.mono (by have := HLE.out; have := HGL.out; show base ≤ wr.heap.size; omega))) (by have := HLE.out; have := HGL.out; have := HS2.out; omega) (by have := HLEN.out; omega) ?_; intro v3 w3 ho hb hg3 hat; obtain ⟨A3, c3, rfl⟩ := Kd.N_slice ho; have HO := Aside0.mk ho; have HB3 := Aside0.mk hb; have HG := Aside0.mk hg3; have HAT := Aside0.mk hat; have g3 := blk_grown (blk_keep (W := wr.drew) HB2.out HPR.out.blk) hg3 (Kd.N_ne HNP.out HPR.out.blk (by decide)); have gc3 := blk_cell g3; have gf3 := blk_frozen g3; clear ho hb hg3 hat))
      all_goals
        go_wp2
        go_roundg (ns.length - (kk + 1))
        case measure => omega
        case rel =>
          refine ⟨kk + 1, .slice A3 (acc.length + 1) c3, by omega, by omega, by go_num, ⟨?_, HLE.out, ?_⟩, ⟨HB3.out.setCell HLE.out _⟩, ⟨?_⟩, ⟨HKP.out.trans ?_⟩⟩
          · exact blk_set g3 0 _
          · rw [HT.out]
            refine Kd.N_far ?_ (fun k hk => hk.2) _
            have := HO.out
            rw [List.length_append, List.length_singleton] at this
            exact this
          · refine Kd.F_far ?_ (fun k hk => hk.1) _
            have h2 := HAT.out
            rw [List.length_append, List.length_singleton] at h2
            exact Kd.F_after (ok := fun k => k ≠ g) (Kd.F_below (Kd.F_drew HFR.out) HB2.out) HG.out h2
          · have h2 := HAT.out
            rw [List.length_append, List.length_singleton] at h2
            have hb : Below wr.heap.size wr w2 := ((Below.refl wr.heap.size wr).drew).trans HB2.out
            exact kpt_step hb HG.out h2 _
    · have hltz : ¬ (kk : Int) < (ns.length : Int) := by omega
      have hk : kk = ns.length := by omega
      subst hk
      have h2 := HPR.out
      rw [List.take_length] at h2
      have HP2 := Aside0.mk h2
      clear h2
      go_wp2
      go_end0
      exact ⟨rfl, BW.out, _, HP2.out, HKP.out⟩

theorem F_block {w : World} {ad : Addr} {n : Nat} {xs : List UInt8} (h : Kd.C kB w (some ad) n xs) : Kd.F kB w (fun k => k = ad.block ∧ k < w.heap.size) (some ad) n xs := by
  intro W2 hW
  refine ⟨h.1, h.2.1, fun hn => ?_⟩
  obtain ⟨ad', e, hc⟩ := h.2.2 hn
  injection e with e
  subst e
  refine ⟨_, rfl, fun j p hj => ?_⟩
  obtain ⟨c, h1, h2, h3⟩ := hc j p hj
  refine ⟨c, h1, flatB _ _ _ h2 _, fun i u hu => ?_⟩
  have h4 := h3 i u hu
  have hlt := World.block_lt_of_cell? w _ h4
  rw [add_block] at hlt
  rw [← h4]
  refine World.cell?_of_block (w := w) ?_
  rw [add_block]
  exact hW _ ⟨rfl, hlt⟩ hlt
theorem C_ofInts {w : World} {A : Option Addr} {n : Nat} {xs : List UInt8} (h : Kd.C (Kd.int .u8) w A n (xs.map fun b => (b.toNat : Int))) : Kd.C kB w A n xs := by
  refine ⟨by have := h.1; simpa using this, h.2.1, fun hn => ?_⟩
  obtain ⟨ad, e, hc⟩ := h.2.2 hn
  refine ⟨ad, e, fun j p hj => ?_⟩
  exact hc j (p.toNat : Int) (by rw [List.getElem?_map, hj]; rfl)
theorem bytes_C (W : World) (s : ByteArray) (hs : s.size ≤ 9223372036854775807) : Kd.C kB (Lib.bytesWorld W 5 s) (some ⟨W.heap.size, 0, none⟩) s.size s.data.toList :=
  C_ofInts (Kd.C_of_reads (bytes_reads W 5 s hs))
set_option maxHeartbeats 1000000 in
set_option maxRecDepth 100000 in
theorem text_any (base g : Nat) (v : Value) (s : ByteArray) (parts : List (List UInt8)) (w : World) (hP : Pk base g w v parts) (hs : s.size ≤ 1000000) (hlen : parts.length ≤ 1000000) :
    Calls Try.prog 62 #[.pointer (some ⟨g, 0, none⟩), .string s] w (PkP base g w v (parts ++ [s.data.toList])) := by
  have HP := Aside0.mk hP
  have HNP := Aside0.mk hP.n
  have HLE := Aside0.mk hP.le
  have HGL := Aside0.mk hP.lt
  have gc := blk_cell hP.blk
  have gf := blk_frozen hP.blk
  have hkb := print_bytes (P := Try.prog) 9 22 5 Try.underlying9 Try.underlying22 Try.underlying5 s w
  have HBY := Aside0.mk (bytes_below (Below.refl w.heap.size w) (Nat.le_refl _) 5 s)
  have HFK : Aside0 (Kd.FK kR (Lib.bytesWorld w 5 s) (fun k => w.heap.size ≤ k) s.data.toList [.slice (some ⟨w.heap.size, 0, none⟩) s.size (grownCap w s.size 0 5)]) := by
    have h1 := F_block (bytes_C w s (by omega))
    rw [← data_length s] at h1
    have h2 := Kd.FK_slice_mk (e := 5) (c := grownCap w s.size 0 5) (by rw [data_length]; exact grownCap_ge w s.size 0 5) (Kd.F_mono h1 (ok' := fun k => w.heap.size ≤ k) (fun k hk => Nat.le_of_eq hk.1.symm))
    rw [data_length s] at h2
    exact ⟨h2⟩
  clear hP
  go_enter Try.func62, Try.ntmps62
  go_wp2_with (at_builtin; refine Kd.N_append kR (w0 := w) base rfl (.tmp 8) (.tmp 11) 74 22 (.slice none 0 0) 24 rfl Try.underlying74 info22 rfl (by decide) (by omega) v parts s.data.toList [.slice (some ⟨w.heap.size, 0, none⟩) s.size (grownCap w s.size 0 5)] (fun k => base ≤ k ∧ k ≠ g) (fun k => w.heap.size ≤ k) rfl rfl HFK.out (fun k hk => ⟨⟨by have := HLE.out; have := HGL.out; omega, by have := HGL.out; omega⟩, fun he => absurd (Kd.N_lt HNP.out k he.symm) (by omega)⟩) (fun k hk => by have := HLE.out; have := HGL.out; have := HBY.out.size; omega) (Kd.N_below HNP.out HBY.out) (HBY.out.mono (by have := HLE.out; have := HGL.out; omega)) (by have := HLE.out; have := HGL.out; have := HBY.out.size; omega) (by omega) ?_; intro v3 w3 ho hb hg3 hat; obtain ⟨A3, c3, rfl⟩ := Kd.N_slice ho; have HO := Aside0.mk ho; have HB3 := Aside0.mk hb; have HG3 := Aside0.mk hg3; have HAT := Aside0.mk hat; have g3 := blk_grown (blk_keep HBY.out HP.out.blk) hg3 (Kd.N_ne HNP.out HP.out.blk (by decide)); have gc3 := blk_cell g3; have gf3 := blk_frozen g3; clear ho hb hg3 hat)
  go_end0
  refine ⟨rfl, HB3.out.setCell HLE.out _, .slice A3 (parts.length + 1) c3, ⟨?_, HLE.out, ?_⟩, ?_⟩
  · exact blk_set g3 0 _
  · refine Kd.N_far ?_ (fun k hk => hk.2) _
    have := HO.out
    rw [List.length_append, List.length_singleton] at this
    exact this
  · have h2 := HAT.out
    rw [List.length_append, List.length_singleton] at h2
    exact kpt_step HBY.out HG3.out h2 _
set_option maxHeartbeats 1000000 in
theorem bytes_any (base g : Nat) (v : Value) (parts : List (List UInt8)) (w : World) (hP : Pk base g w v parts) (hl : parts.flatten.length ≤ 100000000) (hl2 : parts.length ≤ 1000000) :
    Calls Try.prog 63 #[.pointer (some ⟨g, 0, none⟩)] w fun e w' => ∃ v1, e = .returned v1 ∧ Nw kB 5 w.heap.size w' v1 (listL parts) ∧ Below w.heap.size w w' := by
  have HL := Aside0.mk (list_any v parts w (Kd.N_reads hP.n) hl hl2)
  have gc := blk_cell hP.blk
  clear hP
  go_enter Try.func63, Try.ntmps63
  go_wp2_with (go_at_call 105; refine HL.out.mono ?_; rintro e w1 ⟨v1, rfl, hn, hb⟩)
  go_ret
  exact ⟨_, rfl, hn, hb⟩
end Go.Proofs.Ytmgpoafoljkknaa.My
