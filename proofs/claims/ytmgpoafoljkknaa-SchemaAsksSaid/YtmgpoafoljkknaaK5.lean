/- Values that are rows of bytes of the call's own, and a literal row of them. Conditions: at most a million. -/
import Derived.Test.YtmgpoafoljkknaaZ2
import Derived.Test.YtmgpoafoljkknaaZ3
import Derived.Test.YtmgpoafoljkknaaK
import Derived.Deep.RegionHeld3
import Derived.Deep.DeepCutAuto
namespace Go.Proofs.Ytmgpoafoljkknaa.My
open Go.RowKit Go.Proofs.YtmgpoafoljkknaaW.PrintWords Go.Proofs.YtmgpoafoljkknaaW.PrintLast Go.Proofs.YtmgpoafoljkknaaW.PrintMore PSchemaReads
/-- Values that are rows of bytes of the call's own. -/
def BVs (B : Nat) (W : World) (L : List (Value × List UInt8)) : Prop := ∀ p ∈ L, Kd.FK kR W (fun k => B ≤ k) p.2 [p.1]
theorem BVs.nil (B : Nat) (W : World) : BVs B W [] := fun _ h => by cases h
theorem BVs.below {B : Nat} {W W' : World} {L : List (Value × List UInt8)} (h : BVs B W L) (hb : Below W.heap.size W W') : BVs B W' L := fun p hp => Kd.FK_below (h p hp) hb
theorem fkR {B : Nat} {W : World} {v : Value} {l : List UInt8} (h : Nw kB 5 B W v l) : Kd.FK kR W (fun k => B ≤ k) l [v] := by
  obtain ⟨A, c, rfl⟩ := Kd.N_slice h
  exact Kd.FK_slice_mk (Kd.N_reads' h).2.1 (Kd.N_F h)
theorem BVs.cons {B B' : Nat} {W W' : World} {L : List (Value × List UInt8)} {v : Value} {l : List UInt8} (h : BVs B W L) (hb : Below W.heap.size W W') (hB : B ≤ B') (hn : Nw kB 5 B' W' v l) : BVs B W' ((v, l) :: L) := by
  intro p hp
  rcases List.mem_cons.1 hp with rfl | hp
  · exact fkR (hn.lower hB)
  · exact h.below hb p hp
theorem fk_bytes (w : World) (s : ByteArray) (hs : s.size ≤ 1000000) : Kd.FK kR (Lib.bytesWorld w 5 s) (fun k => w.heap.size ≤ k) s.data.toList [.slice (some ⟨w.heap.size, 0, none⟩) s.size (grownCap w s.size 0 5)] := by
  have h1 := F_block (bytes_C w s (by omega))
  rw [← data_length s] at h1
  have h2 := Kd.FK_slice_mk (e := 5) (c := grownCap w s.size 0 5) (by rw [data_length]; exact grownCap_ge w s.size 0 5) (Kd.F_mono h1 (ok' := fun k => w.heap.size ≤ k) (fun k hk => Nat.le_of_eq hk.1.symm))
  rw [data_length s] at h2
  exact h2
theorem BVs.bytes {B : Nat} {W : World} {L : List (Value × List UInt8)} {s : ByteArray} (h : BVs B W L) (hB : B ≤ W.heap.size) (hs : s.size ≤ 1000000) : BVs B (Lib.bytesWorld W 5 s) ((.slice (some ⟨W.heap.size, 0, none⟩) s.size (grownCap W s.size 0 5), s.data.toList) :: L) := by
  intro p hp
  rcases List.mem_cons.1 hp with rfl | hp
  · exact Kd.FK_mono (fk_bytes W s hs) (fun k hk => Nat.le_trans hB hk)
  · exact h.below (bytes_below (Below.refl _ _) (Nat.le_refl _) 5 s) p hp
/-- A literal row of such values. -/
theorem N_litR {B : Nat} {W : World} {vs : List Value} {ls : List (List UInt8)} (hlen : vs.length = ls.length) (hf : ∀ (j : Nat) (v : Value) (l : List UInt8), vs[j]? = some v → ls[j]? = some l → Kd.FK kR W (fun k => B ≤ k) l [v]) (hB : B ≤ W.heap.size) (hm : ls.length ≤ 1000000) :
    Kd.N kR 22 (W.alloc (.cells vs.toArray 22)) B (fun k => B ≤ k) (.slice (some ⟨W.heap.size, 0, none⟩) ls.length ls.length) ls := by
  have hrep : Reps (Kd.FK kR W (fun k => B ≤ k)) kR.sz ls vs := by
    refine ⟨by rw [hlen]; exact (Nat.mul_one _).symm, fun j l hj => ?_⟩
    have hjl : j < vs.length := by have := (List.getElem?_eq_some_iff.1 hj).1; omega
    have h1 : (vs.drop (j * kR.sz)).take kR.sz = [vs[j]] := by
      show (vs.drop (j * 1)).take 1 = [vs[j]]
      rw [Nat.mul_one, List.drop_eq_getElem_cons hjl]
      rfl
    rw [h1]
    exact hf j _ l (List.getElem?_eq_getElem hjl) hj
  refine Kd.N_made (W := W) (okp := fun k => B ≤ k) (rows := Kd.chunks kR.sz ls.length vs) ?_ (World.grownBy_alloc W _ none) ⟨W.heap.size, by simp [Value.ownBlock], Nat.le_refl _⟩ (Kd.chunks_length _ _ _) (fun j y c hy hc => by rw [Kd.chunks_get hc]; exact hrep.2 j y hy) (fun _ h => h) hB
  refine ⟨fun k hk => by simp [Value.ownBlock] at hk; exact hk.symm, ?_⟩
  have h2 := OwnRow.lit W B (e := 22) (Kd.reps_raw hrep (fun y c hk => ⟨kR.K_len (Kd.FK_now hk), kR.K_one (Kd.FK_now hk)⟩)) hB (by rw [Kd.chunks_length]; omega)
  rw [Kd.chunks_length] at h2
  exact h2
end Go.Proofs.Ytmgpoafoljkknaa.My
