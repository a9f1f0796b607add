/- Contracts of schema.Right, Find, Column, Read, Written, Gone. Conditions: a slice's length fits an int. -/
import Derived.Test.YtmgpoafoljkknaaC
import Derived.Test.YtmgpoafoljkknaaEq
namespace Go.Proofs.Ytmgpoafoljkknaa.My
open Go.RowKit Go.Proofs.YtmgpoafoljkknaaW.PrintWords Go.Proofs.YtmgpoafoljkknaaW.PrintLast Go.Proofs.YtmgpoafoljkknaaW.PrintMore PSchemaReads
attribute [local go_sem high] eqA26

structure Sch where
  ver : Int
  fams : List S40
  kind : Int
  fam : ByteArray
  qual : ByteArray
  typ : Int
  grp : Int
  vers : Int
  life : Int
  step : Int
abbrev Vs (s : Sch) (vf : Value) : Value := .agg #[.int .i64 s.ver, vf, .int .i64 s.kind, .string s.fam, .string s.qual, .int .i64 s.typ, .int .i64 s.grp, .int .i64 s.vers, .int .i64 s.life, .int .i64 s.step]
/-- A schema's value. -/
def Sc (w : World) (v : Value) (s : Sch) : Prop := ∃ vf, v = Vs s vf ∧ Sl k40 w vf s.fams
theorem Sc.below {w w' : World} {v : Value} {s : Sch} (h : Sc w v s) (hb : Below w.heap.size w w') : Sc w' v s := by
  obtain ⟨vf, rfl, h3⟩ := h
  exact ⟨vf, rfl, h3.below hb⟩

theorem right1_any (v : Value) (x : S40) (w : World) (h : Fm w v x) : Calls Try.prog 64 #[v] w fun e w' => e = .returned (.bool (!familyB x)) ∧ Below w.heap.size w w' := by
  have HF := Aside0.mk h
  obtain ⟨_, _, rfl, ⟨A3, c3, rfl, _, _⟩, ⟨A4, c4, rfl, _, _⟩⟩ := h
  go_enter Try.func64, Try.ntmps64
  go_wp2_with (go_at_call 65; refine (family_any _ x _ (HF.out.below ((Below.refl _ _).alloc (Nat.le_refl _) _))).mono ?_; rintro e w' ⟨rfl, hb⟩)
  go_ret
  exact ⟨rfl, bb ((Below.refl _ _).alloc (Nat.le_refl _) _) hb⟩

def zeroB (s : Sch) : Bool := s.fam.toList.isEmpty && (s.qual.toList.isEmpty && (s.typ == 0 && (s.grp == 0 && (s.vers == 0 && s.life == 0))))
def rightB (s : Sch) : Bool :=
  withinB s.ver 1 1099511627776 && decide (s.fams.length ≤ 6) && s.fams.all familyB && decide (s.fams.map (·.f0)).Nodup &&
    (if s.kind = 0 then zeroB s && s.step == 0 else withinB s.kind 1 5 && withinB s.step 1 9)
theorem familyB_size {x : S40} (h : familyB x = true) : x.f0.size ≤ 8 := by
  simp only [familyB, nameB, Bool.and_eq_true, decide_eq_true_eq] at h
  omega

set_option maxHeartbeats 2000000 in
theorem right_any (v : Value) (s : Sch) (w : World) (h : Sc w v s) : Calls Try.prog 20 #[v] w fun e w' => e = .returned (.bool (rightB s)) ∧ Below w.heap.size w w' := by
  obtain ⟨vf, rfl, hs⟩ := h
  obtain ⟨ver, fams, kind, fam, qual, typ, grp, vers, life, step⟩ := s
  simp only at hs ⊢
  have hmax := hs.len
  have HSL := Aside0.mk hs
  have HBX := Aside0.mk (fun (o : Obj) => (Below.refl w.heap.size w).alloc (Nat.le_refl _) o)
  obtain ⟨A, c, rfl, _, hC⟩ := hs
  clear hC
  rcases q1 : withinB ver 1 1099511627776 with _ | _
  · go_enter Try.func20, Try.ntmps20
    go_wp2_with (go_at_call 66; refine (within_any _ _ _ _).mono ?_; rintro e w' ⟨rfl, rfl⟩)
    go_ret
    exact ⟨by rw [rightB, q1]; rfl, HBX.out _⟩
  by_cases c2 : (fams.length : Int) ≤ 6
  rotate_left
  · have c2' : 6 < (fams.length : Int) := by omega
    have HD : Aside0 (decide (fams.length ≤ 6) = false) := ⟨decide_eq_false (by omega)⟩
    go_enter Try.func20, Try.ntmps20
    go_wp2_with (go_at_call 66; refine (within_any _ _ _ _).mono ?_; rintro e w' ⟨rfl, rfl⟩)
    go_ret
    exact ⟨by rw [rightB, q1, HD.out]; rfl, HBX.out _⟩
  have c2' : ¬ 6 < (fams.length : Int) := by omega
  have HD : Aside0 (decide (fams.length ≤ 6) = true) := ⟨decide_eq_true (by omega)⟩
  have hcon := fun (W : World) (hb : Below w.heap.size w W) => contains40 64 #[] (enters_of Try.func64 (by kernel_rfl) rfl) (fun x => !familyB x) _ fams W (HSL.out.below hb) (fun x W2 v hb2 hf => (right1_any v x W2 hf).mono fun _ _ ⟨h, k⟩ => ⟨h, bb hb2 k⟩)
  simp only [any_not] at hcon
  rcases q3 : fams.all familyB with _ | _
  · simp only [q3] at hcon
    have HCON := Aside0.mk hcon
    clear hcon
    go_enter Try.func20, Try.ntmps20
    go_wp2_with (first | (go_at_call 66; refine (within_any _ _ _ _).mono ?_; rintro e w' ⟨rfl, rfl⟩) | (go_at_call 67; refine (HCON.out _ (HBX.out _)).mono ?_; rintro e w1 ⟨rfl, hb1⟩))
    go_ret
    exact ⟨by rw [rightB, q1, HD.out, q3]; rfl, bb (HBX.out _) hb1⟩
  simp only [q3] at hcon
  have HCON := Aside0.mk hcon
  clear hcon
  have HWF : Aside0 (∀ x ∈ fams, x.f0.size ≤ maxLen) := ⟨fun x hx => by
    have := familyB_size (List.all_eq_true.1 q3 x hx)
    unfold maxLen; omega⟩
  have honce := fun (W : World) (hb : Below w.heap.size w W) => once40 69 #[] (enters_of Try.func69 (by kernel_rfl) rfl) (·.f0) _ fams W (HSL.out.below hb) HWF.out (fun x W2 v hb2 hf => right2_any v x W2 hf)
  rcases q4 : decide (fams.map (·.f0)).Nodup with _ | _
  · simp only [q4] at honce
    have HONCE := Aside0.mk honce
    clear honce
    go_enter Try.func20, Try.ntmps20
    go_wp2_with (first | (go_at_call 66; refine (within_any _ _ _ _).mono ?_; rintro e w' ⟨rfl, rfl⟩) | (go_at_call 67; refine (HCON.out _ (HBX.out _)).mono ?_; rintro e w1 ⟨rfl, hb1⟩; obtain ⟨hcell, hfr⟩ := bcell hb1) | (go_at_call 68; refine (HONCE.out _ (bb (HBX.out _) hb1)).mono ?_; rintro e w2 ⟨rfl, hb2⟩))
    go_ret
    exact ⟨by rw [rightB, q1, HD.out, q3, q4]; rfl, bb (bb (HBX.out _) hb1) hb2⟩
  simp only [q4] at honce
  have HONCE := Aside0.mk honce
  clear honce
  have HR : Aside0 (rightB ⟨ver, fams, kind, fam, qual, typ, grp, vers, life, step⟩ = (if kind = 0 then zeroB ⟨ver, fams, kind, fam, qual, typ, grp, vers, life, step⟩ && step == 0 else withinB kind 1 5 && withinB step 1 9)) := ⟨by
    rw [rightB, q1, HD.out, q3, q4]; simp⟩
  by_cases c5 : kind = 0
  · subst c5
    have HR := Aside0.mk (HR.out.trans (if_pos rfl))
    have HZ : Aside0 (zeroB ⟨ver, fams, 0, fam, qual, typ, grp, vers, life, step⟩ = (fam.toList.isEmpty && (qual.toList.isEmpty && (typ == 0 && (grp == 0 && (vers == 0 && life == 0)))))) := ⟨rfl⟩
    rcases q7 : (fam.toList.isEmpty && (qual.toList.isEmpty && (typ == 0 && (grp == 0 && (vers == 0 && life == 0))))) with _ | _
    · go_enter Try.func20, Try.ntmps20
      go_wp2_with (first | (go_at_call 66; refine (within_any _ _ _ _).mono ?_; rintro e w' ⟨rfl, rfl⟩) | (go_at_call 67; refine (HCON.out _ (HBX.out _)).mono ?_; rintro e w1 ⟨rfl, hb1⟩; obtain ⟨hcell, hfr⟩ := bcell hb1) | (go_at_call 68; refine (HONCE.out _ (bb (HBX.out _) hb1)).mono ?_; rintro e w2 ⟨rfl, hb2⟩; obtain ⟨hcell2, hfr2⟩ := bcell (bb hb1 hb2)))
      go_ret
      exact ⟨by rw [HR.out, HZ.out, q7]; rfl, bb (bb (HBX.out _) hb1) hb2⟩
    · have HQ7 := Aside0.mk q7
      simp only [Bool.and_eq_true, beq_iff_eq, List.isEmpty_iff] at q7
      obtain ⟨e1, e2, rfl, rfl, rfl, rfl⟩ := q7
      go_enter Try.func20, Try.ntmps20
      go_wp2_with (first | (go_at_call 66; refine (within_any _ _ _ _).mono ?_; rintro e w' ⟨rfl, rfl⟩) | (go_at_call 67; refine (HCON.out _ (HBX.out _)).mono ?_; rintro e w1 ⟨rfl, hb1⟩; obtain ⟨hcell, hfr⟩ := bcell hb1) | (go_at_call 68; refine (HONCE.out _ (bb (HBX.out _) hb1)).mono ?_; rintro e w2 ⟨rfl, hb2⟩; obtain ⟨hcell2, hfr2⟩ := bcell (bb hb1 hb2)))
      go_ret
      exact ⟨by rw [HR.out, HZ.out, HQ7.out]; rfl, bb (bb (HBX.out _) hb1) hb2⟩
  · have c5' : (kind == 0) = false := beq_eq_false_iff_ne.2 c5
    rcases q6 : withinB kind 1 5 with _ | _
    all_goals
      go_enter Try.func20, Try.ntmps20
      go_wp2_with (first | (go_at_call 66; refine (within_any _ _ _ _).mono ?_; rintro e w' ⟨rfl, rfl⟩) | (go_at_call 67; refine (HCON.out _ (HBX.out _)).mono ?_; rintro e w1 ⟨rfl, hb1⟩; obtain ⟨hcell, hfr⟩ := bcell hb1) | (go_at_call 68; refine (HONCE.out _ (bb (HBX.out _) hb1)).mono ?_; rintro e w2 ⟨rfl, hb2⟩; obtain ⟨hcell2, hfr2⟩ := bcell (bb hb1 hb2)))
      go_ret
      exact ⟨by rw [HR.out, if_neg c5, q6]; simp, bb (bb (HBX.out _) hb1) hb2⟩
end Go.Proofs.Ytmgpoafoljkknaa.My
