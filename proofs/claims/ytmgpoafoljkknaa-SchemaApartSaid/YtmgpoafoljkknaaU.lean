/- The plain law of the reference's Name. Conditions: a text's size fits an int. -/
import Derived.Test.YtmgpoafoljkknaaG
import Derived.Test.YtmgpoafoljkknaaJ
import Derived.Test.YtmgpoafoljkknaaPSchemaReadsx7
namespace Go.Proofs.Ytmgpoafoljkknaa.My
open Go.RowKit Go.Proofs.YtmgpoafoljkknaaW.PrintWords Go.Proofs.YtmgpoafoljkknaaW.PrintLast Go.Proofs.YtmgpoafoljkknaaW.PrintMore PSchemaReads
theorem data_length2 (s : ByteArray) : s.data.toList.length = s.size := data_length s
set_option maxRecDepth 10000 in
theorem bt_get (s : ByteArray) (i : Nat) (h : i < s.data.toList.length) : bt s (i : Int) = ((s.data.toList[i]'h).toNat : Int) := by
  have hs : i < s.size := by rw [← data_length2 s]; exact h
  unfold bt
  rw [dif_pos (show ((i : Int)).toNat < s.size by omega)]
  rfl
theorem refName_l (s : ByteArray) (hs : s.size ≤ 9223372036854775807) : ∀ (d k i : Nat), s.size = i + d → d < k → joistref03_Name.l0 k s (i : Int) = some ((s.data.toList.drop i).all alnum && (decide (1 ≤ s.size) && decide (s.size ≤ 8)))
  | d, 0, i, h, hk => by omega
  | d, k + 1, i, h, hk => by
    unfold joistref03_Name.l0
    by_cases hi : i < s.size
    · have hl : i < s.data.toList.length := by rw [data_length2]; exact hi
      have ih := refName_l s hs (d - 1) k (i + 1) (by omega) (by omega)
      rw [if_pos (by omega), if_pos (by omega), bt_get s i hl, w64 hi hs, ih, List.drop_eq_getElem_cons hl, List.all_cons]
      generalize s.data.toList[i] = b
      cases hb : alnum b with
      | true =>
        simp only [alnum, Bool.or_eq_true, Bool.and_eq_true, decide_eq_true_eq] at hb
        repeat' split
        all_goals first | (exfalso; omega) | (simp; done)
      | false =>
        simp only [alnum, Bool.or_eq_false_iff, Bool.and_eq_false_iff, decide_eq_false_iff_not] at hb
        repeat' split
        all_goals first | (exfalso; omega) | (simp; done)
    · rw [if_neg (by omega), List.drop_of_length_le (by rw [data_length2]; omega)]
      by_cases h1 : 1 ≤ s.size
      · rw [if_pos (by omega)]; simp [h1]; omega
      · rw [if_neg (by omega)]; simp [h1]
end Go.Proofs.Ytmgpoafoljkknaa.My
