/-
  The signs between two: those that the program looks for in one text are the thirteen that the document counts.
-/
import Derived.Test.YtkmhijkpbmcgbaaGreatTextP
import Derived.Lib.IndexMore
namespace Go.Proofs.YtkmhijkpbmcgbaaGreat
set_option linter.all false
open Go.RowKit Go.Shelf

def signsL : List (List UInt8) := [[43], [45], [42], [47], [37], [61, 61], [33, 61], [60], [60, 61], [62], [62, 61], [38, 38], [124, 124]]
def binL (l : List UInt8) : Bool := !(l == []) && (!decide (0 ≤ Lib.indexByte l 32) && Lib.contains signsT.data.toList (32 :: (l ++ [32])))
theorem binL_of (s : ByteArray) : binB s = binL s.data.toList := by
  unfold binB binL
  rw [ByteArray.toList_eq]
  have : ((⟨#[32]⟩ : ByteArray) ++ s ++ ⟨#[32]⟩ : ByteArray).data.toList = 32 :: (s.data.toList ++ [32]) := by simp
  rw [this]
theorem signs_yes : signsL.all binL = true := by decide +kernel
theorem signs_all : ((List.range 34).all fun i => (List.range 34).all fun m => !binL ((signsT.data.toList.drop (i + 1)).take m) || signsL.any (((signsT.data.toList.drop (i + 1)).take m) == ·)) = true := by decide +kernel
theorem binL_eq (l : List UInt8) : binL l = signsL.any (l == ·) := by
  cases h : signsL.any (l == ·) with
  | true =>
    obtain ⟨t, ht, he⟩ := List.any_eq_true.1 h
    have : l = t := by simpa using he
    rw [this]
    exact List.all_eq_true.1 signs_yes t ht
  | false =>
    rw [Bool.eq_false_iff]
    intro hb
    have hb0 := hb
    unfold binL at hb
    simp only [Bool.and_eq_true] at hb
    have hc := hb.2.2
    unfold Lib.contains at hc
    have hc := of_decide_eq_true hc
    rcases Lib.index_spec signsT.data.toList (32 :: (l ++ [32])) with ⟨h1, _⟩ | ⟨i, h1, hi, ho, _⟩
    · rw [h1] at hc; exact absurd hc (by decide)
    · unfold Lib.occAt at ho
      obtain ⟨r, hr⟩ := List.isPrefixOf_iff_prefix.1 ho
      have hd : signsT.data.toList.drop (i + 1) = l ++ ([32] ++ r) := by
        have : signsT.data.toList.drop (i + 1) = (signsT.data.toList.drop i).drop 1 := by rw [List.drop_drop]
        rw [this, ← hr]
        simp
      have ht : (signsT.data.toList.drop (i + 1)).take l.length = l := by rw [hd]; simp
      have hlen : l.length ≤ 33 := by
        have := congrArg List.length ht
        have h2 : (signsT.data.toList).length = 33 := by decide
        simp only [List.length_take, List.length_drop, h2] at this
        omega
      have h2 : (signsT.data.toList).length = 33 := by decide
      have q := List.all_eq_true.1 (List.all_eq_true.1 signs_all i (List.mem_range.2 (by omega))) l.length (List.mem_range.2 (by omega))
      rw [ht, hb0, h] at q
      cases q
theorem binB_eq (s : ByteArray) : binB s = signsL.any (s.toList == ·) := by rw [binL_of, binL_eq, ByteArray.toList_eq]

end Go.Proofs.YtkmhijkpbmcgbaaGreat
