/-
  The questions on texts: what may be called so; numbers; signs.
-/
import Derived.Test.YtkmhijkpbmcgbaaGreatTextN
namespace Go.Proofs.YtkmhijkpbmcgbaaGreat
set_option linter.all false
open Go.RowKit Go.Shelf

theorem empty_list (s : ByteArray) : s.toList.isEmpty = s.data.toList.isEmpty := by rw [ByteArray.toList_eq]

def nameB (s : ByteArray) : Bool := decide (s.size ≤ 100) && tokB s.data.toList
def boundB (s : ByteArray) : Bool := nameB s && !(s.data.toList == [95])

set_option maxRecDepth 100000 in
theorem name_any (s : ByteArray) (W : World) : Calls Tryz.prog 29 #[.string s] W fun e w' => e = .returned (.bool (nameB s)) ∧ Below W.heap.size W w' := by
  have T := Lib.hid (tok_any s W)
  unfold nameB
  by_cases h : s.size ≤ 100
  · have h1 : decide (s.size ≤ 100) = true := decide_eq_true h
    have h2 : decide ((s.size : Int) ≤ 100) = true := decide_eq_true (by omega)
    rw [h1]
    go_enter Tryz.func29, Tryz.ntmps29
    go_wp2_with fail
    refine (T.out).mono ?_
    rintro e w2 ⟨rfl, b2⟩
    go_wp2_with fail
    go_ret
    exact ⟨rfl, b2⟩
  · have h1 : decide (s.size ≤ 100) = false := decide_eq_false h
    have h2 : decide ((s.size : Int) ≤ 100) = false := decide_eq_false (by omega)
    rw [h1]
    go_enter Tryz.func29, Tryz.ntmps29
    go_wp2_with fail
    go_ret
    exact ⟨rfl, Below.refl _ _⟩
theorem name_s (s : ByteArray) (w : World) : AnsS w 29 #[] s (nameB s) := ⟨enters_of Tryz.func29 (by kernel_rfl) rfl, fun W hW => name_any s W⟩

set_option maxRecDepth 100000 in
theorem bound_any (s : ByteArray) (W : World) : Calls Tryz.prog 103 #[.string s] W fun e w' => e = .returned (.bool (boundB s)) ∧ Below W.heap.size W w' := by
  have T := Lib.hid (name_any s W)
  unfold boundB
  have e1 : (s.toList == [95]) = (s.data.toList == [95]) := by rw [ByteArray.toList_eq]
  rw [← e1]
  clear e1
  cases hn : nameB s with
  | true =>
    rw [hn] at T
    cases hb : (s.toList == [95]) <;>
    (go_enter Tryz.func103, Tryz.ntmps103
     go_wp2_with fail
     refine (T.out).mono ?_
     rintro e w2 ⟨rfl, b2⟩
     go_wp2_with fail
     go_ret
     exact ⟨rfl, b2⟩)
  | false =>
    rw [hn] at T
    go_enter Tryz.func103, Tryz.ntmps103
    go_wp2_with fail
    refine (T.out).mono ?_
    rintro e w2 ⟨rfl, b2⟩
    go_wp2_with fail
    go_ret
    exact ⟨rfl, b2⟩
theorem bound_s (s : ByteArray) (w : World) : AnsS w 103 #[] s (boundB s) := ⟨enters_of Tryz.func103 (by kernel_rfl) rfl, fun W hW => bound_any s W⟩

/-- One of two texts. -/
def twoB (a b : List UInt8) (s : ByteArray) : Bool := s.toList == a || s.toList == b
theorem two_list (a b : List UInt8) (s : ByteArray) : twoB a b s = (s.data.toList == a || s.data.toList == b) := by
  unfold twoB
  rw [ByteArray.toList_eq]
theorem unary_any (s : ByteArray) (W : World) : Calls Tryz.prog 71 #[.string s] W fun e w' => e = .returned (.bool (twoB [45] [33] s)) ∧ Below W.heap.size W w' := by
  unfold twoB
  cases h1 : (s.toList == [45]) <;> cases h2 : (s.toList == [33]) <;>
    (go_enter Tryz.func71, Tryz.ntmps71
     go_wp2_with fail
     go_ret
     exact ⟨rfl, Below.refl _ _⟩)
theorem unary_s (s : ByteArray) (w : World) : AnsS w 71 #[] s (twoB [45] [33] s) := ⟨enters_of Tryz.func71 (by kernel_rfl) rfl, fun W hW => unary_any s W⟩
theorem step_any (s : ByteArray) (W : World) : Calls Tryz.prog 104 #[.string s] W fun e w' => e = .returned (.bool (twoB [43, 43] [45, 45] s)) ∧ Below W.heap.size W w' := by
  unfold twoB
  cases h1 : (s.toList == [43, 43]) <;> cases h2 : (s.toList == [45, 45]) <;>
    (go_enter Tryz.func104, Tryz.ntmps104
     go_wp2_with fail
     go_ret
     exact ⟨rfl, Below.refl _ _⟩)
theorem step_s (s : ByteArray) (w : World) : AnsS w 104 #[] s (twoB [43, 43] [45, 45] s) := ⟨enters_of Tryz.func104 (by kernel_rfl) rfl, fun W hW => step_any s W⟩
theorem tilde_any (s : ByteArray) (W : World) : Calls Tryz.prog 99 #[.string s] W fun e w' => e = .returned (.bool (twoB [] [126] s)) ∧ Below W.heap.size W w' := by
  unfold twoB
  cases h1 : (s.toList == []) <;> cases h2 : (s.toList == [126]) <;>
    (go_enter Tryz.func99, Tryz.ntmps99
     go_wp2_with fail
     go_ret
     exact ⟨rfl, Below.refl _ _⟩)
theorem tilde_s (s : ByteArray) (w : World) : AnsS w 99 #[] s (twoB [] [126] s) := ⟨enters_of Tryz.func99 (by kernel_rfl) rfl, fun W hW => tilde_any s W⟩
theorem none_any (s : ByteArray) (W : World) : Calls Tryz.prog 68 #[.string s] W fun e w' => e = .returned (.bool (s.toList == [])) ∧ Below W.heap.size W w' := by
  cases h1 : (s.toList == []) <;>
    (go_enter Tryz.func68, Tryz.ntmps68
     go_wp2_with fail
     go_ret
     exact ⟨rfl, Below.refl _ _⟩)
theorem none_s (s : ByteArray) (w : World) : AnsS w 68 #[] s (s.toList == []) := ⟨enters_of Tryz.func68 (by kernel_rfl) rfl, fun W hW => none_any s W⟩
theorem texts_any (s : ByteArray) (W : World) : Calls Tryz.prog 70 #[.string s] W fun e w' => e = .returned (.bool (decide (s.size ≤ 1000))) ∧ Below W.heap.size W w' := by
  have h2 : decide ((s.size : Int) ≤ 1000) = decide (s.size ≤ 1000) := by simp only [decide_eq_decide]; omega
  cases h : decide (s.size ≤ 1000) <;> rw [h] at h2 <;>
    (go_enter Tryz.func70, Tryz.ntmps70
     go_wp2_with fail
     go_ret
     exact ⟨rfl, Below.refl _ _⟩)
theorem texts_s (s : ByteArray) (w : World) : AnsS w 70 #[] s (decide (s.size ≤ 1000)) := ⟨enters_of Tryz.func70 (by kernel_rfl) rfl, fun W hW => texts_any s W⟩

end Go.Proofs.YtkmhijkpbmcgbaaGreat
