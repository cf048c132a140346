/-
  How many nodes and letters a node holds.
-/
import Derived.Test.YtkmhijkpbmcgbaaGreatPure
namespace Go.Proofs.YtkmhijkpbmcgbaaGreat
set_option linter.all false

/-- Nodes and letters, to a depth. -/
def bulkN : Nat → Nd → Nat
  | 0, _ => 0
  | f + 1, n => 1 + n.text.size + (n.kids.map (bulkN f)).sum
theorem sum_le {α : Type} (g h : α → Nat) : ∀ l : List α, (∀ x ∈ l, g x ≤ h x) → (l.map g).sum ≤ (l.map h).sum
  | [], _ => by simp
  | x :: l, hh => by
    have h1 := hh x (by simp)
    have h2 := sum_le g h l (fun y hy => hh y (by simp [hy]))
    simp only [List.map_cons, List.sum_cons]
    omega
theorem size_le_bulk : ∀ (m : Nat) (n : Nd), sizeN m n ≤ bulkN m n
  | 0, n => by simp [sizeN, bulkN]
  | m + 1, n => by
    have := sum_le (sizeN m) (bulkN m) n.kids (fun x _ => size_le_bulk m x)
    simp only [sizeN, bulkN]
    omega
theorem le_sum {α : Type} (g : α → Nat) : ∀ (l : List α) (x : α), x ∈ l → g x ≤ (l.map g).sum
  | y :: l, x, h => by
    rcases List.mem_cons.1 h with rfl | h
    · simp
    · have := le_sum g l x h
      simp only [List.map_cons, List.sum_cons]
      omega
theorem bulk_kid {m : Nat} {n k : Nd} (h : k ∈ n.kids) : bulkN m k < bulkN (m + 1) n := by
  have := le_sum (bulkN m) n.kids k h
  simp only [bulkN]
  omega
theorem text_bulk (m : Nat) (n : Nd) : n.text.size < bulkN (m + 1) n := by
  simp only [bulkN]
  omega

end Go.Proofs.YtkmhijkpbmcgbaaGreat
