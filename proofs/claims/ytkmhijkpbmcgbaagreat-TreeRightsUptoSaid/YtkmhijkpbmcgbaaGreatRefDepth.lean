/-
  The reference's Depth: its walk.
-/
import Derived.Test.YtkmhijkpbmcgbaaGreatSize
import Derived.Test.YtkmhijkpbmcgbaaGreatPlain
namespace Go.Proofs.YtkmhijkpbmcgbaaGreat
set_option linter.all false
open Go.RowKit

def maxW (f : Nat) (l : List Nd) : Nat := (l.map (depthN f)).foldl max 0
theorem maxW_snoc {f : Nat} {l : List Nd} {p : Nat} {k : Nd} (h : l[p]? = some k) : maxW f (l.take (p + 1)) = max (maxW f (l.take p)) (depthN f k) := by
  rw [take_snoc h]
  simp [maxW]
theorem max_int (a b : Nat) : max (a : Int) (b : Int) = ((max a b : Nat) : Int) := by omega
theorem max_le1000 {left : Nat} (h : left ≤ 1000) (l : List Nd) : maxW left l ≤ 1000 := by
  unfold maxW
  rw [foldl_max_le]
  refine ⟨by omega, ?_⟩
  intro x hx
  obtain ⟨k, _, rfl⟩ := List.mem_map.1 hx
  exact Nat.le_trans (depth_le left k) h

def DepthRel (w : World) (B : Nat) (left : Nat) (l : List Nd) (A : Option Addr) (n : Nd) (c : Nat) (s i : Value) (W : World) : Prop :=
  ∃ p : Nat, p ≤ l.length ∧ s = .int .i64 (maxW left (l.take p)) ∧ i = .int .i64 p ∧ Below w.heap.size w W ∧ Whole W B 24 #[.int .i64 n.kind, .string n.text, .slice A l.length c, .int .i64 n.place]

set_option maxRecDepth 100000 in
set_option maxHeartbeats 400000 in
theorem refdepth_any : ∀ (left : Nat) (f : Nat) (v : Value) (n : Nd) (w : World), left ≤ 1000 → NdV w f v n →
    Calls Tryz.prog 11 #[v, .int .i64 left] w fun e w' => e = .returned (.int .i64 (depthN left n)) ∧ Below w.heap.size w w'
  | 0, f, v, n, w, hl, hv => by
    obtain ⟨A, c, rfl, hm⟩ := hv.val
    clear hv
    unfold Nd.val
    have e : ((depthN 0 n : Nat) : Int) = 0 := by unfold depthN; rfl
    rw [e]
    clear e
    go_enter Tryz.func11, Tryz.ntmps11
    go_wp2
    go_ret
    exact ⟨rfl, (Below.refl _ w).alloc (Nat.le_refl _) _⟩
  | left + 1, 0, v, n, w, hl, hv => hv.elim
  | left + 1, f + 1, v, n, w, hl, hv => by
    have ih := fun v n w h => refdepth_any left f v n w (by omega) h
    have HI := Lib.hid ih
    clear ih
    have d0 : decide (((left + 1 : Nat) : Int) = 0) = false := decide_eq_false (by omega)
    have d1 : (((left + 1 : Nat) : Int) == 0) = false := by simp; omega
    obtain ⟨A, c, rfl, ⟨hm, hcap⟩, hc⟩ := hv
    have HC := Lib.hid hc
    clear hc
    unfold Nd.val
    go_enter Tryz.func11, Tryz.ntmps11
    go_wp2_with fail
    go_loopw [5, 6] (fun s i W => DepthRel w w.heap.size left n.kids A n c s i W) (fun _ i _ => n.kids.length - (intOf i).toNat)
    case atStart => exact ⟨0, Nat.zero_le _, by simp [maxW], rfl, (Below.refl _ w).alloc (Nat.le_refl _) _, Whole.new w 24 _⟩
    case round =>
      obtain ⟨p, hp, rfl, rfl, hB, hW⟩ := hrel
      have c2 := hW.cell 2
      have B := Lib.hid hB
      have WH := Lib.hid hW
      clear hB hW
      by_cases hpl : p < n.kids.length
      · obtain ⟨b, off, k, A', c', rfl, hk, hbl, k0, k1, k2, k3, k5⟩ := kid_cells HC.out B.out hpl
        have K5 := Lib.hid (k5.below B.out)
        have HK := Lib.hid hk
        clear k5 hk
        have hp2 : p < 9223372036854775807 := Nat.lt_of_lt_of_le hpl (by unfold maxLen at hm; omega)
        go_wp2_with fail
        refine (HI.out _ _ _ K5.out).mono ?_
        rintro e w1 ⟨rfl, b1⟩
        have b2 := B.out.trans (b1.mono B.out.size)
        have W1 := WH.out.below b1 (by have := WH.out.lt; omega)
        clear k0 k1 k2 k3 K5 b1
        go_wp2_with fail
        all_goals
          rename_i hmx
          refine ⟨⟨p + 1, by omega, ?_, by push_cast; rfl, b2, W1⟩, by simp [intOf]; omega⟩
          rw [maxW_snoc HK.out]
          congr 2
          omega
      · have e : maxW left (n.kids.take p) = maxW left n.kids := by rw [List.take_of_length_le (by omega)]
        rw [e]
        have e2 : ((maxW left n.kids : Int) + 1) = (depthN (left + 1) n : Nat) := by simp [depthN, maxW]
        have hle := max_le1000 (l := n.kids) (show left ≤ 1000 by omega)
        go_wp2_with fail
        go_ret
        exact ⟨by rw [← e2]; simp, B.out⟩

end Go.Proofs.YtkmhijkpbmcgbaaGreat
