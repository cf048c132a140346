/-
  The reference's Size: its walk.
-/
import Derived.Test.YtkmhijkpbmcgbaaGreatWords
namespace Go.Proofs.YtkmhijkpbmcgbaaGreat
set_option linter.all false
open Go.RowKit

def sumW (f : Nat) (l : List Nd) : Nat := (l.map (sizeN f)).sum

theorem sumW_snoc {f : Nat} {l : List Nd} {p : Nat} {k : Nd} (h : l[p]? = some k) : sumW f (l.take (p + 1)) = sumW f (l.take p) + sizeN f k := by
  rw [take_snoc h]
  simp [sumW]

def SizeRel (w : World) (B : Nat) (left : Nat) (l : List Nd) (A : Option Addr) (n : Nd) (c : Nat) (s i : Value) (W : World) : Prop :=
  ∃ p : Nat, p ≤ l.length ∧ s = .int .i64 (wrap64 (1 + sumW left (l.take p))) ∧ i = .int .i64 p ∧ Below w.heap.size w W ∧ Whole W B 24 #[.int .i64 n.kind, .string n.text, .slice A l.length c, .int .i64 n.place]

set_option maxRecDepth 100000 in
set_option maxHeartbeats 400000 in
theorem refsize_any : ∀ (left : Nat) (f : Nat) (v : Value) (n : Nd) (w : World), left ≤ 1000 → NdV w f v n →
    Calls Tryz.prog 9 #[v, .int .i64 left] w fun e w' => e = .returned (.int .i64 (wrap64 (sizeN left n))) ∧ Below w.heap.size w w'
  | 0, f, v, n, w, hl, hv => by
    obtain ⟨A, c, rfl, hm⟩ := hv.val
    clear hv
    unfold Nd.val
    have e : wrap64 ((sizeN 0 n : Nat) : Int) = 0 := by unfold sizeN; exact wrap64_small (by simp) (by simp)
    rw [e]
    clear e
    go_enter Tryz.func9, Tryz.ntmps9
    go_wp2
    go_ret
    exact ⟨rfl, (Below.refl _ w).alloc (Nat.le_refl _) _⟩
  | left + 1, 0, v, n, w, hl, hv => hv.elim
  | left + 1, f + 1, v, n, w, hl, hv => by
    have ih := fun v n w h => refsize_any left f v n w (by omega) h
    have HI := Lib.hid ih
    clear ih
    have d0 : decide (((left + 1 : Nat) : Int) = 0) = false := decide_eq_false (by omega)
    have d1 : (((left + 1 : Nat) : Int) == 0) = false := by simp; omega
    obtain ⟨A, c, rfl, ⟨hm, hcap⟩, hc⟩ := hv
    have HC := Lib.hid hc
    clear hc
    unfold Nd.val
    go_enter Tryz.func9, Tryz.ntmps9
    go_wp2_with fail
    go_loopw [5, 6] (fun s i W => SizeRel w w.heap.size left n.kids A n c s i W) (fun _ i _ => n.kids.length - (intOf i).toNat)
    case atStart => exact ⟨0, Nat.zero_le _, by simp [sumW, wrap64_small], rfl, (Below.refl _ w).alloc (Nat.le_refl _) _, Whole.new w 24 _⟩
    case round =>
      obtain ⟨p, hp, rfl, rfl, hB, hW⟩ := hrel
      have c2 := hW.cell 2
      have B := Lib.hid hB
      have WH := Lib.hid hW
      clear hB hW
      by_cases hpl : p < n.kids.length
      · obtain ⟨b, off, k, A', c', rfl, hk, hbl, k0, k1, k2, k3, k5⟩ := kid_cells HC.out B.out hpl
        have K5 := Lib.hid (k5.below B.out)
        have HK := Lib.hid hk
        clear k5 hk
        have hp2 : p < 9223372036854775807 := Nat.lt_of_lt_of_le hpl (by unfold maxLen at hm; omega)
        go_wp2_with fail
        refine (HI.out _ _ _ K5.out).mono ?_
        rintro e w1 ⟨rfl, b1⟩
        have b2 := B.out.trans (b1.mono B.out.size)
        have W1 := WH.out.below b1 (by have := WH.out.lt; omega)
        clear k0 k1 k2 k3 K5 b1
        go_wp2_with fail
        go_roundw
        case rel =>
          (repeat apply Exists.intro)
          exact ⟨⟨p + 1, by omega, by rw [wrap64_add]; congr 1; rw [sumW_snoc HK.out]; push_cast; rw [Int.add_assoc], rfl, b2, W1⟩, rfl⟩
        case measure => simp [intOf]; omega
      · have e : sumW left (n.kids.take p) = sumW left n.kids := by rw [List.take_of_length_le (by omega)]
        rw [e]
        have e2 : (1 + (sumW left n.kids : Int)) = (sizeN (left + 1) n : Nat) := by simp [sizeN, sumW]
        rw [e2]
        go_wp2_with fail
        go_ret
        exact ⟨rfl, B.out⟩

/-- Has a node at most so many in it? -/
theorem small_any (f : Nat) (v : Value) (n : Nd) (w : World) (most : Int) (hv : NdV w f v n) :
    Calls Tryz.prog 5 #[v, .int .i64 most] w fun e w' => e = .returned (.bool (decide (wrap64 (sizeN 1000 n) ≤ most))) ∧ Below w.heap.size w w' := by
  obtain ⟨A, c, rfl, hm⟩ := hv.val
  have HI := Lib.hid (refsize_any 1000 f (n.val A c) n _ (by omega) (hv.below ((Below.refl _ w).alloc (Nat.le_refl _) (.cells #[.int .i64 n.kind, .string n.text, .slice A n.kids.length c, .int .i64 n.place] 24))))
  clear hv
  unfold Nd.val at HI ⊢
  go_enter Tryz.func5, Tryz.ntmps5
  go_wp2_with fail
  refine HI.out.mono ?_
  rintro e w1 ⟨rfl, b1⟩
  have b2 := ((Below.refl _ w).alloc (Nat.le_refl _) (.cells #[.int .i64 n.kind, .string n.text, .slice A n.kids.length c, .int .i64 n.place] 24)).trans (b1.mono (by simp))
  go_wp2_with fail
  go_ret
  exact ⟨rfl, b2⟩

end Go.Proofs.YtkmhijkpbmcgbaaGreat
