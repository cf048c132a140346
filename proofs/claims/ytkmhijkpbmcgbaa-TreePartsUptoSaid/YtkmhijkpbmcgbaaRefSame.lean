/-
  The reference's Same: its walk.
-/
import Derived.Test.YtkmhijkpbmcgbaaSame
import Derived.IntWalk
import Derived.Deep.QuietTactic
import Derived.BigQuiet
import Derived.Lib.QuietBelow
namespace Go.Proofs.Ytkmhijkpbmcgbaa
set_option linter.all false
open Go.RowKit

abbrev cellsN (n : Nd) (A : Option Addr) (c : Nat) : Array Value := #[.int .i64 n.kind, .string n.text, .slice A n.kids.length c, .int .i64 n.place]

abbrev RsameC (left : Nat) : Prop := ∀ (f : Nat) (v1 v2 : Value) (a b : Nd) (w : World), NdV w f v1 a → NdV w f v2 b →
  Calls Try.prog 16 #[v1, v2, .int .i64 left] w fun e w' => e = .returned (.bool (sameN left a b)) ∧ Below w.heap.size w w'

def RsameRel (w : World) (left : Nat) (a b : Nd) (A1 A2 : Option Addr) (c1 c2 : Nat) (i : Value) (W : World) : Prop :=
  ∃ p : Nat, p ≤ a.kids.length ∧ i = .int .i64 p ∧ ((a.kids.take p).zip (b.kids.take p)).all (fun x => sameN left x.1 x.2) = true ∧ Below w.heap.size w W ∧
    Whole W w.heap.size 24 (cellsN a A1 c1) ∧ Whole W (w.heap.size + 1) 24 (cellsN b A2 c2)

set_option maxRecDepth 100000 in
set_option maxHeartbeats 1000000 in
theorem rsame_zero : RsameC 0 := by
  intro f v1 v2 a b w h1 h2
  obtain ⟨A1, c1, rfl, hm1⟩ := h1.val
  obtain ⟨A2, c2, rfl, hm2⟩ := h2.val
  clear h1 h2
  unfold Nd.val
  have e : sameN 0 a b = false := rfl
  rw [e]
  go_enter Try.func16, Try.ntmps16
  go_wp2_with fail
  go_ret
  exact ⟨rfl, ((Below.refl _ w).alloc (Nat.le_refl _) _).alloc (by simp) _⟩

set_option maxRecDepth 100000 in
set_option maxHeartbeats 1000000 in
theorem rsame_succ (left : Nat) (hl : left < 1000) (ih : RsameC left) : RsameC (left + 1) := by
  intro f v1 v2 a b w h1 h2
  cases f with
  | zero => exact h1.elim
  | succ f =>
  obtain ⟨A1, c1, rfl, ⟨hm1, hcap1⟩, hc1⟩ := h1
  obtain ⟨A2, c2, rfl, ⟨hm2, hcap2⟩, hc2⟩ := h2
  have hm1' : a.kids.length ≤ 9223372036854775807 := hm1
  have hm2' : b.kids.length ≤ 9223372036854775807 := hm2
  have hb : ∀ o1 o2, Below w.heap.size w ((w.alloc o1).alloc o2) := fun o1 o2 => ((Below.refl _ w).alloc (Nat.le_refl _) _).alloc (by simp) _
  have HB := Lib.hid hb
  have H1 := Lib.hid hc1
  have H2 := Lib.hid hc2
  have IH := Lib.hid ih
  have d1 : (((left + 1 : Nat) : Int) == 0) = false := by simp; omega
  have d2 : (((left : Int) + 1) == 0) = false := by simp; omega
  clear hb hc1 hc2 ih
  unfold Nd.val
  unfold sameN
  cases hk : (a.kind == b.kind) with
  | false =>
    have hk2 : (a.kind != b.kind) = true := by simpa using hk
    go_enter Try.func16, Try.ntmps16
    go_wp2_with fail
    go_ret
    exact ⟨rfl, HB.out _ _⟩
  | true =>
  have hk2 : (a.kind != b.kind) = false := by simpa using hk
  cases ht : (a.text.toList == b.text.toList) with
  | false =>
    have ht2 : (!(a.text.toList == b.text.toList)) = true := by rw [ht]; rfl
    go_enter Try.func16, Try.ntmps16
    go_wp2_with fail
    go_ret
    exact ⟨rfl, HB.out _ _⟩
  | true =>
  have ht2 : (!(a.text.toList == b.text.toList)) = false := by rw [ht]; rfl
  by_cases hne : a.kids.length = b.kids.length
  · have e0 : (true && true && a.kids.length == b.kids.length && (a.kids.zip b.kids).all fun p => sameN left p.1 p.2) = ((a.kids.zip b.kids).all fun p => sameN left p.1 p.2) := by simp [hne]
    rw [e0]
    have HN := Lib.hid hne
    have n1 : ((a.kids.length : Int) != (b.kids.length : Int)) = false := by rw [hne]; simp
    clear e0 hne
    go_enter Try.func16, Try.ntmps16
    go_wp2_with fail
    go_loopw [7] (fun i W => RsameRel w left a b A1 A2 c1 c2 i W) (fun i _ => a.kids.length - (intOf i).toNat)
    case atStart =>
      refine ⟨0, Nat.zero_le _, rfl, by simp, HB.out _ _, (Whole.new w 24 _).alloc _, ?_⟩
      have := Whole.new (w.alloc (.cells (cellsN a A1 c1) 24)) 24 (cellsN b A2 c2)
      simpa using this
    case round =>
      obtain ⟨p, hp, rfl, hall, hbw, hw1, hw2⟩ := hrel
      have x2 : wr.cell? ⟨w.heap.size, 2, none⟩ = some (.slice A1 a.kids.length c1) := hw1.cell 2
      have z2 : wr.cell? ⟨w.heap.size + 1, 2, none⟩ = some (.slice A2 b.kids.length c2) := hw2.cell 2
      by_cases hpl : p < a.kids.length
      · obtain ⟨b1, o1, k1, A1', c1', rfl, hk1, hbl1, k10, k11, k12, k13, k15⟩ := kid_cells H1.out hbw hpl
        have hpl2 : p < b.kids.length := by have := HN.out; omega
        obtain ⟨b2, o2, k2, A2', c2', rfl, hk2, hbl2, k20, k21, k22, k23, k25⟩ := kid_cells H2.out hbw hpl2
        have hc := fun d os => IH.out f _ _ k1 k2 _ ((k15.below hbw).below (below_regrown wr d os)) ((k25.below hbw).below (below_regrown wr d os))
        have HC := Lib.hid hc
        have HBW := Lib.hid hbw
        have HA := Lib.hid hall
        have HK1 := Lib.hid hk1
        have HK2 := Lib.hid hk2
        have HW1 := Lib.hid hw1
        have HW2 := Lib.hid hw2
        have hp2 : p < 9223372036854775807 := by omega
        have hp3 : (p : Int) < b.kids.length := by omega
        have hp4 : (p : Int) < a.kids.length := by omega
        have hp5 : (0 : Int) ≤ (p : Int) := by omega
        clear hc hbw hall hk1 hk2 hw1 hw2 k15 k25
        unfold Nd.val at HC
        go_wp2_with fail
        have y2 := fun d os => cell_regrown x2 d os
        have yz := fun d os => cell_regrown z2 d os
        have y10 := fun d os => cell_regrown k10 d os
        have y11 := fun d os => cell_regrown k11 d os
        have y12 := fun d os => cell_regrown k12 d os
        have y13 := fun d os => cell_regrown k13 d os
        have y20 := fun d os => cell_regrown k20 d os
        have y21 := fun d os => cell_regrown k21 d os
        have y22 := fun d os => cell_regrown k22 d os
        have y23 := fun d os => cell_regrown k23 d os
        have hsub : IntKind.i64.wrap (((left + 1 : Nat) : Int) - 1) = (left : Int) := by
          rw [IntWalk.i64_in _ (by omega)]; omega
        have hsub2 : IntKind.i64.wrap ((left : Int) + 1 - 1) = (left : Int) := by
          rw [IntWalk.i64_in _ (by omega)]; omega
        clear x2 z2 k10 k11 k12 k13 k20 k21 k22 k23
        refine wp_region_quiet_below (by kernel_rfl) (by kernel_rfl) ?_
        repeat (first
          | go_big_quiet_step ((go_at_call 16; exact Calls.regrown_of (HC.out _ _)))
          | quiet_step ((go_at_call 16; exact Calls.regrown_of (HC.out _ _))))
        refine wpQuiet_nil ?_
        intro _ hw'
        obtain ⟨⟨dq, osq⟩, hw''⟩ := hw'
        subst hw''
        have HB1 := Lib.hid (HBW.out.trans ((below_regrown wr dq osq).mono HBW.out.size))
        have G1 := Lib.hid (HW1.out.below (below_regrown wr dq osq) HW1.out.lt)
        have G2 := Lib.hid (HW2.out.below (below_regrown wr dq osq) HW2.out.lt)
        clear y2 yz y10 y11 y12 y13 y20 y21 y22 y23 hsub hsub2 HC
        cases hs : sameN left k1 k2 with
        | true =>
          go_wp2_with fail
          go_roundw
          case rel =>
            have hd : RsameRel w left a b (some ⟨b1, o1, none⟩) (some ⟨b2, o2, none⟩) c1 c2 (.int .i64 ((p : Int) + 1)) (Sort.grow (redrawn wr dq) osq) := by
              refine ⟨p + 1, by omega, rfl, ?_, HB1.out, G1.out, G2.out⟩
              rw [take_snoc HK1.out, take_snoc HK2.out, List.zip_append (by simp; omega), List.all_append, HA.out]
              simp [hs]
            first | exact hd | ((repeat apply Exists.intro); exact ⟨hd, rfl⟩)
          case measure => simp [intOf]; omega
        | false =>
          have e : ((a.kids.zip b.kids).all fun x => sameN left x.1 x.2) = false := by
            rw [List.all_eq_false]
            refine ⟨(k1, k2), ?_, by simp [hs]⟩
            apply List.mem_of_getElem? (i := p)
            rw [List.getElem?_zip_eq_some]
            exact ⟨HK1.out, HK2.out⟩
          have E := Lib.hid e
          clear e
          go_wp2_with fail
          go_ret
          exact ⟨by rw [E.out]; rfl, HB1.out⟩
      · have e : ((a.kids.zip b.kids).all fun x => sameN left x.1 x.2) = true := by
          rw [List.take_of_length_le (by omega), List.take_of_length_le (by have := HN.out; omega)] at hall
          exact hall
        have E := Lib.hid e
        have HBb := Lib.hid hbw
        clear hall hbw e hw1 hw2
        go_wp2_with fail
        go_ret
        exact ⟨by rw [E.out]; rfl, HBb.out⟩
  · have e0 : (true && true && a.kids.length == b.kids.length && (a.kids.zip b.kids).all fun p => sameN left p.1 p.2) = false := by
      have : (a.kids.length == b.kids.length) = false := by simpa using hne
      rw [this]; rfl
    rw [e0]
    have n1 : ((a.kids.length : Int) != (b.kids.length : Int)) = true := by simp; omega
    clear e0
    go_enter Try.func16, Try.ntmps16
    go_wp2_with fail
    go_ret
    exact ⟨rfl, HB.out _ _⟩

theorem rsame_c : ∀ left, left ≤ 1000 → RsameC left
  | 0, _ => rsame_zero
  | left + 1, h => rsame_succ left h (rsame_c left (by omega))

/-- demoticref06.Same. -/
theorem refsame_any (left : Nat) (hl : left ≤ 1000) (f g : Nat) (v1 v2 : Value) (a b : Nd) (w : World) (h1 : NdV w f v1 a) (h2 : NdV w g v2 b) :
    Calls Try.prog 16 #[v1, v2, .int .i64 left] w fun e w' => e = .returned (.bool (sameN left a b)) ∧ Below w.heap.size w w' :=
  rsame_c left hl _ v1 v2 a b w (h1.le (Nat.le_max_left f g)) (h2.le (Nat.le_max_right f g))

end Go.Proofs.Ytkmhijkpbmcgbaa
