/-
  The law TreeEquals: its walk.
-/
import Derived.Test.YtkmhijkpbmcgbaaLaw
import Derived.Test.YtkmhijkpbmcgbaaSize
import Derived.Deep.QuietTactic
import Derived.BigQuiet
import Derived.Lib.QuietBelow
namespace Go.Proofs.Ytkmhijkpbmcgbaa
set_option linter.all false
open Go.RowKit Go.Shelf

/-- Three nodes in their boxes. -/
def Box3 (w : World) (a b c : Nd) (A1 A2 A3 : Option Addr) (c1 c2 c3 : Nat) (W : World) : Prop :=
  Below w.heap.size w W ∧ Whole W w.heap.size 24 (cellsOf a A1 c1) ∧ Whole W (w.heap.size + 1) 24 (cellsOf b A2 c2) ∧ Whole W (w.heap.size + 1 + 1) 24 (cellsOf c A3 c3)
section
variable {w W W' : World} {a b c : Nd} {A1 A2 A3 : Option Addr} {c1 c2 c3 : Nat}
theorem Box3.next (h : Box3 w a b c A1 A2 A3 c1 c2 c3 W) (hb : Below W.heap.size W W') : Box3 w a b c A1 A2 A3 c1 c2 c3 W' :=
  ⟨h.1.trans (hb.mono h.1.size), h.2.1.below hb h.2.1.lt, h.2.2.1.below hb h.2.2.1.lt, h.2.2.2.below hb h.2.2.2.lt⟩
theorem Box3.calls (h : Box3 w a b c A1 A2 A3 c1 c2 c3 W) {g : Nat} {args : Array Value} {r : Value} (hc : Calls Try.prog g args W fun e w' => e = .returned r ∧ Below W.heap.size W w') :
    Calls Try.prog g args W fun e w' => e = .returned r ∧ Box3 w a b c A1 A2 A3 c1 c2 c3 w' := hc.mono fun e w' h' => ⟨h'.1, h.next h'.2⟩
theorem Box3.cells (h : Box3 w a b c A1 A2 A3 c1 c2 c3 W) :
    W.cell? ⟨w.heap.size, 0, none⟩ = some (.int .i64 a.kind) ∧ W.cell? ⟨w.heap.size, 1, none⟩ = some (.string a.text) ∧ W.cell? ⟨w.heap.size, 2, none⟩ = some (.slice A1 a.kids.length c1) ∧ W.cell? ⟨w.heap.size, 3, none⟩ = some (.int .i64 a.place) ∧
    W.cell? ⟨w.heap.size + 1, 0, none⟩ = some (.int .i64 b.kind) ∧ W.cell? ⟨w.heap.size + 1, 1, none⟩ = some (.string b.text) ∧ W.cell? ⟨w.heap.size + 1, 2, none⟩ = some (.slice A2 b.kids.length c2) ∧ W.cell? ⟨w.heap.size + 1, 3, none⟩ = some (.int .i64 b.place) ∧
    W.cell? ⟨w.heap.size + 1 + 1, 0, none⟩ = some (.int .i64 c.kind) ∧ W.cell? ⟨w.heap.size + 1 + 1, 1, none⟩ = some (.string c.text) ∧ W.cell? ⟨w.heap.size + 1 + 1, 2, none⟩ = some (.slice A3 c.kids.length c3) ∧ W.cell? ⟨w.heap.size + 1 + 1, 3, none⟩ = some (.int .i64 c.place) :=
  ⟨h.2.1.cell 0, h.2.1.cell 1, h.2.1.cell 2, h.2.1.cell 3, h.2.2.1.cell 0, h.2.2.1.cell 1, h.2.2.1.cell 2, h.2.2.1.cell 3, h.2.2.2.cell 0, h.2.2.2.cell 1, h.2.2.2.cell 2, h.2.2.2.cell 3⟩
end

set_option maxRecDepth 100000 in
set_option maxHeartbeats 2000000 in
theorem lawEquals_walk (f g k : Nat) (va vb vc : Value) (a b c : Nd) (w : World) (ha : NdV w f va a) (hb : NdV w g vb b) (hc : NdV w k vc c) :
    Calls Try.prog 3 #[va, vb, vc] w fun e w' => e = .returned (.bool true) ∧ Below w.heap.size w w' := by
  obtain ⟨A1, c1, rfl, hm1⟩ := ha.val
  obtain ⟨A2, c2, rfl, hm2⟩ := hb.val
  obtain ⟨A3, c3, rfl, hm3⟩ := hc.val
  have k0 : Box3 w a b c A1 A2 A3 c1 c2 c3 (((w.alloc (.cells (cellsOf a A1 c1) 24)).alloc (.cells (cellsOf b A2 c2) 24)).alloc (.cells (cellsOf c A3 c3) 24)) := by
    refine ⟨(((Below.refl _ w).alloc (Nat.le_refl _) _).alloc (by simp) _).alloc (by simp; omega) _, ?_, ?_, ?_⟩
    · exact ((Whole.new w 24 (cellsOf a A1 c1)).alloc _).alloc _
    · have := (Whole.new (w.alloc (.cells (cellsOf a A1 c1) 24)) 24 (cellsOf b A2 c2)).alloc (.cells (cellsOf c A3 c3) 24)
      simpa using this
    · have := Whole.new ((w.alloc (.cells (cellsOf a A1 c1) 24)).alloc (.cells (cellsOf b A2 c2) 24)) 24 (cellsOf c A3 c3)
      simpa using this
  have m1 := Lib.hid fun W (h : Box3 w a b c A1 A2 A3 c1 c2 c3 W) => h.calls (small_any f _ a W 500 (ha.below h.1))
  have m2 := Lib.hid fun W (h : Box3 w a b c A1 A2 A3 c1 c2 c3 W) => h.calls (small_any g _ b W 500 (hb.below h.1))
  have m3 := Lib.hid fun W (h : Box3 w a b c A1 A2 A3 c1 c2 c3 W) => h.calls (small_any k _ c W 500 (hc.below h.1))
  have saa := Lib.hid fun W (h : Below w.heap.size w W) => same_any f f _ _ a a W (ha.below h) (ha.below h)
  have sab := Lib.hid fun W (h : Below w.heap.size w W) => same_any f g _ _ a b W (ha.below h) (hb.below h)
  have sba := Lib.hid fun W (h : Below w.heap.size w W) => same_any g f _ _ b a W (hb.below h) (ha.below h)
  have sbc := Lib.hid fun W (h : Below w.heap.size w W) => same_any g k _ _ b c W (hb.below h) (hc.below h)
  have sac := Lib.hid fun W (h : Below w.heap.size w W) => same_any f k _ _ a c W (ha.below h) (hc.below h)
  have da := Lib.hid fun W (h : Below w.heap.size w W) => depth_any f _ a W (ha.below h)
  have hdl := depth_le 101 a
  have K0 := Lib.hid k0
  obtain ⟨x0, x1, x2, x3, x4, x5, x6, x7, x8, x9, x10, x11⟩ := k0.cells
  clear k0 ha hb hc
  unfold Nd.val at m1 m2 m3 saa sab sba sbc sac da ⊢
  obtain ⟨W0, hW0⟩ : ∃ W0, (((w.alloc (.cells (cellsOf a A1 c1) 24)).alloc (.cells (cellsOf b A2 c2) 24)).alloc (.cells (cellsOf c A3 c3) 24)) = W0 := ⟨_, rfl⟩
  rw [hW0] at K0 x0 x1 x2 x3 x4 x5 x6 x7 x8 x9 x10 x11
  go_enter Try.func3, Try.ntmps3
  go_wp2_with fail
  refine (m1.out _ K0.out).mono ?_
  rintro e W1 ⟨rfl, k1⟩
  clear x0 x1 x2 x3 x4 x5 x6 x7 x8 x9 x10 x11
  obtain ⟨x0, x1, x2, x3, x4, x5, x6, x7, x8, x9, x10, x11⟩ := k1.cells
  have K1 := Lib.hid k1
  clear k1 hW0
  cases h1 : decide (wrap64 (sizeN 1000 a) ≤ 500) with
  | false =>
    go_wp2_with fail
    go_ret
    exact ⟨rfl, K1.out.1⟩
  | true =>
  go_wp2_with fail
  refine (m2.out _ K1.out).mono ?_
  rintro e W2 ⟨rfl, k2⟩
  clear x0 x1 x2 x3 x4 x5 x6 x7 x8 x9 x10 x11
  obtain ⟨x0, x1, x2, x3, x4, x5, x6, x7, x8, x9, x10, x11⟩ := k2.cells
  have K2 := Lib.hid k2
  clear k2 K1
  cases h2 : decide (wrap64 (sizeN 1000 b) ≤ 500) with
  | false =>
    go_wp2_with fail
    go_ret
    exact ⟨rfl, K2.out.1⟩
  | true =>
  go_wp2_with fail
  refine (m3.out _ K2.out).mono ?_
  rintro e W3 ⟨rfl, k3⟩
  clear x0 x1 x2 x3 x4 x5 x6 x7 x8 x9 x10 x11
  obtain ⟨x0, x1, x2, x3, x4, x5, x6, x7, x8, x9, x10, x11⟩ := k3.cells
  have K3 := Lib.hid k3
  clear k3 K2
  cases h3 : decide (wrap64 (sizeN 1000 c) ≤ 500) with
  | false =>
    go_wp2_with fail
    go_ret
    exact ⟨rfl, K3.out.1⟩
  | true =>
  clear h1 h2 h3
  have hsc := same_comm 100 b a
  rw [hsc] at sba
  have hself := same_self 100 a
  rw [hself] at saa
  have hdd : decide (((depthN 101 a : Nat) : Int) ≤ 100) = decide (depthN 101 a ≤ 100) := by simp; omega
  have htr := Lib.hid (same_trans 100 a b c)
  clear hsc hself
  have done : (decide (depthN 101 a ≤ 100) : Bool) = decide (depthN 101 a ≤ 100) := rfl
  cases hA : decide (depthN 101 a ≤ 100)
  all_goals
    rw [hA] at saa hdd
    clear hA done
    go_wp2_with fail
    have SAA := Lib.hid fun d os => saa.out _ (K3.out.1.trans ((below_regrown W3 d os).mono K3.out.1.size))
    have SAB := Lib.hid fun d os => sab.out _ (K3.out.1.trans ((below_regrown W3 d os).mono K3.out.1.size))
    have SBA := Lib.hid fun d os => sba.out _ (K3.out.1.trans ((below_regrown W3 d os).mono K3.out.1.size))
    have DA := Lib.hid fun d os => da.out _ (K3.out.1.trans ((below_regrown W3 d os).mono K3.out.1.size))
    have y0 := fun d os => cell_regrown x0 d os
    have y1 := fun d os => cell_regrown x1 d os
    have y2 := fun d os => cell_regrown x2 d os
    have y3 := fun d os => cell_regrown x3 d os
    have y4 := fun d os => cell_regrown x4 d os
    have y5 := fun d os => cell_regrown x5 d os
    have y6 := fun d os => cell_regrown x6 d os
    have y7 := fun d os => cell_regrown x7 d os
    have y8 := fun d os => cell_regrown x8 d os
    have y9 := fun d os => cell_regrown x9 d os
    have y10 := fun d os => cell_regrown x10 d os
    have y11 := fun d os => cell_regrown x11 d os
    clear x0 x1 x2 x3 x4 x5 x6 x7 x8 x9 x10 x11
    refine wp_region_quiet_below (by kernel_rfl) (by kernel_rfl) ?_
    repeat (first
      | go_big_quiet_step (first | (go_at_call 12; exact Calls.regrown_of (awake_any _)) | (go_at_call 11; exact Calls.regrown_of (DA.out _ _)) | (go_at_call 10; ((with_reducible exact Calls.regrown_of (SAA.out _ _)))) | (go_at_call 10; ((with_reducible exact Calls.regrown_of (SAB.out _ _)))) | (go_at_call 10; ((with_reducible exact Calls.regrown_of (SBA.out _ _)))))
      | quiet_step (first | (go_at_call 12; exact Calls.regrown_of (awake_any _)) | (go_at_call 11; exact Calls.regrown_of (DA.out _ _)) | (go_at_call 10; ((with_reducible exact Calls.regrown_of (SAA.out _ _)))) | (go_at_call 10; ((with_reducible exact Calls.regrown_of (SAB.out _ _)))) | (go_at_call 10; ((with_reducible exact Calls.regrown_of (SBA.out _ _))))))
    refine wpQuiet_nil ?_
    intro _ hw'
    obtain ⟨⟨dq, osq⟩, hw''⟩ := hw'
    subst hw''
    have K4 := Lib.hid (K3.out.next (below_regrown W3 dq osq))
    clear y0 y1 y2 y3 y4 y5 y6 y7 y8 y9 y10 y11
    obtain ⟨W4, hW⟩ : ∃ W4, Sort.grow (redrawn W3 dq) osq = W4 := ⟨_, rfl⟩
    rw [hW] at K4 ⊢
    clear hW K3
    obtain ⟨x0, x1, x2, x3, x4, x5, x6, x7, x8, x9, x10, x11⟩ := K4.out.cells
    go_wp2_with fail
    refine (sab.out _ K4.out.1).mono ?_
    rintro e W5 ⟨rfl, b⟩
    have K5 := Lib.hid (K4.out.next b)
    clear b K4 x0 x1 x2 x3 x4 x5 x6 x7 x8 x9 x10 x11
    obtain ⟨x0, x1, x2, x3, x4, x5, x6, x7, x8, x9, x10, x11⟩ := K5.out.cells
    cases h1 : sameN 100 a b
    case false =>
      go_wp2_with fail
      refine (awake_any W5).mono ?_
      rintro e W9 ⟨rfl, b9⟩
      go_wp2_with fail
      go_ret
      exact ⟨rfl, K5.out.1.trans (b9.mono K5.out.1.size)⟩
    case true =>
      go_wp2_with fail
      refine (sbc.out _ K5.out.1).mono ?_
      rintro e W6 ⟨rfl, b⟩
      have K6 := Lib.hid (K5.out.next b)
      clear b K5 x0 x1 x2 x3 x4 x5 x6 x7 x8 x9 x10 x11
      obtain ⟨x0, x1, x2, x3, x4, x5, x6, x7, x8, x9, x10, x11⟩ := K6.out.cells
      cases h2 : sameN 100 b c
      case false =>
        go_wp2_with fail
        refine (awake_any W6).mono ?_
        rintro e W9 ⟨rfl, b9⟩
        go_wp2_with fail
        go_ret
        exact ⟨rfl, K6.out.1.trans (b9.mono K6.out.1.size)⟩
      case true =>
        have h3 := htr.out h1 h2
        rw [h3] at sac
        clear h3
        go_wp2_with fail
        refine (sac.out _ K6.out.1).mono ?_
        rintro e W7 ⟨rfl, b⟩
        have K7 := Lib.hid (K6.out.next b)
        clear b K6 x0 x1 x2 x3 x4 x5 x6 x7 x8 x9 x10 x11
        obtain ⟨x0, x1, x2, x3, x4, x5, x6, x7, x8, x9, x10, x11⟩ := K7.out.cells
        go_wp2_with fail
        refine (awake_any W7).mono ?_
        rintro e W9 ⟨rfl, b9⟩
        go_wp2_with fail
        go_ret
        exact ⟨rfl, K7.out.1.trans (b9.mono K7.out.1.size)⟩

end Go.Proofs.Ytkmhijkpbmcgbaa
