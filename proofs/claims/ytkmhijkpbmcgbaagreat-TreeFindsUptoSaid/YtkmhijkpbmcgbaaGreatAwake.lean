/-
  The program's Right at the chapter's example; awake: walks.
-/
import Derived.Test.YtkmhijkpbmcgbaaGreatSorts
import Derived.Test.YtkmhijkpbmcgbaaGreatNodes
import Derived.Test.YtkmhijkpbmcgbaaGreatSame
import Derived.Test.YtkmhijkpbmcgbaaGreatCopy
import Derived.Deep.QuietTactic
import Derived.BigQuiet
import Derived.Lib.QuietBelow
namespace Go.Proofs.YtkmhijkpbmcgbaaGreat
set_option linter.all false
open Go.RowKit Go.Shelf

theorem neg_depth : depthN 101 neg = 2 := by rfl
theorem neg_size : sizeN 100 neg = 2 := by rfl

set_option maxRecDepth 100000 in
set_option maxHeartbeats 1000000 in
theorem right_expr (f : Nat) (v : Value) (w : World) (hv : NdV w (f + 1 + 1) v neg) : Calls Tryz.prog 6 #[v, .string ⟨#[101, 120, 112, 114, 101, 115, 115, 105, 111, 110]⟩] w fun e w' => e = .returned (.bool true) ∧ Below w.heap.size w w' := by
  obtain ⟨A, c, rfl, hm⟩ := hv.val
  have e1 : neg.val A c = .agg #[.int .i64 19, .string ⟨#[45]⟩, .slice A 1 c, .int .i64 0] := rfl
  rw [e1] at hv ⊢
  have hb : Below w.heap.size w (w.alloc (.cells #[.int .i64 19, .string ⟨#[45]⟩, .slice A 1 c, .int .i64 0] 24)) := (Below.refl _ w).alloc (Nat.le_refl _) _
  have hw := Whole.new w 24 #[.int .i64 19, .string ⟨#[45]⟩, .slice A 1 c, .int .i64 0]
  have HS := Lib.hid (sorts_any (w.alloc (.cells #[.int .i64 19, .string ⟨#[45]⟩, .slice A 1 c, .int .i64 0] 24)))
  have HW := Lib.hid hw
  have HB := Lib.hid hb
  have HV := Lib.hid hv
  clear hv hm e1 hb hw
  have eg : ∀ args w, (callFunc 33 args).run Tryz.prog w = .ok (.enter 33 args) w := enters_of Tryz.func33 (by kernel_rfl) rfl
  go_enter Tryz.func6, Tryz.ntmps6
  go_wp2_with fail
  refine HS.out.mono ?_
  rintro e w1 ⟨rfl, o1, b1⟩
  have hl := look_expr w1 _ _ o1
  rw [World.size_alloc] at hl
  have B1 := HB.out.trans (b1.mono HB.out.size)
  have W1 := HW.out.below b1 (by simp)
  have HD := Lib.hid ((depth_any (f + 1 + 1) _ neg w1 (HV.out.below B1)).mono (R' := fun e w' => e = .returned (.int .i64 2) ∧ Below w.heap.size w w' ∧ Whole w' w.heap.size 24 #[.int .i64 19, .string ⟨#[45]⟩, .slice A 1 c, .int .i64 0]) (fun e w' h => by
    rw [neg_depth] at h
    exact ⟨h.1, B1.trans (h.2.mono B1.size), W1.below h.2 W1.lt⟩))
  have d0 : w1.cell? ⟨w.heap.size, 0, none⟩ = some (.int .i64 19) := W1.cell 0
  have d1 : w1.cell? ⟨w.heap.size, 1, none⟩ = some (.string ⟨#[45]⟩) := W1.cell 1
  have d2 : w1.cell? ⟨w.heap.size, 2, none⟩ = some (.slice A 1 c) := W1.cell 2
  have d3 : w1.cell? ⟨w.heap.size, 3, none⟩ = some (.int .i64 0) := W1.cell 3
  clear o1 b1 B1 W1 HS HW HB
  go_wp2_with fail
  refine HD.out.mono ?_
  rintro e w2 ⟨rfl, B2, W2⟩
  have HZ := Lib.hid ((size_any (f + 1 + 1) _ neg w2 (HV.out.below B2)).mono (R' := fun e w' => e = .returned (.int .i64 2) ∧ Below w.heap.size w w' ∧ Whole w' w.heap.size 24 #[.int .i64 19, .string ⟨#[45]⟩, .slice A 1 c, .int .i64 0]) (fun e w' h => by
    rw [neg_size, wrap64_small (by simp) (by simp)] at h
    exact ⟨h.1, B2.trans (h.2.mono B2.size), W2.below h.2 W2.lt⟩))
  have d0 : w2.cell? ⟨w.heap.size, 0, none⟩ = some (.int .i64 19) := W2.cell 0
  have d1 : w2.cell? ⟨w.heap.size, 1, none⟩ = some (.string ⟨#[45]⟩) := W2.cell 1
  have d2 : w2.cell? ⟨w.heap.size, 2, none⟩ = some (.slice A 1 c) := W2.cell 2
  have d3 : w2.cell? ⟨w.heap.size, 3, none⟩ = some (.int .i64 0) := W2.cell 3
  clear B2 W2 HD
  go_wp2_with fail
  refine HZ.out.mono ?_
  rintro e w3 ⟨rfl, B3, W3⟩
  have HA := Lib.hid (expr_neg f _ w3 (HV.out.below B3))
  have d0 : w3.cell? ⟨w.heap.size, 0, none⟩ = some (.int .i64 19) := W3.cell 0
  have d1 : w3.cell? ⟨w.heap.size, 1, none⟩ = some (.string ⟨#[45]⟩) := W3.cell 1
  have d2 : w3.cell? ⟨w.heap.size, 2, none⟩ = some (.slice A 1 c) := W3.cell 2
  have d3 : w3.cell? ⟨w.heap.size, 3, none⟩ = some (.int .i64 0) := W3.cell 3
  have HB3 := Lib.hid B3
  clear B3 W3 HZ
  go_wp2_with fail
  refine HA.out.mono ?_
  rintro e w4 ⟨rfl, b4⟩
  go_wp2_with fail
  go_ret
  exact ⟨rfl, HB3.out.trans (b4.mono HB3.out.size)⟩

set_option maxRecDepth 100000 in
set_option maxHeartbeats 1000000 in
theorem right_type (f : Nat) (v : Value) (w : World) (hv : NdV w (f + 1 + 1) v neg) : Calls Tryz.prog 6 #[v, .string ⟨#[116, 121, 112, 101]⟩] w fun e w' => e = .returned (.bool false) ∧ Below w.heap.size w w' := by
  obtain ⟨A, c, rfl, hm⟩ := hv.val
  have e1 : neg.val A c = .agg #[.int .i64 19, .string ⟨#[45]⟩, .slice A 1 c, .int .i64 0] := rfl
  rw [e1] at hv ⊢
  have hb : Below w.heap.size w (w.alloc (.cells #[.int .i64 19, .string ⟨#[45]⟩, .slice A 1 c, .int .i64 0] 24)) := (Below.refl _ w).alloc (Nat.le_refl _) _
  have hw := Whole.new w 24 #[.int .i64 19, .string ⟨#[45]⟩, .slice A 1 c, .int .i64 0]
  have HS := Lib.hid (sorts_any (w.alloc (.cells #[.int .i64 19, .string ⟨#[45]⟩, .slice A 1 c, .int .i64 0] 24)))
  have HW := Lib.hid hw
  have HB := Lib.hid hb
  have HV := Lib.hid hv
  clear hv hm e1 hb hw
  have eg : ∀ args w, (callFunc 32 args).run Tryz.prog w = .ok (.enter 32 args) w := enters_of Tryz.func32 (by kernel_rfl) rfl
  go_enter Tryz.func6, Tryz.ntmps6
  go_wp2_with fail
  refine HS.out.mono ?_
  rintro e w1 ⟨rfl, o1, b1⟩
  have hl := look_type w1 _ _ o1
  rw [World.size_alloc] at hl
  have B1 := HB.out.trans (b1.mono HB.out.size)
  have W1 := HW.out.below b1 (by simp)
  have HD := Lib.hid ((depth_any (f + 1 + 1) _ neg w1 (HV.out.below B1)).mono (R' := fun e w' => e = .returned (.int .i64 2) ∧ Below w.heap.size w w' ∧ Whole w' w.heap.size 24 #[.int .i64 19, .string ⟨#[45]⟩, .slice A 1 c, .int .i64 0]) (fun e w' h => by
    rw [neg_depth] at h
    exact ⟨h.1, B1.trans (h.2.mono B1.size), W1.below h.2 W1.lt⟩))
  have d0 : w1.cell? ⟨w.heap.size, 0, none⟩ = some (.int .i64 19) := W1.cell 0
  have d1 : w1.cell? ⟨w.heap.size, 1, none⟩ = some (.string ⟨#[45]⟩) := W1.cell 1
  have d2 : w1.cell? ⟨w.heap.size, 2, none⟩ = some (.slice A 1 c) := W1.cell 2
  have d3 : w1.cell? ⟨w.heap.size, 3, none⟩ = some (.int .i64 0) := W1.cell 3
  clear o1 b1 B1 W1 HS HW HB
  go_wp2_with fail
  refine HD.out.mono ?_
  rintro e w2 ⟨rfl, B2, W2⟩
  have HZ := Lib.hid ((size_any (f + 1 + 1) _ neg w2 (HV.out.below B2)).mono (R' := fun e w' => e = .returned (.int .i64 2) ∧ Below w.heap.size w w' ∧ Whole w' w.heap.size 24 #[.int .i64 19, .string ⟨#[45]⟩, .slice A 1 c, .int .i64 0]) (fun e w' h => by
    rw [neg_size, wrap64_small (by simp) (by simp)] at h
    exact ⟨h.1, B2.trans (h.2.mono B2.size), W2.below h.2 W2.lt⟩))
  have d0 : w2.cell? ⟨w.heap.size, 0, none⟩ = some (.int .i64 19) := W2.cell 0
  have d1 : w2.cell? ⟨w.heap.size, 1, none⟩ = some (.string ⟨#[45]⟩) := W2.cell 1
  have d2 : w2.cell? ⟨w.heap.size, 2, none⟩ = some (.slice A 1 c) := W2.cell 2
  have d3 : w2.cell? ⟨w.heap.size, 3, none⟩ = some (.int .i64 0) := W2.cell 3
  clear B2 W2 HD
  go_wp2_with fail
  refine HZ.out.mono ?_
  rintro e w3 ⟨rfl, B3, W3⟩
  have HA := Lib.hid (type_neg (f + 1 + 1) _ w3 (HV.out.below B3))
  have d0 : w3.cell? ⟨w.heap.size, 0, none⟩ = some (.int .i64 19) := W3.cell 0
  have d1 : w3.cell? ⟨w.heap.size, 1, none⟩ = some (.string ⟨#[45]⟩) := W3.cell 1
  have d2 : w3.cell? ⟨w.heap.size, 2, none⟩ = some (.slice A 1 c) := W3.cell 2
  have d3 : w3.cell? ⟨w.heap.size, 3, none⟩ = some (.int .i64 0) := W3.cell 3
  have HB3 := Lib.hid B3
  clear B3 W3 HZ
  go_wp2_with fail
  refine HA.out.mono ?_
  rintro e w4 ⟨rfl, b4⟩
  go_wp2_with fail
  go_ret
  exact ⟨rfl, HB3.out.trans (b4.mono HB3.out.size)⟩

end Go.Proofs.YtkmhijkpbmcgbaaGreat
