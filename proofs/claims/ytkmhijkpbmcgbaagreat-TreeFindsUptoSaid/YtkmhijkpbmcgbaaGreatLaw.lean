/-
  The law's awake: its walk.
-/
import Derived.Test.YtkmhijkpbmcgbaaGreatAwake
import Derived.Test.YtkmhijkpbmcgbaaGreatPlain
import Derived.Deep.RegionHeld3
namespace Go.Proofs.YtkmhijkpbmcgbaaGreat
set_option linter.all false
open Go.RowKit Go.Shelf

theorem same_neg : sameN 100 neg neg = true := by
  rw [same_self]
  rfl

set_option maxRecDepth 100000 in
set_option maxHeartbeats 1000000 in
theorem awake_any (w : World) : Calls Tryz.prog 12 #[] w fun e w' => e = .returned (.bool true) ∧ Below w.heap.size w w' := by
  have hb : Below w.heap.size w ((w.alloc (.cells #[.int .i64 16, .string ⟨#[49]⟩, .slice none 0 0, .int .i64 0] 24)).alloc (.cells #[.int .i64 19, .string ⟨#[45]⟩, .slice (some ⟨w.heap.size, 0, none⟩) 1 1, .int .i64 0] 24)) := ((Below.refl _ w).alloc (Nat.le_refl _) _).alloc (by simp) _
  have x1 := (Whole.new w 24 #[.int .i64 16, .string ⟨#[49]⟩, .slice none 0 0, .int .i64 0]).alloc (.cells #[.int .i64 19, .string ⟨#[45]⟩, .slice (some ⟨w.heap.size, 0, none⟩) 1 1, .int .i64 0] 24)
  have x2 : Whole ((w.alloc (.cells #[.int .i64 16, .string ⟨#[49]⟩, .slice none 0 0, .int .i64 0] 24)).alloc (.cells #[.int .i64 19, .string ⟨#[45]⟩, .slice (some ⟨w.heap.size, 0, none⟩) 1 1, .int .i64 0] 24)) (w.heap.size + 1) 24 #[.int .i64 19, .string ⟨#[45]⟩, .slice (some ⟨w.heap.size, 0, none⟩) 1 1, .int .i64 0] := by
    have := Whole.new (w.alloc (.cells #[.int .i64 16, .string ⟨#[49]⟩, .slice none 0 0, .int .i64 0] 24)) 24 #[.int .i64 19, .string ⟨#[45]⟩, .slice (some ⟨w.heap.size, 0, none⟩) 1 1, .int .i64 0]
    simpa using this
  obtain ⟨W3, hW3⟩ : ∃ W3, W3 = ((w.alloc (.cells #[.int .i64 16, .string ⟨#[49]⟩, .slice none 0 0, .int .i64 0] 24)).alloc (.cells #[.int .i64 19, .string ⟨#[45]⟩, .slice (some ⟨w.heap.size, 0, none⟩) 1 1, .int .i64 0] 24)) := ⟨_, rfl⟩
  rw [← hW3] at hb x1 x2
  have hone : NdV W3 1 (one.val none 0) one := ⟨none, 0, rfl, ⟨Nat.zero_le _, Nat.zero_le _⟩, fun h => absurd h (by simp [one, Nd.kids])⟩
  have hneg : NdV W3 (0 + 1 + 1) (.agg #[.int .i64 19, .string ⟨#[45]⟩, .slice (some ⟨w.heap.size, 0, none⟩) 1 1, .int .i64 0]) neg := ⟨some ⟨w.heap.size, 0, none⟩, 1, rfl, ⟨by simp [neg, Nd.kids, maxLen], by simp [neg, Nd.kids]⟩, fun _ => ⟨w.heap.size, 0, rfl, fun i k hk => by
    rcases i with _ | i
    · have hk1 : k = one := by simpa [neg, Nd.kids] using hk.symm
      subst hk1
      exact ⟨none, 0, x1.cell 0, x1.cell 1, x1.cell 2, x1.cell 3, hone⟩
    · simp [neg, Nd.kids] at hk⟩⟩
  have hS : ∀ W, Below W3.heap.size W3 W → W.cell? ⟨w.heap.size + 1, 0, none⟩ = some (.int .i64 19) ∧ W.cell? ⟨w.heap.size + 1, 1, none⟩ = some (.string ⟨#[45]⟩) ∧ W.cell? ⟨w.heap.size + 1, 2, none⟩ = some (.slice (some ⟨w.heap.size, 0, none⟩) 1 1) ∧ W.cell? ⟨w.heap.size + 1, 3, none⟩ = some (.int .i64 0) := fun W hW => by
    have y := x2.below hW x2.lt
    exact ⟨y.cell 0, y.cell 1, y.cell 2, y.cell 3⟩
  have hP : ∀ (r : Value) (fn : Nat) (args : Array Value) (W : World), Below W3.heap.size W3 W → Calls Tryz.prog fn args W (fun e w' => e = .returned r ∧ Below W.heap.size W w') →
      Calls Tryz.prog fn args W (fun e w' => e = .returned r ∧ Below W3.heap.size W3 w' ∧ w'.cell? ⟨w.heap.size + 1, 0, none⟩ = some (.int .i64 19) ∧ w'.cell? ⟨w.heap.size + 1, 1, none⟩ = some (.string ⟨#[45]⟩) ∧ w'.cell? ⟨w.heap.size + 1, 2, none⟩ = some (.slice (some ⟨w.heap.size, 0, none⟩) 1 1) ∧ w'.cell? ⟨w.heap.size + 1, 3, none⟩ = some (.int .i64 0)) := fun r fn args W hW h => h.mono fun e w' h => by
    have b := hW.trans (h.2.mono hW.size)
    exact ⟨h.1, b, hS w' b⟩
  have c1 := fun W (hW : Below W3.heap.size W3 W) => hP _ _ _ W hW (right_expr 0 _ W (hneg.below hW))
  have c2 := fun W (hW : Below W3.heap.size W3 W) => hP _ _ _ W hW (right_type 0 _ W (hneg.below hW))
  have c3 := fun W (hW : Below W3.heap.size W3 W) => hP _ _ _ W hW (size_any 2 _ neg W (hneg.below hW))
  have c4 := fun W (hW : Below W3.heap.size W3 W) => hP _ _ _ W hW (depth_any 2 _ neg W (hneg.below hW))
  have c5 := fun W (hW : Below W3.heap.size W3 W) => (copy_any (fun _ => True) 2 _ neg W (by decide) ((hneg.below hW).ndp.weak (fun _ _ _ => trivial))).mono (R' := fun e w' => ∃ A c, e = .returned (.agg #[.int .i64 19, .string ⟨#[45]⟩, .slice A 1 c, .int .i64 0]) ∧ NdV w' 2 (.agg #[.int .i64 19, .string ⟨#[45]⟩, .slice A 1 c, .int .i64 0]) neg ∧ Below W3.heap.size W3 w' ∧ w'.cell? ⟨w.heap.size + 1, 0, none⟩ = some (.int .i64 19) ∧ w'.cell? ⟨w.heap.size + 1, 1, none⟩ = some (.string ⟨#[45]⟩) ∧ w'.cell? ⟨w.heap.size + 1, 2, none⟩ = some (.slice (some ⟨w.heap.size, 0, none⟩) 1 1) ∧ w'.cell? ⟨w.heap.size + 1, 3, none⟩ = some (.int .i64 0)) (fun e w' h => by
    obtain ⟨A, c, h1, h2, h3⟩ := h
    have b := hW.trans (h3.mono hW.size)
    exact ⟨A, c, h1, h2.ndv, b, hS w' b⟩)
  have c6 := fun A c W (hW : Below W3.heap.size W3 W) (h : NdV W 2 (.agg #[.int .i64 19, .string ⟨#[45]⟩, .slice A 1 c, .int .i64 0]) neg) => hP _ _ _ W hW (same_any 2 2 _ _ neg neg W (hneg.below hW) h)
  rw [neg_size, wrap64_small (by simp) (by simp)] at c3
  rw [neg_depth] at c4
  rw [same_neg] at c6
  have C1 := Lib.hid c1
  have C2 := Lib.hid c2
  have C3 := Lib.hid c3
  have C4 := Lib.hid c4
  have C5 := Lib.hid c5
  have C6 := Lib.hid c6
  have HB := Lib.hid hb
  obtain ⟨s0, s1, s2, s3⟩ := hS W3 (Below.refl _ _)
  have b0 : Below W3.heap.size W3 W3.drew := (Below.refl _ W3).drew
  clear c1 c2 c3 c4 c5 c6 hb x1 x2 hone hneg hS hP
  go_enter Tryz.func12, Tryz.ntmps12
  go_wp2_with fail
  rw [← hW3]
  clear hW3
  go_region_held3 (fun w' => w'.cell? ⟨w.heap.size + 1, 0, none⟩ = some (.int .i64 19) ∧ w'.cell? ⟨w.heap.size + 1, 1, none⟩ = some (.string ⟨#[45]⟩) ∧ w'.cell? ⟨w.heap.size + 1, 2, none⟩ = some (.slice (some ⟨w.heap.size, 0, none⟩) 1 1) ∧ w'.cell? ⟨w.heap.size + 1, 3, none⟩ = some (.int .i64 0))
    (first
      | go_keep
      | exact ⟨u0, u1, u2, u3⟩
      | exact ⟨s0, s1, s2, s3⟩)
    ((first
      | (go_at_call 24; refine (C6.out A5 c5 w5 b5 n5).mono ?_; rintro e w6 ⟨rfl, b6, u0, u1, u2, u3⟩)
      | (go_at_call 25; refine (C5.out _ b4).mono ?_; rintro e w5 ⟨A5, c5, rfl, n5, b5, u0, u1, u2, u3⟩)
      | (go_at_call 10; refine (C4.out _ b3).mono ?_; rintro e w4 ⟨rfl, b4, u0, u1, u2, u3⟩)
      | (go_at_call 8; refine (C3.out _ b2).mono ?_; rintro e w3 ⟨rfl, b3, u0, u1, u2, u3⟩)
      | (go_at_call 6; refine (C2.out _ b1).mono ?_; rintro e w2 ⟨rfl, b2, u0, u1, u2, u3⟩)
      | (go_at_call 6; refine (C1.out _ b0).mono ?_; rintro e w1 ⟨rfl, b1, u0, u1, u2, u3⟩)))
  all_goals
    go_wp2_with fail
    go_ret
    exact ⟨rfl, HB.out.trans (b6.mono HB.out.size)⟩

end Go.Proofs.YtkmhijkpbmcgbaaGreat
