/-
  The law on right nodes: its walk.
-/
import Derived.Test.YtkmhijkpbmcgbaaGreatBoth
import Derived.Test.YtkmhijkpbmcgbaaGreatLaw
import Derived.Deep.RegionHeld3
namespace Go.Proofs.YtkmhijkpbmcgbaaGreat
set_option linter.all false
open Go.RowKit Go.Shelf Go.Maps

set_option maxRecDepth 100000 in
set_option maxHeartbeats 2000000 in
theorem lawRights_walk (F : Nat) (v : Value) (n : Nd) (s : ByteArray) (w : World) (hs : s.size ≤ maxLen) (hft : Fits n) (hx : Mx w) (hv : NdV w F v n) :
    Calls Tryz.prog 3 #[v, .string s] w fun e w' => e = .returned (.bool true) ∧ Below w.heap.size w w' := by
  have hF : 0 < F := by
    cases F with
    | zero => exact hv.elim
    | succ F => omega
  obtain ⟨r, hr1, hr2⟩ := both F v n w hF hft hx hv s hs
  obtain ⟨A, c, rfl, hm⟩ := hv.val
  have hb : Below w.heap.size w (w.alloc (.cells (cellsOf n A c) 24)) := (Below.refl _ w).alloc (Nat.le_refl _) _
  have hw := Whole.new w 24 (cellsOf n A c)
  have BX := Lib.hid fun W (h : Below (w.alloc (.cells (cellsOf n A c) 24)).heap.size (w.alloc (.cells (cellsOf n A c) 24)) W) => box_cells hw h
  have HB := Lib.hid hb
  have SM := Lib.hid fun W (h : Below w.heap.size w W) => small_any F _ n W 2000 (hv.below h)
  have R1 := Lib.hid hr1
  have R2 := Lib.hid hr2
  have S1 := Lib.hid fun W (h : Below w.heap.size w W) => size_any F _ n W (hv.below h)
  have S2 := Lib.hid fun W (h : Below w.heap.size w W) => refsize_any 100 F _ n W (by omega) (hv.below h)
  have D1 := Lib.hid fun W (h : Below w.heap.size w W) => depth_any F _ n W (hv.below h)
  have D2 := Lib.hid fun W (h : Below w.heap.size w W) => refdepth_any 101 F _ n W (by omega) (hv.below h)
  have AW := Lib.hid fun W (h : Below w.heap.size w W) => awake_any W
  have hm2 : s.size ≤ 9223372036854775807 := hs
  clear hr1 hr2 hv hft hx hb hw
  unfold Nd.val at *
  obtain ⟨W1, hW1⟩ : ∃ W1, W1 = w.alloc (.cells (cellsOf n A c) 24) := ⟨_, rfl⟩
  rw [← hW1] at BX HB
  have hW2 : w.alloc (.cells #[.int .i64 n.kind, .string n.text, .slice A n.kids.length c, .int .i64 n.place] 24) = W1 := hW1.symm
  have HW := Lib.hid hW2
  clear hW1 hW2
  cases hsm : decide (wrap64 (sizeN 1000 n) ≤ 2000)
  case false =>
    rw [hsm] at SM
    go_enter Tryz.func3, Tryz.ntmps3
    go_wp2_with fail
    rw [HW.out]
    refine (SM.out _ HB.out).mono ?_
    rintro e w1 ⟨rfl, b1⟩
    obtain ⟨x0, x1, x2, x3, x4⟩ := BX.out _ b1
    go_wp2_with fail
    go_ret
    exact ⟨rfl, HB.out.trans (b1.mono HB.out.size)⟩
  case true =>
  rw [hsm] at SM
  by_cases hl : 100 < s.size
  case pos =>
    have l1 : decide ((100 : Int) < (s.size : Int)) = true := decide_eq_true (by omega)
    go_enter Tryz.func3, Tryz.ntmps3
    go_wp2_with fail
    rw [HW.out]
    refine (SM.out _ HB.out).mono ?_
    rintro e w1 ⟨rfl, b1⟩
    obtain ⟨x0, x1, x2, x3, x4⟩ := BX.out _ b1
    go_wp2_with fail
    go_ret
    exact ⟨rfl, HB.out.trans (b1.mono HB.out.size)⟩
  case neg =>
  have l1 : decide ((100 : Int) < (s.size : Int)) = false := decide_eq_false (by omega)
  have hP : ∀ {f : FuncId} {args : Array Value} {W : World} {v : Value}, Below W1.heap.size W1 W → Calls Tryz.prog f args W (fun e w' => e = .returned v ∧ Below W.heap.size W w') → Calls Tryz.prog f args W (fun e w' => e = .returned v ∧ Below W1.heap.size W1 w' ∧ w'.cell? ⟨w.heap.size, 0, none⟩ = some (.int .i64 n.kind) ∧ w'.cell? ⟨w.heap.size, 1, none⟩ = some (.string n.text) ∧ w'.cell? ⟨w.heap.size, 2, none⟩ = some (.slice A n.kids.length c) ∧ w'.cell? ⟨w.heap.size, 3, none⟩ = some (.int .i64 n.place)) :=
    fun hW h => h.mono fun e w' x => by
      have b := hW.trans (x.2.mono hW.size)
      obtain ⟨y0, y1, y2, y3, _⟩ := BX.out _ b
      exact ⟨x.1, b, y0, y1, y2, y3⟩
  have up : ∀ {W : World}, Below W1.heap.size W1 W → Below w.heap.size w W := fun h => HB.out.trans (h.mono HB.out.size)
  have C1 := Lib.hid fun W (h : Below W1.heap.size W1 W) => hP h (R1.out W (up h))
  have C2 := Lib.hid fun W (h : Below W1.heap.size W1 W) => hP h (R2.out W (up h))
  have C3 := Lib.hid fun W (h : Below W1.heap.size W1 W) => hP h (S1.out W (up h))
  have C4 := Lib.hid fun W (h : Below W1.heap.size W1 W) => hP h (S2.out W (up h))
  have C5 := Lib.hid fun W (h : Below W1.heap.size W1 W) => hP h (D1.out W (up h))
  have C6 := Lib.hid fun W (h : Below W1.heap.size W1 W) => hP h (D2.out W (up h))
  have C7 := Lib.hid fun W (h : Below W1.heap.size W1 W) => hP h (AW.out W (up h))
  have C0 := Lib.hid fun W (h : Below W1.heap.size W1 W) => hP h (SM.out W (up h))
  clear hP R1 R2 S1 S2 D1 D2 AW SM up
  generalize wrap64 ((sizeN 100 n : Nat) : Int) = z1 at C3 C4
  generalize ((depthN 101 n : Nat) : Int) = z2 at C5 C6
  go_enter Tryz.func3, Tryz.ntmps3
  go_wp2_with fail
  rw [HW.out]
  refine (C0.out _ (Below.refl _ _)).mono ?_
  rintro e w1 ⟨rfl, b1, s0, s1, s2, s3⟩
  have b0 := b1.drew
  go_wp2_with fail
  go_region_held3 (fun w' => w'.cell? ⟨w.heap.size, 0, none⟩ = some (.int .i64 n.kind) ∧ w'.cell? ⟨w.heap.size, 1, none⟩ = some (.string n.text) ∧ w'.cell? ⟨w.heap.size, 2, none⟩ = some (.slice A n.kids.length c) ∧ w'.cell? ⟨w.heap.size, 3, none⟩ = some (.int .i64 n.place))
    (first
      | go_keep
      | exact ⟨u0, u1, u2, u3⟩
      | exact ⟨s0, s1, s2, s3⟩)
    ((first
      | (go_at_call 12; refine (C7.out _ b7).mono ?_; rintro e w8 ⟨rfl, b8, u0, u1, u2, u3⟩)
      | (go_at_call 11; refine (C6.out _ b6).mono ?_; rintro e w7 ⟨rfl, b7, u0, u1, u2, u3⟩)
      | (go_at_call 10; refine (C5.out _ b5).mono ?_; rintro e w6 ⟨rfl, b6, u0, u1, u2, u3⟩)
      | (go_at_call 9; refine (C4.out _ b4).mono ?_; rintro e w5 ⟨rfl, b5, u0, u1, u2, u3⟩)
      | (go_at_call 8; refine (C3.out _ b3).mono ?_; rintro e w4 ⟨rfl, b4, u0, u1, u2, u3⟩)
      | (go_at_call 7; refine (C2.out _ b2).mono ?_; rintro e w3 ⟨rfl, b3, u0, u1, u2, u3⟩)
      | (go_at_call 6; refine (C1.out _ b0).mono ?_; rintro e w2 ⟨rfl, b2, u0, u1, u2, u3⟩)))
  all_goals
    go_wp2_with fail
    go_ret
    exact ⟨rfl, HB.out.trans (b8.mono HB.out.size)⟩

end Go.Proofs.YtkmhijkpbmcgbaaGreat
