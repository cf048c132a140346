/-
  The reference's Right, at each sort.
-/
import Derived.Test.YtkmhijkpbmcgbaaGreatRefAll
import Derived.Test.YtkmhijkpbmcgbaaGreatRefDepth
import Derived.Test.YtkmhijkpbmcgbaaGreatRightC
namespace Go.Proofs.YtkmhijkpbmcgbaaGreat
set_option linter.all false
open Go.RowKit Go.Shelf

set_option maxRecDepth 100000 in
set_option maxHeartbeats 4000000 in
theorem rright_decl (g : Q → Nd → Bool) (F : Nat) (v : Value) (n : Nd) (w : World) (S : SaysF w F 18 #[] (declB g)) (hft : Fits n) (hv : NdV w F v n) :
    Calls Tryz.prog 7 #[v, .string ⟨#[100, 101, 99, 108, 97, 114, 97, 116, 105, 111, 110]⟩] w fun e w' => e = .returned (.bool (okN n && declB g n)) ∧ Below w.heap.size w w' := by
  obtain ⟨A, c, rfl, hm⟩ := hv.val
  have hb : Below w.heap.size w (w.alloc (.cells (cellsOf n A c) 24)) := (Below.refl _ w).alloc (Nat.le_refl _) _
  have hw := Whole.new w 24 (cellsOf n A c)
  have BX := Lib.hid fun W (h : Below (w.alloc (.cells (cellsOf n A c) 24)).heap.size (w.alloc (.cells (cellsOf n A c) 24)) W) => box_cells hw h
  have HB := Lib.hid hb
  have DP := Lib.hid fun W (h : Below w.heap.size w W) => refdepth_any 101 F _ n W (by omega) (hv.below h)
  have SZ := Lib.hid fun W (h : Below w.heap.size w W) => refsize_any 100 F _ n W (by omega) (hv.below h)
  have C0 := Lib.hid fun W (h : Below w.heap.size w W) => S.2 W _ n h hft (hv.below h)
  clear S
  generalize declB g n = r0 at C0 ⊢
  clear hft hv hb hw
  unfold Nd.val at *
  obtain ⟨W1, hW1⟩ : ∃ W1, W1 = w.alloc (.cells (cellsOf n A c) 24) := ⟨_, rfl⟩
  rw [← hW1] at BX HB
  have hW2 : w.alloc (.cells #[.int .i64 n.kind, .string n.text, .slice A n.kids.length c, .int .i64 n.place] 24) = W1 := hW1.symm
  have HW := Lib.hid hW2
  clear hW1 hW2
  unfold okN
  go_enter Tryz.func7, Tryz.ntmps7
  go_wp2_with fail
  rw [HW.out]
  refine (DP.out _ HB.out).mono ?_
  rintro e W2 ⟨rfl, b2⟩
  have B2 := Lib.hid (HB.out.trans (b2.mono HB.out.size))
  have G2 := Lib.hid b2
  clear b2 DP
  obtain ⟨x0, x1, x2, x3, x4⟩ := BX.out _ G2.out
  by_cases hd : depthN 101 n ≤ 100
  case neg =>
    have d1 : decide ((100 : Int) < (depthN 101 n : Int)) = true := decide_eq_true (by omega)
    have d2 : decide (depthN 101 n ≤ 100) = false := decide_eq_false hd
    go_wp2_with fail
    go_ret
    exact ⟨by rw [d2]; rfl, B2.out⟩
  case pos =>
  have d1 : decide ((100 : Int) < (depthN 101 n : Int)) = false := decide_eq_false (by omega)
  have d2 : decide (depthN 101 n ≤ 100) = true := decide_eq_true hd
  have D2 := Lib.hid d2
  clear d2 hd
  go_wp2_with fail
  refine (SZ.out _ B2.out).mono ?_
  rintro e W3 ⟨rfl, b3⟩
  have B3 := Lib.hid (B2.out.trans (b3.mono B2.out.size))
  have G3 := Lib.hid (G2.out.trans (b3.mono G2.out.size))
  clear b3 SZ x0 x1 x2 x3 x4 d1
  obtain ⟨x0, x1, x2, x3, x4⟩ := BX.out _ G3.out
  by_cases hz : wrap64 (sizeN 100 n) ≤ 65536
  case neg =>
    have d1 : decide ((65536 : Int) < wrap64 (sizeN 100 n)) = true := decide_eq_true (by omega)
    have d2 : decide (wrap64 (sizeN 100 n) ≤ 65536) = false := decide_eq_false hz
    go_wp2_with fail
    go_ret
    exact ⟨by rw [d2]; simp, B3.out⟩
  case pos =>
  have d1 : decide ((65536 : Int) < wrap64 (sizeN 100 n)) = false := decide_eq_false (by omega)
  have d2 : decide (wrap64 (sizeN 100 n) ≤ 65536) = true := decide_eq_true hz
  have Z2 := Lib.hid d2
  clear d2 hz
  go_wp2_with fail
  refine (C0.out _ B3.out).mono ?_
  rintro e W4 ⟨rfl, b4⟩
  have B4 := Lib.hid (B3.out.trans (b4.mono B3.out.size))
  clear b4
  go_wp2_with fail
  go_ret
  exact ⟨by rw [D2.out, Z2.out]; rfl, B4.out⟩

set_option maxRecDepth 100000 in
set_option maxHeartbeats 4000000 in
theorem rright_typ (g : Q → Nd → Bool) (F : Nat) (v : Value) (n : Nd) (w : World) (S : SaysF w F 19 #[] (g .typ)) (hft : Fits n) (hv : NdV w F v n) :
    Calls Tryz.prog 7 #[v, .string ⟨#[116, 121, 112, 101]⟩] w fun e w' => e = .returned (.bool (okN n && g .typ n)) ∧ Below w.heap.size w w' := by
  obtain ⟨A, c, rfl, hm⟩ := hv.val
  have hb : Below w.heap.size w (w.alloc (.cells (cellsOf n A c) 24)) := (Below.refl _ w).alloc (Nat.le_refl _) _
  have hw := Whole.new w 24 (cellsOf n A c)
  have BX := Lib.hid fun W (h : Below (w.alloc (.cells (cellsOf n A c) 24)).heap.size (w.alloc (.cells (cellsOf n A c) 24)) W) => box_cells hw h
  have HB := Lib.hid hb
  have DP := Lib.hid fun W (h : Below w.heap.size w W) => refdepth_any 101 F _ n W (by omega) (hv.below h)
  have SZ := Lib.hid fun W (h : Below w.heap.size w W) => refsize_any 100 F _ n W (by omega) (hv.below h)
  have C0 := Lib.hid fun W (h : Below w.heap.size w W) => S.2 W _ n h hft (hv.below h)
  clear S
  generalize g .typ n = r0 at C0 ⊢
  clear hft hv hb hw
  unfold Nd.val at *
  obtain ⟨W1, hW1⟩ : ∃ W1, W1 = w.alloc (.cells (cellsOf n A c) 24) := ⟨_, rfl⟩
  rw [← hW1] at BX HB
  have hW2 : w.alloc (.cells #[.int .i64 n.kind, .string n.text, .slice A n.kids.length c, .int .i64 n.place] 24) = W1 := hW1.symm
  have HW := Lib.hid hW2
  clear hW1 hW2
  unfold okN
  go_enter Tryz.func7, Tryz.ntmps7
  go_wp2_with fail
  rw [HW.out]
  refine (DP.out _ HB.out).mono ?_
  rintro e W2 ⟨rfl, b2⟩
  have B2 := Lib.hid (HB.out.trans (b2.mono HB.out.size))
  have G2 := Lib.hid b2
  clear b2 DP
  obtain ⟨x0, x1, x2, x3, x4⟩ := BX.out _ G2.out
  by_cases hd : depthN 101 n ≤ 100
  case neg =>
    have d1 : decide ((100 : Int) < (depthN 101 n : Int)) = true := decide_eq_true (by omega)
    have d2 : decide (depthN 101 n ≤ 100) = false := decide_eq_false hd
    go_wp2_with fail
    go_ret
    exact ⟨by rw [d2]; rfl, B2.out⟩
  case pos =>
  have d1 : decide ((100 : Int) < (depthN 101 n : Int)) = false := decide_eq_false (by omega)
  have d2 : decide (depthN 101 n ≤ 100) = true := decide_eq_true hd
  have D2 := Lib.hid d2
  clear d2 hd
  go_wp2_with fail
  refine (SZ.out _ B2.out).mono ?_
  rintro e W3 ⟨rfl, b3⟩
  have B3 := Lib.hid (B2.out.trans (b3.mono B2.out.size))
  have G3 := Lib.hid (G2.out.trans (b3.mono G2.out.size))
  clear b3 SZ x0 x1 x2 x3 x4 d1
  obtain ⟨x0, x1, x2, x3, x4⟩ := BX.out _ G3.out
  by_cases hz : wrap64 (sizeN 100 n) ≤ 65536
  case neg =>
    have d1 : decide ((65536 : Int) < wrap64 (sizeN 100 n)) = true := decide_eq_true (by omega)
    have d2 : decide (wrap64 (sizeN 100 n) ≤ 65536) = false := decide_eq_false hz
    go_wp2_with fail
    go_ret
    exact ⟨by rw [d2]; simp, B3.out⟩
  case pos =>
  have d1 : decide ((65536 : Int) < wrap64 (sizeN 100 n)) = false := decide_eq_false (by omega)
  have d2 : decide (wrap64 (sizeN 100 n) ≤ 65536) = true := decide_eq_true hz
  have Z2 := Lib.hid d2
  clear d2 hz
  go_wp2_with fail
  refine (C0.out _ B3.out).mono ?_
  rintro e W4 ⟨rfl, b4⟩
  have B4 := Lib.hid (B3.out.trans (b4.mono B3.out.size))
  clear b4
  go_wp2_with fail
  go_ret
  exact ⟨by rw [D2.out, Z2.out]; rfl, B4.out⟩

set_option maxRecDepth 100000 in
set_option maxHeartbeats 4000000 in
theorem rright_expr (g : Q → Nd → Bool) (F : Nat) (v : Value) (n : Nd) (w : World) (S : SaysF w F 20 #[] (g .expr)) (hft : Fits n) (hv : NdV w F v n) :
    Calls Tryz.prog 7 #[v, .string ⟨#[101, 120, 112, 114, 101, 115, 115, 105, 111, 110]⟩] w fun e w' => e = .returned (.bool (okN n && g .expr n)) ∧ Below w.heap.size w w' := by
  obtain ⟨A, c, rfl, hm⟩ := hv.val
  have hb : Below w.heap.size w (w.alloc (.cells (cellsOf n A c) 24)) := (Below.refl _ w).alloc (Nat.le_refl _) _
  have hw := Whole.new w 24 (cellsOf n A c)
  have BX := Lib.hid fun W (h : Below (w.alloc (.cells (cellsOf n A c) 24)).heap.size (w.alloc (.cells (cellsOf n A c) 24)) W) => box_cells hw h
  have HB := Lib.hid hb
  have DP := Lib.hid fun W (h : Below w.heap.size w W) => refdepth_any 101 F _ n W (by omega) (hv.below h)
  have SZ := Lib.hid fun W (h : Below w.heap.size w W) => refsize_any 100 F _ n W (by omega) (hv.below h)
  have C0 := Lib.hid fun W (h : Below w.heap.size w W) => S.2 W _ n h hft (hv.below h)
  clear S
  generalize g .expr n = r0 at C0 ⊢
  clear hft hv hb hw
  unfold Nd.val at *
  obtain ⟨W1, hW1⟩ : ∃ W1, W1 = w.alloc (.cells (cellsOf n A c) 24) := ⟨_, rfl⟩
  rw [← hW1] at BX HB
  have hW2 : w.alloc (.cells #[.int .i64 n.kind, .string n.text, .slice A n.kids.length c, .int .i64 n.place] 24) = W1 := hW1.symm
  have HW := Lib.hid hW2
  clear hW1 hW2
  unfold okN
  go_enter Tryz.func7, Tryz.ntmps7
  go_wp2_with fail
  rw [HW.out]
  refine (DP.out _ HB.out).mono ?_
  rintro e W2 ⟨rfl, b2⟩
  have B2 := Lib.hid (HB.out.trans (b2.mono HB.out.size))
  have G2 := Lib.hid b2
  clear b2 DP
  obtain ⟨x0, x1, x2, x3, x4⟩ := BX.out _ G2.out
  by_cases hd : depthN 101 n ≤ 100
  case neg =>
    have d1 : decide ((100 : Int) < (depthN 101 n : Int)) = true := decide_eq_true (by omega)
    have d2 : decide (depthN 101 n ≤ 100) = false := decide_eq_false hd
    go_wp2_with fail
    go_ret
    exact ⟨by rw [d2]; rfl, B2.out⟩
  case pos =>
  have d1 : decide ((100 : Int) < (depthN 101 n : Int)) = false := decide_eq_false (by omega)
  have d2 : decide (depthN 101 n ≤ 100) = true := decide_eq_true hd
  have D2 := Lib.hid d2
  clear d2 hd
  go_wp2_with fail
  refine (SZ.out _ B2.out).mono ?_
  rintro e W3 ⟨rfl, b3⟩
  have B3 := Lib.hid (B2.out.trans (b3.mono B2.out.size))
  have G3 := Lib.hid (G2.out.trans (b3.mono G2.out.size))
  clear b3 SZ x0 x1 x2 x3 x4 d1
  obtain ⟨x0, x1, x2, x3, x4⟩ := BX.out _ G3.out
  by_cases hz : wrap64 (sizeN 100 n) ≤ 65536
  case neg =>
    have d1 : decide ((65536 : Int) < wrap64 (sizeN 100 n)) = true := decide_eq_true (by omega)
    have d2 : decide (wrap64 (sizeN 100 n) ≤ 65536) = false := decide_eq_false hz
    go_wp2_with fail
    go_ret
    exact ⟨by rw [d2]; simp, B3.out⟩
  case pos =>
  have d1 : decide ((65536 : Int) < wrap64 (sizeN 100 n)) = false := decide_eq_false (by omega)
  have d2 : decide (wrap64 (sizeN 100 n) ≤ 65536) = true := decide_eq_true hz
  have Z2 := Lib.hid d2
  clear d2 hz
  go_wp2_with fail
  refine (C0.out _ B3.out).mono ?_
  rintro e W4 ⟨rfl, b4⟩
  have B4 := Lib.hid (B3.out.trans (b4.mono B3.out.size))
  clear b4
  go_wp2_with fail
  go_ret
  exact ⟨by rw [D2.out, Z2.out]; rfl, B4.out⟩

set_option maxRecDepth 100000 in
set_option maxHeartbeats 4000000 in
theorem rright_stmt (g : Q → Nd → Bool) (F : Nat) (v : Value) (n : Nd) (w : World) (S : SaysF w F 21 #[] (g .stmt)) (hft : Fits n) (hv : NdV w F v n) :
    Calls Tryz.prog 7 #[v, .string ⟨#[115, 116, 97, 116, 101, 109, 101, 110, 116]⟩] w fun e w' => e = .returned (.bool (okN n && g .stmt n)) ∧ Below w.heap.size w w' := by
  obtain ⟨A, c, rfl, hm⟩ := hv.val
  have hb : Below w.heap.size w (w.alloc (.cells (cellsOf n A c) 24)) := (Below.refl _ w).alloc (Nat.le_refl _) _
  have hw := Whole.new w 24 (cellsOf n A c)
  have BX := Lib.hid fun W (h : Below (w.alloc (.cells (cellsOf n A c) 24)).heap.size (w.alloc (.cells (cellsOf n A c) 24)) W) => box_cells hw h
  have HB := Lib.hid hb
  have DP := Lib.hid fun W (h : Below w.heap.size w W) => refdepth_any 101 F _ n W (by omega) (hv.below h)
  have SZ := Lib.hid fun W (h : Below w.heap.size w W) => refsize_any 100 F _ n W (by omega) (hv.below h)
  have C0 := Lib.hid fun W (h : Below w.heap.size w W) => S.2 W _ n h hft (hv.below h)
  clear S
  generalize g .stmt n = r0 at C0 ⊢
  clear hft hv hb hw
  unfold Nd.val at *
  obtain ⟨W1, hW1⟩ : ∃ W1, W1 = w.alloc (.cells (cellsOf n A c) 24) := ⟨_, rfl⟩
  rw [← hW1] at BX HB
  have hW2 : w.alloc (.cells #[.int .i64 n.kind, .string n.text, .slice A n.kids.length c, .int .i64 n.place] 24) = W1 := hW1.symm
  have HW := Lib.hid hW2
  clear hW1 hW2
  unfold okN
  go_enter Tryz.func7, Tryz.ntmps7
  go_wp2_with fail
  rw [HW.out]
  refine (DP.out _ HB.out).mono ?_
  rintro e W2 ⟨rfl, b2⟩
  have B2 := Lib.hid (HB.out.trans (b2.mono HB.out.size))
  have G2 := Lib.hid b2
  clear b2 DP
  obtain ⟨x0, x1, x2, x3, x4⟩ := BX.out _ G2.out
  by_cases hd : depthN 101 n ≤ 100
  case neg =>
    have d1 : decide ((100 : Int) < (depthN 101 n : Int)) = true := decide_eq_true (by omega)
    have d2 : decide (depthN 101 n ≤ 100) = false := decide_eq_false hd
    go_wp2_with fail
    go_ret
    exact ⟨by rw [d2]; rfl, B2.out⟩
  case pos =>
  have d1 : decide ((100 : Int) < (depthN 101 n : Int)) = false := decide_eq_false (by omega)
  have d2 : decide (depthN 101 n ≤ 100) = true := decide_eq_true hd
  have D2 := Lib.hid d2
  clear d2 hd
  go_wp2_with fail
  refine (SZ.out _ B2.out).mono ?_
  rintro e W3 ⟨rfl, b3⟩
  have B3 := Lib.hid (B2.out.trans (b3.mono B2.out.size))
  have G3 := Lib.hid (G2.out.trans (b3.mono G2.out.size))
  clear b3 SZ x0 x1 x2 x3 x4 d1
  obtain ⟨x0, x1, x2, x3, x4⟩ := BX.out _ G3.out
  by_cases hz : wrap64 (sizeN 100 n) ≤ 65536
  case neg =>
    have d1 : decide ((65536 : Int) < wrap64 (sizeN 100 n)) = true := decide_eq_true (by omega)
    have d2 : decide (wrap64 (sizeN 100 n) ≤ 65536) = false := decide_eq_false hz
    go_wp2_with fail
    go_ret
    exact ⟨by rw [d2]; simp, B3.out⟩
  case pos =>
  have d1 : decide ((65536 : Int) < wrap64 (sizeN 100 n)) = false := decide_eq_false (by omega)
  have d2 : decide (wrap64 (sizeN 100 n) ≤ 65536) = true := decide_eq_true hz
  have Z2 := Lib.hid d2
  clear d2 hz
  go_wp2_with fail
  refine (C0.out _ B3.out).mono ?_
  rintro e W4 ⟨rfl, b4⟩
  have B4 := Lib.hid (B3.out.trans (b4.mono B3.out.size))
  clear b4
  go_wp2_with fail
  go_ret
  exact ⟨by rw [D2.out, Z2.out]; rfl, B4.out⟩

set_option maxRecDepth 100000 in
set_option maxHeartbeats 4000000 in
theorem rright_sig (g : Q → Nd → Bool) (F : Nat) (v : Value) (n : Nd) (w : World) (SG : ∀ W v n, Below w.heap.size w W → Fits n → NdV W F v n → Calls Tryz.prog 22 #[v, .bool true] W fun e w' => e = .returned (.bool (isSigB g n)) ∧ Below W.heap.size W w') (hft : Fits n) (hv : NdV w F v n) :
    Calls Tryz.prog 7 #[v, .string ⟨#[115, 105, 103, 110, 97, 116, 117, 114, 101]⟩] w fun e w' => e = .returned (.bool (okN n && isSigB g n)) ∧ Below w.heap.size w w' := by
  obtain ⟨A, c, rfl, hm⟩ := hv.val
  have hb : Below w.heap.size w (w.alloc (.cells (cellsOf n A c) 24)) := (Below.refl _ w).alloc (Nat.le_refl _) _
  have hw := Whole.new w 24 (cellsOf n A c)
  have BX := Lib.hid fun W (h : Below (w.alloc (.cells (cellsOf n A c) 24)).heap.size (w.alloc (.cells (cellsOf n A c) 24)) W) => box_cells hw h
  have HB := Lib.hid hb
  have DP := Lib.hid fun W (h : Below w.heap.size w W) => refdepth_any 101 F _ n W (by omega) (hv.below h)
  have SZ := Lib.hid fun W (h : Below w.heap.size w W) => refsize_any 100 F _ n W (by omega) (hv.below h)
  have C0 := Lib.hid fun W (h : Below w.heap.size w W) => SG W _ n h hft (hv.below h)
  clear SG
  generalize isSigB g n = r0 at C0 ⊢
  clear hft hv hb hw
  unfold Nd.val at *
  obtain ⟨W1, hW1⟩ : ∃ W1, W1 = w.alloc (.cells (cellsOf n A c) 24) := ⟨_, rfl⟩
  rw [← hW1] at BX HB
  have hW2 : w.alloc (.cells #[.int .i64 n.kind, .string n.text, .slice A n.kids.length c, .int .i64 n.place] 24) = W1 := hW1.symm
  have HW := Lib.hid hW2
  clear hW1 hW2
  unfold okN
  go_enter Tryz.func7, Tryz.ntmps7
  go_wp2_with fail
  rw [HW.out]
  refine (DP.out _ HB.out).mono ?_
  rintro e W2 ⟨rfl, b2⟩
  have B2 := Lib.hid (HB.out.trans (b2.mono HB.out.size))
  have G2 := Lib.hid b2
  clear b2 DP
  obtain ⟨x0, x1, x2, x3, x4⟩ := BX.out _ G2.out
  by_cases hd : depthN 101 n ≤ 100
  case neg =>
    have d1 : decide ((100 : Int) < (depthN 101 n : Int)) = true := decide_eq_true (by omega)
    have d2 : decide (depthN 101 n ≤ 100) = false := decide_eq_false hd
    go_wp2_with fail
    go_ret
    exact ⟨by rw [d2]; rfl, B2.out⟩
  case pos =>
  have d1 : decide ((100 : Int) < (depthN 101 n : Int)) = false := decide_eq_false (by omega)
  have d2 : decide (depthN 101 n ≤ 100) = true := decide_eq_true hd
  have D2 := Lib.hid d2
  clear d2 hd
  go_wp2_with fail
  refine (SZ.out _ B2.out).mono ?_
  rintro e W3 ⟨rfl, b3⟩
  have B3 := Lib.hid (B2.out.trans (b3.mono B2.out.size))
  have G3 := Lib.hid (G2.out.trans (b3.mono G2.out.size))
  clear b3 SZ x0 x1 x2 x3 x4 d1
  obtain ⟨x0, x1, x2, x3, x4⟩ := BX.out _ G3.out
  by_cases hz : wrap64 (sizeN 100 n) ≤ 65536
  case neg =>
    have d1 : decide ((65536 : Int) < wrap64 (sizeN 100 n)) = true := decide_eq_true (by omega)
    have d2 : decide (wrap64 (sizeN 100 n) ≤ 65536) = false := decide_eq_false hz
    go_wp2_with fail
    go_ret
    exact ⟨by rw [d2]; simp, B3.out⟩
  case pos =>
  have d1 : decide ((65536 : Int) < wrap64 (sizeN 100 n)) = false := decide_eq_false (by omega)
  have d2 : decide (wrap64 (sizeN 100 n) ≤ 65536) = true := decide_eq_true hz
  have Z2 := Lib.hid d2
  clear d2 hz
  go_wp2_with fail
  refine (C0.out _ B3.out).mono ?_
  rintro e W4 ⟨rfl, b4⟩
  have B4 := Lib.hid (B3.out.trans (b4.mono B3.out.size))
  clear b4
  go_wp2_with fail
  go_ret
  exact ⟨by rw [D2.out, Z2.out]; rfl, B4.out⟩

set_option maxRecDepth 100000 in
set_option maxHeartbeats 4000000 in
theorem rright_other (g : Q → Nd → Bool) (F : Nat) (v : Value) (n : Nd) (w : World) (s : ByteArray) (h0 : (s.toList == [102, 105, 108, 101]) = false) (h1 : (s.toList == [100, 101, 99, 108, 97, 114, 97, 116, 105, 111, 110]) = false) (h2 : (s.toList == [116, 121, 112, 101]) = false) (h3 : (s.toList == [101, 120, 112, 114, 101, 115, 115, 105, 111, 110]) = false) (h4 : (s.toList == [115, 116, 97, 116, 101, 109, 101, 110, 116]) = false) (h5 : (s.toList == [115, 105, 103, 110, 97, 116, 117, 114, 101]) = false) (hft : Fits n) (hv : NdV w F v n) :
    Calls Tryz.prog 7 #[v, .string s] w fun e w' => e = .returned (.bool (okN n && false)) ∧ Below w.heap.size w w' := by
  obtain ⟨A, c, rfl, hm⟩ := hv.val
  have hb : Below w.heap.size w (w.alloc (.cells (cellsOf n A c) 24)) := (Below.refl _ w).alloc (Nat.le_refl _) _
  have hw := Whole.new w 24 (cellsOf n A c)
  have BX := Lib.hid fun W (h : Below (w.alloc (.cells (cellsOf n A c) 24)).heap.size (w.alloc (.cells (cellsOf n A c) 24)) W) => box_cells hw h
  have HB := Lib.hid hb
  have DP := Lib.hid fun W (h : Below w.heap.size w W) => refdepth_any 101 F _ n W (by omega) (hv.below h)
  have SZ := Lib.hid fun W (h : Below w.heap.size w W) => refsize_any 100 F _ n W (by omega) (hv.below h)
  clear hft hv hb hw
  unfold Nd.val at *
  obtain ⟨W1, hW1⟩ : ∃ W1, W1 = w.alloc (.cells (cellsOf n A c) 24) := ⟨_, rfl⟩
  rw [← hW1] at BX HB
  have hW2 : w.alloc (.cells #[.int .i64 n.kind, .string n.text, .slice A n.kids.length c, .int .i64 n.place] 24) = W1 := hW1.symm
  have HW := Lib.hid hW2
  clear hW1 hW2
  unfold okN
  go_enter Tryz.func7, Tryz.ntmps7
  go_wp2_with fail
  rw [HW.out]
  refine (DP.out _ HB.out).mono ?_
  rintro e W2 ⟨rfl, b2⟩
  have B2 := Lib.hid (HB.out.trans (b2.mono HB.out.size))
  have G2 := Lib.hid b2
  clear b2 DP
  obtain ⟨x0, x1, x2, x3, x4⟩ := BX.out _ G2.out
  by_cases hd : depthN 101 n ≤ 100
  case neg =>
    have d1 : decide ((100 : Int) < (depthN 101 n : Int)) = true := decide_eq_true (by omega)
    have d2 : decide (depthN 101 n ≤ 100) = false := decide_eq_false hd
    go_wp2_with fail
    go_ret
    exact ⟨by rw [d2]; rfl, B2.out⟩
  case pos =>
  have d1 : decide ((100 : Int) < (depthN 101 n : Int)) = false := decide_eq_false (by omega)
  have d2 : decide (depthN 101 n ≤ 100) = true := decide_eq_true hd
  have D2 := Lib.hid d2
  clear d2 hd
  go_wp2_with fail
  refine (SZ.out _ B2.out).mono ?_
  rintro e W3 ⟨rfl, b3⟩
  have B3 := Lib.hid (B2.out.trans (b3.mono B2.out.size))
  have G3 := Lib.hid (G2.out.trans (b3.mono G2.out.size))
  clear b3 SZ x0 x1 x2 x3 x4 d1
  obtain ⟨x0, x1, x2, x3, x4⟩ := BX.out _ G3.out
  by_cases hz : wrap64 (sizeN 100 n) ≤ 65536
  case neg =>
    have d1 : decide ((65536 : Int) < wrap64 (sizeN 100 n)) = true := decide_eq_true (by omega)
    have d2 : decide (wrap64 (sizeN 100 n) ≤ 65536) = false := decide_eq_false hz
    go_wp2_with fail
    go_ret
    exact ⟨by rw [d2]; simp, B3.out⟩
  case pos =>
  have d1 : decide ((65536 : Int) < wrap64 (sizeN 100 n)) = false := decide_eq_false (by omega)
  have d2 : decide (wrap64 (sizeN 100 n) ≤ 65536) = true := decide_eq_true hz
  have Z2 := Lib.hid d2
  clear d2 hz
  go_wp2_with fail
  go_ret
  exact ⟨by simp, B3.out⟩

set_option maxRecDepth 100000 in
set_option maxHeartbeats 4000000 in
theorem rright_file (g : Q → Nd → Bool) (F : Nat) (v : Value) (n : Nd) (w : World) (D : SaysF w F 18 #[] (declB g)) (hF : 0 < F) (hft : Fits n) (hv : NdV w F v n) :
    Calls Tryz.prog 7 #[v, .string ⟨#[102, 105, 108, 101]⟩] w fun e w' => e = .returned (.bool (okN n && fileB g n)) ∧ Below w.heap.size w w' := by
  obtain ⟨A, c, rfl, hm⟩ := hv.val
  have hb : Below w.heap.size w (w.alloc (.cells (cellsOf n A c) 24)) := (Below.refl _ w).alloc (Nat.le_refl _) _
  have hw := Whole.new w 24 (cellsOf n A c)
  have BX := Lib.hid fun W (h : Below (w.alloc (.cells (cellsOf n A c) 24)).heap.size (w.alloc (.cells (cellsOf n A c) 24)) W) => box_cells hw h
  have HB := Lib.hid hb
  have DP := Lib.hid fun W (h : Below w.heap.size w W) => refdepth_any 101 F _ n W (by omega) (hv.below h)
  have SZ := Lib.hid fun W (h : Below w.heap.size w W) => refsize_any 100 F _ n W (by omega) (hv.below h)
  obtain ⟨F, rfl⟩ : ∃ F', F = F' + 1 := ⟨F - 1, by omega⟩
  have LK := Lib.hid hv.lst
  have HD := Lib.hid D
  have HF := Lib.hid fun k hk => hft.kid (k := k) hk
  have hm2 : n.kids.length ≤ 9223372036854775807 := hm
  clear D
  clear hft hv hb hw
  unfold Nd.val at *
  obtain ⟨W1, hW1⟩ : ∃ W1, W1 = w.alloc (.cells (cellsOf n A c) 24) := ⟨_, rfl⟩
  rw [← hW1] at BX HB
  have hW2 : w.alloc (.cells #[.int .i64 n.kind, .string n.text, .slice A n.kids.length c, .int .i64 n.place] 24) = W1 := hW1.symm
  have HW := Lib.hid hW2
  clear hW1 hW2
  unfold okN
  go_enter Tryz.func7, Tryz.ntmps7
  go_wp2_with fail
  rw [HW.out]
  refine (DP.out _ HB.out).mono ?_
  rintro e W2 ⟨rfl, b2⟩
  have B2 := Lib.hid (HB.out.trans (b2.mono HB.out.size))
  have G2 := Lib.hid b2
  clear b2 DP
  obtain ⟨x0, x1, x2, x3, x4⟩ := BX.out _ G2.out
  by_cases hd : depthN 101 n ≤ 100
  case neg =>
    have d1 : decide ((100 : Int) < (depthN 101 n : Int)) = true := decide_eq_true (by omega)
    have d2 : decide (depthN 101 n ≤ 100) = false := decide_eq_false hd
    go_wp2_with fail
    go_ret
    exact ⟨by rw [d2]; rfl, B2.out⟩
  case pos =>
  have d1 : decide ((100 : Int) < (depthN 101 n : Int)) = false := decide_eq_false (by omega)
  have d2 : decide (depthN 101 n ≤ 100) = true := decide_eq_true hd
  have D2 := Lib.hid d2
  clear d2 hd
  go_wp2_with fail
  refine (SZ.out _ B2.out).mono ?_
  rintro e W3 ⟨rfl, b3⟩
  have B3 := Lib.hid (B2.out.trans (b3.mono B2.out.size))
  have G3 := Lib.hid (G2.out.trans (b3.mono G2.out.size))
  clear b3 SZ x0 x1 x2 x3 x4 d1
  obtain ⟨x0, x1, x2, x3, x4⟩ := BX.out _ G3.out
  by_cases hz : wrap64 (sizeN 100 n) ≤ 65536
  case neg =>
    have d1 : decide ((65536 : Int) < wrap64 (sizeN 100 n)) = true := decide_eq_true (by omega)
    have d2 : decide (wrap64 (sizeN 100 n) ≤ 65536) = false := decide_eq_false hz
    go_wp2_with fail
    go_ret
    exact ⟨by rw [d2]; simp, B3.out⟩
  case pos =>
  have d1 : decide ((65536 : Int) < wrap64 (sizeN 100 n)) = false := decide_eq_false (by omega)
  have d2 : decide (wrap64 (sizeN 100 n) ≤ 65536) = true := decide_eq_true hz
  have Z2 := Lib.hid d2
  clear d2 hz
  cases hk : (n.kind == 1)
  case false =>
    have hk2 : (n.kind != 1) = true := by simp only [bne, hk]; rfl
    go_wp2_with fail
    go_ret
    exact ⟨by unfold fileB; rw [hk]; simp, B3.out⟩
  case true =>
  have hk2 : (n.kind != 1) = false := by simp only [bne, hk]; rfl
  go_wp2_with fail
  refine (rname_any n.text W3).mono ?_
  rintro e W4 ⟨rfl, b4⟩
  have B4 := Lib.hid (B3.out.trans (b4.mono B3.out.size))
  have G4 := Lib.hid (G3.out.trans (b4.mono G3.out.size))
  clear b4 x0 x1 x2 x3 x4
  have HK1 := Lib.hid hk
  clear hk
  cases en : nameB n.text
  case false =>
    go_wp2_with fail
    go_ret
    exact ⟨by unfold fileB; rw [HK1.out, en]; simp, B4.out⟩
  case true =>
  have EN := Lib.hid en
  clear en
  go_wp2_with fail
  go_loopw [5] (fun i W => LoopRel W1 n.kids (declB g) i W) (fun i _ => n.kids.length - (intOf i).toNat)
  case atStart => exact ⟨0, Nat.zero_le _, rfl, G4.out, by simp⟩
  case round =>
    obtain ⟨p, hp, rfl, hb, ha⟩ := hrel
    have HA := Lib.hid ha
    have HC := Lib.hid (HB.out.trans (hb.mono HB.out.size))
    have HB1 := Lib.hid hb
    obtain ⟨x0, x1, x2, x3, x4⟩ := BX.out _ hb
    clear hb ha
    by_cases hpl : p < n.kids.length
    · obtain ⟨b, off, k, A', c', rfl, hk, hq⟩ := LK.out.kidP hpl
      obtain ⟨hbl, q0, q1, q2, q3, q5⟩ := hq _ HC.out
      have QA := Lib.hid (HD.out.2 _ _ k HC.out (HF.out k (List.mem_of_getElem? hk)) (q5.le (by omega)))
      have HK := Lib.hid hk
      have hp2 : p < 9223372036854775807 := by omega
      clear hq q5 hk
      unfold Nd.val at QA
      go_wp2_with fail
      refine QA.out.mono ?_
      rintro e W5 ⟨rfl, b5⟩
      have B5 := Lib.hid (HB1.out.trans (b5.mono HB1.out.size))
      clear b5 QA
      cases hq : declB g k with
      | false =>
        have HR := Lib.hid (all_no HK.out hq)
        go_wp2_with fail
        go_ret
        exact ⟨by unfold fileB; rw [HK1.out, EN.out, D2.out, Z2.out, HR.out]; rfl, HB.out.trans (B5.out.mono HB.out.size)⟩
      | true =>
        have HR := Lib.hid (all_yes HK.out HA.out hq)
        go_wp2_with fail
        go_roundw
        case rel => exact ⟨p + 1, hpl, rfl, B5.out, HR.out⟩
        case measure => simp [intOf]; omega
    · have HR := Lib.hid (all_end hpl HA.out)
      go_wp2_with fail
      go_ret
      exact ⟨by unfold fileB; rw [HK1.out, EN.out, D2.out, Z2.out, HR.out]; rfl, HC.out⟩

end Go.Proofs.YtkmhijkpbmcgbaaGreat
