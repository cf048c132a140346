/-
  The reference's expressions, kind by kind.
  The reference's expressions: two with a sign between.
  The reference's expressions: calls, indexes, literals; and what is none.
  The reference's expressions: indexes.
-/
import Derived.Test.YtkmhijkpbmcgbaaGreatRefDecls
import Derived.Test.YtkmhijkpbmcgbaaGreatSigns
import Derived.Test.YtkmhijkpbmcgbaaGreatAskZ
namespace Go.Proofs.YtkmhijkpbmcgbaaGreat
set_option linter.all false
open Go.RowKit Go.Shelf

theorem rplain_b (s : ByteArray) (w : World) : Calls Tryz.prog 42 #[.string s] w fun e w' => e = .returned (.bool (plainB s.data.toList)) ∧ Below w.heap.size w w' :=
  (rplain_any s w).mono fun e w' x => ⟨x.1, by rw [x.2]; exact Below.refl _ _⟩

set_option maxRecDepth 100000 in
set_option maxHeartbeats 4000000 in
theorem rexpr16_any (g : Q → Nd → Bool) (F : Nat) (v : Value) (n : Nd) (w : World)  (hk : n.kind = 16) (hft : Fits n) (hv : NdV w (F + 1) v n) :
    Calls Tryz.prog 20 #[v] w fun e w' => e = .returned (.bool (ofN (namedN n (plainB n.text.data.toList)) 16 [])) ∧ Below w.heap.size w w' := by
  obtain ⟨A, c, rfl, hm⟩ := hv.val
  have hb : Below w.heap.size w (w.alloc (.cells (cellsOf n A c) 24)) := (Below.refl _ w).alloc (Nat.le_refl _) _
  have hw := Whole.new w 24 (cellsOf n A c)
  have LK := Lib.hid hv.lst
  have HF := Lib.hid fun k hk => hft.kid (k := k) hk
  have BX := Lib.hid fun W (h : Below (w.alloc (.cells (cellsOf n A c) 24)).heap.size (w.alloc (.cells (cellsOf n A c) 24)) W) => box_cells hw h
  have HB := Lib.hid hb
  clear hft hv hb hw
  unfold Nd.val
  obtain ⟨W1, hW1⟩ : ∃ W1, W1 = w.alloc (.cells (cellsOf n A c) 24) := ⟨_, rfl⟩
  rw [← hW1] at BX HB
  have hW2 : w.alloc (.cells #[.int .i64 n.kind, .string n.text, .slice A n.kids.length c, .int .i64 n.place] 24) = W1 := hW1.symm
  have HW := Lib.hid hW2
  clear hW1 hW2
  rw [hk] at BX HW ⊢
  by_cases hl : n.kids.length = 0
  case neg =>
    have a1 : ((n.kids.length : Int) == 0) = false := by rw [beq_eq_false_iff_ne]; omega
    have a2 : ((n.kids.length : Int) != 0) = true := by simp only [bne, a1]; rfl
    rw [nmNo (by omega) (by simpa using hl)]
    go_enter Tryz.func20, Tryz.ntmps20
    go_wp2_with fail
    go_ret
    exact ⟨by first | rfl | simp, by rw [HW.out]; exact HB.out⟩
  case pos =>
    rw [nm0 (by omega) hk hl]
    have C0 := Lib.hid fun W (h : Below w.heap.size w W) => rplain_b n.text W
    clear LK HF 
    generalize plainB n.text.data.toList = r0 at C0 ⊢
    rw [hl] at BX HW  ⊢
    clear hl
    go_enter Tryz.func20, Tryz.ntmps20
    go_wp2_with fail
    rw [HW.out]
    refine (C0.out _ HB.out).mono ?_
    rintro e W2 ⟨rfl, b2⟩
    have B2 := Lib.hid (HB.out.trans (b2.mono HB.out.size))
    have G2 := Lib.hid b2
    clear b2 
    obtain ⟨x0, x1, x2, x3, x4⟩ := BX.out _ G2.out
    cases r0
    case false =>
      go_wp2_with fail
      go_ret
      exact ⟨by first | rfl | simp, B2.out⟩
    case true =>
      go_wp2_with fail
      go_ret
      exact ⟨by first | rfl | simp, B2.out⟩

set_option maxRecDepth 100000 in
set_option maxHeartbeats 4000000 in
theorem rexpr17_any (g : Q → Nd → Bool) (F : Nat) (v : Value) (n : Nd) (w : World)  (hk : n.kind = 17) (hft : Fits n) (hv : NdV w (F + 1) v n) :
    Calls Tryz.prog 20 #[v] w fun e w' => e = .returned (.bool (ofN (namedN n (decide (n.text.size ≤ 1000))) 17 [])) ∧ Below w.heap.size w w' := by
  obtain ⟨A, c, rfl, hm⟩ := hv.val
  have hb : Below w.heap.size w (w.alloc (.cells (cellsOf n A c) 24)) := (Below.refl _ w).alloc (Nat.le_refl _) _
  have hw := Whole.new w 24 (cellsOf n A c)
  have LK := Lib.hid hv.lst
  have HF := Lib.hid fun k hk => hft.kid (k := k) hk
  have BX := Lib.hid fun W (h : Below (w.alloc (.cells (cellsOf n A c) 24)).heap.size (w.alloc (.cells (cellsOf n A c) 24)) W) => box_cells hw h
  have HB := Lib.hid hb
  clear hft hv hb hw
  unfold Nd.val
  obtain ⟨W1, hW1⟩ : ∃ W1, W1 = w.alloc (.cells (cellsOf n A c) 24) := ⟨_, rfl⟩
  rw [← hW1] at BX HB
  have hW2 : w.alloc (.cells #[.int .i64 n.kind, .string n.text, .slice A n.kids.length c, .int .i64 n.place] 24) = W1 := hW1.symm
  have HW := Lib.hid hW2
  clear hW1 hW2
  rw [hk] at BX HW ⊢
  by_cases hl : n.kids.length = 0
  case neg =>
    have a1 : ((n.kids.length : Int) == 0) = false := by rw [beq_eq_false_iff_ne]; omega
    have a2 : ((n.kids.length : Int) != 0) = true := by simp only [bne, a1]; rfl
    rw [nmNo (by omega) (by simpa using hl)]
    go_enter Tryz.func20, Tryz.ntmps20
    go_wp2_with fail
    go_ret
    exact ⟨by first | rfl | simp, by rw [HW.out]; exact HB.out⟩
  case pos =>
    rw [nm0 (by omega) hk hl]
    clear LK HF 
    rw [hl] at BX HW  ⊢
    clear hl
    cases h2 : (decide (n.text.size ≤ 1000))
    case false =>
      have h3 : decide ((n.text.size : Int) ≤ 1000) = false := by have := of_decide_eq_false h2; exact decide_eq_false (by omega)
      go_enter Tryz.func20, Tryz.ntmps20
      go_wp2_with fail
      go_ret
      exact ⟨by first | rfl | simp, by rw [HW.out]; exact HB.out⟩
    case true =>
      have h3 : decide ((n.text.size : Int) ≤ 1000) = true := by have := of_decide_eq_true h2; exact decide_eq_true (by omega)
      go_enter Tryz.func20, Tryz.ntmps20
      go_wp2_with fail
      go_ret
      exact ⟨by first | rfl | simp, by rw [HW.out]; exact HB.out⟩

set_option maxRecDepth 100000 in
set_option maxHeartbeats 4000000 in
theorem rexpr18_any (g : Q → Nd → Bool) (F : Nat) (v : Value) (n : Nd) (w : World)  (hk : n.kind = 18) (hft : Fits n) (hv : NdV w (F + 1) v n) :
    Calls Tryz.prog 20 #[v] w fun e w' => e = .returned (.bool (ofN (namedN n (nameB n.text)) 18 [])) ∧ Below w.heap.size w w' := by
  obtain ⟨A, c, rfl, hm⟩ := hv.val
  have hb : Below w.heap.size w (w.alloc (.cells (cellsOf n A c) 24)) := (Below.refl _ w).alloc (Nat.le_refl _) _
  have hw := Whole.new w 24 (cellsOf n A c)
  have LK := Lib.hid hv.lst
  have HF := Lib.hid fun k hk => hft.kid (k := k) hk
  have BX := Lib.hid fun W (h : Below (w.alloc (.cells (cellsOf n A c) 24)).heap.size (w.alloc (.cells (cellsOf n A c) 24)) W) => box_cells hw h
  have HB := Lib.hid hb
  clear hft hv hb hw
  unfold Nd.val
  obtain ⟨W1, hW1⟩ : ∃ W1, W1 = w.alloc (.cells (cellsOf n A c) 24) := ⟨_, rfl⟩
  rw [← hW1] at BX HB
  have hW2 : w.alloc (.cells #[.int .i64 n.kind, .string n.text, .slice A n.kids.length c, .int .i64 n.place] 24) = W1 := hW1.symm
  have HW := Lib.hid hW2
  clear hW1 hW2
  rw [hk] at BX HW ⊢
  by_cases hl : n.kids.length = 0
  case neg =>
    have a1 : ((n.kids.length : Int) == 0) = false := by rw [beq_eq_false_iff_ne]; omega
    have a2 : ((n.kids.length : Int) != 0) = true := by simp only [bne, a1]; rfl
    rw [nmNo (by omega) (by simpa using hl)]
    go_enter Tryz.func20, Tryz.ntmps20
    go_wp2_with fail
    go_ret
    exact ⟨by first | rfl | simp, by rw [HW.out]; exact HB.out⟩
  case pos =>
    rw [nm0 (by omega) hk hl]
    have C0 := Lib.hid fun W (h : Below w.heap.size w W) => rname_any n.text W
    clear LK HF 
    generalize nameB n.text = r0 at C0 ⊢
    rw [hl] at BX HW  ⊢
    clear hl
    go_enter Tryz.func20, Tryz.ntmps20
    go_wp2_with fail
    rw [HW.out]
    refine (C0.out _ HB.out).mono ?_
    rintro e W2 ⟨rfl, b2⟩
    have B2 := Lib.hid (HB.out.trans (b2.mono HB.out.size))
    have G2 := Lib.hid b2
    clear b2 
    obtain ⟨x0, x1, x2, x3, x4⟩ := BX.out _ G2.out
    cases r0
    case false =>
      go_wp2_with fail
      go_ret
      exact ⟨by first | rfl | simp, B2.out⟩
    case true =>
      go_wp2_with fail
      go_ret
      exact ⟨by first | rfl | simp, B2.out⟩

set_option maxRecDepth 100000 in
set_option maxHeartbeats 4000000 in
theorem rexpr19_any (g : Q → Nd → Bool) (F : Nat) (v : Value) (n : Nd) (w : World) (E : SaysF w F 20 #[] (g .expr)) (hk : n.kind = 19) (hft : Fits n) (hv : NdV w (F + 1) v n) :
    Calls Tryz.prog 20 #[v] w fun e w' => e = .returned (.bool (ofN (namedN n (twoB [45] [33] n.text)) 19 [g .expr])) ∧ Below w.heap.size w w' := by
  obtain ⟨A, c, rfl, hm⟩ := hv.val
  have hb : Below w.heap.size w (w.alloc (.cells (cellsOf n A c) 24)) := (Below.refl _ w).alloc (Nat.le_refl _) _
  have hw := Whole.new w 24 (cellsOf n A c)
  have LK := Lib.hid hv.lst
  have HF := Lib.hid fun k hk => hft.kid (k := k) hk
  have BX := Lib.hid fun W (h : Below (w.alloc (.cells (cellsOf n A c) 24)).heap.size (w.alloc (.cells (cellsOf n A c) 24)) W) => box_cells hw h
  have HB := Lib.hid hb
  have HE := Lib.hid E
  clear E hft hv hb hw
  unfold Nd.val
  obtain ⟨W1, hW1⟩ : ∃ W1, W1 = w.alloc (.cells (cellsOf n A c) 24) := ⟨_, rfl⟩
  rw [← hW1] at BX HB
  have hW2 : w.alloc (.cells #[.int .i64 n.kind, .string n.text, .slice A n.kids.length c, .int .i64 n.place] 24) = W1 := hW1.symm
  have HW := Lib.hid hW2
  clear hW1 hW2
  rw [hk] at BX HW ⊢
  by_cases hl : n.kids.length = 1
  case neg =>
    have a1 : ((n.kids.length : Int) == 1) = false := by rw [beq_eq_false_iff_ne]; omega
    have a2 : ((n.kids.length : Int) != 1) = true := by simp only [bne, a1]; rfl
    rw [nmNo (by omega) (by simpa using hl)]
    go_enter Tryz.func20, Tryz.ntmps20
    go_wp2_with fail
    go_ret
    exact ⟨by first | rfl | simp, by rw [HW.out]; exact HB.out⟩
  case pos =>
    obtain ⟨b, off, k0, A0, c0, rfl, hk0, hq0⟩ := LK.out.kidP (p := 0) (by omega)
    have f0 := HF.out k0 (List.mem_of_getElem? hk0)
    rw [nm1 (by omega) hk hl hk0]
    simp only [Nat.zero_mul, Nat.add_zero, Nat.one_mul, Nat.reduceMul] at hq0
    have C0 := Lib.hid fun W (h : Below w.heap.size w W) => HE.out.2 W _ k0 h f0 ((hq0 W h).2.2.2.2.2)
    have Q0 := Lib.hid hq0
    obtain ⟨hbl0, q00, q01, q02, q03, _⟩ := hq0 _ (Below.refl _ _)
    have l0 : (0 : Nat) < 1 := by omega
    unfold twoB
    clear LK HF f0 hq0 hk0
    unfold Nd.val at C0
    generalize g .expr k0 = r0 at C0 ⊢
    rw [hl] at BX HW  ⊢
    clear hl
    cases h2 : (n.text.toList == [45])
    case false =>
      skip
      cases h3 : (n.text.toList == [33])
      case false =>
        skip
        go_enter Tryz.func20, Tryz.ntmps20
        go_wp2_with fail
        go_ret
        exact ⟨by first | rfl | simp, by rw [HW.out]; exact HB.out⟩
      case true =>
        skip
        go_enter Tryz.func20, Tryz.ntmps20
        go_wp2_with fail
        rw [HW.out]
        refine (C0.out _ HB.out).mono ?_
        rintro e W2 ⟨rfl, b2⟩
        have B2 := Lib.hid (HB.out.trans (b2.mono HB.out.size))
        have G2 := Lib.hid b2
        clear b2 hbl0 q00 q01 q02 q03
        obtain ⟨x0, x1, x2, x3, x4⟩ := BX.out _ G2.out
        obtain ⟨hbl0, q00, q01, q02, q03, _⟩ := Q0.out _ B2.out
        cases r0
        case false =>
          go_wp2_with fail
          go_ret
          exact ⟨by first | rfl | simp, B2.out⟩
        case true =>
          go_wp2_with fail
          go_ret
          exact ⟨by first | rfl | simp, B2.out⟩
    case true =>
      skip
      go_enter Tryz.func20, Tryz.ntmps20
      go_wp2_with fail
      rw [HW.out]
      refine (C0.out _ HB.out).mono ?_
      rintro e W2 ⟨rfl, b2⟩
      have B2 := Lib.hid (HB.out.trans (b2.mono HB.out.size))
      have G2 := Lib.hid b2
      clear b2 hbl0 q00 q01 q02 q03
      obtain ⟨x0, x1, x2, x3, x4⟩ := BX.out _ G2.out
      obtain ⟨hbl0, q00, q01, q02, q03, _⟩ := Q0.out _ B2.out
      cases r0
      case false =>
        go_wp2_with fail
        go_ret
        exact ⟨by first | rfl | simp, B2.out⟩
      case true =>
        go_wp2_with fail
        go_ret
        exact ⟨by first | rfl | simp, B2.out⟩

set_option maxRecDepth 100000 in
set_option maxHeartbeats 4000000 in
theorem rexpr23_any (g : Q → Nd → Bool) (F : Nat) (v : Value) (n : Nd) (w : World) (E : SaysF w F 20 #[] (g .expr)) (hk : n.kind = 23) (hft : Fits n) (hv : NdV w (F + 1) v n) :
    Calls Tryz.prog 20 #[v] w fun e w' => e = .returned (.bool (ofN (namedN n (nameB n.text)) 23 [g .expr])) ∧ Below w.heap.size w w' := by
  obtain ⟨A, c, rfl, hm⟩ := hv.val
  have hb : Below w.heap.size w (w.alloc (.cells (cellsOf n A c) 24)) := (Below.refl _ w).alloc (Nat.le_refl _) _
  have hw := Whole.new w 24 (cellsOf n A c)
  have LK := Lib.hid hv.lst
  have HF := Lib.hid fun k hk => hft.kid (k := k) hk
  have BX := Lib.hid fun W (h : Below (w.alloc (.cells (cellsOf n A c) 24)).heap.size (w.alloc (.cells (cellsOf n A c) 24)) W) => box_cells hw h
  have HB := Lib.hid hb
  have HE := Lib.hid E
  clear E hft hv hb hw
  unfold Nd.val
  obtain ⟨W1, hW1⟩ : ∃ W1, W1 = w.alloc (.cells (cellsOf n A c) 24) := ⟨_, rfl⟩
  rw [← hW1] at BX HB
  have hW2 : w.alloc (.cells #[.int .i64 n.kind, .string n.text, .slice A n.kids.length c, .int .i64 n.place] 24) = W1 := hW1.symm
  have HW := Lib.hid hW2
  clear hW1 hW2
  rw [hk] at BX HW ⊢
  by_cases hl : n.kids.length = 1
  case neg =>
    have a1 : ((n.kids.length : Int) == 1) = false := by rw [beq_eq_false_iff_ne]; omega
    have a2 : ((n.kids.length : Int) != 1) = true := by simp only [bne, a1]; rfl
    rw [nmNo (by omega) (by simpa using hl)]
    go_enter Tryz.func20, Tryz.ntmps20
    go_wp2_with fail
    go_ret
    exact ⟨by first | rfl | simp, by rw [HW.out]; exact HB.out⟩
  case pos =>
    obtain ⟨b, off, k0, A0, c0, rfl, hk0, hq0⟩ := LK.out.kidP (p := 0) (by omega)
    have f0 := HF.out k0 (List.mem_of_getElem? hk0)
    rw [nm1 (by omega) hk hl hk0]
    simp only [Nat.zero_mul, Nat.add_zero, Nat.one_mul, Nat.reduceMul] at hq0
    have C0 := Lib.hid fun W (h : Below w.heap.size w W) => rname_any n.text W
    have C1 := Lib.hid fun W (h : Below w.heap.size w W) => HE.out.2 W _ k0 h f0 ((hq0 W h).2.2.2.2.2)
    have Q0 := Lib.hid hq0
    obtain ⟨hbl0, q00, q01, q02, q03, _⟩ := hq0 _ (Below.refl _ _)
    have l0 : (0 : Nat) < 1 := by omega
    clear LK HF f0 hq0 hk0
    unfold Nd.val at C1
    generalize nameB n.text = r0 at C0 ⊢
    generalize g .expr k0 = r1 at C1 ⊢
    rw [hl] at BX HW  ⊢
    clear hl
    go_enter Tryz.func20, Tryz.ntmps20
    go_wp2_with fail
    rw [HW.out]
    refine (C0.out _ HB.out).mono ?_
    rintro e W2 ⟨rfl, b2⟩
    have B2 := Lib.hid (HB.out.trans (b2.mono HB.out.size))
    have G2 := Lib.hid b2
    clear b2 hbl0 q00 q01 q02 q03
    obtain ⟨x0, x1, x2, x3, x4⟩ := BX.out _ G2.out
    obtain ⟨hbl0, q00, q01, q02, q03, _⟩ := Q0.out _ B2.out
    cases r0
    case false =>
      go_wp2_with fail
      go_ret
      exact ⟨by first | rfl | simp, B2.out⟩
    case true =>
      go_wp2_with fail
      refine (C1.out _ B2.out).mono ?_
      rintro e W3 ⟨rfl, b2⟩
      have B3 := Lib.hid (B2.out.trans (b2.mono B2.out.size))
      have G3 := Lib.hid (G2.out.trans (b2.mono G2.out.size))
      clear b2 x0 x1 x2 x3 x4 hbl0 q00 q01 q02 q03
      obtain ⟨x0, x1, x2, x3, x4⟩ := BX.out _ G3.out
      obtain ⟨hbl0, q00, q01, q02, q03, _⟩ := Q0.out _ B3.out
      cases r1
      case false =>
        go_wp2_with fail
        go_ret
        exact ⟨by first | rfl | simp, B3.out⟩
      case true =>
        go_wp2_with fail
        go_ret
        exact ⟨by first | rfl | simp, B3.out⟩

set_option maxRecDepth 100000 in
set_option maxHeartbeats 4000000 in
theorem rexpr25_any (g : Q → Nd → Bool) (F : Nat) (v : Value) (n : Nd) (w : World) (SG : ∀ W v n, Below w.heap.size w W → Fits n → NdV W F v n → Calls Tryz.prog 22 #[v, .bool true] W fun e w' => e = .returned (.bool (isSigB g n)) ∧ Below W.heap.size W w') (BL : SaysF w F 39 #[] (blockB g)) (hk : n.kind = 25) (hft : Fits n) (hv : NdV w (F + 1) v n) :
    Calls Tryz.prog 20 #[v] w fun e w' => e = .returned (.bool (ofN n 25 [isSigB g, blockB g])) ∧ Below w.heap.size w w' := by
  obtain ⟨A, c, rfl, hm⟩ := hv.val
  have hb : Below w.heap.size w (w.alloc (.cells (cellsOf n A c) 24)) := (Below.refl _ w).alloc (Nat.le_refl _) _
  have hw := Whole.new w 24 (cellsOf n A c)
  have LK := Lib.hid hv.lst
  have HF := Lib.hid fun k hk => hft.kid (k := k) hk
  have BX := Lib.hid fun W (h : Below (w.alloc (.cells (cellsOf n A c) 24)).heap.size (w.alloc (.cells (cellsOf n A c) 24)) W) => box_cells hw h
  have HB := Lib.hid hb
  have HSG := Lib.hid SG
  have HBL := Lib.hid BL
  clear SG BL hft hv hb hw
  unfold Nd.val
  obtain ⟨W1, hW1⟩ : ∃ W1, W1 = w.alloc (.cells (cellsOf n A c) 24) := ⟨_, rfl⟩
  rw [← hW1] at BX HB
  have hW2 : w.alloc (.cells #[.int .i64 n.kind, .string n.text, .slice A n.kids.length c, .int .i64 n.place] 24) = W1 := hW1.symm
  have HW := Lib.hid hW2
  clear hW1 hW2
  rw [hk] at BX HW ⊢
  by_cases hl : n.kids.length = 2
  case neg =>
    have a1 : ((n.kids.length : Int) == 2) = false := by rw [beq_eq_false_iff_ne]; omega
    have a2 : ((n.kids.length : Int) != 2) = true := by simp only [bne, a1]; rfl
    rw [ofNo (by simpa using hl)]
    cases h2 : (n.text.toList == [])
    case false =>
      go_enter Tryz.func20, Tryz.ntmps20
      go_wp2_with fail
      go_ret
      exact ⟨by first | rfl | simp, by rw [HW.out]; exact HB.out⟩
    case true =>
      go_enter Tryz.func20, Tryz.ntmps20
      go_wp2_with fail
      go_ret
      exact ⟨by first | rfl | simp, by rw [HW.out]; exact HB.out⟩
  case pos =>
    obtain ⟨b, off, k0, A0, c0, rfl, hk0, hq0⟩ := LK.out.kidP (p := 0) (by omega)
    obtain ⟨b', off', k1, A1, c1, hA, hk1, hq1⟩ := LK.out.kidP (p := 1) (by omega)
    injection hA with hA
    injection hA with e1 e2
    subst e1 e2
    have f0 := HF.out k0 (List.mem_of_getElem? hk0)
    have f1 := HF.out k1 (List.mem_of_getElem? hk1)
    rw [of2 hk hl hk0 hk1]
    simp only [Nat.zero_mul, Nat.add_zero, Nat.one_mul, Nat.reduceMul] at hq0 hq1
    have C0 := Lib.hid fun W (h : Below w.heap.size w W) => HSG.out W _ k0 h f0 ((hq0 W h).2.2.2.2.2)
    have C1 := Lib.hid fun W (h : Below w.heap.size w W) => HBL.out.2 W _ k1 h f1 ((hq1 W h).2.2.2.2.2)
    have Q0 := Lib.hid hq0
    obtain ⟨hbl0, q00, q01, q02, q03, _⟩ := hq0 _ (Below.refl _ _)
    have l0 : (0 : Nat) < 2 := by omega
    have Q1 := Lib.hid hq1
    obtain ⟨hbl1, q10, q11, q12, q13, _⟩ := hq1 _ (Below.refl _ _)
    have l1 : (1 : Nat) < 2 := by omega
    clear LK HF f0 hq0 hk0 f1 hq1 hk1
    unfold Nd.val at C0 C1
    generalize isSigB g k0 = r0 at C0 ⊢
    generalize blockB g k1 = r1 at C1 ⊢
    rw [hl] at BX HW  ⊢
    clear hl
    cases h2 : (n.text.toList == [])
    case false =>
      skip
      go_enter Tryz.func20, Tryz.ntmps20
      go_wp2_with fail
      go_ret
      exact ⟨by first | rfl | simp, by rw [HW.out]; exact HB.out⟩
    case true =>
      skip
      go_enter Tryz.func20, Tryz.ntmps20
      go_wp2_with fail
      rw [HW.out]
      refine (C0.out _ HB.out).mono ?_
      rintro e W2 ⟨rfl, b2⟩
      have B2 := Lib.hid (HB.out.trans (b2.mono HB.out.size))
      have G2 := Lib.hid b2
      clear b2 hbl0 q00 q01 q02 q03 hbl1 q10 q11 q12 q13
      obtain ⟨x0, x1, x2, x3, x4⟩ := BX.out _ G2.out
      obtain ⟨hbl0, q00, q01, q02, q03, _⟩ := Q0.out _ B2.out
      obtain ⟨hbl1, q10, q11, q12, q13, _⟩ := Q1.out _ B2.out
      cases r0
      case false =>
        go_wp2_with fail
        go_ret
        exact ⟨by first | rfl | simp, B2.out⟩
      case true =>
        go_wp2_with fail
        refine (C1.out _ B2.out).mono ?_
        rintro e W3 ⟨rfl, b2⟩
        have B3 := Lib.hid (B2.out.trans (b2.mono B2.out.size))
        have G3 := Lib.hid (G2.out.trans (b2.mono G2.out.size))
        clear b2 x0 x1 x2 x3 x4 hbl0 q00 q01 q02 q03 hbl1 q10 q11 q12 q13
        obtain ⟨x0, x1, x2, x3, x4⟩ := BX.out _ G3.out
        obtain ⟨hbl0, q00, q01, q02, q03, _⟩ := Q0.out _ B3.out
        obtain ⟨hbl1, q10, q11, q12, q13, _⟩ := Q1.out _ B3.out
        cases r1
        case false =>
          go_wp2_with fail
          go_ret
          exact ⟨by first | rfl | simp, B3.out⟩
        case true =>
          go_wp2_with fail
          go_ret
          exact ⟨by first | rfl | simp, B3.out⟩

end Go.Proofs.YtkmhijkpbmcgbaaGreat

namespace Go.Proofs.YtkmhijkpbmcgbaaGreat
set_option linter.all false
open Go.RowKit Go.Shelf

set_option maxRecDepth 100000 in
set_option maxHeartbeats 40000000 in
theorem rexpr20_any (g : Q → Nd → Bool) (F : Nat) (v : Value) (n : Nd) (w : World) (E : SaysF w F 20 #[] (g .expr)) (hk : n.kind = 20) (hft : Fits n) (hv : NdV w (F + 1) v n) :
    Calls Tryz.prog 20 #[v] w fun e w' => e = .returned (.bool (ofN (namedN n (binB n.text)) 20 [g .expr, g .expr])) ∧ Below w.heap.size w w' := by
  obtain ⟨A, c, rfl, hm⟩ := hv.val
  have hb : Below w.heap.size w (w.alloc (.cells (cellsOf n A c) 24)) := (Below.refl _ w).alloc (Nat.le_refl _) _
  have hw := Whole.new w 24 (cellsOf n A c)
  have LK := Lib.hid hv.lst
  have HF := Lib.hid fun k hk => hft.kid (k := k) hk
  have BX := Lib.hid fun W (h : Below (w.alloc (.cells (cellsOf n A c) 24)).heap.size (w.alloc (.cells (cellsOf n A c) 24)) W) => box_cells hw h
  have HB := Lib.hid hb
  have HE := Lib.hid E
  clear E hft hv hb hw
  unfold Nd.val
  obtain ⟨W1, hW1⟩ : ∃ W1, W1 = w.alloc (.cells (cellsOf n A c) 24) := ⟨_, rfl⟩
  rw [← hW1] at BX HB
  have hW2 : w.alloc (.cells #[.int .i64 n.kind, .string n.text, .slice A n.kids.length c, .int .i64 n.place] 24) = W1 := hW1.symm
  have HW := Lib.hid hW2
  clear hW1 hW2
  rw [hk] at BX HW ⊢
  by_cases hl : n.kids.length = 2
  case neg =>
    have a1 : ((n.kids.length : Int) == 2) = false := by rw [beq_eq_false_iff_ne]; omega
    have a2 : ((n.kids.length : Int) != 2) = true := by simp only [bne, a1]; rfl
    rw [nmNo (by omega) (by simpa using hl)]
    cases hs0 : (n.text.toList == [43])
    case true =>
      go_enter Tryz.func20, Tryz.ntmps20
      go_wp2_with fail
      go_ret
      exact ⟨rfl, by rw [HW.out]; exact HB.out⟩
    case false =>
    cases hs1 : (n.text.toList == [45])
    case true =>
      go_enter Tryz.func20, Tryz.ntmps20
      go_wp2_with fail
      go_ret
      exact ⟨rfl, by rw [HW.out]; exact HB.out⟩
    case false =>
    cases hs2 : (n.text.toList == [42])
    case true =>
      go_enter Tryz.func20, Tryz.ntmps20
      go_wp2_with fail
      go_ret
      exact ⟨rfl, by rw [HW.out]; exact HB.out⟩
    case false =>
    cases hs3 : (n.text.toList == [47])
    case true =>
      go_enter Tryz.func20, Tryz.ntmps20
      go_wp2_with fail
      go_ret
      exact ⟨rfl, by rw [HW.out]; exact HB.out⟩
    case false =>
    cases hs4 : (n.text.toList == [37])
    case true =>
      go_enter Tryz.func20, Tryz.ntmps20
      go_wp2_with fail
      go_ret
      exact ⟨rfl, by rw [HW.out]; exact HB.out⟩
    case false =>
    cases hs5 : (n.text.toList == [61, 61])
    case true =>
      go_enter Tryz.func20, Tryz.ntmps20
      go_wp2_with fail
      go_ret
      exact ⟨rfl, by rw [HW.out]; exact HB.out⟩
    case false =>
    cases hs6 : (n.text.toList == [33, 61])
    case true =>
      go_enter Tryz.func20, Tryz.ntmps20
      go_wp2_with fail
      go_ret
      exact ⟨rfl, by rw [HW.out]; exact HB.out⟩
    case false =>
    cases hs7 : (n.text.toList == [60])
    case true =>
      go_enter Tryz.func20, Tryz.ntmps20
      go_wp2_with fail
      go_ret
      exact ⟨rfl, by rw [HW.out]; exact HB.out⟩
    case false =>
    cases hs8 : (n.text.toList == [60, 61])
    case true =>
      go_enter Tryz.func20, Tryz.ntmps20
      go_wp2_with fail
      go_ret
      exact ⟨rfl, by rw [HW.out]; exact HB.out⟩
    case false =>
    cases hs9 : (n.text.toList == [62])
    case true =>
      go_enter Tryz.func20, Tryz.ntmps20
      go_wp2_with fail
      go_ret
      exact ⟨rfl, by rw [HW.out]; exact HB.out⟩
    case false =>
    cases hs10 : (n.text.toList == [62, 61])
    case true =>
      go_enter Tryz.func20, Tryz.ntmps20
      go_wp2_with fail
      go_ret
      exact ⟨rfl, by rw [HW.out]; exact HB.out⟩
    case false =>
    cases hs11 : (n.text.toList == [38, 38])
    case true =>
      go_enter Tryz.func20, Tryz.ntmps20
      go_wp2_with fail
      go_ret
      exact ⟨rfl, by rw [HW.out]; exact HB.out⟩
    case false =>
    cases hs12 : (n.text.toList == [124, 124])
    case true =>
      go_enter Tryz.func20, Tryz.ntmps20
      go_wp2_with fail
      go_ret
      exact ⟨rfl, by rw [HW.out]; exact HB.out⟩
    case false =>
    go_enter Tryz.func20, Tryz.ntmps20
    go_wp2_with fail
    go_ret
    exact ⟨rfl, by rw [HW.out]; exact HB.out⟩
  case pos =>
    obtain ⟨b, off, k0, A0, c0, rfl, hk0, hq0⟩ := LK.out.kidP (p := 0) (by omega)
    obtain ⟨b', off', k1, A1, c1, hA, hk1, hq1⟩ := LK.out.kidP (p := 1) (by omega)
    injection hA with hA
    injection hA with e1 e2
    subst e1 e2
    have f0 := HF.out k0 (List.mem_of_getElem? hk0)
    have f1 := HF.out k1 (List.mem_of_getElem? hk1)
    rw [nm2all (by omega) hk hl hk0 hk1]
    simp only [Nat.zero_mul, Nat.add_zero, Nat.one_mul, Nat.reduceMul] at hq0 hq1
    have C0 := Lib.hid fun W (h : Below w.heap.size w W) => exprs_any F (g .expr) n.kids (some ⟨b, off, none⟩) c W (HE.out.below h) (fun k hk => HF.out k hk) (LK.out.below h) hm
    have Q0 := Lib.hid hq0
    obtain ⟨hbl0, q00, q01, q02, q03, _⟩ := hq0 _ (Below.refl _ _)
    have l0 : (0 : Nat) < 2 := by omega
    have Q1 := Lib.hid hq1
    obtain ⟨hbl1, q10, q11, q12, q13, _⟩ := hq1 _ (Below.refl _ _)
    have l1 : (1 : Nat) < 2 := by omega
    rw [binB_eq]
    unfold signsL
    simp only [List.any_cons, List.any_nil]
    clear LK HF f0 hq0 hk0 f1 hq1 hk1
    generalize n.kids.all (g .expr) = r0 at C0 ⊢
    rw [hl] at BX HW C0 ⊢
    clear hl
    cases hs0 : (n.text.toList == [43])
    case false =>
      skip
      cases hs1 : (n.text.toList == [45])
      case false =>
        skip
        cases hs2 : (n.text.toList == [42])
        case false =>
          skip
          cases hs3 : (n.text.toList == [47])
          case false =>
            skip
            cases hs4 : (n.text.toList == [37])
            case false =>
              skip
              cases hs5 : (n.text.toList == [61, 61])
              case false =>
                skip
                cases hs6 : (n.text.toList == [33, 61])
                case false =>
                  skip
                  cases hs7 : (n.text.toList == [60])
                  case false =>
                    skip
                    cases hs8 : (n.text.toList == [60, 61])
                    case false =>
                      skip
                      cases hs9 : (n.text.toList == [62])
                      case false =>
                        skip
                        cases hs10 : (n.text.toList == [62, 61])
                        case false =>
                          skip
                          cases hs11 : (n.text.toList == [38, 38])
                          case false =>
                            skip
                            cases hs12 : (n.text.toList == [124, 124])
                            case false =>
                              skip
                              go_enter Tryz.func20, Tryz.ntmps20
                              go_wp2_with fail
                              go_ret
                              exact ⟨by first | rfl | simp, by rw [HW.out]; exact HB.out⟩
                            case true =>
                              skip
                              go_enter Tryz.func20, Tryz.ntmps20
                              go_wp2_with fail
                              rw [HW.out]
                              refine (C0.out _ HB.out).mono ?_
                              rintro e W2 ⟨rfl, b2⟩
                              have B2 := Lib.hid (HB.out.trans (b2.mono HB.out.size))
                              have G2 := Lib.hid b2
                              clear b2 hbl0 q00 q01 q02 q03 hbl1 q10 q11 q12 q13
                              obtain ⟨x0, x1, x2, x3, x4⟩ := BX.out _ G2.out
                              obtain ⟨hbl0, q00, q01, q02, q03, _⟩ := Q0.out _ B2.out
                              obtain ⟨hbl1, q10, q11, q12, q13, _⟩ := Q1.out _ B2.out
                              cases r0
                              case false =>
                                go_wp2_with fail
                                go_ret
                                exact ⟨by first | rfl | simp, B2.out⟩
                              case true =>
                                go_wp2_with fail
                                go_ret
                                exact ⟨by first | rfl | simp, B2.out⟩
                          case true =>
                            skip
                            go_enter Tryz.func20, Tryz.ntmps20
                            go_wp2_with fail
                            rw [HW.out]
                            refine (C0.out _ HB.out).mono ?_
                            rintro e W2 ⟨rfl, b2⟩
                            have B2 := Lib.hid (HB.out.trans (b2.mono HB.out.size))
                            have G2 := Lib.hid b2
                            clear b2 hbl0 q00 q01 q02 q03 hbl1 q10 q11 q12 q13
                            obtain ⟨x0, x1, x2, x3, x4⟩ := BX.out _ G2.out
                            obtain ⟨hbl0, q00, q01, q02, q03, _⟩ := Q0.out _ B2.out
                            obtain ⟨hbl1, q10, q11, q12, q13, _⟩ := Q1.out _ B2.out
                            cases r0
                            case false =>
                              go_wp2_with fail
                              go_ret
                              exact ⟨by first | rfl | simp, B2.out⟩
                            case true =>
                              go_wp2_with fail
                              go_ret
                              exact ⟨by first | rfl | simp, B2.out⟩
                        case true =>
                          skip
                          go_enter Tryz.func20, Tryz.ntmps20
                          go_wp2_with fail
                          rw [HW.out]
                          refine (C0.out _ HB.out).mono ?_
                          rintro e W2 ⟨rfl, b2⟩
                          have B2 := Lib.hid (HB.out.trans (b2.mono HB.out.size))
                          have G2 := Lib.hid b2
                          clear b2 hbl0 q00 q01 q02 q03 hbl1 q10 q11 q12 q13
                          obtain ⟨x0, x1, x2, x3, x4⟩ := BX.out _ G2.out
                          obtain ⟨hbl0, q00, q01, q02, q03, _⟩ := Q0.out _ B2.out
                          obtain ⟨hbl1, q10, q11, q12, q13, _⟩ := Q1.out _ B2.out
                          cases r0
                          case false =>
                            go_wp2_with fail
                            go_ret
                            exact ⟨by first | rfl | simp, B2.out⟩
                          case true =>
                            go_wp2_with fail
                            go_ret
                            exact ⟨by first | rfl | simp, B2.out⟩
                      case true =>
                        skip
                        go_enter Tryz.func20, Tryz.ntmps20
                        go_wp2_with fail
                        rw [HW.out]
                        refine (C0.out _ HB.out).mono ?_
                        rintro e W2 ⟨rfl, b2⟩
                        have B2 := Lib.hid (HB.out.trans (b2.mono HB.out.size))
                        have G2 := Lib.hid b2
                        clear b2 hbl0 q00 q01 q02 q03 hbl1 q10 q11 q12 q13
                        obtain ⟨x0, x1, x2, x3, x4⟩ := BX.out _ G2.out
                        obtain ⟨hbl0, q00, q01, q02, q03, _⟩ := Q0.out _ B2.out
                        obtain ⟨hbl1, q10, q11, q12, q13, _⟩ := Q1.out _ B2.out
                        cases r0
                        case false =>
                          go_wp2_with fail
                          go_ret
                          exact ⟨by first | rfl | simp, B2.out⟩
                        case true =>
                          go_wp2_with fail
                          go_ret
                          exact ⟨by first | rfl | simp, B2.out⟩
                    case true =>
                      skip
                      go_enter Tryz.func20, Tryz.ntmps20
                      go_wp2_with fail
                      rw [HW.out]
                      refine (C0.out _ HB.out).mono ?_
                      rintro e W2 ⟨rfl, b2⟩
                      have B2 := Lib.hid (HB.out.trans (b2.mono HB.out.size))
                      have G2 := Lib.hid b2
                      clear b2 hbl0 q00 q01 q02 q03 hbl1 q10 q11 q12 q13
                      obtain ⟨x0, x1, x2, x3, x4⟩ := BX.out _ G2.out
                      obtain ⟨hbl0, q00, q01, q02, q03, _⟩ := Q0.out _ B2.out
                      obtain ⟨hbl1, q10, q11, q12, q13, _⟩ := Q1.out _ B2.out
                      cases r0
                      case false =>
                        go_wp2_with fail
                        go_ret
                        exact ⟨by first | rfl | simp, B2.out⟩
                      case true =>
                        go_wp2_with fail
                        go_ret
                        exact ⟨by first | rfl | simp, B2.out⟩
                  case true =>
                    skip
                    go_enter Tryz.func20, Tryz.ntmps20
                    go_wp2_with fail
                    rw [HW.out]
                    refine (C0.out _ HB.out).mono ?_
                    rintro e W2 ⟨rfl, b2⟩
                    have B2 := Lib.hid (HB.out.trans (b2.mono HB.out.size))
                    have G2 := Lib.hid b2
                    clear b2 hbl0 q00 q01 q02 q03 hbl1 q10 q11 q12 q13
                    obtain ⟨x0, x1, x2, x3, x4⟩ := BX.out _ G2.out
                    obtain ⟨hbl0, q00, q01, q02, q03, _⟩ := Q0.out _ B2.out
                    obtain ⟨hbl1, q10, q11, q12, q13, _⟩ := Q1.out _ B2.out
                    cases r0
                    case false =>
                      go_wp2_with fail
                      go_ret
                      exact ⟨by first | rfl | simp, B2.out⟩
                    case true =>
                      go_wp2_with fail
                      go_ret
                      exact ⟨by first | rfl | simp, B2.out⟩
                case true =>
                  skip
                  go_enter Tryz.func20, Tryz.ntmps20
                  go_wp2_with fail
                  rw [HW.out]
                  refine (C0.out _ HB.out).mono ?_
                  rintro e W2 ⟨rfl, b2⟩
                  have B2 := Lib.hid (HB.out.trans (b2.mono HB.out.size))
                  have G2 := Lib.hid b2
                  clear b2 hbl0 q00 q01 q02 q03 hbl1 q10 q11 q12 q13
                  obtain ⟨x0, x1, x2, x3, x4⟩ := BX.out _ G2.out
                  obtain ⟨hbl0, q00, q01, q02, q03, _⟩ := Q0.out _ B2.out
                  obtain ⟨hbl1, q10, q11, q12, q13, _⟩ := Q1.out _ B2.out
                  cases r0
                  case false =>
                    go_wp2_with fail
                    go_ret
                    exact ⟨by first | rfl | simp, B2.out⟩
                  case true =>
                    go_wp2_with fail
                    go_ret
                    exact ⟨by first | rfl | simp, B2.out⟩
              case true =>
                skip
                go_enter Tryz.func20, Tryz.ntmps20
                go_wp2_with fail
                rw [HW.out]
                refine (C0.out _ HB.out).mono ?_
                rintro e W2 ⟨rfl, b2⟩
                have B2 := Lib.hid (HB.out.trans (b2.mono HB.out.size))
                have G2 := Lib.hid b2
                clear b2 hbl0 q00 q01 q02 q03 hbl1 q10 q11 q12 q13
                obtain ⟨x0, x1, x2, x3, x4⟩ := BX.out _ G2.out
                obtain ⟨hbl0, q00, q01, q02, q03, _⟩ := Q0.out _ B2.out
                obtain ⟨hbl1, q10, q11, q12, q13, _⟩ := Q1.out _ B2.out
                cases r0
                case false =>
                  go_wp2_with fail
                  go_ret
                  exact ⟨by first | rfl | simp, B2.out⟩
                case true =>
                  go_wp2_with fail
                  go_ret
                  exact ⟨by first | rfl | simp, B2.out⟩
            case true =>
              skip
              go_enter Tryz.func20, Tryz.ntmps20
              go_wp2_with fail
              rw [HW.out]
              refine (C0.out _ HB.out).mono ?_
              rintro e W2 ⟨rfl, b2⟩
              have B2 := Lib.hid (HB.out.trans (b2.mono HB.out.size))
              have G2 := Lib.hid b2
              clear b2 hbl0 q00 q01 q02 q03 hbl1 q10 q11 q12 q13
              obtain ⟨x0, x1, x2, x3, x4⟩ := BX.out _ G2.out
              obtain ⟨hbl0, q00, q01, q02, q03, _⟩ := Q0.out _ B2.out
              obtain ⟨hbl1, q10, q11, q12, q13, _⟩ := Q1.out _ B2.out
              cases r0
              case false =>
                go_wp2_with fail
                go_ret
                exact ⟨by first | rfl | simp, B2.out⟩
              case true =>
                go_wp2_with fail
                go_ret
                exact ⟨by first | rfl | simp, B2.out⟩
          case true =>
            skip
            go_enter Tryz.func20, Tryz.ntmps20
            go_wp2_with fail
            rw [HW.out]
            refine (C0.out _ HB.out).mono ?_
            rintro e W2 ⟨rfl, b2⟩
            have B2 := Lib.hid (HB.out.trans (b2.mono HB.out.size))
            have G2 := Lib.hid b2
            clear b2 hbl0 q00 q01 q02 q03 hbl1 q10 q11 q12 q13
            obtain ⟨x0, x1, x2, x3, x4⟩ := BX.out _ G2.out
            obtain ⟨hbl0, q00, q01, q02, q03, _⟩ := Q0.out _ B2.out
            obtain ⟨hbl1, q10, q11, q12, q13, _⟩ := Q1.out _ B2.out
            cases r0
            case false =>
              go_wp2_with fail
              go_ret
              exact ⟨by first | rfl | simp, B2.out⟩
            case true =>
              go_wp2_with fail
              go_ret
              exact ⟨by first | rfl | simp, B2.out⟩
        case true =>
          skip
          go_enter Tryz.func20, Tryz.ntmps20
          go_wp2_with fail
          rw [HW.out]
          refine (C0.out _ HB.out).mono ?_
          rintro e W2 ⟨rfl, b2⟩
          have B2 := Lib.hid (HB.out.trans (b2.mono HB.out.size))
          have G2 := Lib.hid b2
          clear b2 hbl0 q00 q01 q02 q03 hbl1 q10 q11 q12 q13
          obtain ⟨x0, x1, x2, x3, x4⟩ := BX.out _ G2.out
          obtain ⟨hbl0, q00, q01, q02, q03, _⟩ := Q0.out _ B2.out
          obtain ⟨hbl1, q10, q11, q12, q13, _⟩ := Q1.out _ B2.out
          cases r0
          case false =>
            go_wp2_with fail
            go_ret
            exact ⟨by first | rfl | simp, B2.out⟩
          case true =>
            go_wp2_with fail
            go_ret
            exact ⟨by first | rfl | simp, B2.out⟩
      case true =>
        skip
        go_enter Tryz.func20, Tryz.ntmps20
        go_wp2_with fail
        rw [HW.out]
        refine (C0.out _ HB.out).mono ?_
        rintro e W2 ⟨rfl, b2⟩
        have B2 := Lib.hid (HB.out.trans (b2.mono HB.out.size))
        have G2 := Lib.hid b2
        clear b2 hbl0 q00 q01 q02 q03 hbl1 q10 q11 q12 q13
        obtain ⟨x0, x1, x2, x3, x4⟩ := BX.out _ G2.out
        obtain ⟨hbl0, q00, q01, q02, q03, _⟩ := Q0.out _ B2.out
        obtain ⟨hbl1, q10, q11, q12, q13, _⟩ := Q1.out _ B2.out
        cases r0
        case false =>
          go_wp2_with fail
          go_ret
          exact ⟨by first | rfl | simp, B2.out⟩
        case true =>
          go_wp2_with fail
          go_ret
          exact ⟨by first | rfl | simp, B2.out⟩
    case true =>
      skip
      go_enter Tryz.func20, Tryz.ntmps20
      go_wp2_with fail
      rw [HW.out]
      refine (C0.out _ HB.out).mono ?_
      rintro e W2 ⟨rfl, b2⟩
      have B2 := Lib.hid (HB.out.trans (b2.mono HB.out.size))
      have G2 := Lib.hid b2
      clear b2 hbl0 q00 q01 q02 q03 hbl1 q10 q11 q12 q13
      obtain ⟨x0, x1, x2, x3, x4⟩ := BX.out _ G2.out
      obtain ⟨hbl0, q00, q01, q02, q03, _⟩ := Q0.out _ B2.out
      obtain ⟨hbl1, q10, q11, q12, q13, _⟩ := Q1.out _ B2.out
      cases r0
      case false =>
        go_wp2_with fail
        go_ret
        exact ⟨by first | rfl | simp, B2.out⟩
      case true =>
        go_wp2_with fail
        go_ret
        exact ⟨by first | rfl | simp, B2.out⟩

end Go.Proofs.YtkmhijkpbmcgbaaGreat

namespace Go.Proofs.YtkmhijkpbmcgbaaGreat
set_option linter.all false
open Go.RowKit Go.Shelf

set_option maxRecDepth 100000 in
set_option maxHeartbeats 4000000 in
theorem rexpr21_any (g : Q → Nd → Bool) (F : Nat) (v : Value) (n : Nd) (w : World) (E : SaysF w F 20 #[] (g .expr)) (hk : n.kind = 21) (hft : Fits n) (hv : NdV w (F + 1) v n) :
    Calls Tryz.prog 20 #[v] w fun e w' => e = .returned (.bool (n.text.toList == [] && (decide (0 < n.kids.length) && n.kids.all (g .expr)))) ∧ Below w.heap.size w w' := by
  obtain ⟨A, c, rfl, hm⟩ := hv.val
  have hb : Below w.heap.size w (w.alloc (.cells (cellsOf n A c) 24)) := (Below.refl _ w).alloc (Nat.le_refl _) _
  have hw := Whole.new w 24 (cellsOf n A c)
  have LK := Lib.hid hv.lst
  have HF := Lib.hid fun k hk => hft.kid (k := k) hk
  have BX := Lib.hid fun W (h : Below (w.alloc (.cells (cellsOf n A c) 24)).heap.size (w.alloc (.cells (cellsOf n A c) 24)) W) => box_cells hw h
  have HB := Lib.hid hb
  have HCAP := Lib.hid hv.cap
  have HE := Lib.hid E
  clear E hft hv hb hw
  unfold Nd.val
  obtain ⟨W1, hW1⟩ : ∃ W1, W1 = w.alloc (.cells (cellsOf n A c) 24) := ⟨_, rfl⟩
  rw [← hW1] at BX HB
  have hW2 : w.alloc (.cells #[.int .i64 n.kind, .string n.text, .slice A n.kids.length c, .int .i64 n.place] 24) = W1 := hW1.symm
  have HW := Lib.hid hW2
  clear hW1 hW2
  rw [hk] at BX HW ⊢
  have l1 : decide ((0 : Int) < (n.kids.length : Int)) = decide (0 < n.kids.length) := by simp only [decide_eq_decide]; omega
  have LL := Lib.hid l1
  clear l1
  cases h2 : (n.text.toList == [])
  case false =>
    go_enter Tryz.func20, Tryz.ntmps20
    go_wp2_with fail
    go_ret
    exact ⟨rfl, by rw [HW.out]; exact HB.out⟩
  case true =>
  by_cases hl : 0 < n.kids.length
  case neg =>
    have h3 : decide (0 < n.kids.length) = false := decide_eq_false hl
    have h4 := LL.out
    rw [h3] at h4 ⊢
    go_enter Tryz.func20, Tryz.ntmps20
    go_wp2_with fail
    go_ret
    exact ⟨rfl, by rw [HW.out]; exact HB.out⟩
  case pos =>
    have h3 : decide (0 < n.kids.length) = true := decide_eq_true hl
    have h4 := LL.out
    rw [h3] at h4 ⊢
    have C0 := Lib.hid fun W (h : Below w.heap.size w W) => exprs_any F (g .expr) n.kids A c W (HE.out.below h) (fun k hk => HF.out k hk) (LK.out.below h) hm
    generalize n.kids.all (g .expr) = r at C0 ⊢
    go_enter Tryz.func20, Tryz.ntmps20
    go_wp2_with fail
    rw [HW.out]
    refine (C0.out _ HB.out).mono ?_
    rintro e W2 ⟨rfl, b2⟩
    have B2 := Lib.hid (HB.out.trans (b2.mono HB.out.size))
    clear b2
    go_wp2_with fail
    go_ret
    exact ⟨rfl, B2.out⟩

set_option maxRecDepth 100000 in
set_option maxHeartbeats 4000000 in
theorem rexpr24_any (g : Q → Nd → Bool) (F : Nat) (v : Value) (n : Nd) (w : World) (T : SaysF w F 19 #[] (g .typ)) (E : SaysF w F 20 #[] (g .expr)) (KT : ∀ k, g .typ k = true → k.kind = 10 ∨ k.kind = 11 ∨ k.kind = 12) (hk : n.kind = 24) (hft : Fits n) (hv : NdV w (F + 1) v n) :
    Calls Tryz.prog 20 #[v] w fun e w' => e = .returned (.bool (n.text.toList == [] && (decide (0 < n.kids.length) && ((n.kids.take 1).all (fun k => !(k.kind == 12) && g .typ k) && (n.kids.drop 1).all (g .expr))))) ∧ Below w.heap.size w w' := by
  obtain ⟨A, c, rfl, hm⟩ := hv.val
  have hb : Below w.heap.size w (w.alloc (.cells (cellsOf n A c) 24)) := (Below.refl _ w).alloc (Nat.le_refl _) _
  have hw := Whole.new w 24 (cellsOf n A c)
  have LK := Lib.hid hv.lst
  have HF := Lib.hid fun k hk => hft.kid (k := k) hk
  have BX := Lib.hid fun W (h : Below (w.alloc (.cells (cellsOf n A c) 24)).heap.size (w.alloc (.cells (cellsOf n A c) 24)) W) => box_cells hw h
  have HB := Lib.hid hb
  have HCAP := Lib.hid hv.cap
  have HT := Lib.hid T
  have HE := Lib.hid E
  have HKT := Lib.hid KT
  clear T E KT hft hv hb hw
  unfold Nd.val
  obtain ⟨W1, hW1⟩ : ∃ W1, W1 = w.alloc (.cells (cellsOf n A c) 24) := ⟨_, rfl⟩
  rw [← hW1] at BX HB
  have hW2 : w.alloc (.cells #[.int .i64 n.kind, .string n.text, .slice A n.kids.length c, .int .i64 n.place] 24) = W1 := hW1.symm
  have HW := Lib.hid hW2
  clear hW1 hW2
  rw [hk] at BX HW ⊢
  have l1 : decide ((0 : Int) < (n.kids.length : Int)) = decide (0 < n.kids.length) := by simp only [decide_eq_decide]; omega
  have LL := Lib.hid l1
  clear l1
  cases h2 : (n.text.toList == [])
  case false =>
    go_enter Tryz.func20, Tryz.ntmps20
    go_wp2_with fail
    go_ret
    exact ⟨rfl, by rw [HW.out]; exact HB.out⟩
  case true =>
  by_cases hl : 0 < n.kids.length
  case neg =>
    have h3 : decide (0 < n.kids.length) = false := decide_eq_false hl
    have h4 := LL.out
    rw [h3] at h4 ⊢
    go_enter Tryz.func20, Tryz.ntmps20
    go_wp2_with fail
    go_ret
    exact ⟨rfl, by rw [HW.out]; exact HB.out⟩
  case pos =>
    have h3 : decide (0 < n.kids.length) = true := decide_eq_true hl
    have h4 := LL.out
    rw [h3] at h4 ⊢
    have hl0 : 0 < n.kids.length := hl
    have hcap := HCAP.out
    obtain ⟨b, off, k0, A0, c0, rfl, hk0, hq0⟩ := LK.out.kidP (p := 0) (by omega)
    have f0 := HF.out k0 (List.mem_of_getElem? hk0)
    have et : (n.kids.take 1).all (fun k => !(k.kind == 12) && g .typ k) = ((k0.kind == 10 || k0.kind == 11) && g .typ k0) := by
      have e1 : (n.kids.take 1).all (fun k => !(k.kind == 12) && g .typ k) = (!(k0.kind == 12) && g .typ k0) := by
        cases hL : n.kids with
        | nil => rw [hL] at hl0; simp at hl0
        | cons x l =>
          rw [hL] at hk0
          have e1 : x = k0 := by simpa using hk0
          simp [e1]
      rw [e1]
      cases ht : g .typ k0 with
      | false => simp
      | true =>
        rcases HKT.out k0 ht with h | h | h <;> (rw [h]; rfl)
    rw [et]
    have C0 := Lib.hid fun W (h : Below w.heap.size w W) => HT.out.2 W _ k0 h f0 ((hq0 W h).2.2.2.2.2)
    simp only [Nat.zero_mul, Nat.add_zero] at hq0
    have Q0 := Lib.hid hq0
    obtain ⟨hbl0, q00, q01, q02, q03, _⟩ := hq0 _ (Below.refl _ _)
    clear et hk0 f0 hq0
    unfold Nd.val at C0
    generalize g .typ k0 = r0 at C0 ⊢
    have TAIL : ∀ (e10 e11 : Bool), (k0.kind == 10) = e10 → (k0.kind == 11) = e11 → (e10 || e11) = true → Calls Tryz.prog 20 #[.agg #[.int .i64 24, .string n.text, .slice (some ⟨b, off, none⟩) n.kids.length c, .int .i64 n.place]] w fun e w' => e = .returned (.bool (true && (true && (r0 && (n.kids.drop 1).all (g .expr))))) ∧ Below w.heap.size w w' := by
      intro e10 e11 h10 h11 hor
      cases e10 <;> cases e11
      case false.false => cases hor
      all_goals
        clear hor
        go_enter Tryz.func20, Tryz.ntmps20
        go_wp2_with fail
        rw [HW.out]
        refine (C0.out _ HB.out).mono ?_
        rintro e W2 ⟨rfl, b2⟩
        have B2 := Lib.hid (HB.out.trans (b2.mono HB.out.size))
        have G2 := Lib.hid b2
        clear b2 hbl0 q00 q01 q02 q03
        obtain ⟨x0, x1, x2, x3, x4⟩ := BX.out _ G2.out
        obtain ⟨hbl0, q00, q01, q02, q03, _⟩ := Q0.out _ B2.out
        cases r0 with
        | false =>
          go_wp2_with fail
          go_ret
          exact ⟨rfl, B2.out⟩
        | true =>
          have hd : (n.kids.drop 1).length = n.kids.length - 1 := by simp
          by_cases hc1 : c = 1
          · have hnil : n.kids.drop 1 = [] := List.drop_of_length_le (by omega)
            have hd0 : n.kids.length - 1 = 0 := by omega
            have AL := Lib.hid (exprs_any F (g .expr) [] (some ⟨b, off, none⟩) 0 W2 (HE.out.below B2.out) (fun k hk => by simp at hk) (fun h => absurd h (by simp)) (by simp))
            have hs1 : (1 : Int) ≤ (n.kids.length : Int) := by omega
            have HN := Lib.hid hnil
            rw [List.length_nil] at AL
            clear hd hnil
            go_wp2_with fail
            first | rw [hd0] | skip
            refine AL.out.mono ?_
            rintro e W3 ⟨rfl, b3⟩
            have HB3 := Lib.hid (B2.out.trans (b3.mono B2.out.size))
            clear b3 AL
            go_wp2_with fail
            go_ret
            exact ⟨by rw [HN.out]; rfl, HB3.out⟩
          have AL := Lib.hid (exprs_any F (g .expr) (n.kids.drop 1) (some ⟨b, off + 4, none⟩) (c - 1) W2 (HE.out.below B2.out) (fun k hk => HF.out k (List.mem_of_mem_drop hk)) (LK.out.below B2.out).drop1 (by rw [hd]; omega))
          rw [hd] at AL
          have hs1 : (1 : Int) ≤ (n.kids.length : Int) := by omega
          obtain ⟨r, hr⟩ : ∃ r, r = (n.kids.drop 1).all (g .expr) := ⟨_, rfl⟩
          rw [← hr] at AL
          have HR := Lib.hid hr
          clear hr
          clear hd
          go_wp2_with fail
          refine AL.out.mono ?_
          rintro e W3 ⟨rfl, b3⟩
          have HB3 := Lib.hid (B2.out.trans (b3.mono B2.out.size))
          clear b3 AL
          go_wp2_with fail
          go_ret
          exact ⟨by rw [← HR.out]; rfl, HB3.out⟩
    cases h10 : (k0.kind == 10) <;> cases h11 : (k0.kind == 11)
    case false.false =>
      go_enter Tryz.func20, Tryz.ntmps20
      go_wp2_with fail
      go_ret
      exact ⟨rfl, by rw [HW.out]; exact HB.out⟩
    all_goals exact TAIL _ _ h10 h11 rfl

set_option maxRecDepth 100000 in
set_option maxHeartbeats 4000000 in
theorem rexpro_any (F : Nat) (v : Value) (n : Nd) (w : World) (h16 : n.kind ≠ 16) (h17 : n.kind ≠ 17) (h18 : n.kind ≠ 18) (h19 : n.kind ≠ 19) (h20 : n.kind ≠ 20) (h21 : n.kind ≠ 21) (h22 : n.kind ≠ 22) (h23 : n.kind ≠ 23) (h24 : n.kind ≠ 24) (h25 : n.kind ≠ 25) (hv : NdV w (F + 1) v n) :
    Calls Tryz.prog 20 #[v] w fun e w' => e = .returned (.bool false) ∧ Below w.heap.size w w' := by
  obtain ⟨A, c, rfl, hm⟩ := hv.val
  have hb : Below w.heap.size w (w.alloc (.cells #[.int .i64 n.kind, .string n.text, .slice A n.kids.length c, .int .i64 n.place] 24)) := (Below.refl _ w).alloc (Nat.le_refl _) _
  have HB := Lib.hid hb
  have e16 : (n.kind == 16) = false := by simpa using h16
  have e17 : (n.kind == 17) = false := by simpa using h17
  have e18 : (n.kind == 18) = false := by simpa using h18
  have e19 : (n.kind == 19) = false := by simpa using h19
  have e20 : (n.kind == 20) = false := by simpa using h20
  have e21 : (n.kind == 21) = false := by simpa using h21
  have e22 : (n.kind == 22) = false := by simpa using h22
  have e23 : (n.kind == 23) = false := by simpa using h23
  have e24 : (n.kind == 24) = false := by simpa using h24
  have e25 : (n.kind == 25) = false := by simpa using h25
  clear hb hv
  unfold Nd.val
  go_enter Tryz.func20, Tryz.ntmps20
  go_wp2_with fail
  go_ret
  exact ⟨rfl, HB.out⟩

end Go.Proofs.YtkmhijkpbmcgbaaGreat

namespace Go.Proofs.YtkmhijkpbmcgbaaGreat
set_option linter.all false
open Go.RowKit Go.Shelf

def LoopRel1 (w : World) (l : List Nd) (q : Nd → Bool) (i : Value) (W : World) : Prop := ∃ p : Nat, 1 ≤ p ∧ p ≤ l.length ∧ i = .int .i64 p ∧ Below w.heap.size w W ∧ ((l.drop 1).take (p - 1)).all q = true
theorem drop1_at {l : List Nd} {p : Nat} {k : Nd} (h1 : 1 ≤ p) (hk : l[p]? = some k) : (l.drop 1)[p - 1]? = some k := by
  rw [List.getElem?_drop, show 1 + (p - 1) = p by omega]
  exact hk
theorem all1_yes {l : List Nd} {q : Nd → Bool} {p : Nat} {k : Nd} (h1 : 1 ≤ p) (hk : l[p]? = some k) (ha : ((l.drop 1).take (p - 1)).all q = true) (h : q k = true) : ((l.drop 1).take (p + 1 - 1)).all q = true := by
  have := all_yes (drop1_at h1 hk) ha h
  rwa [show p - 1 + 1 = p + 1 - 1 by omega] at this
theorem all1_no {l : List Nd} {q : Nd → Bool} {p : Nat} {k : Nd} (h1 : 1 ≤ p) (hk : l[p]? = some k) (h : q k = false) : (l.drop 1).all q = false := all_no (drop1_at h1 hk) h
theorem all1_end {l : List Nd} {q : Nd → Bool} {p : Nat} (h1 : 1 ≤ p) (hp : ¬ p < l.length) (ha : ((l.drop 1).take (p - 1)).all q = true) : (l.drop 1).all q = true :=
  all_end (by rw [List.length_drop]; omega) ha
theorem take1_all {l : List Nd} {q : Nd → Bool} {k : Nd} (hk : l[0]? = some k) : (l.take 1).all q = q k := by
  cases l with
  | nil => simp at hk
  | cons x l =>
    have e1 : x = k := by simpa using hk
    simp [e1]

set_option maxRecDepth 100000 in
set_option maxHeartbeats 4000000 in
theorem rexpr22_any (g : Q → Nd → Bool) (F : Nat) (v : Value) (n : Nd) (w : World) (T : SaysF w F 19 #[] (g .typ)) (E : SaysF w F 20 #[] (g .expr)) (hk : n.kind = 22) (hft : Fits n) (hv : NdV w (F + 1) v n) :
    Calls Tryz.prog 20 #[v] w fun e w' => e = .returned (.bool (n.text.toList == [] && (decide (1 < n.kids.length) && ((n.kids.take 1).all (g .expr) && (n.kids.drop 1).all (partB g))))) ∧ Below w.heap.size w w' := by
  obtain ⟨A, c, rfl, hm⟩ := hv.val
  have hb : Below w.heap.size w (w.alloc (.cells (cellsOf n A c) 24)) := (Below.refl _ w).alloc (Nat.le_refl _) _
  have hw := Whole.new w 24 (cellsOf n A c)
  have LK := Lib.hid hv.lst
  have HF := Lib.hid fun k hk => hft.kid (k := k) hk
  have BX := Lib.hid fun W (h : Below (w.alloc (.cells (cellsOf n A c) 24)).heap.size (w.alloc (.cells (cellsOf n A c) 24)) W) => box_cells hw h
  have HB := Lib.hid hb
  have HT := Lib.hid T
  have HE := Lib.hid E
  have hm2 : n.kids.length ≤ 9223372036854775807 := hm
  clear T E hft hv hb hw
  unfold Nd.val
  obtain ⟨W1, hW1⟩ : ∃ W1, W1 = w.alloc (.cells (cellsOf n A c) 24) := ⟨_, rfl⟩
  rw [← hW1] at BX HB
  have hW2 : w.alloc (.cells #[.int .i64 n.kind, .string n.text, .slice A n.kids.length c, .int .i64 n.place] 24) = W1 := hW1.symm
  have HW := Lib.hid hW2
  clear hW1 hW2
  rw [hk] at BX HW ⊢
  cases h2 : (n.text.toList == [])
  case false =>
    have h2n : (n.text.toList != []) = true := by simp only [bne, h2]; rfl
    go_enter Tryz.func20, Tryz.ntmps20
    go_wp2_with fail
    go_ret
    exact ⟨rfl, by rw [HW.out]; exact HB.out⟩
  case true =>
  have h2n : (n.text.toList != []) = false := by simp only [bne, h2]; rfl
  by_cases hl : 1 < n.kids.length
  case neg =>
    have h3 : decide (1 < n.kids.length) = false := decide_eq_false hl
    have h4 : decide ((n.kids.length : Int) < 2) = true := decide_eq_true (by omega)
    have h5 : decide (n.kids.length < 2) = true := decide_eq_true (by omega)
    rw [h3]
    go_enter Tryz.func20, Tryz.ntmps20
    go_wp2_with fail
    go_ret
    exact ⟨rfl, by rw [HW.out]; exact HB.out⟩
  case pos =>
    have h3 : decide (1 < n.kids.length) = true := decide_eq_true hl
    have h4 : decide ((n.kids.length : Int) < 2) = false := decide_eq_false (by omega)
    have h5 : decide (n.kids.length < 2) = false := decide_eq_false (by omega)
    rw [h3]
    have hl0 : 0 < n.kids.length := by omega
    obtain ⟨b, off, k0, A0, c0, rfl, hk0, hq0⟩ := LK.out.kidP (p := 0) (by omega)
    have f0 := HF.out k0 (List.mem_of_getElem? hk0)
    rw [take1_all hk0]
    have C0 := Lib.hid fun W (h : Below w.heap.size w W) => HE.out.2 W _ k0 h f0 ((hq0 W h).2.2.2.2.2)
    simp only [Nat.zero_mul, Nat.add_zero] at hq0
    obtain ⟨hbl0, q00, q01, q02, q03, _⟩ := hq0 _ (Below.refl _ _)
    clear hk0 f0 hq0
    unfold Nd.val at C0
    generalize g .expr k0 = r0 at C0 ⊢
    go_enter Tryz.func20, Tryz.ntmps20
    go_wp2_with fail
    rw [HW.out]
    refine (C0.out _ HB.out).mono ?_
    rintro e W2 ⟨rfl, b2⟩
    have B2 := Lib.hid (HB.out.trans (b2.mono HB.out.size))
    have G2 := Lib.hid b2
    clear b2 hbl0 q00 q01 q02 q03
    cases r0
    case false =>
      go_wp2_with fail
      go_ret
      exact ⟨rfl, B2.out⟩
    case true =>
    go_wp2_with fail
    go_loopw [4] (fun i W => LoopRel1 W1 n.kids (partB g) i W) (fun i _ => n.kids.length - (intOf i).toNat)
    case atStart => exact ⟨1, Nat.le_refl _, by omega, rfl, G2.out, by simp⟩
    case round =>
      obtain ⟨p, hp1, hp, rfl, hb, ha⟩ := hrel
      have HA := Lib.hid ha
      have HC := Lib.hid (HB.out.trans (hb.mono HB.out.size))
      have HB1 := Lib.hid hb
      obtain ⟨x0, x1, x2, x3, x4⟩ := BX.out _ hb
      clear hb ha
      by_cases hpl : p < n.kids.length
      · obtain ⟨b', off', k, A', c', hA, hk, hq⟩ := LK.out.kidP hpl
        injection hA with hA
        injection hA with e1 e2
        subst e1 e2
        obtain ⟨hbl, q0, q1, q2, q3, q5⟩ := hq _ HC.out
        have QA := Lib.hid (HE.out.2 _ _ k HC.out (HF.out k (List.mem_of_getElem? hk)) q5)
        have QT := Lib.hid fun W (h : Below w.heap.size w W) => HT.out.2 W _ k h (HF.out k (List.mem_of_getElem? hk)) (hq W h).2.2.2.2.2
        have QK := Lib.hid hq
        have HK := Lib.hid hk
        have hp2 : p < 9223372036854775807 := by omega
        clear hq q5 hk
        unfold Nd.val at QA QT
        obtain ⟨pv, hpv⟩ : ∃ pv, pv = partB g k := ⟨_, rfl⟩
        have HP := Lib.hid hpv
        clear hpv
        have hPR := HP.out
        unfold partB at hPR
        have HPR := Lib.hid hPR
        clear hPR
        generalize g .expr k = re at QA HPR
        generalize g .typ k = rt at QT HPR
        go_wp2_with fail
        refine QA.out.mono ?_
        rintro e W3 ⟨rfl, b3⟩
        have B3 := Lib.hid (HB1.out.trans (b3.mono HB1.out.size))
        have G3 := Lib.hid (HC.out.trans (b3.mono HC.out.size))
        clear b3 QA x0 x1 x2 x3 x4 hbl q0 q1 q2 q3
        obtain ⟨x0, x1, x2, x3, x4⟩ := BX.out _ B3.out
        obtain ⟨hbl, q0, q1, q2, q3, _⟩ := QK.out _ G3.out
        cases re
        case true =>
          have HR := Lib.hid (all1_yes hp1 HK.out HA.out (by rw [← HP.out, HPR.out]; rfl))
          go_wp2_with fail
          go_roundw
          case rel => exact ⟨p + 1, by omega, hpl, rfl, B3.out, HR.out⟩
          case measure => simp [intOf]; omega
        case false =>
          cases hkk : (k.kind == 10)
          case true =>
            have HR := Lib.hid (all1_no hp1 HK.out (q := partB g) (by rw [← HP.out, HPR.out, hkk]; rfl))
            go_wp2_with fail
            go_ret
            exact ⟨by rw [HR.out]; rfl, G3.out⟩
          case false =>
            go_wp2_with fail
            refine (QT.out _ G3.out).mono ?_
            rintro e W4 ⟨rfl, b4⟩
            have B4 := Lib.hid (B3.out.trans (b4.mono B3.out.size))
            have G4 := Lib.hid (G3.out.trans (b4.mono G3.out.size))
            clear b4
            cases rt
            case true =>
              have HR := Lib.hid (all1_yes hp1 HK.out HA.out (by rw [← HP.out, HPR.out, hkk]; rfl))
              go_wp2_with fail
              go_roundw
              case rel => exact ⟨p + 1, by omega, hpl, rfl, B4.out, HR.out⟩
              case measure => simp [intOf]; omega
            case false =>
              have HR := Lib.hid (all1_no hp1 HK.out (q := partB g) (by rw [← HP.out, HPR.out, hkk]; rfl))
              go_wp2_with fail
              go_ret
              exact ⟨by rw [HR.out]; rfl, G4.out⟩
      · have HR := Lib.hid (all1_end hp1 hpl HA.out)
        go_wp2_with fail
        go_ret
        exact ⟨by rw [HR.out]; rfl, HC.out⟩

end Go.Proofs.YtkmhijkpbmcgbaaGreat
