/-
  The reference's question: a statement of one of some kinds.
  The reference's statements, kind by kind.
  The reference's statements: if.
  The reference's statements: for; and all statements.
-/
import Derived.Test.YtkmhijkpbmcgbaaGreatRefDecls
import Derived.Test.YtkmhijkpbmcgbaaGreatRefA
import Derived.Test.YtkmhijkpbmcgbaaGreatHeld
import Derived.Test.YtkmhijkpbmcgbaaGreatRefVar
import Derived.Test.YtkmhijkpbmcgbaaGreatRefExprs
namespace Go.Proofs.YtkmhijkpbmcgbaaGreat
set_option linter.all false
open Go.RowKit Go.Shelf

def RowAt (W : World) (b off : Nat) (ks : List Int) : Prop := ∀ i x, ks[i]? = some x → W.cell? ⟨b, off + i, none⟩ = some (.int .i64 x)
def KindRel (w : World) (n : Nd) (ks : List Int) (i : Value) (W : World) : Prop := ∃ p : Nat, p ≤ ks.length ∧ i = .int .i64 p ∧ Below w.heap.size w W ∧ (ks.take p).any (n.kind == ·) = false

theorem any_hit {l : List Int} {q : Int → Bool} {p : Nat} {x : Int} (hx : l[p]? = some x) (h : q x = true) : l.any q = true :=
  List.any_eq_true.2 ⟨x, List.mem_of_getElem? hx, h⟩
theorem any_miss {l : List Int} {q : Int → Bool} {p : Nat} {x : Int} (hx : l[p]? = some x) (ha : (l.take p).any q = false) (h : q x = false) : (l.take (p + 1)).any q = false := by
  rw [take_snoc hx, List.any_append, ha]
  simp [h]
theorem any_end {l : List Int} {q : Int → Bool} {p : Nat} (hp : ¬ p < l.length) (ha : (l.take p).any q = false) : l.any q = false := by
  rw [List.take_of_length_le (by omega)] at ha
  exact ha

set_option maxRecDepth 100000 in
set_option maxHeartbeats 2000000 in
theorem rkind_any (g : Q → Nd → Bool) (F : Nat) (v : Value) (n : Nd) (w : World) (S : SaysF w F 21 #[] (g .stmt)) (ks : List Int) (b off cap : Nat) (hlen : ks.length ≤ maxLen) (hrow : RowAt w b off ks) (hft : Fits n) (hv : NdV w F v n) :
    Calls Tryz.prog 46 #[v, .slice (some ⟨b, off, none⟩) ks.length cap] w fun e w' => e = .returned (.bool (ks.any (n.kind == ·) && g .stmt n)) ∧ Below w.heap.size w w' := by
  obtain ⟨A, c, rfl, hm⟩ := hv.val
  have hb : Below w.heap.size w (w.alloc (.cells (cellsOf n A c) 24)) := (Below.refl _ w).alloc (Nat.le_refl _) _
  have hw := Whole.new w 24 (cellsOf n A c)
  have BX := Lib.hid fun W (h : Below (w.alloc (.cells (cellsOf n A c) 24)).heap.size (w.alloc (.cells (cellsOf n A c) 24)) W) => box_cells hw h
  have HB := Lib.hid hb
  have C0 := Lib.hid fun W (h : Below w.heap.size w W) => S.2 W _ n h hft (hv.below h)
  have RW := Lib.hid fun W (h : Below w.heap.size w W) i x (hx : ks[i]? = some x) => (h.cell (cell_lt (hrow i x hx))).trans (hrow i x hx)
  have hm2 : ks.length ≤ 9223372036854775807 := hlen
  clear S hft hv hb hw hrow
  unfold Nd.val at C0 ⊢
  obtain ⟨W1, hW1⟩ : ∃ W1, W1 = w.alloc (.cells (cellsOf n A c) 24) := ⟨_, rfl⟩
  rw [← hW1] at BX HB
  have hW2 : w.alloc (.cells #[.int .i64 n.kind, .string n.text, .slice A n.kids.length c, .int .i64 n.place] 24) = W1 := hW1.symm
  have HW := Lib.hid hW2
  clear hW1 hW2
  go_enter Tryz.func46, Tryz.ntmps46
  go_wp2_with fail
  rw [HW.out]
  go_loopw [5] (fun i W => KindRel W1 n ks i W) (fun i _ => ks.length - (intOf i).toNat)
  case atStart => exact ⟨0, Nat.zero_le _, rfl, Below.refl _ _, by simp⟩
  case round =>
    obtain ⟨p, hp, rfl, hb, ha⟩ := hrel
    have HA := Lib.hid ha
    have HC := Lib.hid (HB.out.trans (hb.mono HB.out.size))
    have HB1 := Lib.hid hb
    obtain ⟨x0, x1, x2, x3, x4⟩ := BX.out _ hb
    clear hb ha
    by_cases hpl : p < ks.length
    · obtain ⟨x, hx⟩ : ∃ x, ks[p]? = some x := ⟨_, List.getElem?_eq_getElem hpl⟩
      have q0 := RW.out _ HC.out p x hx
      have HX := Lib.hid hx
      clear hx
      have hp2 : p < 9223372036854775807 := by omega
      go_wp2_with fail
      go_region
      have HD := Lib.hid HC.out.drew
      have HD1 := Lib.hid HB1.out.drew
      cases hkx : (n.kind == x)
      case true =>
        have HR := Lib.hid (any_hit (q := fun x => n.kind == x) HX.out hkx)
        clear hkx
        go_wp2_with fail
        refine (C0.out _ HD.out).mono ?_
        rintro e W3 ⟨rfl, b3⟩
        have B3 := Lib.hid (HD.out.trans (b3.mono HD.out.size))
        clear b3
        go_wp2_with fail
        go_ret
        exact ⟨by rw [HR.out]; rfl, B3.out⟩
      case false =>
        have HR := Lib.hid (any_miss (q := fun x => n.kind == x) HX.out HA.out hkx)
        clear hkx
        go_wp2_with fail
        go_roundw
        case rel => exact ⟨p + 1, hpl, rfl, HD1.out, HR.out⟩
        case measure => simp [intOf]; omega
    · have HR := Lib.hid (any_end hpl HA.out)
      go_wp2_with fail
      go_ret
      exact ⟨by rw [HR.out]; rfl, HC.out⟩

end Go.Proofs.YtkmhijkpbmcgbaaGreat

namespace Go.Proofs.YtkmhijkpbmcgbaaGreat
set_option linter.all false
open Go.RowKit Go.Shelf

set_option maxRecDepth 100000 in
set_option maxHeartbeats 4000000 in
theorem rstmt26_any (g : Q → Nd → Bool) (F : Nat) (v : Value) (n : Nd) (w : World) (E : SaysF w F 20 #[] (g .expr)) (hk : n.kind = 26) (hft : Fits n) (hv : NdV w (F + 1) v n) :
    Calls Tryz.prog 21 #[v] w fun e w' => e = .returned (.bool (ofN (namedN n (boundB n.text)) 26 [g .expr])) ∧ Below w.heap.size w w' := by
  obtain ⟨A, c, rfl, hm⟩ := hv.val
  have hb : Below w.heap.size w (w.alloc (.cells (cellsOf n A c) 24)) := (Below.refl _ w).alloc (Nat.le_refl _) _
  have hw := Whole.new w 24 (cellsOf n A c)
  have LK := Lib.hid hv.lst
  have HF := Lib.hid fun k hk => hft.kid (k := k) hk
  have BX := Lib.hid fun W (h : Below (w.alloc (.cells (cellsOf n A c) 24)).heap.size (w.alloc (.cells (cellsOf n A c) 24)) W) => box_cells hw h
  have HB := Lib.hid hb
  have HE := Lib.hid E
  clear E hft hv hb hw
  unfold Nd.val
  obtain ⟨W1, hW1⟩ : ∃ W1, W1 = w.alloc (.cells (cellsOf n A c) 24) := ⟨_, rfl⟩
  rw [← hW1] at BX HB
  have hW2 : w.alloc (.cells #[.int .i64 n.kind, .string n.text, .slice A n.kids.length c, .int .i64 n.place] 24) = W1 := hW1.symm
  have HW := Lib.hid hW2
  clear hW1 hW2
  rw [hk] at BX HW ⊢
  by_cases hl : n.kids.length = 1
  case neg =>
    have a1 : ((n.kids.length : Int) == 1) = false := by rw [beq_eq_false_iff_ne]; omega
    have a2 : ((n.kids.length : Int) != 1) = true := by simp only [bne, a1]; rfl
    rw [nmNo (by omega) (by simpa using hl)]
    go_enter Tryz.func21, Tryz.ntmps21
    go_wp2_with fail
    go_ret
    exact ⟨by first | rfl | simp, by rw [HW.out]; exact HB.out⟩
  case pos =>
    obtain ⟨b, off, k0, A0, c0, rfl, hk0, hq0⟩ := LK.out.kidP (p := 0) (by omega)
    have f0 := HF.out k0 (List.mem_of_getElem? hk0)
    rw [nm1 (by omega) hk hl hk0]
    simp only [Nat.zero_mul, Nat.add_zero, Nat.one_mul, Nat.reduceMul] at hq0
    have C0 := Lib.hid fun W (h : Below w.heap.size w W) => rbound_any n.text W
    have C1 := Lib.hid fun W (h : Below w.heap.size w W) => HE.out.2 W _ k0 h f0 ((hq0 W h).2.2.2.2.2)
    have Q0 := Lib.hid hq0
    obtain ⟨hbl0, q00, q01, q02, q03, _⟩ := hq0 _ (Below.refl _ _)
    have l0 : (0 : Nat) < 1 := by omega
    clear LK HF f0 hq0 hk0
    unfold Nd.val at C1
    generalize boundB n.text = r0 at C0 ⊢
    generalize g .expr k0 = r1 at C1 ⊢
    rw [hl] at BX HW  ⊢
    clear hl
    go_enter Tryz.func21, Tryz.ntmps21
    go_wp2_with fail
    rw [HW.out]
    refine (C0.out _ HB.out).mono ?_
    rintro e W2 ⟨rfl, b2⟩
    have B2 := Lib.hid (HB.out.trans (b2.mono HB.out.size))
    have G2 := Lib.hid b2
    clear b2 hbl0 q00 q01 q02 q03
    obtain ⟨x0, x1, x2, x3, x4⟩ := BX.out _ G2.out
    obtain ⟨hbl0, q00, q01, q02, q03, _⟩ := Q0.out _ B2.out
    cases r0
    case false =>
      go_wp2_with fail
      go_ret
      exact ⟨by first | rfl | simp, B2.out⟩
    case true =>
      go_wp2_with fail
      refine (C1.out _ B2.out).mono ?_
      rintro e W3 ⟨rfl, b2⟩
      have B3 := Lib.hid (B2.out.trans (b2.mono B2.out.size))
      have G3 := Lib.hid (G2.out.trans (b2.mono G2.out.size))
      clear b2 x0 x1 x2 x3 x4 hbl0 q00 q01 q02 q03
      obtain ⟨x0, x1, x2, x3, x4⟩ := BX.out _ G3.out
      obtain ⟨hbl0, q00, q01, q02, q03, _⟩ := Q0.out _ B3.out
      cases r1
      case false =>
        go_wp2_with fail
        go_ret
        exact ⟨by first | rfl | simp, B3.out⟩
      case true =>
        go_wp2_with fail
        go_ret
        exact ⟨by first | rfl | simp, B3.out⟩

set_option maxRecDepth 100000 in
set_option maxHeartbeats 4000000 in
theorem rstmt27_any (g : Q → Nd → Bool) (F : Nat) (v : Value) (n : Nd) (w : World) (E : SaysF w F 20 #[] (g .expr)) (hk : n.kind = 27) (hft : Fits n) (hv : NdV w (F + 1) v n) :
    Calls Tryz.prog 21 #[v] w fun e w' => e = .returned (.bool (ofN n 27 [g .expr, g .expr])) ∧ Below w.heap.size w w' := by
  obtain ⟨A, c, rfl, hm⟩ := hv.val
  have hb : Below w.heap.size w (w.alloc (.cells (cellsOf n A c) 24)) := (Below.refl _ w).alloc (Nat.le_refl _) _
  have hw := Whole.new w 24 (cellsOf n A c)
  have LK := Lib.hid hv.lst
  have HF := Lib.hid fun k hk => hft.kid (k := k) hk
  have BX := Lib.hid fun W (h : Below (w.alloc (.cells (cellsOf n A c) 24)).heap.size (w.alloc (.cells (cellsOf n A c) 24)) W) => box_cells hw h
  have HB := Lib.hid hb
  have HE := Lib.hid E
  clear E hft hv hb hw
  unfold Nd.val
  obtain ⟨W1, hW1⟩ : ∃ W1, W1 = w.alloc (.cells (cellsOf n A c) 24) := ⟨_, rfl⟩
  rw [← hW1] at BX HB
  have hW2 : w.alloc (.cells #[.int .i64 n.kind, .string n.text, .slice A n.kids.length c, .int .i64 n.place] 24) = W1 := hW1.symm
  have HW := Lib.hid hW2
  clear hW1 hW2
  rw [hk] at BX HW ⊢
  by_cases hl : n.kids.length = 2
  case neg =>
    have a1 : ((n.kids.length : Int) == 2) = false := by rw [beq_eq_false_iff_ne]; omega
    have a2 : ((n.kids.length : Int) != 2) = true := by simp only [bne, a1]; rfl
    rw [ofNo (by simpa using hl)]
    cases h2 : (n.text.toList == [])
    case false =>
      go_enter Tryz.func21, Tryz.ntmps21
      go_wp2_with fail
      go_ret
      exact ⟨by first | rfl | simp, by rw [HW.out]; exact HB.out⟩
    case true =>
      go_enter Tryz.func21, Tryz.ntmps21
      go_wp2_with fail
      go_ret
      exact ⟨by first | rfl | simp, by rw [HW.out]; exact HB.out⟩
  case pos =>
    obtain ⟨b, off, k0, A0, c0, rfl, hk0, hq0⟩ := LK.out.kidP (p := 0) (by omega)
    obtain ⟨b', off', k1, A1, c1, hA, hk1, hq1⟩ := LK.out.kidP (p := 1) (by omega)
    injection hA with hA
    injection hA with e1 e2
    subst e1 e2
    have f0 := HF.out k0 (List.mem_of_getElem? hk0)
    have f1 := HF.out k1 (List.mem_of_getElem? hk1)
    rw [of2all hk hl hk0 hk1]
    simp only [Nat.zero_mul, Nat.add_zero, Nat.one_mul, Nat.reduceMul] at hq0 hq1
    have C0 := Lib.hid fun W (h : Below w.heap.size w W) => exprs_any F (g .expr) n.kids (some ⟨b, off, none⟩) c W (HE.out.below h) (fun k hk => HF.out k hk) (LK.out.below h) hm
    have Q0 := Lib.hid hq0
    obtain ⟨hbl0, q00, q01, q02, q03, _⟩ := hq0 _ (Below.refl _ _)
    have l0 : (0 : Nat) < 2 := by omega
    have Q1 := Lib.hid hq1
    obtain ⟨hbl1, q10, q11, q12, q13, _⟩ := hq1 _ (Below.refl _ _)
    have l1 : (1 : Nat) < 2 := by omega
    clear LK HF f0 hq0 hk0 f1 hq1 hk1
    generalize n.kids.all (g .expr) = r0 at C0 ⊢
    rw [hl] at BX HW C0 ⊢
    clear hl
    cases h2 : (n.text.toList == [])
    case false =>
      skip
      go_enter Tryz.func21, Tryz.ntmps21
      go_wp2_with fail
      go_ret
      exact ⟨by first | rfl | simp, by rw [HW.out]; exact HB.out⟩
    case true =>
      skip
      go_enter Tryz.func21, Tryz.ntmps21
      go_wp2_with fail
      rw [HW.out]
      refine (C0.out _ HB.out).mono ?_
      rintro e W2 ⟨rfl, b2⟩
      have B2 := Lib.hid (HB.out.trans (b2.mono HB.out.size))
      have G2 := Lib.hid b2
      clear b2 hbl0 q00 q01 q02 q03 hbl1 q10 q11 q12 q13
      obtain ⟨x0, x1, x2, x3, x4⟩ := BX.out _ G2.out
      obtain ⟨hbl0, q00, q01, q02, q03, _⟩ := Q0.out _ B2.out
      obtain ⟨hbl1, q10, q11, q12, q13, _⟩ := Q1.out _ B2.out
      cases r0
      case false =>
        go_wp2_with fail
        go_ret
        exact ⟨by first | rfl | simp, B2.out⟩
      case true =>
        go_wp2_with fail
        go_ret
        exact ⟨by first | rfl | simp, B2.out⟩

set_option maxRecDepth 100000 in
set_option maxHeartbeats 4000000 in
theorem rstmt28_any (g : Q → Nd → Bool) (F : Nat) (v : Value) (n : Nd) (w : World) (E : SaysF w F 20 #[] (g .expr)) (hk : n.kind = 28) (hft : Fits n) (hv : NdV w (F + 1) v n) :
    Calls Tryz.prog 21 #[v] w fun e w' => e = .returned (.bool (ofN (namedN n (twoB [43, 43] [45, 45] n.text)) 28 [g .expr])) ∧ Below w.heap.size w w' := by
  obtain ⟨A, c, rfl, hm⟩ := hv.val
  have hb : Below w.heap.size w (w.alloc (.cells (cellsOf n A c) 24)) := (Below.refl _ w).alloc (Nat.le_refl _) _
  have hw := Whole.new w 24 (cellsOf n A c)
  have LK := Lib.hid hv.lst
  have HF := Lib.hid fun k hk => hft.kid (k := k) hk
  have BX := Lib.hid fun W (h : Below (w.alloc (.cells (cellsOf n A c) 24)).heap.size (w.alloc (.cells (cellsOf n A c) 24)) W) => box_cells hw h
  have HB := Lib.hid hb
  have HE := Lib.hid E
  clear E hft hv hb hw
  unfold Nd.val
  obtain ⟨W1, hW1⟩ : ∃ W1, W1 = w.alloc (.cells (cellsOf n A c) 24) := ⟨_, rfl⟩
  rw [← hW1] at BX HB
  have hW2 : w.alloc (.cells #[.int .i64 n.kind, .string n.text, .slice A n.kids.length c, .int .i64 n.place] 24) = W1 := hW1.symm
  have HW := Lib.hid hW2
  clear hW1 hW2
  rw [hk] at BX HW ⊢
  by_cases hl : n.kids.length = 1
  case neg =>
    have a1 : ((n.kids.length : Int) == 1) = false := by rw [beq_eq_false_iff_ne]; omega
    have a2 : ((n.kids.length : Int) != 1) = true := by simp only [bne, a1]; rfl
    rw [nmNo (by omega) (by simpa using hl)]
    go_enter Tryz.func21, Tryz.ntmps21
    go_wp2_with fail
    go_ret
    exact ⟨by first | rfl | simp, by rw [HW.out]; exact HB.out⟩
  case pos =>
    obtain ⟨b, off, k0, A0, c0, rfl, hk0, hq0⟩ := LK.out.kidP (p := 0) (by omega)
    have f0 := HF.out k0 (List.mem_of_getElem? hk0)
    rw [nm1 (by omega) hk hl hk0]
    simp only [Nat.zero_mul, Nat.add_zero, Nat.one_mul, Nat.reduceMul] at hq0
    have C0 := Lib.hid fun W (h : Below w.heap.size w W) => HE.out.2 W _ k0 h f0 ((hq0 W h).2.2.2.2.2)
    have Q0 := Lib.hid hq0
    obtain ⟨hbl0, q00, q01, q02, q03, _⟩ := hq0 _ (Below.refl _ _)
    have l0 : (0 : Nat) < 1 := by omega
    unfold twoB
    clear LK HF f0 hq0 hk0
    unfold Nd.val at C0
    generalize g .expr k0 = r0 at C0 ⊢
    rw [hl] at BX HW  ⊢
    clear hl
    cases h2 : (n.text.toList == [43, 43])
    case false =>
      skip
      cases h3 : (n.text.toList == [45, 45])
      case false =>
        skip
        go_enter Tryz.func21, Tryz.ntmps21
        go_wp2_with fail
        go_ret
        exact ⟨by first | rfl | simp, by rw [HW.out]; exact HB.out⟩
      case true =>
        skip
        go_enter Tryz.func21, Tryz.ntmps21
        go_wp2_with fail
        rw [HW.out]
        refine (C0.out _ HB.out).mono ?_
        rintro e W2 ⟨rfl, b2⟩
        have B2 := Lib.hid (HB.out.trans (b2.mono HB.out.size))
        have G2 := Lib.hid b2
        clear b2 hbl0 q00 q01 q02 q03
        obtain ⟨x0, x1, x2, x3, x4⟩ := BX.out _ G2.out
        obtain ⟨hbl0, q00, q01, q02, q03, _⟩ := Q0.out _ B2.out
        cases r0
        case false =>
          go_wp2_with fail
          go_ret
          exact ⟨by first | rfl | simp, B2.out⟩
        case true =>
          go_wp2_with fail
          go_ret
          exact ⟨by first | rfl | simp, B2.out⟩
    case true =>
      skip
      go_enter Tryz.func21, Tryz.ntmps21
      go_wp2_with fail
      rw [HW.out]
      refine (C0.out _ HB.out).mono ?_
      rintro e W2 ⟨rfl, b2⟩
      have B2 := Lib.hid (HB.out.trans (b2.mono HB.out.size))
      have G2 := Lib.hid b2
      clear b2 hbl0 q00 q01 q02 q03
      obtain ⟨x0, x1, x2, x3, x4⟩ := BX.out _ G2.out
      obtain ⟨hbl0, q00, q01, q02, q03, _⟩ := Q0.out _ B2.out
      cases r0
      case false =>
        go_wp2_with fail
        go_ret
        exact ⟨by first | rfl | simp, B2.out⟩
      case true =>
        go_wp2_with fail
        go_ret
        exact ⟨by first | rfl | simp, B2.out⟩

set_option maxRecDepth 100000 in
set_option maxHeartbeats 4000000 in
theorem rstmt29_any (g : Q → Nd → Bool) (F : Nat) (v : Value) (n : Nd) (w : World) (E : SaysF w F 20 #[] (g .expr)) (hk : n.kind = 29) (hft : Fits n) (hv : NdV w (F + 1) v n) :
    Calls Tryz.prog 21 #[v] w fun e w' => e = .returned (.bool (ofN n 29 [call1B g])) ∧ Below w.heap.size w w' := by
  obtain ⟨A, c, rfl, hm⟩ := hv.val
  have hb : Below w.heap.size w (w.alloc (.cells (cellsOf n A c) 24)) := (Below.refl _ w).alloc (Nat.le_refl _) _
  have hw := Whole.new w 24 (cellsOf n A c)
  have LK := Lib.hid hv.lst
  have HF := Lib.hid fun k hk => hft.kid (k := k) hk
  have BX := Lib.hid fun W (h : Below (w.alloc (.cells (cellsOf n A c) 24)).heap.size (w.alloc (.cells (cellsOf n A c) 24)) W) => box_cells hw h
  have HB := Lib.hid hb
  have HE := Lib.hid E
  clear E hft hv hb hw
  unfold Nd.val
  obtain ⟨W1, hW1⟩ : ∃ W1, W1 = w.alloc (.cells (cellsOf n A c) 24) := ⟨_, rfl⟩
  rw [← hW1] at BX HB
  have hW2 : w.alloc (.cells #[.int .i64 n.kind, .string n.text, .slice A n.kids.length c, .int .i64 n.place] 24) = W1 := hW1.symm
  have HW := Lib.hid hW2
  clear hW1 hW2
  rw [hk] at BX HW ⊢
  by_cases hl : n.kids.length = 1
  case neg =>
    have a1 : ((n.kids.length : Int) == 1) = false := by rw [beq_eq_false_iff_ne]; omega
    have a2 : ((n.kids.length : Int) != 1) = true := by simp only [bne, a1]; rfl
    rw [ofNo (by simpa using hl)]
    cases h2 : (n.text.toList == [])
    case false =>
      go_enter Tryz.func21, Tryz.ntmps21
      go_wp2_with fail
      go_ret
      exact ⟨by first | rfl | simp, by rw [HW.out]; exact HB.out⟩
    case true =>
      go_enter Tryz.func21, Tryz.ntmps21
      go_wp2_with fail
      go_ret
      exact ⟨by first | rfl | simp, by rw [HW.out]; exact HB.out⟩
  case pos =>
    obtain ⟨b, off, k0, A0, c0, rfl, hk0, hq0⟩ := LK.out.kidP (p := 0) (by omega)
    have f0 := HF.out k0 (List.mem_of_getElem? hk0)
    rw [of1 hk hl hk0]
    simp only [Nat.zero_mul, Nat.add_zero, Nat.one_mul, Nat.reduceMul] at hq0
    have C0 := Lib.hid fun W (h : Below w.heap.size w W) => HE.out.2 W _ k0 h f0 ((hq0 W h).2.2.2.2.2)
    have Q0 := Lib.hid hq0
    obtain ⟨hbl0, q00, q01, q02, q03, _⟩ := hq0 _ (Below.refl _ _)
    have l0 : (0 : Nat) < 1 := by omega
    unfold call1B
    clear LK HF f0 hq0 hk0
    unfold Nd.val at C0
    generalize g .expr k0 = r0 at C0 ⊢
    rw [hl] at BX HW  ⊢
    clear hl
    cases h2 : (n.text.toList == [])
    case false =>
      skip
      go_enter Tryz.func21, Tryz.ntmps21
      go_wp2_with fail
      go_ret
      exact ⟨by first | rfl | simp, by rw [HW.out]; exact HB.out⟩
    case true =>
      skip
      cases h3 : (k0.kind == 21)
      case false =>
        skip
        go_enter Tryz.func21, Tryz.ntmps21
        go_wp2_with fail
        go_ret
        exact ⟨by first | rfl | simp, by rw [HW.out]; exact HB.out⟩
      case true =>
        skip
        go_enter Tryz.func21, Tryz.ntmps21
        go_wp2_with fail
        rw [HW.out]
        refine (C0.out _ HB.out).mono ?_
        rintro e W2 ⟨rfl, b2⟩
        have B2 := Lib.hid (HB.out.trans (b2.mono HB.out.size))
        have G2 := Lib.hid b2
        clear b2 hbl0 q00 q01 q02 q03
        obtain ⟨x0, x1, x2, x3, x4⟩ := BX.out _ G2.out
        obtain ⟨hbl0, q00, q01, q02, q03, _⟩ := Q0.out _ B2.out
        cases r0
        case false =>
          go_wp2_with fail
          go_ret
          exact ⟨by first | rfl | simp, B2.out⟩
        case true =>
          go_wp2_with fail
          go_ret
          exact ⟨by first | rfl | simp, B2.out⟩

set_option maxRecDepth 100000 in
set_option maxHeartbeats 4000000 in
theorem rstmt32_any (g : Q → Nd → Bool) (F : Nat) (v : Value) (n : Nd) (w : World) (TS : n.text.size ≤ 1048576) (E : SaysF w F 20 #[] (g .expr)) (BL : SaysF w F 39 #[] (blockB g)) (hk : n.kind = 32) (hft : Fits n) (hv : NdV w (F + 1) v n) :
    Calls Tryz.prog 21 #[v] w fun e w' => e = .returned (.bool (ofN (namedN n (rangedB n.text)) 32 [g .expr, blockB g])) ∧ Below w.heap.size w w' := by
  obtain ⟨A, c, rfl, hm⟩ := hv.val
  have hb : Below w.heap.size w (w.alloc (.cells (cellsOf n A c) 24)) := (Below.refl _ w).alloc (Nat.le_refl _) _
  have hw := Whole.new w 24 (cellsOf n A c)
  have LK := Lib.hid hv.lst
  have HF := Lib.hid fun k hk => hft.kid (k := k) hk
  have BX := Lib.hid fun W (h : Below (w.alloc (.cells (cellsOf n A c) 24)).heap.size (w.alloc (.cells (cellsOf n A c) 24)) W) => box_cells hw h
  have HB := Lib.hid hb
  have HTS := Lib.hid TS
  have HE := Lib.hid E
  have HBL := Lib.hid BL
  clear TS E BL hft hv hb hw
  unfold Nd.val
  obtain ⟨W1, hW1⟩ : ∃ W1, W1 = w.alloc (.cells (cellsOf n A c) 24) := ⟨_, rfl⟩
  rw [← hW1] at BX HB
  have hW2 : w.alloc (.cells #[.int .i64 n.kind, .string n.text, .slice A n.kids.length c, .int .i64 n.place] 24) = W1 := hW1.symm
  have HW := Lib.hid hW2
  clear hW1 hW2
  rw [hk] at BX HW ⊢
  by_cases hl : n.kids.length = 2
  case neg =>
    have a1 : ((n.kids.length : Int) == 2) = false := by rw [beq_eq_false_iff_ne]; omega
    have a2 : ((n.kids.length : Int) != 2) = true := by simp only [bne, a1]; rfl
    rw [nmNo (by omega) (by simpa using hl)]
    go_enter Tryz.func21, Tryz.ntmps21
    go_wp2_with fail
    go_ret
    exact ⟨by first | rfl | simp, by rw [HW.out]; exact HB.out⟩
  case pos =>
    obtain ⟨b, off, k0, A0, c0, rfl, hk0, hq0⟩ := LK.out.kidP (p := 0) (by omega)
    obtain ⟨b', off', k1, A1, c1, hA, hk1, hq1⟩ := LK.out.kidP (p := 1) (by omega)
    injection hA with hA
    injection hA with e1 e2
    subst e1 e2
    have f0 := HF.out k0 (List.mem_of_getElem? hk0)
    have f1 := HF.out k1 (List.mem_of_getElem? hk1)
    rw [nm2 (by omega) hk hl hk0 hk1]
    simp only [Nat.zero_mul, Nat.add_zero, Nat.one_mul, Nat.reduceMul] at hq0 hq1
    have C0 := Lib.hid fun W (h : Below w.heap.size w W) => rranged_any n.text W HTS.out
    have C1 := Lib.hid fun W (h : Below w.heap.size w W) => HE.out.2 W _ k0 h f0 ((hq0 W h).2.2.2.2.2)
    have C2 := Lib.hid fun W (h : Below w.heap.size w W) => HBL.out.2 W _ k1 h f1 ((hq1 W h).2.2.2.2.2)
    have Q0 := Lib.hid hq0
    obtain ⟨hbl0, q00, q01, q02, q03, _⟩ := hq0 _ (Below.refl _ _)
    have l0 : (0 : Nat) < 2 := by omega
    have Q1 := Lib.hid hq1
    obtain ⟨hbl1, q10, q11, q12, q13, _⟩ := hq1 _ (Below.refl _ _)
    have l1 : (1 : Nat) < 2 := by omega
    clear LK HF f0 hq0 hk0 f1 hq1 hk1
    unfold Nd.val at C1 C2
    generalize rangedB n.text = r0 at C0 ⊢
    generalize g .expr k0 = r1 at C1 ⊢
    generalize blockB g k1 = r2 at C2 ⊢
    rw [hl] at BX HW  ⊢
    clear hl
    go_enter Tryz.func21, Tryz.ntmps21
    go_wp2_with fail
    rw [HW.out]
    refine (C0.out _ HB.out).mono ?_
    rintro e W2 ⟨rfl, b2⟩
    have B2 := Lib.hid (HB.out.trans (b2.mono HB.out.size))
    have G2 := Lib.hid b2
    clear b2 hbl0 q00 q01 q02 q03 hbl1 q10 q11 q12 q13
    obtain ⟨x0, x1, x2, x3, x4⟩ := BX.out _ G2.out
    obtain ⟨hbl0, q00, q01, q02, q03, _⟩ := Q0.out _ B2.out
    obtain ⟨hbl1, q10, q11, q12, q13, _⟩ := Q1.out _ B2.out
    cases r0
    case false =>
      go_wp2_with fail
      go_ret
      exact ⟨by first | rfl | simp, B2.out⟩
    case true =>
      go_wp2_with fail
      refine (C1.out _ B2.out).mono ?_
      rintro e W3 ⟨rfl, b2⟩
      have B3 := Lib.hid (B2.out.trans (b2.mono B2.out.size))
      have G3 := Lib.hid (G2.out.trans (b2.mono G2.out.size))
      clear b2 x0 x1 x2 x3 x4 hbl0 q00 q01 q02 q03 hbl1 q10 q11 q12 q13
      obtain ⟨x0, x1, x2, x3, x4⟩ := BX.out _ G3.out
      obtain ⟨hbl0, q00, q01, q02, q03, _⟩ := Q0.out _ B3.out
      obtain ⟨hbl1, q10, q11, q12, q13, _⟩ := Q1.out _ B3.out
      cases r1
      case false =>
        go_wp2_with fail
        go_ret
        exact ⟨by first | rfl | simp, B3.out⟩
      case true =>
        go_wp2_with fail
        refine (C2.out _ B3.out).mono ?_
        rintro e W4 ⟨rfl, b2⟩
        have B4 := Lib.hid (B3.out.trans (b2.mono B3.out.size))
        have G4 := Lib.hid (G3.out.trans (b2.mono G3.out.size))
        clear b2 x0 x1 x2 x3 x4 hbl0 q00 q01 q02 q03 hbl1 q10 q11 q12 q13
        obtain ⟨x0, x1, x2, x3, x4⟩ := BX.out _ G4.out
        obtain ⟨hbl0, q00, q01, q02, q03, _⟩ := Q0.out _ B4.out
        obtain ⟨hbl1, q10, q11, q12, q13, _⟩ := Q1.out _ B4.out
        cases r2
        case false =>
          go_wp2_with fail
          go_ret
          exact ⟨by first | rfl | simp, B4.out⟩
        case true =>
          go_wp2_with fail
          go_ret
          exact ⟨by first | rfl | simp, B4.out⟩

set_option maxRecDepth 100000 in
set_option maxHeartbeats 4000000 in
theorem rstmt33_any (g : Q → Nd → Bool) (F : Nat) (v : Value) (n : Nd) (w : World) (E : SaysF w F 20 #[] (g .expr)) (hk : n.kind = 33) (hft : Fits n) (hv : NdV w (F + 1) v n) :
    Calls Tryz.prog 21 #[v] w fun e w' => e = .returned (.bool (ofN n 33 [fun k => emptyB k || g .expr k])) ∧ Below w.heap.size w w' := by
  obtain ⟨A, c, rfl, hm⟩ := hv.val
  have hb : Below w.heap.size w (w.alloc (.cells (cellsOf n A c) 24)) := (Below.refl _ w).alloc (Nat.le_refl _) _
  have hw := Whole.new w 24 (cellsOf n A c)
  have LK := Lib.hid hv.lst
  have HF := Lib.hid fun k hk => hft.kid (k := k) hk
  have BX := Lib.hid fun W (h : Below (w.alloc (.cells (cellsOf n A c) 24)).heap.size (w.alloc (.cells (cellsOf n A c) 24)) W) => box_cells hw h
  have HB := Lib.hid hb
  have HE := Lib.hid E
  clear E hft hv hb hw
  unfold Nd.val
  obtain ⟨W1, hW1⟩ : ∃ W1, W1 = w.alloc (.cells (cellsOf n A c) 24) := ⟨_, rfl⟩
  rw [← hW1] at BX HB
  have hW2 : w.alloc (.cells #[.int .i64 n.kind, .string n.text, .slice A n.kids.length c, .int .i64 n.place] 24) = W1 := hW1.symm
  have HW := Lib.hid hW2
  clear hW1 hW2
  rw [hk] at BX HW ⊢
  by_cases hl : n.kids.length = 1
  case neg =>
    have a1 : ((n.kids.length : Int) == 1) = false := by rw [beq_eq_false_iff_ne]; omega
    have a2 : ((n.kids.length : Int) != 1) = true := by simp only [bne, a1]; rfl
    rw [ofNo (by simpa using hl)]
    cases h2 : (n.text.toList == [])
    case false =>
      go_enter Tryz.func21, Tryz.ntmps21
      go_wp2_with fail
      go_ret
      exact ⟨by first | rfl | simp, by rw [HW.out]; exact HB.out⟩
    case true =>
      go_enter Tryz.func21, Tryz.ntmps21
      go_wp2_with fail
      go_ret
      exact ⟨by first | rfl | simp, by rw [HW.out]; exact HB.out⟩
  case pos =>
    obtain ⟨b, off, k0, A0, c0, rfl, hk0, hq0⟩ := LK.out.kidP (p := 0) (by omega)
    have f0 := HF.out k0 (List.mem_of_getElem? hk0)
    rw [of1 hk hl hk0]
    simp only [Nat.zero_mul, Nat.add_zero, Nat.one_mul, Nat.reduceMul] at hq0
    have C0 := Lib.hid fun W (h : Below w.heap.size w W) => nothing_any F _ k0 W ((hq0 W h).2.2.2.2.2)
    have C1 := Lib.hid fun W (h : Below w.heap.size w W) => HE.out.2 W _ k0 h f0 ((hq0 W h).2.2.2.2.2)
    have Q0 := Lib.hid hq0
    obtain ⟨hbl0, q00, q01, q02, q03, _⟩ := hq0 _ (Below.refl _ _)
    have l0 : (0 : Nat) < 1 := by omega
    clear LK HF f0 hq0 hk0
    unfold Nd.val at C0 C1
    generalize emptyB k0 = r0 at C0 ⊢
    generalize g .expr k0 = r1 at C1 ⊢
    rw [hl] at BX HW  ⊢
    clear hl
    cases h2 : (n.text.toList == [])
    case false =>
      skip
      go_enter Tryz.func21, Tryz.ntmps21
      go_wp2_with fail
      go_ret
      exact ⟨by first | rfl | simp, by rw [HW.out]; exact HB.out⟩
    case true =>
      skip
      go_enter Tryz.func21, Tryz.ntmps21
      go_wp2_with fail
      rw [HW.out]
      refine (C0.out _ HB.out).mono ?_
      rintro e W2 ⟨rfl, b2⟩
      have B2 := Lib.hid (HB.out.trans (b2.mono HB.out.size))
      have G2 := Lib.hid b2
      clear b2 hbl0 q00 q01 q02 q03
      obtain ⟨x0, x1, x2, x3, x4⟩ := BX.out _ G2.out
      obtain ⟨hbl0, q00, q01, q02, q03, _⟩ := Q0.out _ B2.out
      cases r0
      case false =>
        go_wp2_with fail
        refine (C1.out _ B2.out).mono ?_
        rintro e W3 ⟨rfl, b2⟩
        have B3 := Lib.hid (B2.out.trans (b2.mono B2.out.size))
        have G3 := Lib.hid (G2.out.trans (b2.mono G2.out.size))
        clear b2 x0 x1 x2 x3 x4 hbl0 q00 q01 q02 q03
        obtain ⟨x0, x1, x2, x3, x4⟩ := BX.out _ G3.out
        obtain ⟨hbl0, q00, q01, q02, q03, _⟩ := Q0.out _ B3.out
        cases r1
        case false =>
          go_wp2_with fail
          go_ret
          exact ⟨by first | rfl | simp, B3.out⟩
        case true =>
          go_wp2_with fail
          go_ret
          exact ⟨by first | rfl | simp, B3.out⟩
      case true =>
        go_wp2_with fail
        go_ret
        exact ⟨by first | rfl | simp, B2.out⟩

set_option maxRecDepth 100000 in
set_option maxHeartbeats 4000000 in
theorem rstmt34_any (g : Q → Nd → Bool) (F : Nat) (v : Value) (n : Nd) (w : World)  (hk : n.kind = 34) (hft : Fits n) (hv : NdV w (F + 1) v n) :
    Calls Tryz.prog 21 #[v] w fun e w' => e = .returned (.bool (ofN n 34 [])) ∧ Below w.heap.size w w' := by
  obtain ⟨A, c, rfl, hm⟩ := hv.val
  have hb : Below w.heap.size w (w.alloc (.cells (cellsOf n A c) 24)) := (Below.refl _ w).alloc (Nat.le_refl _) _
  have hw := Whole.new w 24 (cellsOf n A c)
  have LK := Lib.hid hv.lst
  have HF := Lib.hid fun k hk => hft.kid (k := k) hk
  have BX := Lib.hid fun W (h : Below (w.alloc (.cells (cellsOf n A c) 24)).heap.size (w.alloc (.cells (cellsOf n A c) 24)) W) => box_cells hw h
  have HB := Lib.hid hb
  clear hft hv hb hw
  unfold Nd.val
  obtain ⟨W1, hW1⟩ : ∃ W1, W1 = w.alloc (.cells (cellsOf n A c) 24) := ⟨_, rfl⟩
  rw [← hW1] at BX HB
  have hW2 : w.alloc (.cells #[.int .i64 n.kind, .string n.text, .slice A n.kids.length c, .int .i64 n.place] 24) = W1 := hW1.symm
  have HW := Lib.hid hW2
  clear hW1 hW2
  rw [hk] at BX HW ⊢
  by_cases hl : n.kids.length = 0
  case neg =>
    have a1 : ((n.kids.length : Int) == 0) = false := by rw [beq_eq_false_iff_ne]; omega
    have a2 : ((n.kids.length : Int) != 0) = true := by simp only [bne, a1]; rfl
    rw [ofNo (by simpa using hl)]
    cases h2 : (n.text.toList == [])
    case false =>
      go_enter Tryz.func21, Tryz.ntmps21
      go_wp2_with fail
      go_ret
      exact ⟨by first | rfl | simp, by rw [HW.out]; exact HB.out⟩
    case true =>
      go_enter Tryz.func21, Tryz.ntmps21
      go_wp2_with fail
      go_ret
      exact ⟨by first | rfl | simp, by rw [HW.out]; exact HB.out⟩
  case pos =>
    rw [of0 hk hl]
    clear LK HF 
    rw [hl] at BX HW  ⊢
    clear hl
    cases h2 : (n.text.toList == [])
    case false =>
      skip
      go_enter Tryz.func21, Tryz.ntmps21
      go_wp2_with fail
      go_ret
      exact ⟨by first | rfl | simp, by rw [HW.out]; exact HB.out⟩
    case true =>
      skip
      go_enter Tryz.func21, Tryz.ntmps21
      go_wp2_with fail
      go_ret
      exact ⟨by first | rfl | simp, by rw [HW.out]; exact HB.out⟩

set_option maxRecDepth 100000 in
set_option maxHeartbeats 4000000 in
theorem rstmt35_any (g : Q → Nd → Bool) (F : Nat) (v : Value) (n : Nd) (w : World)  (hk : n.kind = 35) (hft : Fits n) (hv : NdV w (F + 1) v n) :
    Calls Tryz.prog 21 #[v] w fun e w' => e = .returned (.bool (ofN n 35 [])) ∧ Below w.heap.size w w' := by
  obtain ⟨A, c, rfl, hm⟩ := hv.val
  have hb : Below w.heap.size w (w.alloc (.cells (cellsOf n A c) 24)) := (Below.refl _ w).alloc (Nat.le_refl _) _
  have hw := Whole.new w 24 (cellsOf n A c)
  have LK := Lib.hid hv.lst
  have HF := Lib.hid fun k hk => hft.kid (k := k) hk
  have BX := Lib.hid fun W (h : Below (w.alloc (.cells (cellsOf n A c) 24)).heap.size (w.alloc (.cells (cellsOf n A c) 24)) W) => box_cells hw h
  have HB := Lib.hid hb
  clear hft hv hb hw
  unfold Nd.val
  obtain ⟨W1, hW1⟩ : ∃ W1, W1 = w.alloc (.cells (cellsOf n A c) 24) := ⟨_, rfl⟩
  rw [← hW1] at BX HB
  have hW2 : w.alloc (.cells #[.int .i64 n.kind, .string n.text, .slice A n.kids.length c, .int .i64 n.place] 24) = W1 := hW1.symm
  have HW := Lib.hid hW2
  clear hW1 hW2
  rw [hk] at BX HW ⊢
  by_cases hl : n.kids.length = 0
  case neg =>
    have a1 : ((n.kids.length : Int) == 0) = false := by rw [beq_eq_false_iff_ne]; omega
    have a2 : ((n.kids.length : Int) != 0) = true := by simp only [bne, a1]; rfl
    rw [ofNo (by simpa using hl)]
    cases h2 : (n.text.toList == [])
    case false =>
      go_enter Tryz.func21, Tryz.ntmps21
      go_wp2_with fail
      go_ret
      exact ⟨by first | rfl | simp, by rw [HW.out]; exact HB.out⟩
    case true =>
      go_enter Tryz.func21, Tryz.ntmps21
      go_wp2_with fail
      go_ret
      exact ⟨by first | rfl | simp, by rw [HW.out]; exact HB.out⟩
  case pos =>
    rw [of0 hk hl]
    clear LK HF 
    rw [hl] at BX HW  ⊢
    clear hl
    cases h2 : (n.text.toList == [])
    case false =>
      skip
      go_enter Tryz.func21, Tryz.ntmps21
      go_wp2_with fail
      go_ret
      exact ⟨by first | rfl | simp, by rw [HW.out]; exact HB.out⟩
    case true =>
      skip
      go_enter Tryz.func21, Tryz.ntmps21
      go_wp2_with fail
      go_ret
      exact ⟨by first | rfl | simp, by rw [HW.out]; exact HB.out⟩

set_option maxRecDepth 100000 in
set_option maxHeartbeats 4000000 in
theorem rstmt5_any (g : Q → Nd → Bool) (F : Nat) (v : Value) (n : Nd) (w : World) (V : SaysF w (F + 1) 37 #[] (varB g)) (hk : n.kind = 5) (hft : Fits n) (hv : NdV w (F + 1) v n) :
    Calls Tryz.prog 21 #[v] w fun e w' => e = .returned (.bool (varB g n)) ∧ Below w.heap.size w w' := by
  obtain ⟨A, c, rfl, hm⟩ := hv.val
  have hb : Below w.heap.size w (w.alloc (.cells #[.int .i64 n.kind, .string n.text, .slice A n.kids.length c, .int .i64 n.place] 24)) := (Below.refl _ w).alloc (Nat.le_refl _) _
  have AL := Lib.hid (V.2 _ _ n hb hft (hv.below hb))
  have HB := Lib.hid hb

  clear hb hv V hft
  unfold Nd.val at AL ⊢
  generalize varB g n = r at AL ⊢
  rw [hk] at AL HB ⊢
  go_enter Tryz.func21, Tryz.ntmps21
  go_wp2_with fail
  refine AL.out.mono ?_
  rintro e w2 ⟨rfl, b2⟩
  have HB2 := Lib.hid (HB.out.trans (b2.mono HB.out.size))
  clear b2
  go_wp2_with fail
  go_ret
  exact ⟨rfl, HB2.out⟩

set_option maxRecDepth 100000 in
set_option maxHeartbeats 4000000 in
theorem rstmto_any (g : Q → Nd → Bool) (F : Nat) (v : Value) (n : Nd) (w : World) (V : SaysF w (F + 1) 39 #[] (blockB g)) (h5 : n.kind ≠ 5) (h26 : n.kind ≠ 26) (h27 : n.kind ≠ 27) (h28 : n.kind ≠ 28) (h29 : n.kind ≠ 29) (h30 : n.kind ≠ 30) (h31 : n.kind ≠ 31) (h32 : n.kind ≠ 32) (h33 : n.kind ≠ 33) (h34 : n.kind ≠ 34) (h35 : n.kind ≠ 35) (hft : Fits n) (hv : NdV w (F + 1) v n) :
    Calls Tryz.prog 21 #[v] w fun e w' => e = .returned (.bool (blockB g n)) ∧ Below w.heap.size w w' := by
  obtain ⟨A, c, rfl, hm⟩ := hv.val
  have hb : Below w.heap.size w (w.alloc (.cells #[.int .i64 n.kind, .string n.text, .slice A n.kids.length c, .int .i64 n.place] 24)) := (Below.refl _ w).alloc (Nat.le_refl _) _
  have AL := Lib.hid (V.2 _ _ n hb hft (hv.below hb))
  have HB := Lib.hid hb
  have e5 : (n.kind == 5) = false := by simpa using h5
  have e26 : (n.kind == 26) = false := by simpa using h26
  have e27 : (n.kind == 27) = false := by simpa using h27
  have e28 : (n.kind == 28) = false := by simpa using h28
  have e29 : (n.kind == 29) = false := by simpa using h29
  have e30 : (n.kind == 30) = false := by simpa using h30
  have e31 : (n.kind == 31) = false := by simpa using h31
  have e32 : (n.kind == 32) = false := by simpa using h32
  have e33 : (n.kind == 33) = false := by simpa using h33
  have e34 : (n.kind == 34) = false := by simpa using h34
  have e35 : (n.kind == 35) = false := by simpa using h35
  clear hb hv V hft
  unfold Nd.val at AL ⊢
  generalize blockB g n = r at AL ⊢
  go_enter Tryz.func21, Tryz.ntmps21
  go_wp2_with fail
  refine AL.out.mono ?_
  rintro e w2 ⟨rfl, b2⟩
  have HB2 := Lib.hid (HB.out.trans (b2.mono HB.out.size))
  clear b2
  go_wp2_with fail
  go_ret
  exact ⟨rfl, HB2.out⟩

end Go.Proofs.YtkmhijkpbmcgbaaGreat

namespace Go.Proofs.YtkmhijkpbmcgbaaGreat
set_option linter.all false
open Go.RowKit Go.Shelf

theorem rkind_w (g : Q → Nd → Bool) (F : Nat) (v : Value) (n : Nd) (W : World) (S : SaysF W F 21 #[] (g .stmt)) (ks : List Int) (T : TypeId) (hl : ks.length ≤ 10) (hft : Fits n) (hv : NdV W F v n) :
    Calls Tryz.prog 46 #[v, .slice (some ⟨W.heap.size, 0, none⟩) ks.length ks.length] (W.alloc (.cells (ks.map (Value.int .i64 ·)).toArray T)) fun e w' => e = .returned (.bool (ks.any (n.kind == ·) && g .stmt n)) ∧ Below W.heap.size W w' := by
  have hb : Below W.heap.size W (W.alloc (.cells (ks.map (Value.int .i64 ·)).toArray T)) := (Below.refl _ W).alloc (Nat.le_refl _) _
  refine (rkind_any g F v n _ (S.below hb) ks W.heap.size 0 ks.length (by unfold maxLen; omega) ?_ hft (hv.below hb)).mono ?_
  · intro i x hx
    have := (Whole.new W T (ks.map (Value.int .i64 ·)).toArray).cell (0 + i)
    rw [this]
    simp [hx]
  · rintro e w' ⟨rfl, b⟩
    exact ⟨rfl, hb.trans (b.mono hb.size)⟩
/-- What may stand behind an if: nothing, a block, an if. -/
theorem iff_kind {g : Q → Nd → Bool} {k : Nd} (h1 : g .stmt k = stmtB g k) (h2 : g .iff k = ifB g k) : ((emptyB k || blockB g k) || g .iff k) = (emptyB k || ([36, 30].any (k.kind == ·) && g .stmt k)) := by
  rw [h1, h2, Bool.or_assoc]
  congr 1
  by_cases h36 : k.kind = 36
  · have e1 : ifB g k = false := by unfold ifB; rw [of_eq, h36]; rfl
    have e2 : stmtB g k = blockB g k := by unfold stmtB; rw [h36]; rfl
    rw [e1, e2, h36]; simp
  · by_cases h30 : k.kind = 30
    · have e1 : blockB g k = false := by unfold blockB; rw [h30]; rfl
      have e2 : stmtB g k = ifB g k := by unfold stmtB; rw [h30]; rfl
      rw [e1, e2, h30]; simp
    · have e1 : blockB g k = false := by
        unfold blockB
        have : (k.kind == 36) = false := by simpa using h36
        rw [this]; rfl
      have e2 : ifB g k = false := by
        unfold ifB; rw [of_eq]
        have : (k.kind == 30) = false := by simpa using h30
        rw [this]; rfl
      have e3 : (k.kind == 36) = false := by simpa using h36
      have e4 : (k.kind == 30) = false := by simpa using h30
      rw [e1, e2]
      simp [h30, h36]

set_option maxRecDepth 100000 in
set_option maxHeartbeats 4000000 in
theorem rstmt30_any (g : Q → Nd → Bool) (F : Nat) (v : Value) (n : Nd) (w : World) (E : SaysF w F 20 #[] (g .expr)) (BL : SaysF w F 39 #[] (blockB g)) (S : SaysF w F 21 #[] (g .stmt)) (FX : ∀ k, Low F k → ∀ q, g q k = askN g q k) (hk : n.kind = 30) (hft : Fits n) (hv : NdV w (F + 1) v n) :
    Calls Tryz.prog 21 #[v] w fun e w' => e = .returned (.bool (ifB g n)) ∧ Below w.heap.size w w' := by
  obtain ⟨A, c, rfl, hm⟩ := hv.val
  have hb : Below w.heap.size w (w.alloc (.cells (cellsOf n A c) 24)) := (Below.refl _ w).alloc (Nat.le_refl _) _
  have hw := Whole.new w 24 (cellsOf n A c)
  have LK := Lib.hid hv.lst
  have HF := Lib.hid fun k hk => hft.kid (k := k) hk
  have BX := Lib.hid fun W (h : Below (w.alloc (.cells (cellsOf n A c) 24)).heap.size (w.alloc (.cells (cellsOf n A c) 24)) W) => box_cells hw h
  have HB := Lib.hid hb
  have HE := Lib.hid E
  have HBL := Lib.hid BL
  have HS := Lib.hid S
  clear E BL S hft hv hb hw
  unfold Nd.val
  obtain ⟨W1, hW1⟩ : ∃ W1, W1 = w.alloc (.cells (cellsOf n A c) 24) := ⟨_, rfl⟩
  rw [← hW1] at BX HB
  have hW2 : w.alloc (.cells #[.int .i64 n.kind, .string n.text, .slice A n.kids.length c, .int .i64 n.place] 24) = W1 := hW1.symm
  have HW := Lib.hid hW2
  clear hW1 hW2
  rw [hk] at BX HW ⊢
  by_cases hl : n.kids.length = 3
  case neg =>
    have a1 : ((n.kids.length : Int) == 3) = false := by rw [beq_eq_false_iff_ne]; omega
    have a2 : ((n.kids.length : Int) != 3) = true := by simp only [bne, a1]; rfl
    rw [show ifB g n = _ from ofNo (by simpa using hl)]
    cases h2 : (n.text.toList == [])
    case false =>
      go_enter Tryz.func21, Tryz.ntmps21
      go_wp2_with fail
      go_ret
      exact ⟨by first | rfl | simp, by rw [HW.out]; exact HB.out⟩
    case true =>
      go_enter Tryz.func21, Tryz.ntmps21
      go_wp2_with fail
      go_ret
      exact ⟨by first | rfl | simp, by rw [HW.out]; exact HB.out⟩
  case pos =>
    obtain ⟨b, off, k0, A0, c0, rfl, hk0, hq0⟩ := LK.out.kidP (p := 0) (by omega)
    obtain ⟨b', off', k1, A1, c1, hA, hk1, hq1⟩ := LK.out.kidP (p := 1) (by omega)
    injection hA with hA
    injection hA with e1 e2
    subst e1 e2
    obtain ⟨b', off', k2, A2, c2, hA, hk2, hq2⟩ := LK.out.kidP (p := 2) (by omega)
    injection hA with hA
    injection hA with e1 e2
    subst e1 e2
    have f0 := HF.out k0 (List.mem_of_getElem? hk0)
    have f1 := HF.out k1 (List.mem_of_getElem? hk1)
    have f2 := HF.out k2 (List.mem_of_getElem? hk2)
    rw [show ifB g n = _ from of3 hk hl hk0 hk1 hk2, iff_kind (FX k2 (hq2 _ (Below.refl _ _)).2.2.2.2.2.low .stmt) (FX k2 (hq2 _ (Below.refl _ _)).2.2.2.2.2.low .iff)]
    simp only [Nat.zero_mul, Nat.add_zero, Nat.one_mul, Nat.reduceMul] at hq0 hq1 hq2
    have C0 := Lib.hid fun W (h : Below w.heap.size w W) => HE.out.2 W _ k0 h f0 ((hq0 W h).2.2.2.2.2)
    have C1 := Lib.hid fun W (h : Below w.heap.size w W) => HBL.out.2 W _ k1 h f1 ((hq1 W h).2.2.2.2.2)
    have C2 := Lib.hid fun W (h : Below w.heap.size w W) => nothing_any F _ k2 W ((hq2 W h).2.2.2.2.2)
    have C3 := Lib.hid fun W (h : Below w.heap.size w W) => rkind_w g F _ k2 W (HS.out.below h) [36, 30] 3 (by decide) f2 ((hq2 W h).2.2.2.2.2)
    have Q0 := Lib.hid hq0
    obtain ⟨hbl0, q00, q01, q02, q03, _⟩ := hq0 _ (Below.refl _ _)
    have l0 : (0 : Nat) < 3 := by omega
    have Q1 := Lib.hid hq1
    obtain ⟨hbl1, q10, q11, q12, q13, _⟩ := hq1 _ (Below.refl _ _)
    have l1 : (1 : Nat) < 3 := by omega
    have Q2 := Lib.hid hq2
    obtain ⟨hbl2, q20, q21, q22, q23, _⟩ := hq2 _ (Below.refl _ _)
    have l2 : (2 : Nat) < 3 := by omega
    clear LK HF f0 hq0 hk0 f1 hq1 hk1 f2 hq2 hk2
    unfold Nd.val at C0 C1 C2 C3
    generalize g .expr k0 = r0 at C0 ⊢
    generalize blockB g k1 = r1 at C1 ⊢
    generalize emptyB k2 = r2 at C2 ⊢
    generalize ([36, 30].any (k2.kind == ·) && g .stmt k2) = r3 at C3 ⊢
    rw [hl] at BX HW  ⊢
    clear hl
    cases h2 : (n.text.toList == [])
    case false =>
      skip
      go_enter Tryz.func21, Tryz.ntmps21
      go_wp2_with fail
      go_ret
      exact ⟨by first | rfl | simp, by rw [HW.out]; exact HB.out⟩
    case true =>
      skip
      go_enter Tryz.func21, Tryz.ntmps21
      go_wp2_with fail
      rw [HW.out]
      refine (C0.out _ HB.out).mono ?_
      rintro e W2 ⟨rfl, b2⟩
      have B2 := Lib.hid (HB.out.trans (b2.mono HB.out.size))
      have G2 := Lib.hid b2
      clear b2 hbl0 q00 q01 q02 q03 hbl1 q10 q11 q12 q13 hbl2 q20 q21 q22 q23
      obtain ⟨x0, x1, x2, x3, x4⟩ := BX.out _ G2.out
      obtain ⟨hbl0, q00, q01, q02, q03, _⟩ := Q0.out _ B2.out
      obtain ⟨hbl1, q10, q11, q12, q13, _⟩ := Q1.out _ B2.out
      obtain ⟨hbl2, q20, q21, q22, q23, _⟩ := Q2.out _ B2.out
      cases r0
      case false =>
        go_wp2_with fail
        go_ret
        exact ⟨by first | rfl | simp, B2.out⟩
      case true =>
        go_wp2_with fail
        refine (C1.out _ B2.out).mono ?_
        rintro e W3 ⟨rfl, b2⟩
        have B3 := Lib.hid (B2.out.trans (b2.mono B2.out.size))
        have G3 := Lib.hid (G2.out.trans (b2.mono G2.out.size))
        clear b2 x0 x1 x2 x3 x4 hbl0 q00 q01 q02 q03 hbl1 q10 q11 q12 q13 hbl2 q20 q21 q22 q23
        obtain ⟨x0, x1, x2, x3, x4⟩ := BX.out _ G3.out
        obtain ⟨hbl0, q00, q01, q02, q03, _⟩ := Q0.out _ B3.out
        obtain ⟨hbl1, q10, q11, q12, q13, _⟩ := Q1.out _ B3.out
        obtain ⟨hbl2, q20, q21, q22, q23, _⟩ := Q2.out _ B3.out
        cases r1
        case false =>
          go_wp2_with fail
          go_ret
          exact ⟨by first | rfl | simp, B3.out⟩
        case true =>
          go_wp2_with fail
          refine (C2.out _ B3.out).mono ?_
          rintro e W4 ⟨rfl, b2⟩
          have B4 := Lib.hid (B3.out.trans (b2.mono B3.out.size))
          have G4 := Lib.hid (G3.out.trans (b2.mono G3.out.size))
          clear b2 x0 x1 x2 x3 x4 hbl0 q00 q01 q02 q03 hbl1 q10 q11 q12 q13 hbl2 q20 q21 q22 q23
          obtain ⟨x0, x1, x2, x3, x4⟩ := BX.out _ G4.out
          obtain ⟨hbl0, q00, q01, q02, q03, _⟩ := Q0.out _ B4.out
          obtain ⟨hbl1, q10, q11, q12, q13, _⟩ := Q1.out _ B4.out
          obtain ⟨hbl2, q20, q21, q22, q23, _⟩ := Q2.out _ B4.out
          cases r2
          case false =>
            go_wp2_with fail
            refine (C3.out _ B4.out).mono ?_
            rintro e W5 ⟨rfl, b2⟩
            have B5 := Lib.hid (B4.out.trans (b2.mono B4.out.size))
            have G5 := Lib.hid (G4.out.trans (b2.mono G4.out.size))
            clear b2 x0 x1 x2 x3 x4 hbl0 q00 q01 q02 q03 hbl1 q10 q11 q12 q13 hbl2 q20 q21 q22 q23
            obtain ⟨x0, x1, x2, x3, x4⟩ := BX.out _ G5.out
            obtain ⟨hbl0, q00, q01, q02, q03, _⟩ := Q0.out _ B5.out
            obtain ⟨hbl1, q10, q11, q12, q13, _⟩ := Q1.out _ B5.out
            obtain ⟨hbl2, q20, q21, q22, q23, _⟩ := Q2.out _ B5.out
            cases r3
            case false =>
              go_wp2_with fail
              go_ret
              exact ⟨by first | rfl | simp, B5.out⟩
            case true =>
              go_wp2_with fail
              go_ret
              exact ⟨by first | rfl | simp, B5.out⟩
          case true =>
            go_wp2_with fail
            go_ret
            exact ⟨by first | rfl | simp, B4.out⟩

end Go.Proofs.YtkmhijkpbmcgbaaGreat

namespace Go.Proofs.YtkmhijkpbmcgbaaGreat
set_option linter.all false
open Go.RowKit Go.Shelf

theorem nm_kind {n : Nd} {K : Int} {r : Bool} {qs : List (Nd → Bool)} (hK : K ≠ 37) (h : n.kind ≠ K) : ofN (namedN n r) K qs = false := by
  rw [named_eq hK]
  have : (n.kind == K) = false := by simpa using h
  rw [this]; simp
theorem of_kind {n : Nd} {K : Int} {qs : List (Nd → Bool)} (h : n.kind ≠ K) : ofN n K qs = false := by
  rw [of_eq]
  have : (n.kind == K) = false := by simpa using h
  rw [this]; simp
section
variable {g : Q → Nd → Bool} {k : Nd}
theorem short_k (h : k.kind ≠ 26) : shortB g k = false := nm_kind (by omega) h
theorem set_k (h : k.kind ≠ 27) : setB g k = false := of_kind h
theorem inc_k (h : k.kind ≠ 28) : incB g k = false := nm_kind (by omega) h
theorem call_k (h : k.kind ≠ 29) : callB g k = false := of_kind h
theorem for_kind0 (h1 : g .stmt k = stmtB g k) : ((emptyB k || shortB g k) || (setB g k || incB g k)) = (emptyB k || ([26, 27, 28].any (k.kind == ·) && g .stmt k)) := by
  rw [h1, Bool.or_assoc]
  congr 1
  by_cases h26 : k.kind = 26
  · have e2 : stmtB g k = shortB g k := by unfold stmtB; rw [h26]; rfl
    rw [set_k (by omega), inc_k (by omega), e2, h26]; simp
  by_cases h27 : k.kind = 27
  · have e2 : stmtB g k = setB g k := by unfold stmtB; rw [h27]; rfl
    rw [short_k (by omega), inc_k (by omega), e2, h27]; simp
  by_cases h28 : k.kind = 28
  · have e2 : stmtB g k = incB g k := by unfold stmtB; rw [h28]; rfl
    rw [short_k (by omega), set_k (by omega), e2, h28]; simp
  rw [short_k h26, set_k h27, inc_k h28]
  simp [h26, h27, h28]
theorem for_kind2 (h1 : g .stmt k = stmtB g k) : ((emptyB k || setB g k) || (incB g k || callB g k)) = (emptyB k || ([27, 28, 29].any (k.kind == ·) && g .stmt k)) := by
  rw [h1, Bool.or_assoc]
  congr 1
  by_cases h29 : k.kind = 29
  · have e2 : stmtB g k = callB g k := by unfold stmtB; rw [h29]; rfl
    rw [set_k (by omega), inc_k (by omega), e2, h29]; simp
  by_cases h27 : k.kind = 27
  · have e2 : stmtB g k = setB g k := by unfold stmtB; rw [h27]; rfl
    rw [call_k (by omega), inc_k (by omega), e2, h27]; simp
  by_cases h28 : k.kind = 28
  · have e2 : stmtB g k = incB g k := by unfold stmtB; rw [h28]; rfl
    rw [call_k (by omega), set_k (by omega), e2, h28]; simp
  rw [call_k h29, set_k h27, inc_k h28]
  simp [h29, h27, h28]
end

set_option maxRecDepth 100000 in
set_option maxHeartbeats 4000000 in
theorem rstmt31_any (g : Q → Nd → Bool) (F : Nat) (v : Value) (n : Nd) (w : World) (S : SaysF w F 21 #[] (g .stmt)) (E : SaysF w F 20 #[] (g .expr)) (BL : SaysF w F 39 #[] (blockB g)) (FX : ∀ k, Low F k → ∀ q, g q k = askN g q k) (hk : n.kind = 31) (hft : Fits n) (hv : NdV w (F + 1) v n) :
    Calls Tryz.prog 21 #[v] w fun e w' => e = .returned (.bool (ofN n 31 [fun k => (emptyB k || shortB g k) || (setB g k || incB g k), fun k => emptyB k || g .expr k, fun k => (emptyB k || setB g k) || (incB g k || callB g k), blockB g])) ∧ Below w.heap.size w w' := by
  obtain ⟨A, c, rfl, hm⟩ := hv.val
  have hb : Below w.heap.size w (w.alloc (.cells (cellsOf n A c) 24)) := (Below.refl _ w).alloc (Nat.le_refl _) _
  have hw := Whole.new w 24 (cellsOf n A c)
  have LK := Lib.hid hv.lst
  have HF := Lib.hid fun k hk => hft.kid (k := k) hk
  have BX := Lib.hid fun W (h : Below (w.alloc (.cells (cellsOf n A c) 24)).heap.size (w.alloc (.cells (cellsOf n A c) 24)) W) => box_cells hw h
  have HB := Lib.hid hb
  have HS := Lib.hid S
  have HE := Lib.hid E
  have HBL := Lib.hid BL
  clear S E BL hft hv hb hw
  unfold Nd.val
  obtain ⟨W1, hW1⟩ : ∃ W1, W1 = w.alloc (.cells (cellsOf n A c) 24) := ⟨_, rfl⟩
  rw [← hW1] at BX HB
  have hW2 : w.alloc (.cells #[.int .i64 n.kind, .string n.text, .slice A n.kids.length c, .int .i64 n.place] 24) = W1 := hW1.symm
  have HW := Lib.hid hW2
  clear hW1 hW2
  rw [hk] at BX HW ⊢
  by_cases hl : n.kids.length = 4
  case neg =>
    have a1 : ((n.kids.length : Int) == 4) = false := by rw [beq_eq_false_iff_ne]; omega
    have a2 : ((n.kids.length : Int) != 4) = true := by simp only [bne, a1]; rfl
    rw [ofNo (by simpa using hl)]
    cases h2 : (n.text.toList == [])
    case false =>
      go_enter Tryz.func21, Tryz.ntmps21
      go_wp2_with fail
      go_ret
      exact ⟨by first | rfl | simp, by rw [HW.out]; exact HB.out⟩
    case true =>
      go_enter Tryz.func21, Tryz.ntmps21
      go_wp2_with fail
      go_ret
      exact ⟨by first | rfl | simp, by rw [HW.out]; exact HB.out⟩
  case pos =>
    obtain ⟨b, off, k0, A0, c0, rfl, hk0, hq0⟩ := LK.out.kidP (p := 0) (by omega)
    obtain ⟨b', off', k1, A1, c1, hA, hk1, hq1⟩ := LK.out.kidP (p := 1) (by omega)
    injection hA with hA
    injection hA with e1 e2
    subst e1 e2
    obtain ⟨b', off', k2, A2, c2, hA, hk2, hq2⟩ := LK.out.kidP (p := 2) (by omega)
    injection hA with hA
    injection hA with e1 e2
    subst e1 e2
    obtain ⟨b', off', k3, A3, c3, hA, hk3, hq3⟩ := LK.out.kidP (p := 3) (by omega)
    injection hA with hA
    injection hA with e1 e2
    subst e1 e2
    have f0 := HF.out k0 (List.mem_of_getElem? hk0)
    have f1 := HF.out k1 (List.mem_of_getElem? hk1)
    have f2 := HF.out k2 (List.mem_of_getElem? hk2)
    have f3 := HF.out k3 (List.mem_of_getElem? hk3)
    rw [of4 hk hl hk0 hk1 hk2 hk3, for_kind0 (FX k0 (hq0 _ (Below.refl _ _)).2.2.2.2.2.low .stmt), for_kind2 (FX k2 (hq2 _ (Below.refl _ _)).2.2.2.2.2.low .stmt)]
    simp only [Nat.zero_mul, Nat.add_zero, Nat.one_mul, Nat.reduceMul] at hq0 hq1 hq2 hq3
    have C0 := Lib.hid fun W (h : Below w.heap.size w W) => nothing_any F _ k0 W ((hq0 W h).2.2.2.2.2)
    have C1 := Lib.hid fun W (h : Below w.heap.size w W) => rkind_w g F _ k0 W (HS.out.below h) [26, 27, 28] 3 (by decide) f0 ((hq0 W h).2.2.2.2.2)
    have C2 := Lib.hid fun W (h : Below w.heap.size w W) => nothing_any F _ k1 W ((hq1 W h).2.2.2.2.2)
    have C3 := Lib.hid fun W (h : Below w.heap.size w W) => HE.out.2 W _ k1 h f1 ((hq1 W h).2.2.2.2.2)
    have C4 := Lib.hid fun W (h : Below w.heap.size w W) => nothing_any F _ k2 W ((hq2 W h).2.2.2.2.2)
    have C5 := Lib.hid fun W (h : Below w.heap.size w W) => rkind_w g F _ k2 W (HS.out.below h) [27, 28, 29] 3 (by decide) f2 ((hq2 W h).2.2.2.2.2)
    have C6 := Lib.hid fun W (h : Below w.heap.size w W) => HBL.out.2 W _ k3 h f3 ((hq3 W h).2.2.2.2.2)
    have Q0 := Lib.hid hq0
    obtain ⟨hbl0, q00, q01, q02, q03, _⟩ := hq0 _ (Below.refl _ _)
    have l0 : (0 : Nat) < 4 := by omega
    have Q1 := Lib.hid hq1
    obtain ⟨hbl1, q10, q11, q12, q13, _⟩ := hq1 _ (Below.refl _ _)
    have l1 : (1 : Nat) < 4 := by omega
    have Q2 := Lib.hid hq2
    obtain ⟨hbl2, q20, q21, q22, q23, _⟩ := hq2 _ (Below.refl _ _)
    have l2 : (2 : Nat) < 4 := by omega
    have Q3 := Lib.hid hq3
    obtain ⟨hbl3, q30, q31, q32, q33, _⟩ := hq3 _ (Below.refl _ _)
    have l3 : (3 : Nat) < 4 := by omega
    clear LK HF f0 hq0 hk0 f1 hq1 hk1 f2 hq2 hk2 f3 hq3 hk3
    unfold Nd.val at C0 C1 C2 C3 C4 C5 C6
    generalize emptyB k0 = r0 at C0 ⊢
    generalize ([26, 27, 28].any (k0.kind == ·) && g .stmt k0) = r1 at C1 ⊢
    generalize emptyB k1 = r2 at C2 ⊢
    generalize g .expr k1 = r3 at C3 ⊢
    generalize emptyB k2 = r4 at C4 ⊢
    generalize ([27, 28, 29].any (k2.kind == ·) && g .stmt k2) = r5 at C5 ⊢
    generalize blockB g k3 = r6 at C6 ⊢
    rw [hl] at BX HW  ⊢
    clear hl
    cases h2 : (n.text.toList == [])
    case false =>
      skip
      go_enter Tryz.func21, Tryz.ntmps21
      go_wp2_with fail
      go_ret
      exact ⟨by first | rfl | simp, by rw [HW.out]; exact HB.out⟩
    case true =>
      skip
      go_enter Tryz.func21, Tryz.ntmps21
      go_wp2_with fail
      rw [HW.out]
      refine (C0.out _ HB.out).mono ?_
      rintro e W2 ⟨rfl, b2⟩
      have B2 := Lib.hid (HB.out.trans (b2.mono HB.out.size))
      have G2 := Lib.hid b2
      clear b2 hbl0 q00 q01 q02 q03 hbl1 q10 q11 q12 q13 hbl2 q20 q21 q22 q23 hbl3 q30 q31 q32 q33
      obtain ⟨x0, x1, x2, x3, x4⟩ := BX.out _ G2.out
      obtain ⟨hbl0, q00, q01, q02, q03, _⟩ := Q0.out _ B2.out
      obtain ⟨hbl1, q10, q11, q12, q13, _⟩ := Q1.out _ B2.out
      obtain ⟨hbl2, q20, q21, q22, q23, _⟩ := Q2.out _ B2.out
      obtain ⟨hbl3, q30, q31, q32, q33, _⟩ := Q3.out _ B2.out
      cases r0
      case false =>
        go_wp2_with fail
        refine (C1.out _ B2.out).mono ?_
        rintro e W3 ⟨rfl, b2⟩
        have B3 := Lib.hid (B2.out.trans (b2.mono B2.out.size))
        have G3 := Lib.hid (G2.out.trans (b2.mono G2.out.size))
        clear b2 x0 x1 x2 x3 x4 hbl0 q00 q01 q02 q03 hbl1 q10 q11 q12 q13 hbl2 q20 q21 q22 q23 hbl3 q30 q31 q32 q33
        obtain ⟨x0, x1, x2, x3, x4⟩ := BX.out _ G3.out
        obtain ⟨hbl0, q00, q01, q02, q03, _⟩ := Q0.out _ B3.out
        obtain ⟨hbl1, q10, q11, q12, q13, _⟩ := Q1.out _ B3.out
        obtain ⟨hbl2, q20, q21, q22, q23, _⟩ := Q2.out _ B3.out
        obtain ⟨hbl3, q30, q31, q32, q33, _⟩ := Q3.out _ B3.out
        cases r1
        case false =>
          go_wp2_with fail
          go_ret
          exact ⟨by first | rfl | simp, B3.out⟩
        case true =>
          go_wp2_with fail
          refine (C2.out _ B3.out).mono ?_
          rintro e W4 ⟨rfl, b2⟩
          have B4 := Lib.hid (B3.out.trans (b2.mono B3.out.size))
          have G4 := Lib.hid (G3.out.trans (b2.mono G3.out.size))
          clear b2 x0 x1 x2 x3 x4 hbl0 q00 q01 q02 q03 hbl1 q10 q11 q12 q13 hbl2 q20 q21 q22 q23 hbl3 q30 q31 q32 q33
          obtain ⟨x0, x1, x2, x3, x4⟩ := BX.out _ G4.out
          obtain ⟨hbl0, q00, q01, q02, q03, _⟩ := Q0.out _ B4.out
          obtain ⟨hbl1, q10, q11, q12, q13, _⟩ := Q1.out _ B4.out
          obtain ⟨hbl2, q20, q21, q22, q23, _⟩ := Q2.out _ B4.out
          obtain ⟨hbl3, q30, q31, q32, q33, _⟩ := Q3.out _ B4.out
          cases r2
          case false =>
            go_wp2_with fail
            refine (C3.out _ B4.out).mono ?_
            rintro e W5 ⟨rfl, b2⟩
            have B5 := Lib.hid (B4.out.trans (b2.mono B4.out.size))
            have G5 := Lib.hid (G4.out.trans (b2.mono G4.out.size))
            clear b2 x0 x1 x2 x3 x4 hbl0 q00 q01 q02 q03 hbl1 q10 q11 q12 q13 hbl2 q20 q21 q22 q23 hbl3 q30 q31 q32 q33
            obtain ⟨x0, x1, x2, x3, x4⟩ := BX.out _ G5.out
            obtain ⟨hbl0, q00, q01, q02, q03, _⟩ := Q0.out _ B5.out
            obtain ⟨hbl1, q10, q11, q12, q13, _⟩ := Q1.out _ B5.out
            obtain ⟨hbl2, q20, q21, q22, q23, _⟩ := Q2.out _ B5.out
            obtain ⟨hbl3, q30, q31, q32, q33, _⟩ := Q3.out _ B5.out
            cases r3
            case false =>
              go_wp2_with fail
              go_ret
              exact ⟨by first | rfl | simp, B5.out⟩
            case true =>
              go_wp2_with fail
              refine (C4.out _ B5.out).mono ?_
              rintro e W6 ⟨rfl, b2⟩
              have B6 := Lib.hid (B5.out.trans (b2.mono B5.out.size))
              have G6 := Lib.hid (G5.out.trans (b2.mono G5.out.size))
              clear b2 x0 x1 x2 x3 x4 hbl0 q00 q01 q02 q03 hbl1 q10 q11 q12 q13 hbl2 q20 q21 q22 q23 hbl3 q30 q31 q32 q33
              obtain ⟨x0, x1, x2, x3, x4⟩ := BX.out _ G6.out
              obtain ⟨hbl0, q00, q01, q02, q03, _⟩ := Q0.out _ B6.out
              obtain ⟨hbl1, q10, q11, q12, q13, _⟩ := Q1.out _ B6.out
              obtain ⟨hbl2, q20, q21, q22, q23, _⟩ := Q2.out _ B6.out
              obtain ⟨hbl3, q30, q31, q32, q33, _⟩ := Q3.out _ B6.out
              cases r4
              case false =>
                go_wp2_with fail
                refine (C5.out _ B6.out).mono ?_
                rintro e W7 ⟨rfl, b2⟩
                have B7 := Lib.hid (B6.out.trans (b2.mono B6.out.size))
                have G7 := Lib.hid (G6.out.trans (b2.mono G6.out.size))
                clear b2 x0 x1 x2 x3 x4 hbl0 q00 q01 q02 q03 hbl1 q10 q11 q12 q13 hbl2 q20 q21 q22 q23 hbl3 q30 q31 q32 q33
                obtain ⟨x0, x1, x2, x3, x4⟩ := BX.out _ G7.out
                obtain ⟨hbl0, q00, q01, q02, q03, _⟩ := Q0.out _ B7.out
                obtain ⟨hbl1, q10, q11, q12, q13, _⟩ := Q1.out _ B7.out
                obtain ⟨hbl2, q20, q21, q22, q23, _⟩ := Q2.out _ B7.out
                obtain ⟨hbl3, q30, q31, q32, q33, _⟩ := Q3.out _ B7.out
                cases r5
                case false =>
                  go_wp2_with fail
                  go_ret
                  exact ⟨by first | rfl | simp, B7.out⟩
                case true =>
                  go_wp2_with fail
                  refine (C6.out _ B7.out).mono ?_
                  rintro e W8 ⟨rfl, b2⟩
                  have B8 := Lib.hid (B7.out.trans (b2.mono B7.out.size))
                  have G8 := Lib.hid (G7.out.trans (b2.mono G7.out.size))
                  clear b2 x0 x1 x2 x3 x4 hbl0 q00 q01 q02 q03 hbl1 q10 q11 q12 q13 hbl2 q20 q21 q22 q23 hbl3 q30 q31 q32 q33
                  obtain ⟨x0, x1, x2, x3, x4⟩ := BX.out _ G8.out
                  obtain ⟨hbl0, q00, q01, q02, q03, _⟩ := Q0.out _ B8.out
                  obtain ⟨hbl1, q10, q11, q12, q13, _⟩ := Q1.out _ B8.out
                  obtain ⟨hbl2, q20, q21, q22, q23, _⟩ := Q2.out _ B8.out
                  obtain ⟨hbl3, q30, q31, q32, q33, _⟩ := Q3.out _ B8.out
                  cases r6
                  case false =>
                    go_wp2_with fail
                    go_ret
                    exact ⟨by first | rfl | simp, B8.out⟩
                  case true =>
                    go_wp2_with fail
                    go_ret
                    exact ⟨by first | rfl | simp, B8.out⟩
              case true =>
                go_wp2_with fail
                refine (C6.out _ B6.out).mono ?_
                rintro e W7 ⟨rfl, b2⟩
                have B7 := Lib.hid (B6.out.trans (b2.mono B6.out.size))
                have G7 := Lib.hid (G6.out.trans (b2.mono G6.out.size))
                clear b2 x0 x1 x2 x3 x4 hbl0 q00 q01 q02 q03 hbl1 q10 q11 q12 q13 hbl2 q20 q21 q22 q23 hbl3 q30 q31 q32 q33
                obtain ⟨x0, x1, x2, x3, x4⟩ := BX.out _ G7.out
                obtain ⟨hbl0, q00, q01, q02, q03, _⟩ := Q0.out _ B7.out
                obtain ⟨hbl1, q10, q11, q12, q13, _⟩ := Q1.out _ B7.out
                obtain ⟨hbl2, q20, q21, q22, q23, _⟩ := Q2.out _ B7.out
                obtain ⟨hbl3, q30, q31, q32, q33, _⟩ := Q3.out _ B7.out
                cases r6
                case false =>
                  go_wp2_with fail
                  go_ret
                  exact ⟨by first | rfl | simp, B7.out⟩
                case true =>
                  go_wp2_with fail
                  go_ret
                  exact ⟨by first | rfl | simp, B7.out⟩
          case true =>
            go_wp2_with fail
            refine (C4.out _ B4.out).mono ?_
            rintro e W5 ⟨rfl, b2⟩
            have B5 := Lib.hid (B4.out.trans (b2.mono B4.out.size))
            have G5 := Lib.hid (G4.out.trans (b2.mono G4.out.size))
            clear b2 x0 x1 x2 x3 x4 hbl0 q00 q01 q02 q03 hbl1 q10 q11 q12 q13 hbl2 q20 q21 q22 q23 hbl3 q30 q31 q32 q33
            obtain ⟨x0, x1, x2, x3, x4⟩ := BX.out _ G5.out
            obtain ⟨hbl0, q00, q01, q02, q03, _⟩ := Q0.out _ B5.out
            obtain ⟨hbl1, q10, q11, q12, q13, _⟩ := Q1.out _ B5.out
            obtain ⟨hbl2, q20, q21, q22, q23, _⟩ := Q2.out _ B5.out
            obtain ⟨hbl3, q30, q31, q32, q33, _⟩ := Q3.out _ B5.out
            cases r4
            case false =>
              go_wp2_with fail
              refine (C5.out _ B5.out).mono ?_
              rintro e W6 ⟨rfl, b2⟩
              have B6 := Lib.hid (B5.out.trans (b2.mono B5.out.size))
              have G6 := Lib.hid (G5.out.trans (b2.mono G5.out.size))
              clear b2 x0 x1 x2 x3 x4 hbl0 q00 q01 q02 q03 hbl1 q10 q11 q12 q13 hbl2 q20 q21 q22 q23 hbl3 q30 q31 q32 q33
              obtain ⟨x0, x1, x2, x3, x4⟩ := BX.out _ G6.out
              obtain ⟨hbl0, q00, q01, q02, q03, _⟩ := Q0.out _ B6.out
              obtain ⟨hbl1, q10, q11, q12, q13, _⟩ := Q1.out _ B6.out
              obtain ⟨hbl2, q20, q21, q22, q23, _⟩ := Q2.out _ B6.out
              obtain ⟨hbl3, q30, q31, q32, q33, _⟩ := Q3.out _ B6.out
              cases r5
              case false =>
                go_wp2_with fail
                go_ret
                exact ⟨by first | rfl | simp, B6.out⟩
              case true =>
                go_wp2_with fail
                refine (C6.out _ B6.out).mono ?_
                rintro e W7 ⟨rfl, b2⟩
                have B7 := Lib.hid (B6.out.trans (b2.mono B6.out.size))
                have G7 := Lib.hid (G6.out.trans (b2.mono G6.out.size))
                clear b2 x0 x1 x2 x3 x4 hbl0 q00 q01 q02 q03 hbl1 q10 q11 q12 q13 hbl2 q20 q21 q22 q23 hbl3 q30 q31 q32 q33
                obtain ⟨x0, x1, x2, x3, x4⟩ := BX.out _ G7.out
                obtain ⟨hbl0, q00, q01, q02, q03, _⟩ := Q0.out _ B7.out
                obtain ⟨hbl1, q10, q11, q12, q13, _⟩ := Q1.out _ B7.out
                obtain ⟨hbl2, q20, q21, q22, q23, _⟩ := Q2.out _ B7.out
                obtain ⟨hbl3, q30, q31, q32, q33, _⟩ := Q3.out _ B7.out
                cases r6
                case false =>
                  go_wp2_with fail
                  go_ret
                  exact ⟨by first | rfl | simp, B7.out⟩
                case true =>
                  go_wp2_with fail
                  go_ret
                  exact ⟨by first | rfl | simp, B7.out⟩
            case true =>
              go_wp2_with fail
              refine (C6.out _ B5.out).mono ?_
              rintro e W6 ⟨rfl, b2⟩
              have B6 := Lib.hid (B5.out.trans (b2.mono B5.out.size))
              have G6 := Lib.hid (G5.out.trans (b2.mono G5.out.size))
              clear b2 x0 x1 x2 x3 x4 hbl0 q00 q01 q02 q03 hbl1 q10 q11 q12 q13 hbl2 q20 q21 q22 q23 hbl3 q30 q31 q32 q33
              obtain ⟨x0, x1, x2, x3, x4⟩ := BX.out _ G6.out
              obtain ⟨hbl0, q00, q01, q02, q03, _⟩ := Q0.out _ B6.out
              obtain ⟨hbl1, q10, q11, q12, q13, _⟩ := Q1.out _ B6.out
              obtain ⟨hbl2, q20, q21, q22, q23, _⟩ := Q2.out _ B6.out
              obtain ⟨hbl3, q30, q31, q32, q33, _⟩ := Q3.out _ B6.out
              cases r6
              case false =>
                go_wp2_with fail
                go_ret
                exact ⟨by first | rfl | simp, B6.out⟩
              case true =>
                go_wp2_with fail
                go_ret
                exact ⟨by first | rfl | simp, B6.out⟩
      case true =>
        go_wp2_with fail
        refine (C2.out _ B2.out).mono ?_
        rintro e W3 ⟨rfl, b2⟩
        have B3 := Lib.hid (B2.out.trans (b2.mono B2.out.size))
        have G3 := Lib.hid (G2.out.trans (b2.mono G2.out.size))
        clear b2 x0 x1 x2 x3 x4 hbl0 q00 q01 q02 q03 hbl1 q10 q11 q12 q13 hbl2 q20 q21 q22 q23 hbl3 q30 q31 q32 q33
        obtain ⟨x0, x1, x2, x3, x4⟩ := BX.out _ G3.out
        obtain ⟨hbl0, q00, q01, q02, q03, _⟩ := Q0.out _ B3.out
        obtain ⟨hbl1, q10, q11, q12, q13, _⟩ := Q1.out _ B3.out
        obtain ⟨hbl2, q20, q21, q22, q23, _⟩ := Q2.out _ B3.out
        obtain ⟨hbl3, q30, q31, q32, q33, _⟩ := Q3.out _ B3.out
        cases r2
        case false =>
          go_wp2_with fail
          refine (C3.out _ B3.out).mono ?_
          rintro e W4 ⟨rfl, b2⟩
          have B4 := Lib.hid (B3.out.trans (b2.mono B3.out.size))
          have G4 := Lib.hid (G3.out.trans (b2.mono G3.out.size))
          clear b2 x0 x1 x2 x3 x4 hbl0 q00 q01 q02 q03 hbl1 q10 q11 q12 q13 hbl2 q20 q21 q22 q23 hbl3 q30 q31 q32 q33
          obtain ⟨x0, x1, x2, x3, x4⟩ := BX.out _ G4.out
          obtain ⟨hbl0, q00, q01, q02, q03, _⟩ := Q0.out _ B4.out
          obtain ⟨hbl1, q10, q11, q12, q13, _⟩ := Q1.out _ B4.out
          obtain ⟨hbl2, q20, q21, q22, q23, _⟩ := Q2.out _ B4.out
          obtain ⟨hbl3, q30, q31, q32, q33, _⟩ := Q3.out _ B4.out
          cases r3
          case false =>
            go_wp2_with fail
            go_ret
            exact ⟨by first | rfl | simp, B4.out⟩
          case true =>
            go_wp2_with fail
            refine (C4.out _ B4.out).mono ?_
            rintro e W5 ⟨rfl, b2⟩
            have B5 := Lib.hid (B4.out.trans (b2.mono B4.out.size))
            have G5 := Lib.hid (G4.out.trans (b2.mono G4.out.size))
            clear b2 x0 x1 x2 x3 x4 hbl0 q00 q01 q02 q03 hbl1 q10 q11 q12 q13 hbl2 q20 q21 q22 q23 hbl3 q30 q31 q32 q33
            obtain ⟨x0, x1, x2, x3, x4⟩ := BX.out _ G5.out
            obtain ⟨hbl0, q00, q01, q02, q03, _⟩ := Q0.out _ B5.out
            obtain ⟨hbl1, q10, q11, q12, q13, _⟩ := Q1.out _ B5.out
            obtain ⟨hbl2, q20, q21, q22, q23, _⟩ := Q2.out _ B5.out
            obtain ⟨hbl3, q30, q31, q32, q33, _⟩ := Q3.out _ B5.out
            cases r4
            case false =>
              go_wp2_with fail
              refine (C5.out _ B5.out).mono ?_
              rintro e W6 ⟨rfl, b2⟩
              have B6 := Lib.hid (B5.out.trans (b2.mono B5.out.size))
              have G6 := Lib.hid (G5.out.trans (b2.mono G5.out.size))
              clear b2 x0 x1 x2 x3 x4 hbl0 q00 q01 q02 q03 hbl1 q10 q11 q12 q13 hbl2 q20 q21 q22 q23 hbl3 q30 q31 q32 q33
              obtain ⟨x0, x1, x2, x3, x4⟩ := BX.out _ G6.out
              obtain ⟨hbl0, q00, q01, q02, q03, _⟩ := Q0.out _ B6.out
              obtain ⟨hbl1, q10, q11, q12, q13, _⟩ := Q1.out _ B6.out
              obtain ⟨hbl2, q20, q21, q22, q23, _⟩ := Q2.out _ B6.out
              obtain ⟨hbl3, q30, q31, q32, q33, _⟩ := Q3.out _ B6.out
              cases r5
              case false =>
                go_wp2_with fail
                go_ret
                exact ⟨by first | rfl | simp, B6.out⟩
              case true =>
                go_wp2_with fail
                refine (C6.out _ B6.out).mono ?_
                rintro e W7 ⟨rfl, b2⟩
                have B7 := Lib.hid (B6.out.trans (b2.mono B6.out.size))
                have G7 := Lib.hid (G6.out.trans (b2.mono G6.out.size))
                clear b2 x0 x1 x2 x3 x4 hbl0 q00 q01 q02 q03 hbl1 q10 q11 q12 q13 hbl2 q20 q21 q22 q23 hbl3 q30 q31 q32 q33
                obtain ⟨x0, x1, x2, x3, x4⟩ := BX.out _ G7.out
                obtain ⟨hbl0, q00, q01, q02, q03, _⟩ := Q0.out _ B7.out
                obtain ⟨hbl1, q10, q11, q12, q13, _⟩ := Q1.out _ B7.out
                obtain ⟨hbl2, q20, q21, q22, q23, _⟩ := Q2.out _ B7.out
                obtain ⟨hbl3, q30, q31, q32, q33, _⟩ := Q3.out _ B7.out
                cases r6
                case false =>
                  go_wp2_with fail
                  go_ret
                  exact ⟨by first | rfl | simp, B7.out⟩
                case true =>
                  go_wp2_with fail
                  go_ret
                  exact ⟨by first | rfl | simp, B7.out⟩
            case true =>
              go_wp2_with fail
              refine (C6.out _ B5.out).mono ?_
              rintro e W6 ⟨rfl, b2⟩
              have B6 := Lib.hid (B5.out.trans (b2.mono B5.out.size))
              have G6 := Lib.hid (G5.out.trans (b2.mono G5.out.size))
              clear b2 x0 x1 x2 x3 x4 hbl0 q00 q01 q02 q03 hbl1 q10 q11 q12 q13 hbl2 q20 q21 q22 q23 hbl3 q30 q31 q32 q33
              obtain ⟨x0, x1, x2, x3, x4⟩ := BX.out _ G6.out
              obtain ⟨hbl0, q00, q01, q02, q03, _⟩ := Q0.out _ B6.out
              obtain ⟨hbl1, q10, q11, q12, q13, _⟩ := Q1.out _ B6.out
              obtain ⟨hbl2, q20, q21, q22, q23, _⟩ := Q2.out _ B6.out
              obtain ⟨hbl3, q30, q31, q32, q33, _⟩ := Q3.out _ B6.out
              cases r6
              case false =>
                go_wp2_with fail
                go_ret
                exact ⟨by first | rfl | simp, B6.out⟩
              case true =>
                go_wp2_with fail
                go_ret
                exact ⟨by first | rfl | simp, B6.out⟩
        case true =>
          go_wp2_with fail
          refine (C4.out _ B3.out).mono ?_
          rintro e W4 ⟨rfl, b2⟩
          have B4 := Lib.hid (B3.out.trans (b2.mono B3.out.size))
          have G4 := Lib.hid (G3.out.trans (b2.mono G3.out.size))
          clear b2 x0 x1 x2 x3 x4 hbl0 q00 q01 q02 q03 hbl1 q10 q11 q12 q13 hbl2 q20 q21 q22 q23 hbl3 q30 q31 q32 q33
          obtain ⟨x0, x1, x2, x3, x4⟩ := BX.out _ G4.out
          obtain ⟨hbl0, q00, q01, q02, q03, _⟩ := Q0.out _ B4.out
          obtain ⟨hbl1, q10, q11, q12, q13, _⟩ := Q1.out _ B4.out
          obtain ⟨hbl2, q20, q21, q22, q23, _⟩ := Q2.out _ B4.out
          obtain ⟨hbl3, q30, q31, q32, q33, _⟩ := Q3.out _ B4.out
          cases r4
          case false =>
            go_wp2_with fail
            refine (C5.out _ B4.out).mono ?_
            rintro e W5 ⟨rfl, b2⟩
            have B5 := Lib.hid (B4.out.trans (b2.mono B4.out.size))
            have G5 := Lib.hid (G4.out.trans (b2.mono G4.out.size))
            clear b2 x0 x1 x2 x3 x4 hbl0 q00 q01 q02 q03 hbl1 q10 q11 q12 q13 hbl2 q20 q21 q22 q23 hbl3 q30 q31 q32 q33
            obtain ⟨x0, x1, x2, x3, x4⟩ := BX.out _ G5.out
            obtain ⟨hbl0, q00, q01, q02, q03, _⟩ := Q0.out _ B5.out
            obtain ⟨hbl1, q10, q11, q12, q13, _⟩ := Q1.out _ B5.out
            obtain ⟨hbl2, q20, q21, q22, q23, _⟩ := Q2.out _ B5.out
            obtain ⟨hbl3, q30, q31, q32, q33, _⟩ := Q3.out _ B5.out
            cases r5
            case false =>
              go_wp2_with fail
              go_ret
              exact ⟨by first | rfl | simp, B5.out⟩
            case true =>
              go_wp2_with fail
              refine (C6.out _ B5.out).mono ?_
              rintro e W6 ⟨rfl, b2⟩
              have B6 := Lib.hid (B5.out.trans (b2.mono B5.out.size))
              have G6 := Lib.hid (G5.out.trans (b2.mono G5.out.size))
              clear b2 x0 x1 x2 x3 x4 hbl0 q00 q01 q02 q03 hbl1 q10 q11 q12 q13 hbl2 q20 q21 q22 q23 hbl3 q30 q31 q32 q33
              obtain ⟨x0, x1, x2, x3, x4⟩ := BX.out _ G6.out
              obtain ⟨hbl0, q00, q01, q02, q03, _⟩ := Q0.out _ B6.out
              obtain ⟨hbl1, q10, q11, q12, q13, _⟩ := Q1.out _ B6.out
              obtain ⟨hbl2, q20, q21, q22, q23, _⟩ := Q2.out _ B6.out
              obtain ⟨hbl3, q30, q31, q32, q33, _⟩ := Q3.out _ B6.out
              cases r6
              case false =>
                go_wp2_with fail
                go_ret
                exact ⟨by first | rfl | simp, B6.out⟩
              case true =>
                go_wp2_with fail
                go_ret
                exact ⟨by first | rfl | simp, B6.out⟩
          case true =>
            go_wp2_with fail
            refine (C6.out _ B4.out).mono ?_
            rintro e W5 ⟨rfl, b2⟩
            have B5 := Lib.hid (B4.out.trans (b2.mono B4.out.size))
            have G5 := Lib.hid (G4.out.trans (b2.mono G4.out.size))
            clear b2 x0 x1 x2 x3 x4 hbl0 q00 q01 q02 q03 hbl1 q10 q11 q12 q13 hbl2 q20 q21 q22 q23 hbl3 q30 q31 q32 q33
            obtain ⟨x0, x1, x2, x3, x4⟩ := BX.out _ G5.out
            obtain ⟨hbl0, q00, q01, q02, q03, _⟩ := Q0.out _ B5.out
            obtain ⟨hbl1, q10, q11, q12, q13, _⟩ := Q1.out _ B5.out
            obtain ⟨hbl2, q20, q21, q22, q23, _⟩ := Q2.out _ B5.out
            obtain ⟨hbl3, q30, q31, q32, q33, _⟩ := Q3.out _ B5.out
            cases r6
            case false =>
              go_wp2_with fail
              go_ret
              exact ⟨by first | rfl | simp, B5.out⟩
            case true =>
              go_wp2_with fail
              go_ret
              exact ⟨by first | rfl | simp, B5.out⟩

end Go.Proofs.YtkmhijkpbmcgbaaGreat
