/-
  The law PlaceRises: its walk.
-/
import Derived.Test.YtfabnfdadadlnaaLawOf
import Derived.Deep.QuietTactic
import Derived.BigQuiet
import Derived.Lib.QuietBelow
namespace Go.Proofs.Ytfabnfdadadlnaa
set_option linter.all false
open Go.RowKit

theorem rises_plc (l : List UInt8) (n i j : Nat) (hl : l.length = n) :
    Pl.le2 (plc l (min ((i : Int) % (n + 1)) ((j : Int) % (n + 1)))) (plc l (max ((i : Int) % (n + 1)) ((j : Int) % (n + 1)))) ∧
    (plc l (max ((i : Int) % (n + 1)) ((j : Int) % (n + 1)))).1 ≤ 1 + Pl.tens l ∧ 1 ≤ (plc l (min ((i : Int) % (n + 1)) ((j : Int) % (n + 1)))).1 ∧ 1 ≤ (plc l (min ((i : Int) % (n + 1)) ((j : Int) % (n + 1)))).2 := by
  have hi : (i : Int) % (n + 1) = ((i % (n + 1) : Nat) : Int) := by rw [Int.natCast_emod]; rfl
  have hj : (j : Int) % (n + 1) = ((j % (n + 1) : Nat) : Int) := by rw [Int.natCast_emod]; rfl
  have hi' : i % (n + 1) < n + 1 := Nat.mod_lt _ (by omega)
  have hj' : j % (n + 1) < n + 1 := Nat.mod_lt _ (by omega)
  rw [hi, hj]
  generalize i % (n + 1) = x at *
  generalize j % (n + 1) = y at *
  have e1 : plc l (min (x : Int) y) = Pl.ofB l (min x y) := by
    unfold plc
    rw [if_neg (by omega)]
    congr 1
    omega
  have e2 : plc l (max (x : Int) y) = Pl.ofB l (max x y) := by
    unfold plc
    rw [if_neg (by omega)]
    congr 1
    omega
  rw [e1, e2]
  exact Pl.rises l (min x y) (max x y) (by omega)

/-- What the last statement's region keeps: the two places, the bytes, the old memory. -/
def RiS (w0 : World) (A : Option Addr) (n : Nat) (l : List UInt8) (k : Nat) (p1 p2 q1 q2 : Nat) (w' : World) : Prop :=
  w'.cell? ⟨k, 0, none⟩ = some (.int .i64 p1) ∧ w'.cell? ⟨k, 1, none⟩ = some (.int .i64 p2) ∧ w'.cell? ⟨k + 1, 0, none⟩ = some (.int .i64 q1) ∧ w'.cell? ⟨k + 1, 1, none⟩ = some (.int .i64 q2) ∧
    Bts w' A n l ∧ Below w0.heap.size w0 w'
theorem RiS.keep {w0 : World} {A : Option Addr} {n : Nat} {l : List UInt8} {k p1 p2 q1 q2 : Nat} {w1 w2 : World} (hb : Below w1.heap.size w1 w2) (h : RiS w0 A n l k p1 p2 q1 q2 w1) : RiS w0 A n l k p1 p2 q1 q2 w2 := by
  obtain ⟨h1, h2, h3, h4, h5, h6⟩ := h
  have l1 := cell_lt h1
  have l3 := cell_lt h3
  exact ⟨(hb.cell (p := ⟨k, 0, none⟩) l1).trans h1, (hb.cell (p := ⟨k, 1, none⟩) l1).trans h2, (hb.cell (p := ⟨k + 1, 0, none⟩) l3).trans h3, (hb.cell (p := ⟨k + 1, 1, none⟩) l3).trans h4, h5.below hb, h6.trans (hb.mono h6.size)⟩
theorem RiS.drew {w0 : World} {A : Option Addr} {n : Nat} {l : List UInt8} {k p1 p2 q1 q2 : Nat} {w1 : World} (h : RiS w0 A n l k p1 p2 q1 q2 w1) : RiS w0 A n l k p1 p2 q1 q2 w1.drew :=
  ⟨h.1, h.2.1, h.2.2.1, h.2.2.2.1, h.2.2.2.2.1, h.2.2.2.2.2.drew⟩
theorem RiS.bts {w0 : World} {A : Option Addr} {n : Nat} {l : List UInt8} {k p1 p2 q1 q2 : Nat} {w1 : World} (h : RiS w0 A n l k p1 p2 q1 q2 w1) : Bts w1 A n l := h.2.2.2.2.1

set_option maxRecDepth 100000 in
set_option maxHeartbeats 4000000 in
theorem lawRises_walk (A : Option Addr) (n c : Nat) (l : List UInt8) (i j : Nat) (w : World) (hb : Bts w A n l) (hi : i ≤ 65535) (hj : j ≤ 65535) :
    Calls Try.prog 4 #[.slice A n c, .int .u16 i, .int .u16 j] w fun e w' => e = .returned (.bool true) ∧ Below w.heap.size w w' := by
  by_cases hn : 300 < n
  · go_enter Try.func4, Try.ntmps4
    go_wp2
    go_ret
    exact ⟨rfl, Below.refl _ _⟩
  · have hn' : n ≤ 300 := by omega
    have HB := Lib.hid hb
    clear hb
    go_enter Try.func4, Try.ntmps4
    go_wp2_with fail
    go_quiet (fail)
    go_wp2_with fail
    have h1 := of_any A n c l (min ((i : Int) % (n + 1)) ((j : Int) % (n + 1))) (w.drewN nq) HB.out (by omega)
    have h2 := fun W (h : Bts W A n l) => of_any A n c l (max ((i : Int) % (n + 1)) ((j : Int) % (n + 1))) W h (by omega)
    obtain ⟨p, hp⟩ : ∃ p, p = plc l (min ((i : Int) % (n + 1)) ((j : Int) % (n + 1))) := ⟨_, rfl⟩
    obtain ⟨q, hq⟩ : ∃ q, q = plc l (max ((i : Int) % (n + 1)) ((j : Int) % (n + 1))) := ⟨_, rfl⟩
    rw [← hp] at h1
    rw [← hq] at h2
    have H2 := Lib.hid h2
    clear h2
    have hr := rises_plc l n i j HB.out.1
    rw [← hp, ← hq] at hr
    obtain ⟨hr1, hr2, hr3, hr4⟩ := hr
    have hpb := plc_bound l (min ((i : Int) % (n + 1)) ((j : Int) % (n + 1)))
    have hqb := plc_bound l (max ((i : Int) % (n + 1)) ((j : Int) % (n + 1)))
    rw [← hp, HB.out.1] at hpb
    rw [← hq, HB.out.1] at hqb
    clear hp hq
    obtain ⟨p1, p2⟩ := p
    obtain ⟨q1, q2⟩ := q
    unfold Pl.le2 at hr1
    simp only at hr1 hr2 hr3 hr4 hpb hqb
    refine h1.mono ?_
    clear h1
    rintro e w1 ⟨rfl, b1⟩
    have b1' : Below w.heap.size w w1 := (below_drewN (Below.refl _ w) nq).trans b1
    go_wp2_with fail
    refine (H2.out _ (HB.out.below b1')).mono ?_
    clear H2
    rintro e w2 ⟨rfl, b2⟩
    have b2' : Below w.heap.size w w2 := b1'.trans (b2.mono b1'.size)
    have HB2 := Lib.hid (HB.out.below b2')
    have B2 := Lib.hid b2'
    clear b1 b2 b1' b2' HB
    go_wp2_with fail
    have hS0 : RiS w A n l w2.heap.size p1 p2 q1 q2 ((w2.alloc (.cells #[.int .i64 p1, .int .i64 p2] 26)).alloc (.cells #[.int .i64 q1, .int .i64 q2] 26)) := by
      have a1 := (Whole.new w2 26 #[.int .i64 p1, .int .i64 p2]).alloc (.cells #[.int .i64 q1, .int .i64 q2] 26)
      have a2 := Whole.new (w2.alloc (.cells #[.int .i64 p1, .int .i64 p2] 26)) 26 #[.int .i64 q1, .int .i64 q2]
      have e : (w2.alloc (.cells #[.int .i64 p1, .int .i64 p2] 26)).heap.size = w2.heap.size + 1 := by simp
      rw [e] at a2
      have b3 : Below w2.heap.size w2 ((w2.alloc (.cells #[.int .i64 p1, .int .i64 p2] 26)).alloc (.cells #[.int .i64 q1, .int .i64 q2] 26)) := ((Below.refl _ w2).alloc (Nat.le_refl _) _).alloc (by simp) _
      exact ⟨a1.cell 0, a1.cell 1, a2.cell 0, a2.cell 1, HB2.out.below b3, B2.out.trans (b3.mono B2.out.size)⟩
    have k0 := cell_regrown hS0.1
    have k1 := cell_regrown hS0.2.1
    have k2 := cell_regrown hS0.2.2.1
    have k3 := cell_regrown hS0.2.2.2.1
    have HBX := Lib.hid hS0.2.2.2.2.1
    have HBL := Lib.hid hS0.2.2.2.2.2
    clear hS0
    have ht := tens_le l
    have hll := HB2.out.1
    have htl : Pl.tens l ≤ 300 := by omega
    clear ht hll
    obtain ⟨W3, hW3⟩ : ∃ W3, W3 = ((w2.alloc (.cells #[.int .i64 p1, .int .i64 p2] 26)).alloc (.cells #[.int .i64 q1, .int .i64 q2] 26)) := ⟨_, rfl⟩
    rw [← hW3] at k0 k1 k2 k3 HBX HBL ⊢
    clear hW3
    have g1 : decide ((q1 : Int) ≤ (Pl.tens l : Int) + 1) = true := decide_eq_true (by omega)
    have g2 : decide ((1 : Int) ≤ (p1 : Int)) = true := decide_eq_true (by omega)
    have g3 : decide ((1 : Int) ≤ (p2 : Int)) = true := decide_eq_true (by omega)
    rcases hr1 with hr1 | ⟨hr1, hr5⟩
    · refine wp_region_quiet_below (by kernel_rfl) (by kernel_rfl) ?_
      repeat (first
        | go_big_quiet_step (first | (go_at_call 11; exact Calls.regrown_of (lines_any A n c l _ (HBX.out.below (below_regrown _ _ _)) (by omega))) | (go_at_call 10; exact Calls.regrown_of (awake_any _)))
        | quiet_step (first | (go_at_call 11; exact Calls.regrown_of (lines_any A n c l _ (HBX.out.below (below_regrown _ _ _)) (by omega))) | (go_at_call 10; exact Calls.regrown_of (awake_any _))))
      refine wpQuiet_nil ?_
      intro _ hw'
      obtain ⟨⟨dq, osq⟩, hw''⟩ := hw'
      subst hw''
      go_wp2_with fail
      go_ret
      exact ⟨rfl, HBL.out.trans ((below_regrown W3 dq osq).mono HBL.out.size)⟩
    · obtain rfl : p1 = q1 := hr1
      refine wp_region_quiet_below (by kernel_rfl) (by kernel_rfl) ?_
      repeat (first
        | go_big_quiet_step (first | (go_at_call 11; exact Calls.regrown_of (lines_any A n c l _ (HBX.out.below (below_regrown _ _ _)) (by omega))) | (go_at_call 10; exact Calls.regrown_of (awake_any _)))
        | quiet_step (first | (go_at_call 11; exact Calls.regrown_of (lines_any A n c l _ (HBX.out.below (below_regrown _ _ _)) (by omega))) | (go_at_call 10; exact Calls.regrown_of (awake_any _))))
      refine wpQuiet_nil ?_
      intro _ hw'
      obtain ⟨⟨dq, osq⟩, hw''⟩ := hw'
      subst hw''
      go_wp2_with fail
      go_ret
      exact ⟨rfl, HBL.out.trans ((below_regrown W3 dq osq).mono HBL.out.size)⟩

end Go.Proofs.Ytfabnfdadadlnaa
