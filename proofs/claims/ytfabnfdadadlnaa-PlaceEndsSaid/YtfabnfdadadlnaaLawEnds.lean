/-
  The law PlaceEnds: its walk.
-/
import Derived.Test.YtfabnfdadadlnaaLawOf
import Derived.Deep.QuietTactic
import Derived.BigQuiet
import Derived.Lib.QuietBelow
namespace Go.Proofs.Ytfabnfdadadlnaa
set_option linter.all false
open Go.RowKit

theorem plc_len (l : List UInt8) (n : Nat) (h : l.length = n) : (plc l n).1 = Pl.tens l + 1 := by
  subst h
  unfold plc
  rw [if_neg (by omega)]
  have := Pl.ofB_end l
  simp only [Int.toNat_natCast]
  omega
theorem plc_zero (l : List UInt8) : plc l 0 = (1, 1) := by
  unfold plc
  rw [if_neg (by omega)]
  exact Pl.ofB_zero l

theorem field26_0 (x y : Int) (W : World) : (Instr.field 26 (.agg #[.int .i64 x, .int .i64 y]) 0).run Try.prog W = .ok (.int .i64 x) W := by kernel_rfl

set_option maxRecDepth 100000 in
set_option maxHeartbeats 2000000 in
theorem lawEnds_walk (A : Option Addr) (n c : Nat) (l : List UInt8) (a : Int) (w : World) (hb : Bts w A n l) :
    Calls Try.prog 7 #[.slice A n c, .int .i64 a] w fun e w' => e = .returned (.bool true) ∧ Below w.heap.size w w' := by
  by_cases hn : 300 < n
  · go_enter Try.func7, Try.ntmps7
    go_wp2
    go_ret
    exact ⟨rfl, Below.refl _ _⟩
  · have hn' : n ≤ 1000 := by omega
    have hn3 : n ≤ 300 := by omega
    clear hn
    have HB := Lib.hid hb
    have hln := Lib.hid hb.1
    have hq1 := plc_len l n hb.1
    have hq2 := plc_zero l
    have hq3 := Pl.back_none l
    have ht := tens_le l
    have htl : Pl.tens l ≤ 300 := by have := hb.1; omega
    have HQ1 := Lib.hid hq1
    have HQ2 := Lib.hid hq2
    have HQ3 := Lib.hid hq3
    clear hb hq1 hq2 hq3 ht
    obtain ⟨W3, hW3⟩ : ∃ W3, W3 = w.alloc (.cells #[.int .i64 0, .int .i64 0] 26) := ⟨_, rfl⟩
    have hwh : Whole W3 w.heap.size 26 #[.int .i64 0, .int .i64 0] := by rw [hW3]; exact Whole.new w 26 _
    have hbel : Below w.heap.size w W3 := by rw [hW3]; exact (Below.refl _ w).alloc (Nat.le_refl _) _
    have HBX := Lib.hid (HB.out.below hbel)
    have HW := Lib.hid hwh
    have HBL := Lib.hid hbel
    clear hbel
    have hW := Lib.hid hW3
    clear hW3
    have rest : ∀ W4, Whole W4 w.heap.size 26 #[.int .i64 0, .int .i64 0] → Bts W4 A n l → Below w.heap.size w W4 → True := fun _ _ _ _ => trivial
    have k0 : ∀ d os, (Sort.grow (redrawn W3 d) os).cell? ⟨w.heap.size, 0, none⟩ = some (.int .i64 0) := cell_regrown (hwh.cell 0)
    have k1 : ∀ d os, (Sort.grow (redrawn W3 d) os).cell? ⟨w.heap.size, 1, none⟩ = some (.int .i64 0) := cell_regrown (hwh.cell 1)
    clear hwh rest
    by_cases h0 : a < 0 ∨ (n : Int) < a
    · have hp := Lib.hid (show plc l a = (0, 0) by unfold plc; rw [if_pos (by rw [hln.out]; exact h0)])
      by_cases h1 : a < 0
      · have d1 : decide (a < 0) = true := decide_eq_true h1
        clear h0
        have hfd := field26_0
        go_enter Try.func7, Try.ntmps7
        go_wp2_with fail
        rw [← hW.out]
        refine wp_region_quiet_below (by kernel_rfl) (by kernel_rfl) ?_
        have hc := fun d os => of_any A n c l a _ (HBX.out.below (below_regrown W3 d os)) hn'
        rw [hp.out] at hc
        have HC := Lib.hid hc
        clear hc
        repeat (first
          | go_big_quiet_step ((go_at_call 9; exact Calls.regrown_of (HC.out _ _)))
          | quiet_step ((go_at_call 9; exact Calls.regrown_of (HC.out _ _))))
        refine wpQuiet_nil ?_
        intro _ hw'
        obtain ⟨⟨dq, osq⟩, hw''⟩ := hw'
        subst hw''
        go_wp2_with fail

        have B4 := HBX.out.below (below_regrown W3 dq osq)
        have L4 := HBL.out.trans ((below_regrown W3 dq osq).mono HBL.out.size)
        have N4 := (HW.out.below (below_regrown W3 dq osq) HW.out.lt)
        obtain ⟨W4, hW4⟩ : ∃ W4, W4 = Sort.grow (redrawn W3 dq) osq := ⟨_, rfl⟩
        rw [← hW4] at B4 L4 N4 ⊢
        clear hW4 k0 k1
        have HB4 := Lib.hid B4
        have HL4 := Lib.hid L4
        have HN4 := Lib.hid N4
        clear B4 L4 N4
        have c1 := of_any A n c l n W4 HB4.out hn'
        rw [HQ1.out] at c1
        refine c1.mono ?_
        clear c1
        rintro e w5 ⟨rfl, b5⟩
        have HB5 := Lib.hid (HB4.out.below b5)
        have HN5 := Lib.hid (HN4.out.below b5 HN4.out.lt)
        have HL5 := Lib.hid (HL4.out.trans (b5.mono HL4.out.size))
        clear b5
        go_wp2_with fail
        refine (lines_any A n c l w5 HB5.out hn').mono ?_
        rintro e w6 ⟨rfl, b6⟩
        have HB6 := Lib.hid (HB5.out.below b6)
        have HN6 := Lib.hid (HN5.out.below b6 HN5.out.lt)
        have HL6 := Lib.hid (HL5.out.trans (b6.mono HL5.out.size))
        clear b6
        go_wp2_with fail
        have c2 := of_any A n c l 0 w6 HB6.out hn'
        rw [HQ2.out] at c2
        refine c2.mono ?_
        clear c2
        rintro e w7 ⟨rfl, b7⟩
        have HB7 := Lib.hid (HB6.out.below b7)
        have HL7 := Lib.hid (HL6.out.trans (b7.mono HL6.out.size))
        have hn7 := HN6.out.below b7 HN6.out.lt
        have x0 := hn7.cell 0
        have x1 := hn7.cell 1
        simp at x0 x1
        clear b7 hn7
        go_wp2_with fail
        have c3 := at_any A n c l 0 0 w7 HB7.out hn'
        rw [HQ3.out] at c3
        refine c3.mono ?_
        clear c3
        rintro e w8 ⟨rfl, b8⟩
        have HL8 := Lib.hid (HL7.out.trans (b8.mono HL7.out.size))
        clear b8
        go_wp2_with fail
        refine (awake_any w8).mono ?_
        rintro e w9 ⟨rfl, b9⟩
        have HL9 := Lib.hid (HL8.out.trans (b9.mono HL8.out.size))
        clear b9
        go_wp2_with fail
        go_ret
        exact ⟨rfl, HL9.out⟩
      · have h2 : (n : Int) < a := by omega
        have d1 : decide (a < 0) = false := decide_eq_false h1
        have d2 : decide ((n : Int) < a) = true := decide_eq_true h2
        clear h0
        have hfd := field26_0
        go_enter Try.func7, Try.ntmps7
        go_wp2_with fail
        rw [← hW.out]
        refine wp_region_quiet_below (by kernel_rfl) (by kernel_rfl) ?_
        have hc := fun d os => of_any A n c l a _ (HBX.out.below (below_regrown W3 d os)) hn'
        rw [hp.out] at hc
        have HC := Lib.hid hc
        clear hc
        repeat (first
          | go_big_quiet_step ((go_at_call 9; exact Calls.regrown_of (HC.out _ _)))
          | quiet_step ((go_at_call 9; exact Calls.regrown_of (HC.out _ _))))
        refine wpQuiet_nil ?_
        intro _ hw'
        obtain ⟨⟨dq, osq⟩, hw''⟩ := hw'
        subst hw''
        go_wp2_with fail

        have B4 := HBX.out.below (below_regrown W3 dq osq)
        have L4 := HBL.out.trans ((below_regrown W3 dq osq).mono HBL.out.size)
        have N4 := (HW.out.below (below_regrown W3 dq osq) HW.out.lt)
        obtain ⟨W4, hW4⟩ : ∃ W4, W4 = Sort.grow (redrawn W3 dq) osq := ⟨_, rfl⟩
        rw [← hW4] at B4 L4 N4 ⊢
        clear hW4 k0 k1
        have HB4 := Lib.hid B4
        have HL4 := Lib.hid L4
        have HN4 := Lib.hid N4
        clear B4 L4 N4
        have c1 := of_any A n c l n W4 HB4.out hn'
        rw [HQ1.out] at c1
        refine c1.mono ?_
        clear c1
        rintro e w5 ⟨rfl, b5⟩
        have HB5 := Lib.hid (HB4.out.below b5)
        have HN5 := Lib.hid (HN4.out.below b5 HN4.out.lt)
        have HL5 := Lib.hid (HL4.out.trans (b5.mono HL4.out.size))
        clear b5
        go_wp2_with fail
        refine (lines_any A n c l w5 HB5.out hn').mono ?_
        rintro e w6 ⟨rfl, b6⟩
        have HB6 := Lib.hid (HB5.out.below b6)
        have HN6 := Lib.hid (HN5.out.below b6 HN5.out.lt)
        have HL6 := Lib.hid (HL5.out.trans (b6.mono HL5.out.size))
        clear b6
        go_wp2_with fail
        have c2 := of_any A n c l 0 w6 HB6.out hn'
        rw [HQ2.out] at c2
        refine c2.mono ?_
        clear c2
        rintro e w7 ⟨rfl, b7⟩
        have HB7 := Lib.hid (HB6.out.below b7)
        have HL7 := Lib.hid (HL6.out.trans (b7.mono HL6.out.size))
        have hn7 := HN6.out.below b7 HN6.out.lt
        have x0 := hn7.cell 0
        have x1 := hn7.cell 1
        simp at x0 x1
        clear b7 hn7
        go_wp2_with fail
        have c3 := at_any A n c l 0 0 w7 HB7.out hn'
        rw [HQ3.out] at c3
        refine c3.mono ?_
        clear c3
        rintro e w8 ⟨rfl, b8⟩
        have HL8 := Lib.hid (HL7.out.trans (b8.mono HL7.out.size))
        clear b8
        go_wp2_with fail
        refine (awake_any w8).mono ?_
        rintro e w9 ⟨rfl, b9⟩
        have HL9 := Lib.hid (HL8.out.trans (b9.mono HL8.out.size))
        clear b9
        go_wp2_with fail
        go_ret
        exact ⟨rfl, HL9.out⟩
    · have d1 : decide (a < 0) = false := decide_eq_false (by omega)
      have d2 : decide ((n : Int) < a) = false := decide_eq_false (by omega)
      clear h0
      have hfd := field26_0
      go_enter Try.func7, Try.ntmps7
      go_wp2_with fail
      rw [← hW.out]
      refine wp_region_quiet_below (by kernel_rfl) (by kernel_rfl) ?_
      repeat (first
        | go_big_quiet_step (fail)
        | quiet_step (fail))
      refine wpQuiet_nil ?_
      intro _ hw'
      obtain ⟨⟨dq, osq⟩, hw''⟩ := hw'
      subst hw''
      go_wp2_with fail

      have B4 := HBX.out.below (below_regrown W3 dq osq)
      have L4 := HBL.out.trans ((below_regrown W3 dq osq).mono HBL.out.size)
      have N4 := (HW.out.below (below_regrown W3 dq osq) HW.out.lt)
      obtain ⟨W4, hW4⟩ : ∃ W4, W4 = Sort.grow (redrawn W3 dq) osq := ⟨_, rfl⟩
      rw [← hW4] at B4 L4 N4 ⊢
      clear hW4 k0 k1
      have HB4 := Lib.hid B4
      have HL4 := Lib.hid L4
      have HN4 := Lib.hid N4
      clear B4 L4 N4
      have c1 := of_any A n c l n W4 HB4.out hn'
      rw [HQ1.out] at c1
      refine c1.mono ?_
      clear c1
      rintro e w5 ⟨rfl, b5⟩
      have HB5 := Lib.hid (HB4.out.below b5)
      have HN5 := Lib.hid (HN4.out.below b5 HN4.out.lt)
      have HL5 := Lib.hid (HL4.out.trans (b5.mono HL4.out.size))
      clear b5
      go_wp2_with fail
      refine (lines_any A n c l w5 HB5.out hn').mono ?_
      rintro e w6 ⟨rfl, b6⟩
      have HB6 := Lib.hid (HB5.out.below b6)
      have HN6 := Lib.hid (HN5.out.below b6 HN5.out.lt)
      have HL6 := Lib.hid (HL5.out.trans (b6.mono HL5.out.size))
      clear b6
      go_wp2_with fail
      have c2 := of_any A n c l 0 w6 HB6.out hn'
      rw [HQ2.out] at c2
      refine c2.mono ?_
      clear c2
      rintro e w7 ⟨rfl, b7⟩
      have HB7 := Lib.hid (HB6.out.below b7)
      have HL7 := Lib.hid (HL6.out.trans (b7.mono HL6.out.size))
      have hn7 := HN6.out.below b7 HN6.out.lt
      have x0 := hn7.cell 0
      have x1 := hn7.cell 1
      simp at x0 x1
      clear b7 hn7
      go_wp2_with fail
      have c3 := at_any A n c l 0 0 w7 HB7.out hn'
      rw [HQ3.out] at c3
      refine c3.mono ?_
      clear c3
      rintro e w8 ⟨rfl, b8⟩
      have HL8 := Lib.hid (HL7.out.trans (b8.mono HL7.out.size))
      clear b8
      go_wp2_with fail
      refine (awake_any w8).mono ?_
      rintro e w9 ⟨rfl, b9⟩
      have HL9 := Lib.hid (HL8.out.trans (b9.mono HL8.out.size))
      clear b9
      go_wp2_with fail
      go_ret
      exact ⟨rfl, HL9.out⟩

end Go.Proofs.Ytfabnfdadadlnaa
