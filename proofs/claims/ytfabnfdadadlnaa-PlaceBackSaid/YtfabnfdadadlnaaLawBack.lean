/-
  The law PlaceBack: its walk.
-/
import Derived.Test.YtfabnfdadadlnaaLawOf
import Derived.Deep.QuietTactic
import Derived.BigQuiet
import Derived.Lib.QuietBelow
namespace Go.Proofs.Ytfabnfdadadlnaa
set_option linter.all false
open Go.RowKit

theorem plc_nat (l : List UInt8) (k : Nat) (h : k ≤ l.length) : plc l k = Pl.ofB l k := by
  unfold plc
  rw [if_neg (by omega)]
  rfl

/-- The loop over the signs' beginnings. -/
def BackRel (w : World) (n : Nat) (l : List UInt8) (j : Value) (wr : World) : Prop :=
  ∃ k : Nat, k ≤ n ∧ j = .int .i64 k ∧ Pl.startAt l k ∧ Below w.heap.size w wr

set_option maxRecDepth 100000 in
set_option maxHeartbeats 2000000 in
theorem lawBack_walk (A : Option Addr) (n c : Nat) (l : List UInt8) (x y : Int) (w : World) (hb : Bts w A n l) :
    Calls Try.prog 6 #[.slice A n c, .int .i64 x, .int .i64 y] w fun e w' => e = .returned (.bool true) ∧ Below w.heap.size w w' := by
  by_cases hn : 300 < n
  · go_enter Try.func6, Try.ntmps6
    go_wp2
    go_ret
    exact ⟨rfl, Below.refl _ _⟩
  · have hn' : n ≤ 1000 := by omega
    have hn3 : n ≤ 300 := by omega
    have d0 : decide ((300 : Int) < n) = false := decide_eq_false (by omega)
    clear hn
    have hln := hb.1
    have HB := Lib.hid hb
    clear hb
    go_enter Try.func6, Try.ntmps6
    go_wp2
    go_loopw [7] (fun j wr => BackRel w n l j wr) (fun j _ => n - (intOf j).toNat)
    case atStart => exact ⟨0, Nat.zero_le _, rfl, Pl.startAt_zero l, Below.refl _ _⟩
    case round =>
      obtain ⟨k, hk, rfl, hst, hbel⟩ := hrel
      have HST := Lib.hid hst
      have HBL := Lib.hid hbel
      have HBR := Lib.hid (HB.out.below hbel)
      clear hst hbel
      have c1 := of_any A n c l k wr HBR.out hn'
      rw [plc_nat l k (by omega)] at c1
      obtain ⟨p, hp⟩ : ∃ p, p = Pl.ofB l k := ⟨_, rfl⟩
      have hback := Pl.back l k HST.out
      rw [← hp] at c1 hback
      obtain ⟨p1, p2⟩ := p
      simp only at c1 hback
      have HP := Lib.hid hp
      have HC1 := Lib.hid c1
      have HBK := Lib.hid hback
      clear c1 hback hp
      by_cases hlt : k < n
      · obtain ⟨d, hd⟩ : ∃ d, d = Pl.dec (l.drop k) := ⟨_, rfl⟩
        have hne : l.drop k ≠ [] := by intro h; have := congrArg List.length h; simp at this; omega
        have hd1 := Pl.dec_pos (l.drop k)
        have hd2 := Pl.dec_le (l.drop k) hne
        have hsr := Pl.signR_dec (l.drop k) hne
        have hnext := Pl.startAt_next l k HST.out (by omega)
        rw [← hd] at hd1 hd2 hsr hnext
        rw [List.length_drop] at hd2
        clear hd hne
        obtain ⟨cc, wd⟩ := d
        simp only at hd1 hd2 hnext
        obtain ⟨v, hv⟩ : ∃ v, v = Pl.signV (cc, wd) := ⟨_, rfl⟩
        have hv1 : v.1 = wd := by
          rw [hv]; unfold Pl.signV
          split
          · rename_i h; exact h.2.symm
          · rfl
        rw [← hv] at hsr
        obtain ⟨v1, v2⟩ := v
        simp only at hv1
        subst hv1
        have HN := Lib.hid hnext
        have HSR := Lib.hid hsr
        clear hv hsr hnext
        go_wp2_with fail
        refine HC1.out.mono ?_
        rintro e w1 ⟨rfl, b1⟩
        have HB1 := Lib.hid (HBR.out.below b1)
        have HL1 := Lib.hid (HBL.out.trans (b1.mono HBL.out.size))
        clear b1
        go_wp2_with fail
        have c2 := at_any A n c l p1 p2 w1 HB1.out hn'
        rw [HBK.out] at c2
        refine c2.mono ?_
        clear c2
        rintro e w2 ⟨rfl, b2⟩
        have HB2 := Lib.hid (HB1.out.below b2)
        have HL2 := Lib.hid (HL1.out.trans (b2.mono HL1.out.size))
        clear b2
        have ho : optI (some k) = (k : Int) := rfl
        go_wp2_with fail
        have c3 := sign_any A n c k l w2 HB2.out hn' hlt
        rw [HSR.out] at c3
        refine c3.mono ?_
        clear c3
        rintro e w3 ⟨rfl, rfl⟩
        go_wp2_with fail
        go_roundw
        case rel => exact ⟨k + v1, by omega, by go_num, HN.out, HL2.out⟩
        case measure => simp [intOf]; omega
      · have hkn : k = n := by omega
        subst hkn
        cases hq : Pl.atB l (x, y) with
        | none =>
          have HQ := Lib.hid hq
          clear hq
          go_wp2_with fail
          refine HC1.out.mono ?_
          rintro e w1 ⟨rfl, b1⟩
          have HB1 := Lib.hid (HBR.out.below b1)
          have HL1 := Lib.hid (HBL.out.trans (b1.mono HBL.out.size))
          clear b1
          go_wp2_with fail
          have c2 := at_any A k c l p1 p2 w1 HB1.out hn'
          rw [HBK.out] at c2
          refine c2.mono ?_
          clear c2
          rintro e w2 ⟨rfl, b2⟩
          have HB2 := Lib.hid (HB1.out.below b2)
          have HL2 := Lib.hid (HL1.out.trans (b2.mono HL1.out.size))
          clear b2
          have ho : optI (some k) = (k : Int) := rfl
          obtain ⟨W3, hW3⟩ : ∃ W3, W3 = w2.alloc (.cells #[.int .i64 x, .int .i64 y] 26) := ⟨_, rfl⟩
          have hwh : Whole W3 w2.heap.size 26 #[.int .i64 x, .int .i64 y] := by rw [hW3]; exact Whole.new w2 26 _
          have b3 : Below w2.heap.size w2 W3 := by rw [hW3]; exact (Below.refl _ w2).alloc (Nat.le_refl _) _
          have HB3 := Lib.hid (HB2.out.below b3)
          have HL3 := Lib.hid (HL2.out.trans (b3.mono HL2.out.size))
          have HW := Lib.hid hwh
          have y0 := hwh.cell 0
          have y1 := hwh.cell 1
          simp at y0 y1
          rw [hW3] at y0 y1
          clear b3
          go_wp2_with fail
          rw [← hW3] at y0 y1 ⊢
          clear hW3 hwh
          have c4 := at_any A k c l x y W3 HB3.out hn'
          rw [HQ.out] at c4
          refine c4.mono ?_
          clear c4
          rintro e w4 ⟨rfl, b4⟩
          have HB4 := Lib.hid (HB3.out.below b4)
          have HL4 := Lib.hid (HL3.out.trans (b4.mono HL3.out.size))
          have hw4 := HW.out.below b4 HW.out.lt
          have k0 := cell_regrown (hw4.cell 0)
          have k1 := cell_regrown (hw4.cell 1)
          simp at k0 k1
          clear b4 hw4
          have hov : optI none = -1 := rfl
          have g1 : ((-1 : Int) == -1) = true := rfl
          rw [hov]
          go_wp2_with fail
          refine wp_region_quiet_below (by kernel_rfl) (by kernel_rfl) ?_
          repeat (first
            | go_big_quiet_step ((go_at_call 10; exact Calls.regrown_of (awake_any _)))
            | quiet_step ((go_at_call 10; exact Calls.regrown_of (awake_any _))))
          refine wpQuiet_nil ?_
          intro _ hw'
          obtain ⟨⟨dq, osq⟩, hw''⟩ := hw'
          subst hw''
          go_wp2_with fail
          go_ret
          exact ⟨rfl, HL4.out.trans ((below_regrown w4 dq osq).mono HL4.out.size)⟩
        | some kk =>
          have hs := Pl.back_some l (x, y) kk hq
          have hkk := hs.1
          have hpx := congrArg Prod.fst hs.2
          have hpy := congrArg Prod.snd hs.2
          simp only at hpx hpy
          have HPX := Lib.hid hpx
          have HPY := Lib.hid hpy
          have HQ := Lib.hid hq
          clear hq hs hpx hpy
          go_wp2_with fail
          refine HC1.out.mono ?_
          rintro e w1 ⟨rfl, b1⟩
          have HB1 := Lib.hid (HBR.out.below b1)
          have HL1 := Lib.hid (HBL.out.trans (b1.mono HBL.out.size))
          clear b1
          go_wp2_with fail
          have c2 := at_any A k c l p1 p2 w1 HB1.out hn'
          rw [HBK.out] at c2
          refine c2.mono ?_
          clear c2
          rintro e w2 ⟨rfl, b2⟩
          have HB2 := Lib.hid (HB1.out.below b2)
          have HL2 := Lib.hid (HL1.out.trans (b2.mono HL1.out.size))
          clear b2
          have ho : optI (some k) = (k : Int) := rfl
          obtain ⟨W3, hW3⟩ : ∃ W3, W3 = w2.alloc (.cells #[.int .i64 x, .int .i64 y] 26) := ⟨_, rfl⟩
          have hwh : Whole W3 w2.heap.size 26 #[.int .i64 x, .int .i64 y] := by rw [hW3]; exact Whole.new w2 26 _
          have b3 : Below w2.heap.size w2 W3 := by rw [hW3]; exact (Below.refl _ w2).alloc (Nat.le_refl _) _
          have HB3 := Lib.hid (HB2.out.below b3)
          have HL3 := Lib.hid (HL2.out.trans (b3.mono HL2.out.size))
          have HW := Lib.hid hwh
          have y0 := hwh.cell 0
          have y1 := hwh.cell 1
          simp at y0 y1
          rw [hW3] at y0 y1
          clear b3
          go_wp2_with fail
          rw [← hW3] at y0 y1 ⊢
          clear hW3 hwh
          have c4 := at_any A k c l x y W3 HB3.out hn'
          rw [HQ.out] at c4
          refine c4.mono ?_
          clear c4
          rintro e w4 ⟨rfl, b4⟩
          have HB4 := Lib.hid (HB3.out.below b4)
          have HL4 := Lib.hid (HL3.out.trans (b4.mono HL3.out.size))
          have hw4 := HW.out.below b4 HW.out.lt
          have k0 := cell_regrown (hw4.cell 0)
          have k1 := cell_regrown (hw4.cell 1)
          simp at k0 k1
          clear b4 hw4
          have hov : optI (some kk) = (kk : Int) := rfl
          have g1 : ((kk : Int) == -1) = false := by rw [beq_eq_false_iff_ne]; omega
          have g2 : decide ((0 : Int) ≤ (kk : Int)) = true := decide_eq_true (by omega)
          have g3 : decide (kk ≤ k) = true := decide_eq_true (by omega)
          have g4 : decide ((kk : Int) ≤ (k : Int)) = true := decide_eq_true (by omega)
          rw [hov]
          go_wp2_with fail
          have hc := fun d os => of_any A k c l kk _ (HB4.out.below (below_regrown w4 d os)) hn'
          rw [plc_nat l kk (by omega)] at hc
          rw [HPX.out, HPY.out] at hc
          have HC := Lib.hid hc
          clear hc
          refine wp_region_quiet_below (by kernel_rfl) (by kernel_rfl) ?_
          repeat (first
            | go_big_quiet_step (first | (go_at_call 9; exact Calls.regrown_of (HC.out _ _)) | (go_at_call 10; exact Calls.regrown_of (awake_any _)))
            | quiet_step (first | (go_at_call 9; exact Calls.regrown_of (HC.out _ _)) | (go_at_call 10; exact Calls.regrown_of (awake_any _))))
          refine wpQuiet_nil ?_
          intro _ hw'
          obtain ⟨⟨dq, osq⟩, hw''⟩ := hw'
          subst hw''
          go_wp2_with fail
          go_ret
          exact ⟨rfl, HL4.out.trans ((below_regrown w4 dq osq).mono HL4.out.size)⟩

end Go.Proofs.Ytfabnfdadadlnaa
