/-
  place.Lines, the reference's Of, and the chapter's example (awake): walks.
-/
import Derived.Test.YtfabnfdadadlnaaOf
import Derived.Shelf.Bytes.SlCountOne
import Derived.Lib.SlBytesConst
namespace Go.Proofs.Ytfabnfdadadlnaa
set_option linter.all false
open Go.RowKit

theorem count_tens (l : List UInt8) : Lib.countByte (Lib.bytesOf (l.map fun x => (x.toNat : Int))) (10 : Int).toNat.toUInt8 = Pl.tens l := by
  have e : Lib.bytesOf (l.map fun x => (x.toNat : Int)) = l := by
    simp [Lib.bytesOf, Function.comp_def]
  rw [e]
  unfold Lib.countByte Pl.tens
  rw [List.count_eq_countP, List.countP_eq_length_filter]
  congr 2
  funext b
  rw [Bool.eq_iff_iff]
  simp only [beq_iff_eq]
  constructor
  · rintro rfl; rfl
  · intro h; exact UInt8.toNat_inj.1 h

theorem Bts.count {P : Program} {w : World} {A : Option Addr} {n : Nat} {l : List UInt8} (h : Bts w A n l) (c : Nat) :
    (Extern.BytealgCount.count #[.slice A n c, .int .u8 10]).run P w = .ok (.int .i64 (Pl.tens l)) w := by
  rcases Nat.eq_zero_or_pos n with h0 | h0
  · subst h0
    have : l = [] := List.eq_nil_of_length_eq_zero h.1
    subst this
    cases A with
    | none => exact Lib.run_countNil w 0 c 10
    | some a => exact Lib.run_countAt w a 0 c [] rfl (fun i hi => absurd hi (by omega)) 10
  · obtain ⟨b, off, rfl, hc⟩ := h.2 h0
    rw [← count_tens]
    refine Lib.run_countSlice w b off n c _ (by simp [h.1]) (fun i hi => ?_) 10
    rw [hc i hi]
    simp [List.getD_eq_getElem?_getD, List.getElem?_map, List.getElem?_eq_getElem (show i < l.length by rw [h.1]; exact hi)]

set_option maxRecDepth 1000000 in
set_option maxHeartbeats 1000000 in
/-- bytes.Count at one byte, a line's end. -/
theorem count_any (A : Option Addr) (n c b2 d : Nat) (l : List UInt8) (w : World) (hb : Bts w A n l) (hc2 : w.cell? ⟨b2, 0, none⟩ = some (.int .u8 10)) :
    Calls Try.prog 16 #[.slice A n c, .slice (some ⟨b2, 0, none⟩) 1 d] w fun e w' => e = .returned (.int .i64 (Pl.tens l)) ∧ w = w' := by
  have hct := hb.count (P := Try.prog) c
  have HCT := Lib.hid hct
  clear hct
  go_enter Try.func16, Try.ntmps16
  go_wp2
  rw [run_callFunc_extern Try.func19 (by kernel_rfl) (by kernel_rfl) (by kernel_rfl) (e := Extern.BytealgCount.count) (by kernel_rfl), HCT.out]
  simp only [Result.andThen]
  rw [Oper.upon_value]
  go_wp2
  go_ret
  exact ⟨rfl, rfl⟩

theorem tens_le (l : List UInt8) : Pl.tens l ≤ l.length := List.length_filter_le _ _

set_option maxRecDepth 100000 in
set_option maxHeartbeats 400000 in
/-- What place.Lines answers. -/
theorem lines_any (A : Option Addr) (n c : Nat) (l : List UInt8) (w : World) (hb : Bts w A n l) (hn : n ≤ 1000) :
    Calls Try.prog 11 #[.slice A n c] w fun e w' => e = .returned (.int .i64 (Pl.tens l + 1)) ∧ Below w.heap.size w w' := by
  have hb1 : Bts (w.alloc (.cells #[.int .u8 10] 5)) A n l := hb.below ((Below.refl _ w).alloc (Nat.le_refl _) _)
  have hcn := (Whole.new w 5 #[.int .u8 10]).cell 0
  have ht := tens_le l
  have hcn' : (w.alloc (.cells #[.int .u8 10] 5)).cell? ⟨w.heap.size, 0, none⟩ = some (.int .u8 10) := hcn
  have hcon := count_any A n c w.heap.size 1 l _ hb1 hcn'
  have HC := Lib.hid hcon
  have hln := hb.1
  have htt : Pl.tens l ≤ 1000 := by omega
  clear hcon hcn hcn' hb1 hb hln ht
  go_enter Try.func11, Try.ntmps11
  go_wp2_with (go_at_call 16; refine HC.out.mono ?_; rintro e w' ⟨rfl, rfl⟩)
  go_ret
  exact ⟨rfl, (Below.refl _ w).alloc (Nat.le_refl _) _⟩


/-- The loop of the reference's Of. -/
def RefRel (l : List UInt8) (a : Nat) (T : Nat × Nat) (ln cl j : Value) : Prop :=
  ∃ pos x y : Nat, pos ≤ l.length ∧ x ≤ pos + 1 ∧ y ≤ pos + 1 ∧ 1 ≤ y ∧ Pl.ofF a pos (x, y) (Pl.signs (l.drop pos)) = T ∧ ln = .int .i64 x ∧ cl = .int .i64 y ∧ j = .int .i64 pos

set_option maxRecDepth 100000 in
set_option maxHeartbeats 400000 in
theorem refof_out (A : Option Addr) (n c : Nat) (l : List UInt8) (a : Int) (w : World) (hl : l.length = n) (ha : a < 0 ∨ (n : Int) < a) :
    Calls Try.prog 8 #[.slice A n c, .int .i64 a] w fun e w' => e = .returned (.tuple #[.int .i64 (plc l a).1, .int .i64 (plc l a).2]) ∧ w = w' := by
  have hp : plc l a = (0, 0) := by unfold plc; rw [if_pos (by rw [hl]; exact ha)]
  rw [hp]
  clear hp
  have hl' := Lib.hid hl
  clear hl
  by_cases h0 : a < 0
  · clear ha
    go_enter Try.func8, Try.ntmps8
    go_wp2
    go_ret2
    exact ⟨rfl, rfl⟩
  · have ha' : (n : Int) < a := by omega
    clear ha
    go_enter Try.func8, Try.ntmps8
    go_wp2
    go_ret2
    exact ⟨rfl, rfl⟩

set_option maxRecDepth 100000 in
set_option maxHeartbeats 400000 in
theorem refof_in (A : Option Addr) (n c : Nat) (l : List UInt8) (a : Nat) (w : World) (hb : Bts w A n l) (hn : n ≤ 1000) (ha : a ≤ n) :
    Calls Try.prog 8 #[.slice A n c, .int .i64 a] w fun e w' => e = .returned (.tuple #[.int .i64 (Pl.ofB l a).1, .int .i64 (Pl.ofB l a).2]) ∧ w = w' := by
  have d0 : decide ((a : Int) < 0) = false := decide_eq_false (by omega)
  have d1 : decide (n < a) = false := decide_eq_false (by omega)
  have HB := Lib.hid hb
  have hln := hb.1
  clear hb
  go_enter Try.func8, Try.ntmps8
  go_wp2
  go_loop [6, 7, 8] (fun ln cl j => RefRel l a (Pl.ofB l a) ln cl j) (fun _ _ j => n - (intOf j).toNat)
  case atStart => exact ⟨0, 1, 1, Nat.zero_le _, Nat.le_refl _, Nat.le_refl _, Nat.le_refl _, rfl, rfl, rfl, rfl⟩
  case round =>
    obtain ⟨pos, x, y, hpos, hx, hy, hy1, hT, rfl, rfl, rfl⟩ := hrel
    have hT' := Lib.hid hT
    clear hT
    by_cases hp : pos < a
    · obtain ⟨d, hd⟩ : ∃ d, d = Pl.dec (l.drop pos) := ⟨_, rfl⟩
      have hne : l.drop pos ≠ [] := by intro h; have := congrArg List.length h; simp at this; omega
      have hd1 := Pl.dec_pos (l.drop pos)
      have hd2 := Pl.dec_le (l.drop pos) hne
      have hsg := Pl.signs_cons (l.drop pos) hne
      have hsr := Pl.signR_dec (l.drop pos) hne
      have hcon := sign_any A n c pos l w HB.out hn (by omega)
      rw [hsr] at hcon
      rw [← hd] at hd1 hd2 hsg hcon
      rw [List.drop_drop] at hsg
      rw [List.length_drop] at hd2
      clear hd hsr hne
      obtain ⟨cc, wd⟩ := d
      simp only at hd1 hd2 hsg
      have hT2 : Pl.ofF a (pos + wd) (Pl.step cc (x, y)) (Pl.signs (l.drop (pos + wd))) = Pl.ofB l a := by
        rw [← hT'.out, hsg]
        simp only [Pl.ofF]
        rw [if_neg (by omega)]
      have HT2 := Lib.hid hT2
      clear hT2 hsg
      obtain ⟨v, hv⟩ : ∃ v, v = Pl.signV (cc, wd) := ⟨_, rfl⟩
      have hv1 : v.1 = wd := by
        rw [hv]; unfold Pl.signV
        split
        · rename_i h; exact h.2.symm
        · rfl
      have hv2 : v.2 = 10 ↔ cc = 10 := by
        rw [hv]; unfold Pl.signV
        split
        · rename_i h; simp only at h ⊢; omega
        · simp only; omega
      rw [← hv, hv1] at hcon
      have HC := Lib.hid hcon
      clear hcon hv hv1
      obtain ⟨v1, v2⟩ := v
      simp only at hv2 HC
      by_cases hc : cc = 10
      · have hst := Lib.hid (show Pl.step cc (x, y) = (x + 1, 1) by simp [Pl.step, hc])
        obtain rfl : v2 = 10 := hv2.2 hc
        clear hc hv2
        go_wp2_with (go_at_call 13; refine HC.out.mono ?_; rintro e w' ⟨rfl, rfl⟩)
        go_round
        case rel => exact ⟨pos + wd, x + 1, 1, by omega, by omega, by omega, Nat.le_refl _, by rw [← hst.out]; exact HT2.out, by go_num, by go_num, by go_num⟩
        case measure => simp [intOf]; omega
      · have hst := Lib.hid (show Pl.step cc (x, y) = (x, y + 1) by simp [Pl.step, hc])
        have hvb : (v2 == 10) = false := by
          rw [beq_eq_false_iff_ne]
          exact fun h => hc (hv2.1 h)
        clear hc hv2
        go_wp2_with (go_at_call 13; refine HC.out.mono ?_; rintro e w' ⟨rfl, rfl⟩)
        go_round
        case rel => exact ⟨pos + wd, x, y + 1, by omega, by omega, by omega, by omega, by rw [← hst.out]; exact HT2.out, by go_num, by go_num, by go_num⟩
        case measure => simp [intOf]; omega
    · have hfin := Lib.hid (hT'.out.symm.trans (Pl.ofF_here a pos (x, y) _ (by omega)))
      go_wp2
      go_ret2
      rw [hfin.out]
      all_goals exact ⟨rfl, rfl⟩

/-- What the reference's Of answers. -/
theorem refof_any (A : Option Addr) (n c : Nat) (l : List UInt8) (a : Int) (w : World) (hb : Bts w A n l) (hn : n ≤ 1000) :
    Calls Try.prog 8 #[.slice A n c, .int .i64 a] w fun e w' => e = .returned (.tuple #[.int .i64 (plc l a).1, .int .i64 (plc l a).2]) ∧ w = w' := by
  by_cases h : a < 0 ∨ (n : Int) < a
  · exact refof_out A n c l a w hb.1 h
  · obtain ⟨k, rfl⟩ := Int.eq_ofNat_of_zero_le (show 0 ≤ a by omega)
    have := refof_in A n c l k w hb hn (by omega)
    have e : plc l (k : Int) = Pl.ofB l k := by
      unfold plc
      rw [if_neg (by rw [hb.1]; exact h)]
      simp
    rw [e]
    exact this


/-- The example's bytes. -/
def exB : List UInt8 := [97, 195, 164, 10, 98]
theorem plc1 : plc exB 1 = (1, 2) := by decide +kernel
theorem plc3 : plc exB 3 = (1, 3) := by decide +kernel
theorem plc4 : plc exB 4 = (2, 1) := by decide +kernel
theorem tens1 : Pl.tens exB = 1 := by decide +kernel

theorem exBts (w : World) : Bts (w.alloc (.cells #[.int .u8 97, .int .u8 195, .int .u8 164, .int .u8 10, .int .u8 98] 5 (5, 6))) (some ⟨w.heap.size, 0, none⟩) 5 exB := by
  refine ⟨rfl, fun _ => ⟨w.heap.size, 0, rfl, fun i hi => ?_⟩⟩
  have hw : (w.alloc (.cells #[.int .u8 97, .int .u8 195, .int .u8 164, .int .u8 10, .int .u8 98] 5 (5, 6))).heap[w.heap.size]? = some (.cells #[.int .u8 97, .int .u8 195, .int .u8 164, .int .u8 10, .int .u8 98] 5 (5, 6)) := heap_alloc_new w _
  rw [cell_of_row _ _ _ _ _ _ hw]
  match i, hi with
  | 0, _ => rfl
  | 1, _ => rfl
  | 2, _ => rfl
  | 3, _ => rfl
  | 4, _ => rfl

set_option maxRecDepth 100000 in
set_option maxHeartbeats 1000000 in
/-- The chapter's example. -/
theorem awake_any (w : World) : Calls Try.prog 10 #[] w fun e w' => e = .returned (.bool true) ∧ Below w.heap.size w w' := by
  have kc := fun (w : World) (C : Array Value) (n c : Nat) => Lib.run_convert_bytes_const (P := Try.prog) w 22 5 C n c Try.underlying22 Try.underlying5
  have hb := exBts w
  have hB : Below w.heap.size w (w.alloc (.cells #[.int .u8 97, .int .u8 195, .int .u8 164, .int .u8 10, .int .u8 98] 5 (5, 6))) := (Below.refl _ w).alloc (Nat.le_refl _) _
  have q1 := plc1
  have q3 := plc3
  have q4 := plc4
  have qt := tens1
  have H1 := Lib.hid q1
  have H3 := Lib.hid q3
  have H4 := Lib.hid q4
  have HT := Lib.hid qt
  clear q1 q3 q4 qt
  have HB := Lib.hid hb
  clear hb
  go_enter Try.func10, Try.ntmps10
  go_wp2_with fail
  have h1 := of_any (some ⟨w.heap.size, 0, none⟩) 5 5 exB 1 _ HB.out (by omega)
  rw [H1.out] at h1
  refine h1.mono ?_
  clear h1
  rintro e w1 ⟨rfl, b1⟩
  go_wp2_with fail
  have h2 := of_any (some ⟨w.heap.size, 0, none⟩) 5 5 exB 3 _ (HB.out.below b1) (by omega)
  rw [H3.out] at h2
  refine h2.mono ?_
  clear h2
  rintro e w2 ⟨rfl, b2⟩
  go_wp2_with fail
  have h3 := of_any (some ⟨w.heap.size, 0, none⟩) 5 5 exB 4 _ ((HB.out.below b1).below b2) (by omega)
  rw [H4.out] at h3
  refine h3.mono ?_
  clear h3
  rintro e w3 ⟨rfl, b3⟩
  go_wp2_with fail
  have h4 := lines_any (some ⟨w.heap.size, 0, none⟩) 5 5 exB _ (((HB.out.below b1).below b2).below b3) (by omega)
  rw [HT.out] at h4
  refine h4.mono ?_
  clear h4
  rintro e w4 ⟨rfl, b4⟩
  go_wp2_with fail
  go_ret
  refine ⟨rfl, ?_⟩
  have s1 := hB.size
  have s2 := b1.size
  have s3 := b2.size
  have s4 := b3.size
  exact (((hB.trans (b1.mono s1)).trans (b2.mono (by omega))).trans (b3.mono (by omega))).trans (b4.mono (by omega))

end Go.Proofs.Ytfabnfdadadlnaa
