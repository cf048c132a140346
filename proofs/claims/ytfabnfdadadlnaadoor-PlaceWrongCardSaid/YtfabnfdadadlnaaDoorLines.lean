/-
  place.Lines, the reference's Of, and the chapter's example (awake): walks.
-/
import Derived.Test.YtfabnfdadadlnaaDoorOf
import Derived.Shelf.Bytes.SlCountOne
import Derived.Lib.SlBytesConst
namespace Go.Proofs.YtfabnfdadadlnaaDoor
set_option linter.all false
open Go.RowKit

theorem count_tens (l : List UInt8) : Lib.countByte (Lib.bytesOf (l.map fun x => (x.toNat : Int))) (10 : Int).toNat.toUInt8 = Pl.tens l := by
  have e : Lib.bytesOf (l.map fun x => (x.toNat : Int)) = l := by
    simp [Lib.bytesOf, Function.comp_def]
  rw [e]
  unfold Lib.countByte Pl.tens
  rw [List.count_eq_countP, List.countP_eq_length_filter]
  congr 2
  funext b
  rw [Bool.eq_iff_iff]
  simp only [beq_iff_eq]
  constructor
  · rintro rfl; rfl
  · intro h; exact UInt8.toNat_inj.1 h

theorem Bts.count {P : Program} {w : World} {A : Option Addr} {n : Nat} {l : List UInt8} (h : Bts w A n l) (c : Nat) :
    (Extern.BytealgCount.count #[.slice A n c, .int .u8 10]).run P w = .ok (.int .i64 (Pl.tens l)) w := by
  rcases Nat.eq_zero_or_pos n with h0 | h0
  · subst h0
    have : l = [] := List.eq_nil_of_length_eq_zero h.1
    subst this
    cases A with
    | none => exact Lib.run_countNil w 0 c 10
    | some a => exact Lib.run_countAt w a 0 c [] rfl (fun i hi => absurd hi (by omega)) 10
  · obtain ⟨b, off, rfl, hc⟩ := h.2 h0
    rw [← count_tens]
    refine Lib.run_countSlice w b off n c _ (by simp [h.1]) (fun i hi => ?_) 10
    rw [hc i hi]
    simp [List.getD_eq_getElem?_getD, List.getElem?_map, List.getElem?_eq_getElem (show i < l.length by rw [h.1]; exact hi)]

set_option maxRecDepth 1000000 in
set_option maxHeartbeats 1000000 in
/-- bytes.Count at one byte, a line's end. -/
theorem count_any (A : Option Addr) (n c b2 d : Nat) (l : List UInt8) (w : World) (hb : Bts w A n l) (hc2 : w.cell? ⟨b2, 0, none⟩ = some (.int .u8 10)) :
    Calls Tryd.prog 11 #[.slice A n c, .slice (some ⟨b2, 0, none⟩) 1 d] w fun e w' => e = .returned (.int .i64 (Pl.tens l)) ∧ w = w' := by
  have hct := hb.count (P := Tryd.prog) c
  have HCT := Lib.hid hct
  clear hct
  go_enter Tryd.func11, Tryd.ntmps11
  go_wp2
  rw [run_callFunc_extern Tryd.func15 (by kernel_rfl) (by kernel_rfl) (by kernel_rfl) (e := Extern.BytealgCount.count) (by kernel_rfl), HCT.out]
  simp only [Result.andThen]
  rw [Oper.upon_value]
  go_wp2
  go_ret
  exact ⟨rfl, rfl⟩

theorem tens_le (l : List UInt8) : Pl.tens l ≤ l.length := List.length_filter_le _ _

set_option maxRecDepth 100000 in
set_option maxHeartbeats 400000 in
/-- What place.Lines answers. -/
theorem lines_any (A : Option Addr) (n c : Nat) (l : List UInt8) (w : World) (hb : Bts w A n l) (hn : n ≤ 1000) :
    Calls Tryd.prog 6 #[.slice A n c] w fun e w' => e = .returned (.int .i64 (Pl.tens l + 1)) ∧ Below w.heap.size w w' := by
  have hb1 : Bts (w.alloc (.cells #[.int .u8 10] 5)) A n l := hb.below ((Below.refl _ w).alloc (Nat.le_refl _) _)
  have hcn := (Whole.new w 5 #[.int .u8 10]).cell 0
  have ht := tens_le l
  have hcn' : (w.alloc (.cells #[.int .u8 10] 5)).cell? ⟨w.heap.size, 0, none⟩ = some (.int .u8 10) := hcn
  have hcon := count_any A n c w.heap.size 1 l _ hb1 hcn'
  have HC := Lib.hid hcon
  have hln := hb.1
  have htt : Pl.tens l ≤ 1000 := by omega
  clear hcon hcn hcn' hb1 hb hln ht
  go_enter Tryd.func6, Tryd.ntmps6
  go_wp2_with (go_at_call 11; refine HC.out.mono ?_; rintro e w' ⟨rfl, rfl⟩)
  go_ret
  exact ⟨rfl, (Below.refl _ w).alloc (Nat.le_refl _) _⟩


/-- The example's bytes. -/
def exB : List UInt8 := [97, 195, 164, 10, 98]
theorem plc1 : plc exB 1 = (1, 2) := by decide +kernel
theorem plc3 : plc exB 3 = (1, 3) := by decide +kernel
theorem plc4 : plc exB 4 = (2, 1) := by decide +kernel
theorem tens1 : Pl.tens exB = 1 := by decide +kernel

theorem exBts (w : World) : Bts (w.alloc (.cells #[.int .u8 97, .int .u8 195, .int .u8 164, .int .u8 10, .int .u8 98] 5 (5, 6))) (some ⟨w.heap.size, 0, none⟩) 5 exB := by
  refine ⟨rfl, fun _ => ⟨w.heap.size, 0, rfl, fun i hi => ?_⟩⟩
  have hw : (w.alloc (.cells #[.int .u8 97, .int .u8 195, .int .u8 164, .int .u8 10, .int .u8 98] 5 (5, 6))).heap[w.heap.size]? = some (.cells #[.int .u8 97, .int .u8 195, .int .u8 164, .int .u8 10, .int .u8 98] 5 (5, 6)) := heap_alloc_new w _
  rw [cell_of_row _ _ _ _ _ _ hw]
  match i, hi with
  | 0, _ => rfl
  | 1, _ => rfl
  | 2, _ => rfl
  | 3, _ => rfl
  | 4, _ => rfl

set_option maxRecDepth 100000 in
set_option maxHeartbeats 1000000 in
/-- The chapter's example. -/
theorem awake_any (w : World) : Calls Tryd.prog 8 #[] w fun e w' => e = .returned (.bool true) ∧ Below w.heap.size w w' := by
  have kc := fun (w : World) (C : Array Value) (n c : Nat) => Lib.run_convert_bytes_const (P := Tryd.prog) w 22 5 C n c Tryd.underlying22 Tryd.underlying5
  have hb := exBts w
  have hB : Below w.heap.size w (w.alloc (.cells #[.int .u8 97, .int .u8 195, .int .u8 164, .int .u8 10, .int .u8 98] 5 (5, 6))) := (Below.refl _ w).alloc (Nat.le_refl _) _
  have q1 := plc1
  have q3 := plc3
  have q4 := plc4
  have qt := tens1
  have H1 := Lib.hid q1
  have H3 := Lib.hid q3
  have H4 := Lib.hid q4
  have HT := Lib.hid qt
  clear q1 q3 q4 qt
  have HB := Lib.hid hb
  clear hb
  go_enter Tryd.func8, Tryd.ntmps8
  go_wp2_with fail
  have h1 := of_any (some ⟨w.heap.size, 0, none⟩) 5 5 exB 1 _ HB.out (by omega)
  rw [H1.out] at h1
  refine h1.mono ?_
  clear h1
  rintro e w1 ⟨rfl, b1⟩
  go_wp2_with fail
  have h2 := of_any (some ⟨w.heap.size, 0, none⟩) 5 5 exB 3 _ (HB.out.below b1) (by omega)
  rw [H3.out] at h2
  refine h2.mono ?_
  clear h2
  rintro e w2 ⟨rfl, b2⟩
  go_wp2_with fail
  have h3 := of_any (some ⟨w.heap.size, 0, none⟩) 5 5 exB 4 _ ((HB.out.below b1).below b2) (by omega)
  rw [H4.out] at h3
  refine h3.mono ?_
  clear h3
  rintro e w3 ⟨rfl, b3⟩
  go_wp2_with fail
  have h4 := lines_any (some ⟨w.heap.size, 0, none⟩) 5 5 exB _ (((HB.out.below b1).below b2).below b3) (by omega)
  rw [HT.out] at h4
  refine h4.mono ?_
  clear h4
  rintro e w4 ⟨rfl, b4⟩
  go_wp2_with fail
  go_ret
  refine ⟨rfl, ?_⟩
  have s1 := hB.size
  have s2 := b1.size
  have s3 := b2.size
  have s4 := b3.size
  exact (((hB.trans (b1.mono s1)).trans (b2.mono (by omega))).trans (b3.mono (by omega))).trans (b4.mono (by omega))

end Go.Proofs.YtfabnfdadadlnaaDoor
