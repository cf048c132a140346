/-
  The program's places (place.starts, Of, At, Lines) and the reference's Of: walks.
-/
import Derived.Test.YtfabnfdadadlnaaDoorWords
namespace Go.Proofs.YtfabnfdadadlnaaDoor
set_option linter.all false
open Go.RowKit
open Pl (signs ofF atF step)

set_option maxRecDepth 100000 in
set_option maxHeartbeats 400000 in
/-- The closure in Of: it keeps the place, and says whether the byte is reached. -/
theorem of1_any (i a x y : Int) (u v : Value) (bo ba : Nat) (w : World) (ho : Whole w bo 32 #[u, v]) (ha : Whole w ba 3 #[.int .i64 a]) :
    Calls Tryd.prog 18 #[.int .i64 i, .agg #[.int .i64 x, .int .i64 y], .pointer (some ⟨bo, 0, none⟩), .pointer (some ⟨ba, 0, none⟩)] w fun e w' =>
      e = .returned (.bool (decide (a ≤ i))) ∧ Whole w' bo 32 #[.int .i64 x, .int .i64 y] ∧ w.grownBy w' (some bo) := by
  have c0 := ho.cell 0
  have c1 := ho.cell 1
  have f0 := ho.free 0
  have f1 := ho.free 1
  have ca := ha.cell 0
  have hl := ho.lt
  have hla := ha.lt
  have hne := ho.ne ha (by decide)
  have hne' : ba ≠ bo := fun e => hne e.symm
  simp at c0 c1 ca
  go_enter Tryd.func18, Tryd.ntmps18
  go_wp2
  go_ret
  have h1 : Whole ((w.setCell ⟨bo, 0, none⟩ (.int .i64 x)).setCell ⟨bo, 1, none⟩ (.int .i64 y)) bo 32 #[.int .i64 x, .int .i64 y] := by
    have := (ho.put 0 (.int .i64 x)).put 1 (.int .i64 y)
    simpa using this
  exact ⟨rfl, h1.alloc _, only_alloc (only_set (only_set (World.grownBy.refl w (some bo)) (.inl rfl) _) (.inl rfl) _) _⟩

/-- The loop over the signs, in Of: nothing has been reached yet. -/
def OfRel (w : World) (l : List UInt8) (a bo ba bp bi : Nat) (T : Nat × Nat) (wr : World) : Prop :=
  ∃ (pos x y : Nat) (u v : Value), pos ≤ l.length ∧ x ≤ pos + 1 ∧ y ≤ pos + 1 ∧ 1 ≤ y ∧ ofF a pos (x, y) (signs (l.drop pos)) = T ∧
    wr.heap[bi]? = some (.stringIter ⟨l.toArray⟩ pos) ∧ Whole wr bp 32 #[.int .i64 x, .int .i64 y] ∧ Whole wr bo 32 #[u, v] ∧ Whole wr ba 3 #[.int .i64 a] ∧ w.grownBy wr (some bo)

set_option maxRecDepth 100000 in
set_option maxHeartbeats 400000 in
theorem starts_of (A : Option Addr) (n c : Nat) (l : List UInt8) (a : Nat) (u v : Value) (bo ba : Nat) (w : World) (hb : Bts w A n l) (hn : n ≤ 1000)
    (ho : Whole w bo 32 #[u, v]) (ha : Whole w ba 3 #[.int .i64 a]) (han : a ≤ n) (hA : ∀ b off, A = some ⟨b, off, none⟩ → 0 < n → b ≠ bo) :
    Calls Tryd.prog 17 #[.slice A n c, .func (.func 18) #[] #[.pointer (some ⟨bo, 0, none⟩), .pointer (some ⟨ba, 0, none⟩)]] w fun e w' =>
      e = .returned (.tuple #[]) ∧ Whole w' bo 32 #[.int .i64 (Pl.ofB l a).1, .int .i64 (Pl.ofB l a).2] ∧ w.grownBy w' (some bo) := by
  have hne : ba ≠ bo := fun e => ho.ne ha (by decide) e.symm
  have hb1 : Bts (w.alloc (.cells #[.int .i64 1, .int .i64 1] 32)) A n l := hb.below ((Below.refl _ w).alloc (Nat.le_refl _) _)
  have hcv := hb1.string (P := Tryd.prog) c 22 5 Tryd.underlying22 Tryd.underlying5 9 Tryd.underlying9
  have HB := Lib.hid hb
  clear hb hb1
  go_enter Tryd.func17, Tryd.ntmps17
  go_wp2
  go_loopw [] (fun wr => OfRel w l a bo ba w.heap.size (w.heap.size + 1) (Pl.ofB l a) wr) (fun wr => l.length - wr.iterPos (w.heap.size + 1))
  case atStart =>
    have g0 : w.grownBy (((w.alloc (.cells #[.int .i64 1, .int .i64 1] 32)).iter ⟨l.toArray⟩ 0)) (some bo) := only_alloc (only_alloc (World.grownBy.refl w (some bo)) _) _
    refine ⟨0, 1, 1, u, v, Nat.zero_le _, Nat.le_refl _, Nat.le_refl _, Nat.le_refl _, rfl, ?_, ?_, (ho.alloc _).alloc _, (ha.alloc _).alloc _, g0⟩
    · have := World.iter_heap (w.alloc (.cells #[.int .i64 1, .int .i64 1] 32)) ⟨l.toArray⟩ 0
      simpa using this
    · exact (Whole.new w 32 #[.int .i64 1, .int .i64 1]).alloc _
  case round =>
    obtain ⟨pos, x, y, u', v', hpos, hx, hy, hy1, hT, hit, hwp, hwo, hwa, hg⟩ := hrel
    have hln := HB.out.1
    have hbo := ho.lt
    have hba := ha.lt
    have hT' := Lib.hid hT
    clear hT
    have hsz := hg.size
    by_cases hp : pos < l.length
    · obtain ⟨d, hd⟩ : ∃ d, d = Pl.dec (l.drop pos) := ⟨_, rfl⟩
      have hdec : Utf8.decode ⟨l.toArray⟩ pos = d := by
        rw [hd]
        exact Pl.decode_dec ⟨l.toArray⟩ pos hp
      have hd1 := Pl.dec_pos (l.drop pos)
      have hd2 := Pl.dec_le (l.drop pos) (by intro h; have := congrArg List.length h; simp at this; omega)
      have hsg := Pl.signs_cons (l.drop pos) (by intro h; have := congrArg List.length h; simp at this; omega)
      rw [← hd] at hd1 hd2 hsg
      rw [List.drop_drop] at hsg
      rw [List.length_drop] at hd2
      obtain ⟨cc, wd⟩ := d
      simp only at hd1 hd2 hsg
      have hnx : ∀ ty, (Instr.next (.pointer (some ⟨w.heap.size + 1, 0, none⟩)) true ty).run Tryd.prog wr = .ok (.tuple #[.bool true, .int .i64 pos, .int .i32 cc]) (wr.iterAt (w.heap.size + 1) ⟨l.toArray⟩ (pos + wd)) := by
        intro ty
        rw [Lib.run_next_any_at wr (w.heap.size + 1) ⟨l.toArray⟩ pos ty hit hp, hdec]
      have hit1 := Lib.iterAt_heap wr (w.heap.size + 1) ⟨l.toArray⟩ pos (pos + wd) hit
      have hsz1 := Lib.iterAt_size wr (w.heap.size + 1) ⟨l.toArray⟩ (pos + wd)
      obtain ⟨W1, hW1⟩ : ∃ W1, W1 = wr.iterAt (w.heap.size + 1) ⟨l.toArray⟩ (pos + wd) := ⟨_, rfl⟩
      have k1 : ∀ j, j ≠ w.heap.size + 1 → W1.heap[j]? = wr.heap[j]? := fun j hj => by rw [hW1]; exact Lib.iterAt_other wr _ j _ _ hj
      have hwp1 : Whole W1 w.heap.size 32 #[.int .i64 x, .int .i64 y] := (k1 _ (by omega)).trans hwp
      have hwo1 : Whole W1 bo 32 #[u', v'] := (k1 _ (by omega)).trans hwo
      have hwa1 : Whole W1 ba 3 #[.int .i64 a] := (k1 _ (by omega)).trans hwa
      have hg1 : w.grownBy W1 (some bo) := by rw [hW1]; exact only_iter hg (by omega) _ _
      rw [← hW1] at hnx hit1 hsz1
      have HIT0 := Lib.hid hit
      clear hW1 k1 hwp hwo hwa hit hg hdec hd
      have HIT := Lib.hid hit1
      have HSG := Lib.hid hsg
      have HSZ := Lib.hid hsz1
      clear hit1 hsg hsz1
      have hpl := hwp1.lt
      have cp0 := hwp1.cell 0
      have cp1 := hwp1.cell 1
      simp at cp0 cp1
      have hpl2 : w.heap.size + 1 < W1.heap.size := (Array.getElem?_eq_some_iff.1 HIT.out).1
      by_cases hap : a ≤ pos
      · have hfin := Lib.hid (hT'.out.symm.trans (Pl.ofF_here a pos (x, y) _ hap))
        go_wp2_with (go_at_call 18; refine (of1_any _ _ _ _ _ _ _ _ _ hwo1 hwa1).mono ?_; rintro e w2 ⟨rfl, ho2, hg2⟩)
        refine bodyPost_ret (results_none rfl _ _ _) rfl ?_
        rw [hfin.out]
        exact ⟨rfl, ho2, only_trans hg1 hg2⟩
      · have hna : ¬ ((a : Int) ≤ pos) := by omega
        have hdn : decide ((a : Int) ≤ pos) = false := by simpa using hap
        have hT2 := Lib.hid (show ofF a (pos + wd) (Pl.step cc (x, y)) (signs (l.drop (pos + wd))) = Pl.ofB l a by
          rw [← hT'.out, HSG.out]
          simp only [ofF]
          rw [if_neg hap])
        by_cases hc : cc = 10
        · have hst := Lib.hid (show Pl.step cc (x, y) = (x + 1, 1) by simp [Pl.step, hc])
          have hcb : ((cc : Int) == 10) = true := by simp [hc]
          clear hc
          go_wp2_with (go_at_call 18; refine (of1_any _ _ _ _ _ _ _ _ _ hwo1 hwa1).mono ?_; rintro e w2 ⟨rfl, ho2, hg2⟩; have hwp2 := hwp1.grown hg2 (by simp; omega); have cp20 := hwp2.cell 0; have cp21 := hwp2.cell 1; simp at cp20 cp21; have fp20 := hwp2.free 0; have fp21 := hwp2.free 1; have hz2 := hg2.size)
          go_roundw
          case rel =>
            refine ⟨pos + wd, x + 1, 1, .int .i64 x, .int .i64 y, by omega, by omega, by omega, Nat.le_refl _, by rw [← hst.out]; exact hT2.out, ?_, ?_, ?_, ?_, ?_⟩
            · exact heap_far (by simp) (heap_far (by simp) (heap_far (by simp) ((hg2.block _ hpl2 (by simp; omega)).trans HIT.out)))
            · have := ((hwp2.put 1 (.int .i64 (y + 1))).put 0 (.int .i64 (x + 1))).put 1 (.int .i64 1)
              simpa using this
            · exact ((ho2.far (by simp; omega) _).far (by simp; omega) _).far (by simp; omega) _
            · exact (((hwa1.grown hg2 (by simpa using hne)).far (by simp; omega) _).far (by simp; omega) _).far (by simp; omega) _
            · exact only_set (only_set (only_set (only_trans hg1 hg2) (.inr (Nat.le_refl _)) _) (.inr (Nat.le_refl _)) _) (.inr (Nat.le_refl _)) _
          case measure =>
            rw [iterPos_of (heap_far (by simp) (heap_far (by simp) (heap_far (by simp) ((hg2.block _ hpl2 (by simp; omega)).trans HIT.out)))), iterPos_of HIT0.out]
            omega
        · have hst := Lib.hid (show Pl.step cc (x, y) = (x, y + 1) by simp [Pl.step, hc])
          have hcb : ((cc : Int) == 10) = false := by simp; omega
          clear hc
          go_wp2_with (go_at_call 18; refine (of1_any _ _ _ _ _ _ _ _ _ hwo1 hwa1).mono ?_; rintro e w2 ⟨rfl, ho2, hg2⟩; have hwp2 := hwp1.grown hg2 (by simp; omega); have cp20 := hwp2.cell 0; have cp21 := hwp2.cell 1; simp at cp20 cp21; have fp20 := hwp2.free 0; have fp21 := hwp2.free 1; have hz2 := hg2.size)
          go_roundw
          case rel =>
            refine ⟨pos + wd, x, y + 1, .int .i64 x, .int .i64 y, by omega, by omega, by omega, by omega, by rw [← hst.out]; exact hT2.out, ?_, ?_, ?_, ?_, ?_⟩
            · exact heap_far (by simp) ((hg2.block _ hpl2 (by simp; omega)).trans HIT.out)
            · have := hwp2.put 1 (.int .i64 (y + 1))
              simpa using this
            · exact ho2.far (by simp; omega) _
            · exact (hwa1.grown hg2 (by simpa using hne)).far (by simp; omega) _
            · exact only_set (only_trans hg1 hg2) (.inr (Nat.le_refl _)) _
          case measure =>
            rw [iterPos_of (heap_far (by simp) ((hg2.block _ hpl2 (by simp; omega)).trans HIT.out)), iterPos_of HIT0.out]
            omega
    · have hnx : ∀ ty, (Instr.next (.pointer (some ⟨w.heap.size + 1, 0, none⟩)) true ty).run Tryd.prog wr = .ok (.tuple #[.bool false]) wr := fun ty => Lib.run_next_end_at wr (w.heap.size + 1) ⟨l.toArray⟩ pos ty hit hp
      have hfin := Lib.hid (show (x, y) = Pl.ofB l a by
        rw [← hT'.out, show l.drop pos = [] from List.drop_eq_nil_of_le (by omega), Pl.signs_nil]
        rfl)
      clear hit
      have cp0 := hwp.cell 0
      have cp1 := hwp.cell 1
      simp at cp0 cp1
      go_wp2_with (go_at_call 18; refine (of1_any _ _ _ _ _ _ _ _ _ hwo hwa).mono ?_; rintro e w2 ⟨rfl, ho2, hg2⟩)
      go_end0
      rw [← hfin.out]
      exact ⟨rfl, ho2, only_trans hg hg2⟩

end Go.Proofs.YtfabnfdadadlnaaDoor
