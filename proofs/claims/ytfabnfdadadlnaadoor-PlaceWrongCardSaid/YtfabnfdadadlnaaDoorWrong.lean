/-
  place.Wrong, the reference's Wrong and Lines: walks.
-/
import Derived.Test.YtfabnfdadadlnaaDoorTabs
namespace Go.Proofs.YtfabnfdadadlnaaDoor
set_option linter.all false
open Go.RowKit

/-- The program's loop: nothing wrong yet. -/
def WrRel (w : World) (l : List UInt8) (bi : Nat) (T : Int) (wr : World) : Prop :=
  ∃ pos : Nat, pos ≤ l.length ∧ wrongF pos (Pl.signs (l.drop pos)) = T ∧ wr.heap[bi]? = some (.stringIter ⟨l.toArray⟩ pos) ∧ Below w.heap.size w wr

theorem getD_drop'' (l : List UInt8) (i k : Nat) : (l.drop i).getD k 0 = l.getD (i + k) 0 := by
  simp [List.getD_eq_getElem?_getD]

set_option maxRecDepth 100000 in
set_option maxHeartbeats 1000000 in
theorem wrong_any (A : Option Addr) (n c : Nat) (l : List UInt8) (w : World) (hb : Bts w A n l) (hn : n ≤ 1000) (hnc : n ≤ c) (hT : Lib.Utf8Tabs 0 1 w) :
    Calls Tryd.prog 4 #[.slice A n c] w fun e w' => e = .returned (.int .i64 (wrongB l)) ∧ Below w.heap.size w w' := by
  have hcv := hb.string (P := Tryd.prog) c 22 5 Tryd.underlying22 Tryd.underlying5 9 Tryd.underlying9
  have HB := Lib.hid hb
  have HT := Lib.hid hT
  clear hb hT
  go_enter Tryd.func4, Tryd.ntmps4
  go_wp2
  go_loopw [] (fun wr => WrRel w l w.heap.size (wrongB l) wr) (fun wr => l.length - wr.iterPos w.heap.size)
  case atStart =>
    refine ⟨0, Nat.zero_le _, rfl, World.iter_heap w _ 0, ?_⟩
    exact (Below.refl _ w).alloc (Nat.le_refl _) _
  case round =>
    obtain ⟨pos, hpos, hT1, hit, hbel⟩ := hrel
    have hln := HB.out.1
    have hT' := Lib.hid hT1
    clear hT1
    have HIT0 := Lib.hid hit
    have hsz : w.heap.size < wr.heap.size := (Array.getElem?_eq_some_iff.1 hit).1
    by_cases hp : pos < l.length
    · obtain ⟨d, hd⟩ : ∃ d, d = Pl.dec (l.drop pos) := ⟨_, rfl⟩
      have hdec : Utf8.decode ⟨l.toArray⟩ pos = d := by
        rw [hd]
        exact Pl.decode_dec ⟨l.toArray⟩ pos hp
      have hne : l.drop pos ≠ [] := by intro h; have := congrArg List.length h; simp at this; omega
      have hd1 := Pl.dec_pos (l.drop pos)
      have hd2 := Pl.dec_le (l.drop pos) hne
      have hsg := Pl.signs_cons (l.drop pos) hne
      have hcon := fun W (hT : Lib.Utf8Tabs 0 1 W) b off (hc : ∀ i, i < n - pos → W.cell? ⟨b, off + i, none⟩ = some (.int .u8 (((l.drop pos).getD i 0).toNat : Int))) =>
        decode_any b off (n - pos) (c - pos) (l.drop pos) W hT (by simp [hln]) hne hc
      rw [← hd] at hd1 hd2 hsg hcon
      rw [List.drop_drop] at hsg
      rw [List.length_drop] at hd2
      obtain ⟨cc, wd⟩ := d
      simp only at hd1 hd2 hsg hcon
      have hnx : ∀ ty, (Instr.next (.pointer (some ⟨w.heap.size, 0, none⟩)) true ty).run Tryd.prog wr = .ok (.tuple #[.bool true, .int .i64 pos, .int .i32 cc]) (wr.iterAt w.heap.size ⟨l.toArray⟩ (pos + wd)) := by
        intro ty
        rw [Lib.run_next_any_at wr w.heap.size ⟨l.toArray⟩ pos ty hit hp, hdec]
      have hit1 := Lib.iterAt_heap wr w.heap.size ⟨l.toArray⟩ pos (pos + wd) hit
      have hb1 := Lib.below_iterAt hbel (Nat.le_refl w.heap.size) ⟨l.toArray⟩ (pos + wd)
      have hz1 := Lib.iterAt_size wr w.heap.size ⟨l.toArray⟩ (pos + wd)
      obtain ⟨W1, hW1⟩ : ∃ W1, W1 = wr.iterAt w.heap.size ⟨l.toArray⟩ (pos + wd) := ⟨_, rfl⟩
      rw [← hW1] at hnx hit1 hb1 hz1
      clear hW1 hit hbel hdec hd hne
      have HIT := Lib.hid hit1
      have HB1 := Lib.hid hb1
      have HZ1 := Lib.hid hz1
      obtain ⟨b, off, rfl, hcell⟩ := HB.out.2 (by omega)
      have hb2 := HB.out.below hb1
      obtain ⟨b', off', hA', hcell1⟩ := hb2.2 (by omega)
      obtain ⟨rfl, rfl⟩ : b = b' ∧ off = off' := by
        injection hA' with hA'
        injection hA' with h1 h2 _
        exact ⟨h1, h2⟩
      have hcon1 := hcon W1 (Tabs.below hb1 HT.out) b (off + pos) (fun i hi => by rw [getD_drop'', Nat.add_assoc]; exact hcell1 (pos + i) (by omega))
      have HC := Lib.hid hcon1
      have HSG := Lib.hid hsg
      clear hit1 hb1 hz1 hcell hb2 hcell1 hcon hcon1 hA' hsg
      have hcp : ¬ c = pos := by omega
      have hw2 : ∀ w2, Below W1.heap.size W1 w2 → w2.heap[w.heap.size]? = some (.stringIter ⟨l.toArray⟩ (pos + wd)) ∧ Below w.heap.size w w2 := by
        intro w2 h2
        have hlt : w.heap.size < W1.heap.size := (Array.getElem?_eq_some_iff.1 HIT.out).1
        exact ⟨(h2.block _ hlt).trans HIT.out, HB1.out.trans (h2.mono HB1.out.size)⟩
      have HW2 := Lib.hid hw2
      clear hw2
      by_cases c0 : cc = 0
      · subst c0
        have hres := Lib.hid (show wrongF pos (Pl.signs (l.drop pos)) = pos by rw [HSG.out]; simp [wrongF])
        go_wp2_with fail
        refine HC.out.mono ?_
        rintro e w2 ⟨rfl, b2⟩
        have h2 := Lib.hid (HW2.out w2 b2)
        clear b2
        go_wp2
        all_goals (go_ret; rw [← hT'.out, hres.out]; exact ⟨rfl, h2.out.2⟩)
      have g0 : ((cc : Int) == 0) = false := by rw [beq_eq_false_iff_ne]; omega
      by_cases c1 : cc = 65533
      · subst c1
        by_cases c2 : wd = 1
        · subst c2
          have hres := Lib.hid (show wrongF pos (Pl.signs (l.drop pos)) = pos by rw [HSG.out]; simp [wrongF])
          go_wp2_with fail
          refine HC.out.mono ?_
          rintro e w2 ⟨rfl, b2⟩
          have h2 := Lib.hid (HW2.out w2 b2)
          clear b2
          go_wp2
          all_goals (go_ret; rw [← hT'.out, hres.out]; exact ⟨rfl, h2.out.2⟩)
        · have hnext := Lib.hid (show wrongF (pos + wd) (Pl.signs (l.drop (pos + wd))) = wrongB l by rw [← hT'.out, HSG.out]; simp [wrongF, c2])
          have g2 : ((wd : Int) == 1) = false := by rw [beq_eq_false_iff_ne]; omega
          clear c2
          go_wp2_with fail
          refine HC.out.mono ?_
          rintro e w2 ⟨rfl, b2⟩
          have h2 := Lib.hid (HW2.out w2 b2)
          clear b2
          go_wp2
          go_roundw
          case rel => exact ⟨pos + wd, by omega, hnext.out, h2.out.1, h2.out.2⟩
          case measure => rw [iterPos_of h2.out.1, iterPos_of HIT0.out]; omega
      have g1 : ((cc : Int) == 65533) = false := by rw [beq_eq_false_iff_ne]; omega
      by_cases c3 : cc = 65279
      · subst c3
        by_cases c4 : 0 < pos
        · have hres := Lib.hid (show wrongF pos (Pl.signs (l.drop pos)) = pos by rw [HSG.out]; simp [wrongF, c4])
          have g4 : decide ((0 : Int) < (pos : Int)) = true := decide_eq_true (by omega)
          go_wp2_with fail
          refine HC.out.mono ?_
          rintro e w2 ⟨rfl, b2⟩
          have h2 := Lib.hid (HW2.out w2 b2)
          clear b2
          go_wp2
          all_goals (go_ret; rw [← hT'.out, hres.out]; exact ⟨rfl, h2.out.2⟩)
        · have hnext := Lib.hid (show wrongF (pos + wd) (Pl.signs (l.drop (pos + wd))) = wrongB l by rw [← hT'.out, HSG.out]; simp [wrongF, c4])
          have g4 : decide ((0 : Int) < (pos : Int)) = false := decide_eq_false (by omega)
          go_wp2_with fail
          refine HC.out.mono ?_
          rintro e w2 ⟨rfl, b2⟩
          have h2 := Lib.hid (HW2.out w2 b2)
          clear b2
          go_wp2
          go_roundw
          case rel => exact ⟨pos + wd, by omega, hnext.out, h2.out.1, h2.out.2⟩
          case measure => rw [iterPos_of h2.out.1, iterPos_of HIT0.out]; omega
      · have g3 : ((cc : Int) == 65279) = false := by rw [beq_eq_false_iff_ne]; omega
        have hnext := Lib.hid (show wrongF (pos + wd) (Pl.signs (l.drop (pos + wd))) = wrongB l by rw [← hT'.out, HSG.out]; simp [wrongF, c0, c1, c3])
        clear c0 c1 c3
        go_wp2_with fail
        refine HC.out.mono ?_
        rintro e w2 ⟨rfl, b2⟩
        have h2 := Lib.hid (HW2.out w2 b2)
        clear b2
        go_wp2
        go_roundw
        case rel => exact ⟨pos + wd, by omega, hnext.out, h2.out.1, h2.out.2⟩
        case measure => rw [iterPos_of h2.out.1, iterPos_of HIT0.out]; omega
    · have hnx : ∀ ty, (Instr.next (.pointer (some ⟨w.heap.size, 0, none⟩)) true ty).run Tryd.prog wr = .ok (.tuple #[.bool false]) wr := fun ty => Lib.run_next_end_at wr w.heap.size ⟨l.toArray⟩ pos ty hit hp
      have hend := Lib.hid (show wrongF pos [] = wrongB l by rw [← hT'.out, show l.drop pos = [] from List.drop_eq_nil_of_le (by omega), Pl.signs_nil])
      have HBL := Lib.hid hbel
      clear hit hbel
      go_wp2
      go_ret
      rw [← hend.out]
      exact ⟨rfl, HBL.out⟩

/-- The reference's loop. -/
def RwRel (l : List UInt8) (T : Int) (j : Value) : Prop := ∃ pos : Nat, pos ≤ l.length ∧ j = .int .i64 pos ∧ wrongF pos (Pl.signs (l.drop pos)) = T

set_option maxRecDepth 100000 in
set_option maxHeartbeats 1000000 in
theorem refwrong_any (A : Option Addr) (n c : Nat) (l : List UInt8) (w : World) (hb : Bts w A n l) (hn : n ≤ 1000) :
    Calls Tryd.prog 5 #[.slice A n c] w fun e w' => e = .returned (.int .i64 (wrongB l)) ∧ w = w' := by
  have HB := Lib.hid hb
  have hln := hb.1
  clear hb
  go_enter Tryd.func5, Tryd.ntmps5
  go_wp2
  go_loop [3] (fun j => RwRel l (wrongB l) j) (fun j => n - (intOf j).toNat)
  case atStart => exact ⟨0, Nat.zero_le _, rfl, rfl⟩
  case round =>
    obtain ⟨pos, hpos, rfl, hT1⟩ := hrel
    have hT' := Lib.hid hT1
    clear hT1
    by_cases hp : pos < n
    · obtain ⟨d, hd⟩ : ∃ d, d = Pl.dec (l.drop pos) := ⟨_, rfl⟩
      have hne : l.drop pos ≠ [] := by intro h; have := congrArg List.length h; simp at this; omega
      have hd1 := Pl.dec_pos (l.drop pos)
      have hd2 := Pl.dec_le (l.drop pos) hne
      have hsg := Pl.signs_cons (l.drop pos) hne
      have hsr := Pl.signR_dec (l.drop pos) hne
      have hcon := sign_any A n c pos l w HB.out hn hp
      rw [hsr] at hcon
      rw [← hd] at hd1 hd2 hsg hcon
      rw [List.drop_drop] at hsg
      rw [List.length_drop] at hd2
      clear hd hsr hne
      obtain ⟨cc, wd⟩ := d
      simp only at hd1 hd2 hsg
      have HSG := Lib.hid hsg
      clear hsg
      by_cases cb : cc = 65533 ∧ wd = 1
      · have hv : Pl.signV (cc, wd) = (1, -1) := by unfold Pl.signV; rw [if_pos cb]
        rw [hv] at hcon
        have HC := Lib.hid hcon
        have hres := Lib.hid (show wrongF pos (Pl.signs (l.drop pos)) = pos by rw [HSG.out]; simp [wrongF, cb])
        clear hcon hv cb
        go_wp2_with (go_at_call 10; refine HC.out.mono ?_; rintro e w' ⟨rfl, rfl⟩)
        all_goals (go_ret; rw [← hT'.out, hres.out]; exact ⟨rfl, rfl⟩)
      · have hv : Pl.signV (cc, wd) = (wd, (cc : Int)) := by unfold Pl.signV; rw [if_neg cb]
        rw [hv] at hcon
        have HC := Lib.hid hcon
        clear hcon hv
        by_cases c0 : cc = 0
        · subst c0
          have hres := Lib.hid (show wrongF pos (Pl.signs (l.drop pos)) = pos by rw [HSG.out]; simp [wrongF])
          clear cb
          go_wp2_with (go_at_call 10; refine HC.out.mono ?_; rintro e w' ⟨rfl, rfl⟩)
          all_goals (go_ret; rw [← hT'.out, hres.out]; exact ⟨rfl, rfl⟩)
        · by_cases c3 : cc = 65279 ∧ 0 < pos
          · obtain ⟨rfl, c4⟩ := c3
            have hres := Lib.hid (show wrongF pos (Pl.signs (l.drop pos)) = pos by rw [HSG.out]; simp [wrongF, c4])
            have g1 : ((65279 : Int) == 65279) = true := rfl
            clear cb c0
            go_wp2_with (go_at_call 10; refine HC.out.mono ?_; rintro e w' ⟨rfl, rfl⟩)
            all_goals (go_ret; rw [← hT'.out, hres.out]; exact ⟨rfl, rfl⟩)
          · have hnext := Lib.hid (show wrongF (pos + wd) (Pl.signs (l.drop (pos + wd))) = wrongB l by
              rw [← hT'.out, HSG.out]
              simp only [wrongF]
              rw [if_neg (by omega)])
            have g0 : decide ((cc : Int) ≤ 0) = false := decide_eq_false (by omega)
            have hstep : pos + wd ≤ l.length := by omega
            by_cases c5 : cc = 65279
            · have g1 : ((cc : Int) == 65279) = true := by rw [beq_iff_eq]; omega
              have g2 : decide ((0 : Int) < (pos : Int)) = false := decide_eq_false (by omega)
              have g3 : decide (0 < pos) = false := decide_eq_false (by omega)
              clear cb c3 c5
              go_wp2_with (go_at_call 10; refine HC.out.mono ?_; rintro e w' ⟨rfl, rfl⟩)
              go_round
              case rel => exact ⟨pos + wd, by omega, by go_num, hnext.out⟩
              case measure => simp [intOf]; omega
            · have g1 : ((cc : Int) == 65279) = false := by rw [beq_eq_false_iff_ne]; omega
              clear cb c3 c5
              go_wp2_with (go_at_call 10; refine HC.out.mono ?_; rintro e w' ⟨rfl, rfl⟩)
              go_round
              case rel => exact ⟨pos + wd, by omega, by go_num, hnext.out⟩
              case measure => simp [intOf]; omega
    · have hend := Lib.hid (show wrongF pos [] = wrongB l by rw [← hT'.out, show l.drop pos = [] from List.drop_eq_nil_of_le (by omega), Pl.signs_nil])
      go_wp2
      go_ret
      rw [← hend.out]
      exact ⟨rfl, rfl⟩

/-- The reference's lines. -/
def LnRel (l : List UInt8) (n : Nat) (v j : Value) : Prop := ∃ k : Nat, k ≤ n ∧ j = .int .i64 k ∧ v = .int .i64 (Pl.tens (l.take k) + 1)

theorem tens_snoc (l : List UInt8) (b : UInt8) : Pl.tens (l ++ [b]) = Pl.tens l + (if b.toNat = 10 then 1 else 0) := by
  unfold Pl.tens
  rw [List.filter_append, List.length_append]
  by_cases h : b.toNat = 10 <;> simp [List.filter_cons, h]
theorem take_snoc2 (r : List UInt8) (k : Nat) (h : k < r.length) : r.take (k + 1) = r.take k ++ [r.getD k 0] := by
  rw [List.take_succ_eq_append_getElem h]
  simp [List.getD_eq_getElem?_getD, List.getElem?_eq_getElem h]

set_option maxRecDepth 100000 in
set_option maxHeartbeats 1000000 in
theorem reflines_any (A : Option Addr) (n c : Nat) (l : List UInt8) (w : World) (hb : Bts w A n l) (hn : n ≤ 1000) :
    Calls Tryd.prog 7 #[.slice A n c] w fun e w' => e = .returned (.int .i64 (Pl.tens l + 1)) ∧ w = w' := by
  have HB := Lib.hid hb
  have hln := hb.1
  clear hb
  go_enter Tryd.func7, Tryd.ntmps7
  go_wp2
  go_loop [3, 4] (fun v j => LnRel l n v j) (fun _ j => n - (intOf j).toNat)
  case atStart => exact ⟨0, Nat.zero_le _, rfl, by simp [Pl.tens]⟩
  case round =>
    obtain ⟨k, hk, rfl, rfl⟩ := hrel
    by_cases hlt : k < n
    · obtain ⟨b, off, rfl, hcell⟩ := HB.out.2 (by omega)
      have hck := hcell k hlt
      have hts := Lib.hid (take_snoc2 l k (by omega))
      have hsn := Lib.hid (tens_snoc (l.take k) (l.getD k 0))
      have hle := tens_le (l.take k)
      have hle2 : Pl.tens (l.take k) ≤ 1000 := by simp only [List.length_take] at hle; omega
      clear hcell hle
      by_cases hx : (l.getD k 0).toNat = 10
      · have hv := Lib.hid (show (Pl.tens (l.take (k + 1)) : Int) = Pl.tens (l.take k) + 1 by rw [hts.out, hsn.out, if_pos hx]; rfl)
        rw [hx] at hck
        clear hx hts hsn
        generalize Pl.tens (l.take k) = t at *
        go_wp2
        go_round
        case rel => exact ⟨k + 1, by omega, by go_num, by rw [hv.out]⟩
        case measure => simp [intOf]; omega
      · have hv := Lib.hid (show (Pl.tens (l.take (k + 1)) : Int) = Pl.tens (l.take k) by rw [hts.out, hsn.out, if_neg hx]; rfl)
        have hy : (((l.getD k 0).toNat : Int) == 10) = false := by rw [beq_eq_false_iff_ne]; omega
        clear hx hts hsn
        generalize (l.getD k 0).toNat = y at *
        generalize Pl.tens (l.take k) = t at *
        go_wp2
        go_round
        case rel => exact ⟨k + 1, by omega, by go_num, by rw [hv.out]⟩
        case measure => simp [intOf]; omega
    · have hfin := Lib.hid (show Pl.tens (l.take k) = Pl.tens l by rw [List.take_of_length_le (by omega)])
      go_wp2
      go_ret
      rw [hfin.out]
      exact ⟨rfl, rfl⟩

end Go.Proofs.YtfabnfdadadlnaaDoor
