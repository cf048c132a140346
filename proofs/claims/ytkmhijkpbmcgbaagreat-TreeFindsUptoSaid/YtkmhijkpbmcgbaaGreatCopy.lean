/-
  The program's copied, at Copy's question: its walk; Copy.
-/
import Derived.Test.YtkmhijkpbmcgbaaGreatFresh
import Derived.Deep.RegionLaw
import Derived.Deep.RegionWith
import Derived.Deep.RegionHeld3
import Derived.IntWalk
namespace Go.Proofs.YtkmhijkpbmcgbaaGreat
set_option linter.all false
open Go.RowKit

theorem Tryz.info24 : (Tryz.prog.info? 24).map (fun i => (i.zero, i.size, i.bytes)) = some (some (.agg #[.int .i64 0, .string ⟨#[]⟩, .slice none 0 0, .int .i64 0]), 4, 56) := by kernel_rfl

set_option maxRecDepth 100000 in
set_option maxHeartbeats 1000000 in
theorem copy1_any (n : Nd) (A : Option Addr) (c : Nat) (w : World) :
    Calls Tryz.prog 52 #[n.val A c] w fun e w' => e = .returned (.tuple #[n.val A c, .bool false]) ∧ Below w.heap.size w w' := by
  unfold Nd.val
  go_enter Tryz.func52, Tryz.ntmps52
  go_wp2_with fail
  refine bodyPost_ret (v := .tuple #[.agg #[.int .i64 n.kind, .string n.text, .slice A n.kids.length c, .int .i64 n.place], .bool false]) (by simp [results, Tryz.results52, go_sem]) rfl ⟨rfl, ((Below.refl _ w).alloc (Nat.le_refl _) _).alloc (by simp) _⟩

abbrev CopyC (left : Nat) : Prop := ∀ (S : Nat → Prop) (f : Nat) (v : Value) (n : Nd) (w : World), sizeN (left + 1) n ≤ 1048576 → NdP (fun _ => S) w 0 f v n → 
  Calls Tryz.prog 51 #[v, .int .i64 left, .func (.func 52) #[] #[]] w fun e w' => ∃ A c, e = .returned (.agg #[.int .i64 n.kind, .string n.text, .slice A n.kids.length c, .int .i64 n.place]) ∧
    NdP (fun d b => (d = 0 ∧ S b) ∨ w.heap.size ≤ b) w' left f (n.val A c) n ∧ Below w.heap.size w w'

set_option maxRecDepth 100000 in
set_option maxHeartbeats 1000000 in
theorem copied_zero : CopyC 0 := by
  intro S f v n w hz hv
  obtain ⟨A, c, rfl, hm⟩ := hv.ndv.val
  have hb : Below w.heap.size w ((w.alloc (.cells #[.int .i64 n.kind, .string n.text, .slice A n.kids.length c, .int .i64 n.place] 24)).alloc (.cells #[.int .i64 n.kind, .string n.text, .slice A n.kids.length c, .int .i64 n.place] 24)) := ((Below.refl _ w).alloc (Nat.le_refl _) _).alloc (by simp) _
  have hr := (hv.below hb).zero (S' := fun d b => (d = 0 ∧ S b) ∨ w.heap.size ≤ b) (fun b hs => .inl ⟨rfl, hs⟩)
  have HB := Lib.hid hb
  have HR := Lib.hid hr
  clear hb hr hv hz
  unfold Nd.val
  go_enter Tryz.func51, Tryz.ntmps51
  go_wp2_with fail
  refine bodyPost_ret (v := .agg #[.int .i64 n.kind, .string n.text, .slice A n.kids.length c, .int .i64 n.place]) (by simp [results, Tryz.results51, go_sem]) rfl ⟨A, c, rfl, HR.out, HB.out⟩

def CopyRel (w0 : World) (S : Nat → Prop) (f left : Nat) (n : Nd) (i : Value) (W : World) : Prop :=
  ∃ (p : Nat) (v : Value) (l : List Ent), p ≤ n.kids.length ∧ i = .int .i64 p ∧ l.map (·.1) = n.kids.take p ∧ Below w0.heap.size w0 W ∧ Whole W w0.heap.size 24 #[.int .i64 n.kind, .string n.text, v, .int .i64 n.place] ∧
    Whole W (w0.heap.size + 1) 24 #[.int .i64 0, .string ⟨#[]⟩, .slice none 0 0, .int .i64 0] ∧ RowNd (fun d b => (d = 0 ∧ S b ∧ b < w0.heap.size) ∨ w0.heap.size + 2 ≤ b) (w0.heap.size + 2) W left f v l

set_option maxRecDepth 100000 in
set_option maxHeartbeats 800000 in
theorem copied_succ (left : Nat) (hl : left < 100) (ih : CopyC left) : CopyC (left + 1) := by
  intro S f v n w hz hv
  cases f with
  | zero => exact hv.elim
  | succ f =>
  have hv0 := hv.ndv
  obtain ⟨A, c, rfl, ⟨hm, hcap⟩, hc⟩ := hv
  have IH := Lib.hid ih
  have HC := Lib.hid hc
  have d1 : (((left + 1 : Nat) : Int) == 0) = false := by simp; omega
  have hZ := Lib.hid hz
  have hb : ∀ o1 o2, Below w.heap.size w ((w.alloc o1).alloc o2) := fun o1 o2 => ((Below.refl _ w).alloc (Nat.le_refl _) _).alloc (by simp) _
  have h1 := copy1_any n A c ((w.alloc (.cells #[.int .i64 n.kind, .string n.text, .slice A n.kids.length c, .int .i64 n.place] 24)).alloc (.cells #[.int .i64 0, .string ⟨#[]⟩, .slice none 0 0, .int .i64 0] 24))
  have H1 := Lib.hid h1
  have HB := Lib.hid hb
  have w1 : Whole ((w.alloc (.cells #[.int .i64 n.kind, .string n.text, .slice A n.kids.length c, .int .i64 n.place] 24)).alloc (.cells #[.int .i64 0, .string ⟨#[]⟩, .slice none 0 0, .int .i64 0] 24)) w.heap.size 24 #[.int .i64 n.kind, .string n.text, .slice A n.kids.length c, .int .i64 n.place] := (Whole.new w 24 #[.int .i64 n.kind, .string n.text, .slice A n.kids.length c, .int .i64 n.place]).alloc _
  have w2 : Whole ((w.alloc (.cells #[.int .i64 n.kind, .string n.text, .slice A n.kids.length c, .int .i64 n.place] 24)).alloc (.cells #[.int .i64 0, .string ⟨#[]⟩, .slice none 0 0, .int .i64 0] 24)) (w.heap.size + 1) 24 #[.int .i64 0, .string ⟨#[]⟩, .slice none 0 0, .int .i64 0] := by
    have := Whole.new (w.alloc (.cells #[.int .i64 n.kind, .string n.text, .slice A n.kids.length c, .int .i64 n.place] 24)) 24 #[.int .i64 0, .string ⟨#[]⟩, .slice none 0 0, .int .i64 0]
    simpa using this
  have HW1 := Lib.hid w1
  have HW2 := Lib.hid w2
  clear ih hc hv0 hz hb h1 w1 w2
  unfold Nd.val at H1 ⊢
  go_enter Tryz.func51, Tryz.ntmps51
  go_wp2_with fail
  refine H1.out.mono ?_
  rintro e W1 ⟨rfl, b1⟩
  have B1 := Lib.hid ((HB.out _ _).trans (b1.mono (HB.out _ _).size))
  have V1 := Lib.hid (HW1.out.below b1 (by simp; omega))
  have V2 := Lib.hid (HW2.out.below b1 (by simp))
  have cB : W1.cell? ⟨w.heap.size, 2, none⟩ = some (.slice A n.kids.length c) := V1.out.cell 2
  have qB : w.heap.size < W1.heap.size := V1.out.lt
  have qC : w.heap.size + 1 < W1.heap.size := V2.out.lt
  have fB : W1.frozen? ⟨w.heap.size, 2, none⟩ = false := V1.out.free 2
  clear b1 HW1 HW2 H1
  go_wp2_with fail
  go_loopw [28] (fun i W => CopyRel w S f left n i W) (fun i _ => n.kids.length - (intOf i).toNat)
  case atStart =>
    refine ⟨0, .slice none 0 0, [], Nat.zero_le _, rfl, by simp, ?_, ?_, ?_, RowNd.nil _ _ _ _ _⟩
    · exact (B1.out.setCell (p := ⟨w.heap.size, 2, none⟩) (Nat.le_refl _) _).alloc (by simp [World.setCell]; omega) _
    · exact (V1.out.put 2 _).alloc _
    · exact (V2.out.far (p := ⟨w.heap.size, 2, none⟩) (by simp) _).alloc _
  case round =>
    obtain ⟨p, v, l, hp, rfl, hl1, hb, hw1, hw2, hrow⟩ := hrel
    have e2 : wr.cell? ⟨w.heap.size, 2, none⟩ = some v := hw1.cell 2
    have q1 := hw1.lt
    have q2 := hw2.lt
    have f2 : wr.frozen? ⟨w.heap.size, 2, none⟩ = false := hw1.free 2
    by_cases hpl : p < n.kids.length
    · obtain ⟨b, off, hA, hS, hi⟩ := HC.out (by omega)
      obtain ⟨k, hk⟩ : ∃ k, n.kids[p]? = some k := ⟨_, List.getElem?_eq_getElem hpl⟩
      obtain ⟨A', c', g0, g1, g2, g3, g4⟩ := hi p k hk
      have hbl := cell_lt g0
      have hbl2 : b < wr.heap.size := Nat.lt_of_lt_of_le hbl hb.size
      have k0 := (hb.cell (cell_lt g0)).trans g0
      have k1 := (hb.cell (cell_lt g1)).trans g1
      have k2 := (hb.cell (cell_lt g2)).trans g2
      have k3 := (hb.cell (cell_lt g3)).trans g3
      subst hA
      have hzk : sizeN (left + 1) k ≤ 1048576 := Nat.le_trans (size_kid hk) hZ.out
      have hll : n.kids.length ≤ 1048576 := Nat.le_trans (size_len left n) hZ.out
      have hin : ∀ W', Below wr.heap.size wr W' → Calls Tryz.prog 51 #[.agg #[.int .i64 k.kind, .string k.text, .slice A' k.kids.length c', .int .i64 k.place], .int .i64 (IntKind.i64.wrap (left : Int)), .func (.func 52) #[] #[]] W' fun e w' => ∃ A c,
          e = .returned (.agg #[.int .i64 k.kind, .string k.text, .slice A k.kids.length c, .int .i64 k.place]) ∧ w'.cell? ⟨w.heap.size, 2, none⟩ = some v ∧ w'.frozen? ⟨w.heap.size, 2, none⟩ = false ∧ w.heap.size < w'.heap.size ∧ Below wr.heap.size wr w' ∧ Below W'.heap.size W' w' ∧
          NdP (fun d b => ((d = 0 ∧ S b ∧ b < w.heap.size) ∨ w.heap.size + 2 ≤ b) ∧ v.ownBlock ≠ some b) w' left f (k.val A c) k := by
        intro W' hW'
        rw [IntWalk.i64_in _ (by omega)]
        have hk4 : NdP (fun _ b => S b ∧ b < w.heap.size) W' 0 f (k.val A' c') k :=
          ((NdP.and_lt g4).below hb).below hW'
        refine (IH.out (fun b => S b ∧ b < w.heap.size) f _ k W' hzk hk4).mono ?_
        rintro e w' ⟨A, c, rfl, hn, hb2⟩
        have hb3 := hW'.trans (hb2.mono hW'.size)
        refine ⟨A, c, rfl, (hb3.cell (p := ⟨w.heap.size, 2, none⟩) q1).trans e2, (hb3.frozen (p := ⟨w.heap.size, 2, none⟩) q1).trans f2, Nat.lt_of_lt_of_le q1 hb3.size, hb3, hb2, hn.weak fun d b hs => ?_⟩
        have hlt := hrow.1.lt
        have hsz := hb.size
        have hsz2 := hW'.size
        rcases hs with ⟨hd, hs⟩ | hs
        · exact ⟨.inl ⟨hd, hs⟩, fun e => by have := hlt _ e; omega⟩
        · exact ⟨.inr (by omega), fun e => by have := hlt _ e; omega⟩
      have HI := Lib.hid hin
      have HROW := Lib.hid hrow
      have HBW := Lib.hid hb
      have HL1 := Lib.hid hl1
      have HK := Lib.hid hk
      have HWA := Lib.hid hw1
      have HWB := Lib.hid hw2
      have hp2 : p < 9223372036854775807 := by omega
      have hll2 := hl1
      clear hin hrow hb hl1 hk hw1 hw2 hi hS g0 g1 g2 g3 g4 hzk
      obtain ⟨i0, hi0, hz0, hz1, hz2⟩ := info_parts Tryz.info24
      have hlen : l.length = p := by have := congrArg List.length HL1.out; simpa [Nat.min_eq_left hp] using this
      have HLEN := Lib.hid hlen
      clear hlen
      have av : v.ownBlock ≠ some wr.heap.size := fun e => by have := HROW.out.1.lt _ e; omega
      have qne : ¬ w.heap.size = wr.heap.size := by omega
      have au : v.ownBlock ≠ some w.heap.size := fun e => by have := HROW.out.1.lt _ e; omega
      go_wp2_with fail
      go_region_law (first
          | (refine step_append_lies _ (by rfl) _ _ _ (by rfl) (w.heap.size + 2) 24 i0 _ 4 56 Tryz.underlying22 hi0 hz0 hz1 hz2 rfl (by omega) v l.length (l.flatMap cells4) (by rfl) (R2.out.1.alloc _)
              ⟨w2.heap.size, 0, none⟩ 1 1 (cells4 (k, A2, c2)) (by rfl) (by rfl) (World.news_of_block (cs := #[.int .i64 k.kind, .string k.text, .slice A2 k.kids.length c2, .int .i64 k.place]) (t := 24) (fr := (0, 0)) (heap_alloc_new w2 _)) (by simp [cells4, Value.oneCell'])
              (by omega) (by rw [HLEN.out]; simp only [maxLen]; omega) (by rw [HLEN.out]; omega) (by simp; omega) (w2.heap.size + 1) (by simp) ?_; intro gg cap w3 hown3 hgrow hat hlt; have e4 : w3.cell? ⟨w.heap.size, 2, none⟩ = some v := (by rw [hgrow.cell_far _ (by simp; omega) (Ne.symm au)]; exact ((Below.refl _ w2).alloc (Nat.le_refl _) _).cell (p := ⟨w.heap.size, 2, none⟩) q3 |>.trans e3); have f4 : w3.frozen? ⟨w.heap.size, 2, none⟩ = false := (by rw [hgrow.frozen_far _ (by simp; omega) (Ne.symm au)]; exact ((Below.refl _ w2).alloc (Nat.le_refl _) _).frozen (p := ⟨w.heap.size, 2, none⟩) q3 |>.trans f3); have sz3 : w2.heap.size < w3.heap.size := (by have := hgrow.size; simp at this; omega))
          | (go_simp; go_at_call 51; refine (HI.out _ (((Below.refl _ wr).alloc (Nat.le_refl _) _).drew)).mono ?_; rintro e w2 ⟨A2, c2, rfl, e3, f3, q3, b3, b4, n3⟩; have R2 := Lib.hid (HROW.out.kept b3); have sz2 : wr.heap.size < w2.heap.size := (by have := b4.size; simp at this; omega);
             have t0 : w2.cell? ⟨wr.heap.size, 0, none⟩ = some (.int .i64 k.kind) := (b4.cell (p := ⟨wr.heap.size, 0, none⟩) (by simp)).trans ((Whole.new wr 24 _).cell 0);
             have t1 : w2.cell? ⟨wr.heap.size, 1, none⟩ = some (.string k.text) := (b4.cell (p := ⟨wr.heap.size, 1, none⟩) (by simp)).trans ((Whole.new wr 24 _).cell 1);
             have t2 : w2.cell? ⟨wr.heap.size, 2, none⟩ = some (.slice A' k.kids.length c') := (b4.cell (p := ⟨wr.heap.size, 2, none⟩) (by simp)).trans ((Whole.new wr 24 _).cell 2);
             have t3 : w2.cell? ⟨wr.heap.size, 3, none⟩ = some (.int .i64 k.place) := (b4.cell (p := ⟨wr.heap.size, 3, none⟩) (by simp)).trans ((Whole.new wr 24 _).cell 3)))
      all_goals
        go_wp2_with fail
        go_roundw
        case rel =>
          have qb : Below w.heap.size w w2 := HBW.out.trans (b3.mono HBW.out.size)
          have qa : Below w.heap.size w (w2.alloc (.cells #[.int .i64 k.kind, .string k.text, .slice A2 k.kids.length c2, .int .i64 k.place] 24)) := qb.alloc qb.size _
          have q3 : Below w.heap.size w w3 := qa.grown hgrow (by have := qb.size; simp; omega) (fun j hj => by have := (HROW.out.1.lt j hj).1; omega)
          have av2 : v.ownBlock ≠ some (w.heap.size + 1) := fun e => by have := HROW.out.1.lt _ e; omega
          have row3 := (R2.out.kept ((Below.refl _ w2).alloc (Nat.le_refl _) (.cells #[.int .i64 k.kind, .string k.text, .slice A2 k.kids.length c2, .int .i64 k.place] 24))).snoc (x := (k, A2, c2)) (n3.below ((Below.refl _ w2).alloc (Nat.le_refl _) _)) hown3 hgrow (by
            rcases hat with h1 | h1
            · exact .inl (by rw [h1]; rfl)
            · exact .inr ⟨gg, rfl, by rw [h1]; simp⟩)
          have hdone : CopyRel w S f left n (.int .i64 ((p : Int) + 1)) (w3.setCell ⟨w.heap.size, 2, none⟩ (.slice (some ⟨gg, 0, none⟩) (l.length + 1) cap)) := by
            refine ⟨p + 1, .slice (some ⟨gg, 0, none⟩) (l.length + 1) cap, l ++ [(k, A2, c2)], by omega, rfl, ?_, q3.setCell (p := ⟨w.heap.size, 2, none⟩) (Nat.le_refl _) _, ?_, ?_, row3.far _ _ (by simp) (fun d b hs => ?_)⟩
            · rw [take_snoc HK.out, List.map_append, HL1.out]; rfl
            · exact (((HWA.out.below b3 q1).alloc _).grown hgrow (Ne.symm au)).put 2 _
            · exact (((HWB.out.below b3 q2).alloc _).grown hgrow (Ne.symm av2)).far (by simp) _
            · simp only
              rcases hs with ⟨_, _, hs⟩ | hs <;> omega
          first | exact hdone | ((repeat apply Exists.intro); exact ⟨hdone, rfl⟩)
        case measure => simp [intOf]; omega
    · have hpe : p = n.kids.length := by omega
      subst hpe
      rw [List.take_length] at hl1
      obtain ⟨A9, c9, rfl, hN⟩ := hrow.kids n hl1 hm (left + 1) (fun b hb => .inr hb) (by omega)
      have HN := Lib.hid hN
      have HBW := Lib.hid hb
      have HW2 := Lib.hid hw2
      have c10 : wr.cell? ⟨w.heap.size, 0, none⟩ = some (.int .i64 n.kind) := hw1.cell 0
      have c11 : wr.cell? ⟨w.heap.size, 1, none⟩ = some (.string n.text) := hw1.cell 1
      have c13 : wr.cell? ⟨w.heap.size, 3, none⟩ = some (.int .i64 n.place) := hw1.cell 3
      have c20 : wr.cell? ⟨w.heap.size + 1, 0, none⟩ = some (.int .i64 0) := hw2.cell 0
      have c21 : wr.cell? ⟨w.heap.size + 1, 1, none⟩ = some (.string ⟨#[]⟩) := hw2.cell 1
      have c22 : wr.cell? ⟨w.heap.size + 1, 2, none⟩ = some (.slice none 0 0) := hw2.cell 2
      have c23 : wr.cell? ⟨w.heap.size + 1, 3, none⟩ = some (.int .i64 0) := hw2.cell 3
      have f20 : wr.frozen? ⟨w.heap.size + 1, 0, none⟩ = false := hw2.free 0
      have f21 : wr.frozen? ⟨w.heap.size + 1, 1, none⟩ = false := hw2.free 1
      have f22 : wr.frozen? ⟨w.heap.size + 1, 2, none⟩ = false := hw2.free 2
      have f23 : wr.frozen? ⟨w.heap.size + 1, 3, none⟩ = false := hw2.free 3
      clear hN hb hw1 hw2 hrow hl1
      go_wp2_with fail
      have y := (((HW2.out.put 0 (.int .i64 n.kind)).put 1 (.string n.text)).put 2 (.slice A9 n.kids.length c9)).put 3 (.int .i64 n.place)
      have hfar := fun {w1 : World} (h : NdP (fun d b => (d = 0 ∧ S b ∧ b < w.heap.size) ∨ w.heap.size + 2 ≤ b) w1 (left + 1) (f + 1) (n.val A9 c9) n) (o : Nat) (u : Value) => h.far ⟨w.heap.size + 1, o, none⟩ u (by
        intro d b hs
        rcases hs with ⟨_, _, hs⟩ | hs <;> (simp only; omega))
      have y1 := hfar (hfar (hfar (hfar HN.out 0 (.int .i64 n.kind)) 1 (.string n.text)) 2 (.slice A9 n.kids.length c9)) 3 (.int .i64 n.place)
      have y2 := (((HBW.out.setCell (p := ⟨w.heap.size + 1, 0, none⟩) (by simp) (.int .i64 n.kind)).setCell (p := ⟨w.heap.size + 1, 1, none⟩) (by simp) (.string n.text)).setCell (p := ⟨w.heap.size + 1, 2, none⟩) (by simp) (.slice A9 n.kids.length c9)).setCell (p := ⟨w.heap.size + 1, 3, none⟩) (by simp) (.int .i64 n.place)
      generalize ((((wr.setCell ⟨w.heap.size + 1, 0, none⟩ (.int .i64 n.kind)).setCell ⟨w.heap.size + 1, 1, none⟩ (.string n.text)).setCell ⟨w.heap.size + 1, 2, none⟩ (.slice A9 n.kids.length c9)).setCell ⟨w.heap.size + 1, 3, none⟩ (.int .i64 n.place)) = W9 at y y1 y2 ⊢
      have r0 : W9.cell? ⟨w.heap.size + 1, 0, none⟩ = some (.int .i64 n.kind) := y.cell 0
      have r1 : W9.cell? ⟨w.heap.size + 1, 1, none⟩ = some (.string n.text) := y.cell 1
      have r2 : W9.cell? ⟨w.heap.size + 1, 2, none⟩ = some (.slice A9 n.kids.length c9) := y.cell 2
      have r3 : W9.cell? ⟨w.heap.size + 1, 3, none⟩ = some (.int .i64 n.place) := y.cell 3
      refine bodyPost_ret (v := .agg #[.int .i64 n.kind, .string n.text, .slice A9 n.kids.length c9, .int .i64 n.place]) (by simp [results, Tryz.results51, go_sem, r0, r1, r2, r3]) rfl ⟨A9, c9, rfl, y1.weak ?_, y2⟩
      intro d b hs
      rcases hs with ⟨h1, h2, _⟩ | hs
      · exact .inl ⟨h1, h2⟩
      · exact .inr (by omega)

theorem copied_c : ∀ left, left ≤ 100 → CopyC left
  | 0, _ => copied_zero
  | left + 1, h => copied_succ left h (copied_c left (by omega))

set_option maxRecDepth 100000 in
set_option maxHeartbeats 1000000 in
/-- tree.Copy. -/
theorem copy_any (S : Nat → Prop) (f : Nat) (v : Value) (n : Nd) (w : World) (hz : sizeN 101 n ≤ 1048576) (hv : NdP (fun _ => S) w 0 f v n) :
    Calls Tryz.prog 25 #[v] w fun e w' => ∃ A c, e = .returned (.agg #[.int .i64 n.kind, .string n.text, .slice A n.kids.length c, .int .i64 n.place]) ∧
      NdP (fun d b => (d = 0 ∧ S b) ∨ w.heap.size ≤ b) w' 100 f (n.val A c) n ∧ Below w.heap.size w w' := by
  obtain ⟨A, c, rfl, hm⟩ := hv.ndv.val
  have hb : Below w.heap.size w ((w.alloc (.cells #[.int .i64 n.kind, .string n.text, .slice A n.kids.length c, .int .i64 n.place] 24)).alloc (.cells #[.int .i64 0, .string ⟨#[]⟩, .slice none 0 0, .int .i64 0] 24)) := ((Below.refl _ w).alloc (Nat.le_refl _) _).alloc (by simp) _
  have hc := copied_c 100 (Nat.le_refl _) (fun b => S b ∧ b < w.heap.size) f _ n _ hz (hv.and_lt.below hb)
  have w2 : Whole ((w.alloc (.cells #[.int .i64 n.kind, .string n.text, .slice A n.kids.length c, .int .i64 n.place] 24)).alloc (.cells #[.int .i64 0, .string ⟨#[]⟩, .slice none 0 0, .int .i64 0] 24)) (w.heap.size + 1) 24 #[.int .i64 0, .string ⟨#[]⟩, .slice none 0 0, .int .i64 0] := by
    have := Whole.new (w.alloc (.cells #[.int .i64 n.kind, .string n.text, .slice A n.kids.length c, .int .i64 n.place] 24)) 24 #[.int .i64 0, .string ⟨#[]⟩, .slice none 0 0, .int .i64 0]
    simpa using this
  have HC := Lib.hid hc
  have HB := Lib.hid hb
  have HW2 := Lib.hid w2
  clear hc hb hv w2
  unfold Nd.val at HC ⊢
  go_enter Tryz.func25, Tryz.ntmps25
  go_wp2_with fail
  refine HC.out.mono ?_
  rintro e w1 ⟨A9, c9, rfl, n1, b1⟩
  have B1 := Lib.hid ((HB.out).trans (b1.mono (HB.out).size))
  have hw2 := HW2.out.below b1 (by simp)
  have N1 := Lib.hid (n1.weak (S' := fun d b => ((d = 0 ∧ S b ∧ b < w.heap.size) ∨ w.heap.size + 2 ≤ b)) (fun d b hs => by simpa using hs))
  have q2 := hw2.lt
  have c20 : w1.cell? ⟨w.heap.size + 1, 0, none⟩ = some (.int .i64 0) := hw2.cell 0
  have c21 : w1.cell? ⟨w.heap.size + 1, 1, none⟩ = some (.string ⟨#[]⟩) := hw2.cell 1
  have c22 : w1.cell? ⟨w.heap.size + 1, 2, none⟩ = some (.slice none 0 0) := hw2.cell 2
  have c23 : w1.cell? ⟨w.heap.size + 1, 3, none⟩ = some (.int .i64 0) := hw2.cell 3
  have f20 : w1.frozen? ⟨w.heap.size + 1, 0, none⟩ = false := hw2.free 0
  have f21 : w1.frozen? ⟨w.heap.size + 1, 1, none⟩ = false := hw2.free 1
  have f22 : w1.frozen? ⟨w.heap.size + 1, 2, none⟩ = false := hw2.free 2
  have f23 : w1.frozen? ⟨w.heap.size + 1, 3, none⟩ = false := hw2.free 3
  have HW3 := Lib.hid hw2
  clear n1 b1 hw2 HB HC HW2
  go_wp2_with fail
  have y := (((HW3.out.put 0 (.int .i64 n.kind)).put 1 (.string n.text)).put 2 (.slice A9 n.kids.length c9)).put 3 (.int .i64 n.place)
  have hfar := fun {w1 : World} (h : NdP (fun d b => (d = 0 ∧ S b ∧ b < w.heap.size) ∨ w.heap.size + 2 ≤ b) w1 100 f (n.val A9 c9) n) (o : Nat) (u : Value) => h.far ⟨w.heap.size + 1, o, none⟩ u (by
    intro d b hs
    rcases hs with ⟨_, _, hs⟩ | hs <;> (simp only; omega))
  have y1 := hfar (hfar (hfar (hfar N1.out 0 (.int .i64 n.kind)) 1 (.string n.text)) 2 (.slice A9 n.kids.length c9)) 3 (.int .i64 n.place)
  have y2 := (((B1.out.setCell (p := ⟨w.heap.size + 1, 0, none⟩) (by simp) (.int .i64 n.kind)).setCell (p := ⟨w.heap.size + 1, 1, none⟩) (by simp) (.string n.text)).setCell (p := ⟨w.heap.size + 1, 2, none⟩) (by simp) (.slice A9 n.kids.length c9)).setCell (p := ⟨w.heap.size + 1, 3, none⟩) (by simp) (.int .i64 n.place)
  generalize ((((w1.setCell ⟨w.heap.size + 1, 0, none⟩ (.int .i64 n.kind)).setCell ⟨w.heap.size + 1, 1, none⟩ (.string n.text)).setCell ⟨w.heap.size + 1, 2, none⟩ (.slice A9 n.kids.length c9)).setCell ⟨w.heap.size + 1, 3, none⟩ (.int .i64 n.place)) = W9 at y y1 y2 ⊢
  have r0 : W9.cell? ⟨w.heap.size + 1, 0, none⟩ = some (.int .i64 n.kind) := y.cell 0
  have r1 : W9.cell? ⟨w.heap.size + 1, 1, none⟩ = some (.string n.text) := y.cell 1
  have r2 : W9.cell? ⟨w.heap.size + 1, 2, none⟩ = some (.slice A9 n.kids.length c9) := y.cell 2
  have r3 : W9.cell? ⟨w.heap.size + 1, 3, none⟩ = some (.int .i64 n.place) := y.cell 3
  refine bodyPost_ret (v := .agg #[.int .i64 n.kind, .string n.text, .slice A9 n.kids.length c9, .int .i64 n.place]) (by simp [results, Tryz.results25, go_sem, r0, r1, r2, r3]) rfl ⟨A9, c9, rfl, y1.weak ?_, y2⟩
  intro d b hs
  rcases hs with ⟨h1, h2, _⟩ | hs
  · exact .inl ⟨h1, h2⟩
  · exact .inr (by omega)

end Go.Proofs.YtkmhijkpbmcgbaaGreat
