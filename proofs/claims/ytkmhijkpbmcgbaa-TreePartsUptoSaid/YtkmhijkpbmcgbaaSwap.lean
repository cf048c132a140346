/-
  The program's copied, at any question: its walk.
-/
import Derived.Test.YtkmhijkpbmcgbaaCopy
namespace Go.Proofs.Ytkmhijkpbmcgbaa
set_option linter.all false
open Go.RowKit

/-- A node with others in the places where a question tells one, to a depth. -/
def swN (at_ : Nd → Option Nd) : Nat → Nd → Nd
  | 0, n => n
  | f + 1, n => match at_ n with
    | some b => b
    | none => .mk n.kind n.text (n.kids.map (swN at_ f)) n.place

theorem NdP.anyd {S : Nat → Prop} {w : World} : ∀ {d d' f : Nat} {v : Value} {n : Nd}, NdP (fun _ => S) w d f v n → NdP (fun _ => S) w d' f v n
  | _, _, 0, _, _, h => h.elim
  | d, d', f + 1, v, n, ⟨A, c, hv, hl, h⟩ => ⟨A, c, hv, hl, fun h0 => by
      obtain ⟨b, off, hA, hS, hi⟩ := h h0
      refine ⟨b, off, hA, hS, fun i k hik => ?_⟩
      obtain ⟨A', c', h1, h2, h3, h4, h5⟩ := hi i k hik
      exact ⟨A', c', h1, h2, h3, h4, NdP.anyd h5⟩⟩
theorem NdP.up {S : Nat → Nat → Prop} {w : World} : ∀ {d f : Nat} {v : Value} {n : Nd}, NdP S w d f v n → NdP S w d (f + 1) v n
  | _, 0, _, _, h => h.elim
  | d, f + 1, v, n, ⟨A, c, hv, hl, hc⟩ => ⟨A, c, hv, hl, fun h0 => by
      obtain ⟨b, off, hA, hS, hi⟩ := hc h0
      refine ⟨b, off, hA, hS, fun i k hik => ?_⟩
      obtain ⟨A', c', h1, h2, h3, h4, h5⟩ := hi i k hik
      exact ⟨A', c', h1, h2, h3, h4, NdP.up h5⟩⟩
theorem NdP.le {S : Nat → Nat → Prop} {w : World} {d f g : Nat} {v : Value} {n : Nd} (h : NdP S w d f v n) (hg : f ≤ g) : NdP S w d g v n := by
  induction hg with
  | refl => exact h
  | step _ ih => exact ih.up

/-- A function value that tells, of a node, one in its place or none. -/
structure TellsAt (w0 : World) (S : Nat → Prop) (fb g : Nat) (cb : Array Value) (at_ : Nd → Option Nd) : Prop where
  enters : ∀ args w, (callFunc g args).run Try.prog w = .ok (.enter g args) w
  tells : ∀ (W : World) (f : Nat) (v : Value) (n : Nd), Below w0.heap.size w0 W → NdV W f v n → Calls Try.prog g (#[v] ++ cb) W fun e w' => Below W.heap.size W w' ∧ ∃ (b : Nd) (A : Option Addr) (c : Nat) (is : Bool), e = .returned (.tuple #[b.val A c, .bool is]) ∧
    ((is = false ∧ at_ n = none) ∨ (is = true ∧ at_ n = some b ∧ NdP (fun _ x => S x ∨ W.heap.size ≤ x) w' 0 fb (b.val A c) b))

abbrev SwC (w0 : World) (S : Nat → Prop) (fb g : Nat) (cb : Array Value) (at_ : Nd → Option Nd) (left : Nat) : Prop := ∀ (f : Nat) (v : Value) (n : Nd) (w : World), Below w0.heap.size w0 w → sizeN (left + 1) n ≤ 1048576 → NdP (fun _ => S) w 0 f v n →
  Calls Try.prog 23 #[v, .int .i64 left, .func (.func g) #[] cb] w fun e w' => ∃ A c, e = .returned (.agg #[.int .i64 (swN at_ left n).kind, .string (swN at_ left n).text, .slice A (swN at_ left n).kids.length c, .int .i64 (swN at_ left n).place]) ∧
    NdP (fun _ b => S b ∨ w.heap.size ≤ b) w' 0 (f + fb) ((swN at_ left n).val A c) (swN at_ left n) ∧ Below w.heap.size w w'

set_option maxRecDepth 100000 in
set_option maxHeartbeats 1000000 in
theorem sw_zero (w0 : World) (S : Nat → Prop) (fb g : Nat) (cb : Array Value) (at_ : Nd → Option Nd) : SwC w0 S fb g cb at_ 0 := by
  intro f v n w _ hz hv
  obtain ⟨A, c, rfl, hm⟩ := hv.ndv.val
  have hb : Below w.heap.size w ((w.alloc (.cells #[.int .i64 n.kind, .string n.text, .slice A n.kids.length c, .int .i64 n.place] 24)).alloc (.cells #[.int .i64 n.kind, .string n.text, .slice A n.kids.length c, .int .i64 n.place] 24)) := ((Below.refl _ w).alloc (Nat.le_refl _) _).alloc (by simp) _
  have hr := ((hv.below hb).weak (S' := fun _ b => S b ∨ w.heap.size ≤ b) (fun d b hs => .inl hs)).le (Nat.le_add_right f fb)
  have HB := Lib.hid hb
  have HR := Lib.hid hr
  clear hb hr hv hz
  unfold Nd.val swN
  go_enter Try.func23, Try.ntmps23
  go_wp2_with fail
  refine bodyPost_ret (v := .agg #[.int .i64 n.kind, .string n.text, .slice A n.kids.length c, .int .i64 n.place]) (by simp [results, Try.results23, go_sem]) rfl ⟨A, c, rfl, HR.out, HB.out⟩

def SwRel (w0 : World) (S : Nat → Prop) (fb : Nat) (at_ : Nd → Option Nd) (f left : Nat) (n : Nd) (i : Value) (W : World) : Prop :=
  ∃ (p : Nat) (v : Value) (l : List Ent), p ≤ n.kids.length ∧ i = .int .i64 p ∧ l.map (·.1) = (n.kids.take p).map (swN at_ left) ∧ Below w0.heap.size w0 W ∧ Whole W w0.heap.size 24 #[.int .i64 n.kind, .string n.text, v, .int .i64 n.place] ∧
    Whole W (w0.heap.size + 1) 24 #[.int .i64 0, .string ⟨#[]⟩, .slice none 0 0, .int .i64 0] ∧ RowNd (fun _ b => (S b ∧ b < w0.heap.size) ∨ w0.heap.size + 2 ≤ b) (w0.heap.size + 2) W 0 (f + fb) v l

set_option maxRecDepth 100000 in
set_option maxHeartbeats 800000 in
theorem sw_succ (w0 : World) (S : Nat → Prop) (hS0 : ∀ b, S b → b < w0.heap.size) (fb g : Nat) (cb : Array Value) (at_ : Nd → Option Nd) (hat : TellsAt w0 S fb g cb at_) (left : Nat) (hl : left < 100) (ih : SwC w0 S fb g cb at_ left) : SwC w0 S fb g cb at_ (left + 1) := by
  intro f v n w hw0 hz hv
  cases f with
  | zero => exact hv.elim
  | succ f =>
  obtain ⟨m, hm8⟩ : ∃ m, swN at_ (left + 1) n = m := ⟨_, rfl⟩
  rw [hm8]
  have HM := Lib.hid hm8
  clear hm8
  have hv0 := hv.ndv
  have hSw : ∀ b, S b → b < w.heap.size := fun b hs => Nat.lt_of_lt_of_le (hS0 b hs) hw0.size
  obtain ⟨A, c, rfl, ⟨hm, hcap⟩, hc⟩ := hv
  have IH := Lib.hid ih
  have HC := Lib.hid hc
  have HW0 := Lib.hid hw0
  have HSW := Lib.hid hSw
  have d1 : (((left + 1 : Nat) : Int) == 0) = false := by simp; omega
  have hZ := Lib.hid hz
  have eg := hat.enters
  have hb : ∀ o1 o2, Below w.heap.size w ((w.alloc o1).alloc o2) := fun o1 o2 => ((Below.refl _ w).alloc (Nat.le_refl _) _).alloc (by simp) _
  have h1 := hat.tells ((w.alloc (.cells #[.int .i64 n.kind, .string n.text, .slice A n.kids.length c, .int .i64 n.place] 24)).alloc (.cells #[.int .i64 0, .string ⟨#[]⟩, .slice none 0 0, .int .i64 0] 24)) (f + 1) (n.val A c) n (hw0.trans ((hb _ _).mono hw0.size)) (hv0.below (hb _ _))
  have H1 := Lib.hid h1
  have HB := Lib.hid hb
  have w1 : Whole ((w.alloc (.cells #[.int .i64 n.kind, .string n.text, .slice A n.kids.length c, .int .i64 n.place] 24)).alloc (.cells #[.int .i64 0, .string ⟨#[]⟩, .slice none 0 0, .int .i64 0] 24)) w.heap.size 24 #[.int .i64 n.kind, .string n.text, .slice A n.kids.length c, .int .i64 n.place] := (Whole.new w 24 #[.int .i64 n.kind, .string n.text, .slice A n.kids.length c, .int .i64 n.place]).alloc _
  have w2 : Whole ((w.alloc (.cells #[.int .i64 n.kind, .string n.text, .slice A n.kids.length c, .int .i64 n.place] 24)).alloc (.cells #[.int .i64 0, .string ⟨#[]⟩, .slice none 0 0, .int .i64 0] 24)) (w.heap.size + 1) 24 #[.int .i64 0, .string ⟨#[]⟩, .slice none 0 0, .int .i64 0] := by
    have := Whole.new (w.alloc (.cells #[.int .i64 n.kind, .string n.text, .slice A n.kids.length c, .int .i64 n.place] 24)) 24 #[.int .i64 0, .string ⟨#[]⟩, .slice none 0 0, .int .i64 0]
    simpa using this
  have HW1 := Lib.hid w1
  have HW2 := Lib.hid w2
  clear ih hc hv0 hz hb h1 w1 w2 hat hw0 hSw
  unfold Nd.val at H1 ⊢
  go_enter Try.func23, Try.ntmps23
  go_wp2_with fail
  refine H1.out.mono ?_
  rintro e W1 ⟨b1, bn, A9, c9, is, rfl, hor⟩
  have B1 := Lib.hid ((HB.out _ _).trans (b1.mono (HB.out _ _).size))
  have V1 := Lib.hid (HW1.out.below b1 (by simp; omega))
  have V2 := Lib.hid (HW2.out.below b1 (by simp))
  have cB : W1.cell? ⟨w.heap.size, 2, none⟩ = some (.slice A n.kids.length c) := V1.out.cell 2
  have qB : w.heap.size < W1.heap.size := V1.out.lt
  have qC : w.heap.size + 1 < W1.heap.size := V2.out.lt
  have fB : W1.frozen? ⟨w.heap.size, 2, none⟩ = false := V1.out.free 2
  have f20 : W1.frozen? ⟨w.heap.size + 1, 0, none⟩ = false := V2.out.free 0
  have f21 : W1.frozen? ⟨w.heap.size + 1, 1, none⟩ = false := V2.out.free 1
  have f22 : W1.frozen? ⟨w.heap.size + 1, 2, none⟩ = false := V2.out.free 2
  have f23 : W1.frozen? ⟨w.heap.size + 1, 3, none⟩ = false := V2.out.free 3
  have c20 : W1.cell? ⟨w.heap.size + 1, 0, none⟩ = some (.int .i64 0) := V2.out.cell 0
  have c21 : W1.cell? ⟨w.heap.size + 1, 1, none⟩ = some (.string ⟨#[]⟩) := V2.out.cell 1
  have c22 : W1.cell? ⟨w.heap.size + 1, 2, none⟩ = some (.slice none 0 0) := V2.out.cell 2
  have c23 : W1.cell? ⟨w.heap.size + 1, 3, none⟩ = some (.int .i64 0) := V2.out.cell 3
  have HOR := Lib.hid hor
  clear b1 HW1 HW2 H1 hor
  cases is with
  | true =>
    have h2 : at_ n = some bn ∧ NdP (fun _ x => S x ∨ w.heap.size + 1 + 1 ≤ x) W1 0 fb (bn.val A9 c9) bn := by
      rcases HOR.out with ⟨h, _⟩ | ⟨_, h⟩
      · cases h
      · refine ⟨h.1, ?_⟩
        have h3 := h.2
        simp only [World.size_alloc] at h3
        exact h3
    clear HOR
    obtain ⟨hb1, hN⟩ := h2
    obtain rfl : m = bn := by rw [← HM.out]; simp only [swN]; rw [hb1]
    have HN := Lib.hid hN
    clear hN hb1
    go_wp2_with fail
    have y := (((V2.out.put 0 (.int .i64 m.kind)).put 1 (.string m.text)).put 2 (.slice A9 m.kids.length c9)).put 3 (.int .i64 m.place)
    have hfar := fun {w1 : World} (h : NdP (fun _ b => S b ∨ w.heap.size + 1 + 1 ≤ b) w1 0 fb (m.val A9 c9) m) (o : Nat) (u : Value) => h.far ⟨w.heap.size + 1, o, none⟩ u (by
      intro d b hs
      rcases hs with hs | hs
      · have := HSW.out _ hs; simp only; omega
      · simp only; omega)
    have y1 := hfar (hfar (hfar (hfar HN.out 0 (.int .i64 m.kind)) 1 (.string m.text)) 2 (.slice A9 m.kids.length c9)) 3 (.int .i64 m.place)
    have y2 := (((B1.out.setCell (p := ⟨w.heap.size + 1, 0, none⟩) (by simp) (.int .i64 m.kind)).setCell (p := ⟨w.heap.size + 1, 1, none⟩) (by simp) (.string m.text)).setCell (p := ⟨w.heap.size + 1, 2, none⟩) (by simp) (.slice A9 m.kids.length c9)).setCell (p := ⟨w.heap.size + 1, 3, none⟩) (by simp) (.int .i64 m.place)
    generalize ((((W1.setCell ⟨w.heap.size + 1, 0, none⟩ (.int .i64 m.kind)).setCell ⟨w.heap.size + 1, 1, none⟩ (.string m.text)).setCell ⟨w.heap.size + 1, 2, none⟩ (.slice A9 m.kids.length c9)).setCell ⟨w.heap.size + 1, 3, none⟩ (.int .i64 m.place)) = W9 at y y1 y2 ⊢
    have y3 := y.alloc (.cells #[.int .i64 m.kind, .string m.text, .slice A9 m.kids.length c9, .int .i64 m.place] 24)
    have y4 := y1.below ((Below.refl _ W9).alloc (Nat.le_refl _) (.cells #[.int .i64 m.kind, .string m.text, .slice A9 m.kids.length c9, .int .i64 m.place] 24))
    have y5 := y2.alloc y2.size (.cells #[.int .i64 m.kind, .string m.text, .slice A9 m.kids.length c9, .int .i64 m.place] 24)
    generalize W9.alloc (.cells #[.int .i64 m.kind, .string m.text, .slice A9 m.kids.length c9, .int .i64 m.place] 24) = W8 at y3 y4 y5 ⊢
    have r0 : W8.cell? ⟨w.heap.size + 1, 0, none⟩ = some (.int .i64 m.kind) := y3.cell 0
    have r1 : W8.cell? ⟨w.heap.size + 1, 1, none⟩ = some (.string m.text) := y3.cell 1
    have r2 : W8.cell? ⟨w.heap.size + 1, 2, none⟩ = some (.slice A9 m.kids.length c9) := y3.cell 2
    have r3 : W8.cell? ⟨w.heap.size + 1, 3, none⟩ = some (.int .i64 m.place) := y3.cell 3
    refine bodyPost_ret (v := .agg #[.int .i64 m.kind, .string m.text, .slice A9 m.kids.length c9, .int .i64 m.place]) (by simp [results, Try.results23, go_sem, r0, r1, r2, r3]) rfl ⟨A9, c9, rfl, (y4.weak ?_).le (by omega), y5⟩
    intro d b hs
    rcases hs with h1 | hs
    · exact .inl h1
    · exact .inr (by omega)
  | false =>
    have h2 : at_ n = none := by
      rcases HOR.out with ⟨_, h⟩ | ⟨h, _⟩
      · exact h
      · cases h
    have H2 := Lib.hid h2
    clear h2 HOR c20 c21 c22 c23 f20 f21 f22 f23
    go_wp2_with fail
    go_loopw [28] (fun i W => SwRel w S fb at_ f left n i W) (fun i _ => n.kids.length - (intOf i).toNat)
    case atStart =>
      refine ⟨0, .slice none 0 0, [], Nat.zero_le _, rfl, by simp, ?_, ?_, ?_, RowNd.nil _ _ _ _ _⟩
      · exact (B1.out.setCell (p := ⟨w.heap.size, 2, none⟩) (Nat.le_refl _) _).alloc (by simp [World.setCell]; omega) _
      · exact (V1.out.put 2 _).alloc _
      · exact (V2.out.far (p := ⟨w.heap.size, 2, none⟩) (by simp) _).alloc _
    case round =>
      obtain ⟨p, v, l, hp, rfl, hl1, hb, hw1, hw2, hrow⟩ := hrel
      have e2 : wr.cell? ⟨w.heap.size, 2, none⟩ = some v := hw1.cell 2
      have q1 := hw1.lt
      have q2 := hw2.lt
      have f2 : wr.frozen? ⟨w.heap.size, 2, none⟩ = false := hw1.free 2
      by_cases hpl : p < n.kids.length
      · obtain ⟨b, off, hA, hS, hi⟩ := HC.out (by omega)
        obtain ⟨k, hk⟩ : ∃ k, n.kids[p]? = some k := ⟨_, List.getElem?_eq_getElem hpl⟩
        obtain ⟨A', c', g0, g1, g2, g3, g4⟩ := hi p k hk
        have hbl := cell_lt g0
        have hbl2 : b < wr.heap.size := Nat.lt_of_lt_of_le hbl hb.size
        have k0 := (hb.cell (cell_lt g0)).trans g0
        have k1 := (hb.cell (cell_lt g1)).trans g1
        have k2 := (hb.cell (cell_lt g2)).trans g2
        have k3 := (hb.cell (cell_lt g3)).trans g3
        subst hA
        have hzk : sizeN (left + 1) k ≤ 1048576 := Nat.le_trans (size_kid hk) hZ.out
        have hll : n.kids.length ≤ 1048576 := Nat.le_trans (size_len left n) hZ.out
        obtain ⟨q, hq⟩ : ∃ q, q = swN at_ left k := ⟨_, rfl⟩
        have hin : ∀ W', Below wr.heap.size wr W' → Calls Try.prog 23 #[.agg #[.int .i64 k.kind, .string k.text, .slice A' k.kids.length c', .int .i64 k.place], .int .i64 (IntKind.i64.wrap (left : Int)), .func (.func g) #[] cb] W' fun e w' => ∃ A c,
            e = .returned (.agg #[.int .i64 q.kind, .string q.text, .slice A q.kids.length c, .int .i64 q.place]) ∧ w'.cell? ⟨w.heap.size, 2, none⟩ = some v ∧ w'.frozen? ⟨w.heap.size, 2, none⟩ = false ∧ w.heap.size < w'.heap.size ∧ Below wr.heap.size wr w' ∧ Below W'.heap.size W' w' ∧
            NdP (fun _ b => ((S b ∧ b < w.heap.size) ∨ w.heap.size + 2 ≤ b) ∧ v.ownBlock ≠ some b) w' 0 (f + fb) (q.val A c) q := by
          intro W' hW'
          rw [IntWalk.i64_in _ (by omega)]
          subst hq
          have hk4 : NdP (fun _ b => S b) W' 0 f (k.val A' c') k :=
            (NdP.below hb g4).below hW'
          refine (IH.out f _ k W' (HW0.out.trans ((hb.trans (hW'.mono hb.size)).mono HW0.out.size)) hzk hk4).mono ?_
          rintro e w' ⟨A, c, rfl, hn, hb2⟩
          have hb3 := hW'.trans (hb2.mono hW'.size)
          refine ⟨A, c, rfl, (hb3.cell (p := ⟨w.heap.size, 2, none⟩) q1).trans e2, (hb3.frozen (p := ⟨w.heap.size, 2, none⟩) q1).trans f2, Nat.lt_of_lt_of_le q1 hb3.size, hb3, hb2, hn.weak fun d b hs => ?_⟩
          have hlt := hrow.1.lt
          have hsz := hb.size
          have hsz2 := hW'.size
          rcases hs with hs | hs
          · have := HSW.out _ hs
            exact ⟨.inl ⟨hs, this⟩, fun e => by have := hlt _ e; omega⟩
          · exact ⟨.inr (by omega), fun e => by have := hlt _ e; omega⟩
        have HI := Lib.hid hin
        have HQ := Lib.hid hq
        have HROW := Lib.hid hrow
        have HBW := Lib.hid hb
        have HL1 := Lib.hid hl1
        have HK := Lib.hid hk
        have HWA := Lib.hid hw1
        have HWB := Lib.hid hw2
        have hp2 : p < 9223372036854775807 := by omega
        have hll2 := hl1
        clear hin hq hrow hb hl1 hk hw1 hw2 hi hS g0 g1 g2 g3 g4 hzk
        obtain ⟨i0, hi0, hz0, hz1, hz2⟩ := info_parts Try.info24
        have hlen : l.length = p := by have := congrArg List.length HL1.out; simpa [Nat.min_eq_left hp] using this
        have HLEN := Lib.hid hlen
        clear hlen
        have av : v.ownBlock ≠ some wr.heap.size := fun e => by have := HROW.out.1.lt _ e; omega
        have qne : ¬ w.heap.size = wr.heap.size := by omega
        have au : v.ownBlock ≠ some w.heap.size := fun e => by have := HROW.out.1.lt _ e; omega
        go_wp2_with fail
        go_region_law (first
            | (refine step_append_lies _ (by rfl) _ _ _ (by rfl) (w.heap.size + 2) 24 i0 _ 4 56 Try.underlying22 hi0 hz0 hz1 hz2 rfl (by omega) v l.length (l.flatMap cells4) (by rfl) (R2.out.1.alloc _)
                ⟨w2.heap.size, 0, none⟩ 1 1 (cells4 (q, A2, c2)) (by rfl) (by rfl) (World.news_of_block (cs := #[.int .i64 q.kind, .string q.text, .slice A2 q.kids.length c2, .int .i64 q.place]) (t := 24) (fr := (0, 0)) (heap_alloc_new w2 _)) (by simp [cells4, Value.oneCell'])
                (by omega) (by rw [HLEN.out]; simp only [maxLen]; omega) (by rw [HLEN.out]; omega) (by simp; omega) (w2.heap.size + 1) (by simp) ?_; intro gg cap w3 hown3 hgrow hat hlt; have e4 : w3.cell? ⟨w.heap.size, 2, none⟩ = some v := (by rw [hgrow.cell_far _ (by simp; omega) (Ne.symm au)]; exact ((Below.refl _ w2).alloc (Nat.le_refl _) _).cell (p := ⟨w.heap.size, 2, none⟩) q3 |>.trans e3); have f4 : w3.frozen? ⟨w.heap.size, 2, none⟩ = false := (by rw [hgrow.frozen_far _ (by simp; omega) (Ne.symm au)]; exact ((Below.refl _ w2).alloc (Nat.le_refl _) _).frozen (p := ⟨w.heap.size, 2, none⟩) q3 |>.trans f3); have sz3 : w2.heap.size < w3.heap.size := (by have := hgrow.size; simp at this; omega))
            | (go_simp; go_at_call 23; refine (HI.out _ (((Below.refl _ wr).alloc (Nat.le_refl _) _).drew)).mono ?_; rintro e w2 ⟨A2, c2, rfl, e3, f3, q3, b3, b4, n3⟩; have R2 := Lib.hid (HROW.out.kept b3); have sz2 : wr.heap.size < w2.heap.size := (by have := b4.size; simp at this; omega);
               have t0 : w2.cell? ⟨wr.heap.size, 0, none⟩ = some (.int .i64 k.kind) := (b4.cell (p := ⟨wr.heap.size, 0, none⟩) (by simp)).trans ((Whole.new wr 24 _).cell 0);
               have t1 : w2.cell? ⟨wr.heap.size, 1, none⟩ = some (.string k.text) := (b4.cell (p := ⟨wr.heap.size, 1, none⟩) (by simp)).trans ((Whole.new wr 24 _).cell 1);
               have t2 : w2.cell? ⟨wr.heap.size, 2, none⟩ = some (.slice A' k.kids.length c') := (b4.cell (p := ⟨wr.heap.size, 2, none⟩) (by simp)).trans ((Whole.new wr 24 _).cell 2);
               have t3 : w2.cell? ⟨wr.heap.size, 3, none⟩ = some (.int .i64 k.place) := (b4.cell (p := ⟨wr.heap.size, 3, none⟩) (by simp)).trans ((Whole.new wr 24 _).cell 3)))
        all_goals
          go_wp2_with fail
          go_roundw
          case rel =>
            have qb : Below w.heap.size w w2 := HBW.out.trans (b3.mono HBW.out.size)
            have qa : Below w.heap.size w (w2.alloc (.cells #[.int .i64 q.kind, .string q.text, .slice A2 q.kids.length c2, .int .i64 q.place] 24)) := qb.alloc qb.size _
            have q3 : Below w.heap.size w w3 := qa.grown hgrow (by have := qb.size; simp; omega) (fun j hj => by have := (HROW.out.1.lt j hj).1; omega)
            have av2 : v.ownBlock ≠ some (w.heap.size + 1) := fun e => by have := HROW.out.1.lt _ e; omega
            have row3 := (R2.out.kept ((Below.refl _ w2).alloc (Nat.le_refl _) (.cells #[.int .i64 q.kind, .string q.text, .slice A2 q.kids.length c2, .int .i64 q.place] 24))).snoc (x := (q, A2, c2)) (n3.below ((Below.refl _ w2).alloc (Nat.le_refl _) _)) hown3 hgrow (by
              rcases hat with h1 | h1
              · exact .inl (by rw [h1]; rfl)
              · exact .inr ⟨gg, rfl, by rw [h1]; simp⟩)
            have hdone : SwRel w S fb at_ f left n (.int .i64 ((p : Int) + 1)) (w3.setCell ⟨w.heap.size, 2, none⟩ (.slice (some ⟨gg, 0, none⟩) (l.length + 1) cap)) := by
              refine ⟨p + 1, .slice (some ⟨gg, 0, none⟩) (l.length + 1) cap, l ++ [(q, A2, c2)], by omega, rfl, ?_, q3.setCell (p := ⟨w.heap.size, 2, none⟩) (Nat.le_refl _) _, ?_, ?_, row3.far _ _ (by simp) (fun d b hs => ?_)⟩
              · rw [take_snoc HK.out, List.map_append, List.map_append, HL1.out, HQ.out]; rfl
              · exact (((HWA.out.below b3 q1).alloc _).grown hgrow (Ne.symm au)).put 2 _
              · exact (((HWB.out.below b3 q2).alloc _).grown hgrow (Ne.symm av2)).far (by simp) _
              · simp only
                rcases hs with ⟨_, hs⟩ | hs <;> omega
            first | exact hdone | ((repeat apply Exists.intro); exact ⟨hdone, rfl⟩)
          case measure => simp [intOf]; omega
      · have hpe : p = n.kids.length := by omega
        subst hpe
        rw [List.take_length] at hl1
        have hm9 : m = Nd.mk n.kind n.text (n.kids.map (swN at_ left)) n.place := by rw [← HM.out]; simp only [swN]; rw [H2.out]
        have ek : m.kids.length = n.kids.length := by rw [hm9]; simp [Nd.kids]
        have ek1 : m.kind = n.kind := by rw [hm9]; rfl
        have ek2 : m.text = n.text := by rw [hm9]; rfl
        have ek3 : m.place = n.place := by rw [hm9]; rfl
        obtain ⟨A9, c9, rfl, hN⟩ := hrow.kids m (by rw [hl1, hm9]; rfl) (by rw [ek]; exact hm) 0 (fun b hb => .inr hb) rfl
        rw [← ek1, ← ek2, ← ek3] at hw1
        clear ek1 ek2 ek3 hm9 ek
        have HN := Lib.hid hN
        have HBW := Lib.hid hb
        have HW2 := Lib.hid hw2
        have c10 : wr.cell? ⟨w.heap.size, 0, none⟩ = some (.int .i64 m.kind) := hw1.cell 0
        have c11 : wr.cell? ⟨w.heap.size, 1, none⟩ = some (.string m.text) := hw1.cell 1
        have c13 : wr.cell? ⟨w.heap.size, 3, none⟩ = some (.int .i64 m.place) := hw1.cell 3
        have c20 : wr.cell? ⟨w.heap.size + 1, 0, none⟩ = some (.int .i64 0) := hw2.cell 0
        have c21 : wr.cell? ⟨w.heap.size + 1, 1, none⟩ = some (.string ⟨#[]⟩) := hw2.cell 1
        have c22 : wr.cell? ⟨w.heap.size + 1, 2, none⟩ = some (.slice none 0 0) := hw2.cell 2
        have c23 : wr.cell? ⟨w.heap.size + 1, 3, none⟩ = some (.int .i64 0) := hw2.cell 3
        have f20 : wr.frozen? ⟨w.heap.size + 1, 0, none⟩ = false := hw2.free 0
        have f21 : wr.frozen? ⟨w.heap.size + 1, 1, none⟩ = false := hw2.free 1
        have f22 : wr.frozen? ⟨w.heap.size + 1, 2, none⟩ = false := hw2.free 2
        have f23 : wr.frozen? ⟨w.heap.size + 1, 3, none⟩ = false := hw2.free 3
        clear hN hb hw1 hw2 hrow hl1
        go_wp2_with fail
        have y := (((HW2.out.put 0 (.int .i64 m.kind)).put 1 (.string m.text)).put 2 (.slice A9 m.kids.length c9)).put 3 (.int .i64 m.place)
        have hfar := fun {w1 : World} (h : NdP (fun _ b => (S b ∧ b < w.heap.size) ∨ w.heap.size + 2 ≤ b) w1 0 (f + fb + 1) (m.val A9 c9) m) (o : Nat) (u : Value) => h.far ⟨w.heap.size + 1, o, none⟩ u (by
          intro d b hs
          rcases hs with ⟨_, hs⟩ | hs <;> (simp only; omega))
        have y1 := hfar (hfar (hfar (hfar HN.out 0 (.int .i64 m.kind)) 1 (.string m.text)) 2 (.slice A9 m.kids.length c9)) 3 (.int .i64 m.place)
        have y2 := (((HBW.out.setCell (p := ⟨w.heap.size + 1, 0, none⟩) (by simp) (.int .i64 m.kind)).setCell (p := ⟨w.heap.size + 1, 1, none⟩) (by simp) (.string m.text)).setCell (p := ⟨w.heap.size + 1, 2, none⟩) (by simp) (.slice A9 m.kids.length c9)).setCell (p := ⟨w.heap.size + 1, 3, none⟩) (by simp) (.int .i64 m.place)
        generalize ((((wr.setCell ⟨w.heap.size + 1, 0, none⟩ (.int .i64 m.kind)).setCell ⟨w.heap.size + 1, 1, none⟩ (.string m.text)).setCell ⟨w.heap.size + 1, 2, none⟩ (.slice A9 m.kids.length c9)).setCell ⟨w.heap.size + 1, 3, none⟩ (.int .i64 m.place)) = W9 at y y1 y2 ⊢
        have r0 : W9.cell? ⟨w.heap.size + 1, 0, none⟩ = some (.int .i64 m.kind) := y.cell 0
        have r1 : W9.cell? ⟨w.heap.size + 1, 1, none⟩ = some (.string m.text) := y.cell 1
        have r2 : W9.cell? ⟨w.heap.size + 1, 2, none⟩ = some (.slice A9 m.kids.length c9) := y.cell 2
        have r3 : W9.cell? ⟨w.heap.size + 1, 3, none⟩ = some (.int .i64 m.place) := y.cell 3
        refine bodyPost_ret (v := .agg #[.int .i64 m.kind, .string m.text, .slice A9 m.kids.length c9, .int .i64 m.place]) (by simp [results, Try.results23, go_sem, r0, r1, r2, r3]) rfl ⟨A9, c9, rfl, (y1.weak ?_).le (by omega), y2⟩
        intro d b hs
        rcases hs with ⟨h1, _⟩ | hs
        · exact .inl h1
        · exact .inr (by omega)

end Go.Proofs.Ytkmhijkpbmcgbaa
