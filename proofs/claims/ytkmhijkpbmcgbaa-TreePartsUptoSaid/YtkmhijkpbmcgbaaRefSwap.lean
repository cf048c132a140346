/-
  The reference's Swap: its walk.
-/
import Derived.Test.YtkmhijkpbmcgbaaSwapAt
import Derived.Test.YtkmhijkpbmcgbaaHeld
namespace Go.Proofs.Ytkmhijkpbmcgbaa
set_option linter.all false
open Go.RowKit

abbrev RswC (fb : Nat) (kind : Int) (text : ByteArray) (vb : Value) (b : Nd) (left : Nat) : Prop := ∀ (S : Nat → Prop) (f : Nat) (v : Value) (n : Nd) (w : World), (∀ x, S x → x < w.heap.size) → sizeN (left + 1) n ≤ 1048576 → NdP (fun _ => S) w 0 f v n → NdP (fun _ => S) w 0 fb vb b →
  Calls Try.prog 15 #[v, .int .i64 kind, .string text, vb, .int .i64 left] w fun e w' => ∃ A c, e = .returned (.agg #[.int .i64 (swN (swapAt kind text b) left n).kind, .string (swN (swapAt kind text b) left n).text, .slice A (swN (swapAt kind text b) left n).kids.length c, .int .i64 (swN (swapAt kind text b) left n).place]) ∧
    NdP (fun _ x => S x ∨ w.heap.size ≤ x) w' 0 (f + fb) ((swN (swapAt kind text b) left n).val A c) (swN (swapAt kind text b) left n) ∧ Below w.heap.size w w'

set_option maxRecDepth 100000 in
set_option maxHeartbeats 1000000 in
theorem rsw_zero (fb : Nat) (kind : Int) (text : ByteArray) (vb : Value) (b : Nd) : RswC fb kind text vb b 0 := by
  intro S f v n w hS hz hv hvb
  obtain ⟨A, c, rfl, hm⟩ := hv.ndv.val
  obtain ⟨Ab, cb, rfl, hmb⟩ := hvb.ndv.val
  have hb : Below w.heap.size w (((w.alloc (.cells #[.int .i64 n.kind, .string n.text, .slice A n.kids.length c, .int .i64 n.place] 24)).alloc (.cells #[.int .i64 b.kind, .string b.text, .slice Ab b.kids.length cb, .int .i64 b.place] 24)).alloc (.cells #[.int .i64 0, .string ⟨#[]⟩, .slice none 0 0, .int .i64 0] 24)) := (((Below.refl _ w).alloc (Nat.le_refl _) _).alloc (by simp) _).alloc (by simp; omega) _
  have hb2 : Below w.heap.size w (((w.alloc (.cells #[.int .i64 n.kind, .string n.text, .slice A n.kids.length c, .int .i64 n.place] 24)).alloc (.cells #[.int .i64 b.kind, .string b.text, .slice Ab b.kids.length cb, .int .i64 b.place] 24)).alloc (.cells #[.int .i64 n.kind, .string n.text, .slice A n.kids.length c, .int .i64 n.place] 24)) := (((Below.refl _ w).alloc (Nat.le_refl _) _).alloc (by simp) _).alloc (by simp; omega) _
  have hr := ((hv.below hb2).weak (S' := fun _ x => S x ∨ w.heap.size ≤ x) (fun d x hs => .inl hs)).le (Nat.le_add_right f fb)
  have HB := Lib.hid hb2
  have HR := Lib.hid hr
  clear hb hr hv hz hvb hS
  unfold Nd.val swN
  go_enter Try.func15, Try.ntmps15
  go_wp2_with fail
  refine bodyPost_ret (v := .agg #[.int .i64 n.kind, .string n.text, .slice A n.kids.length c, .int .i64 n.place]) (by simp [results, Try.results15, go_sem]) rfl ⟨A, c, rfl, HR.out, HB.out⟩

set_option maxRecDepth 100000 in
set_option maxHeartbeats 1000000 in
theorem rsw_hit (fb : Nat) (kind : Int) (text : ByteArray) (vb : Value) (b : Nd) (left : Nat) (S : Nat → Prop) (f : Nat) (v : Value) (n : Nd) (w : World) (hv : NdP (fun _ => S) w 0 f v n) (hvb : NdP (fun _ => S) w 0 fb vb b)
    (e1 : (n.kind == kind) = true) (e2 : (n.text.toList == text.toList) = true) (e3 : ((n.kids.length : Int) == 0) = true) (hl : left < 100) :
  Calls Try.prog 15 #[v, .int .i64 kind, .string text, vb, .int .i64 (left + 1 : Nat)] w fun e w' => ∃ A c, e = .returned (.agg #[.int .i64 b.kind, .string b.text, .slice A b.kids.length c, .int .i64 b.place]) ∧
    NdP (fun _ x => S x ∨ w.heap.size ≤ x) w' 0 (f + fb) (b.val A c) b ∧ Below w.heap.size w w' := by
  obtain ⟨A, c, rfl, hm⟩ := hv.ndv.val
  obtain ⟨Ab, cb, rfl, hmb⟩ := hvb.ndv.val
  have d1 : (((left + 1 : Nat) : Int) == 0) = false := by simp; omega
  have d2 : (((left : Int) + 1) == 0) = false := by simp; omega
  have hb2 : Below w.heap.size w (((w.alloc (.cells #[.int .i64 n.kind, .string n.text, .slice A n.kids.length c, .int .i64 n.place] 24)).alloc (.cells #[.int .i64 b.kind, .string b.text, .slice Ab b.kids.length cb, .int .i64 b.place] 24)).alloc (.cells #[.int .i64 b.kind, .string b.text, .slice Ab b.kids.length cb, .int .i64 b.place] 24)) := (((Below.refl _ w).alloc (Nat.le_refl _) _).alloc (by simp) _).alloc (by simp; omega) _
  have hr := ((hvb.below hb2).weak (S' := fun _ x => S x ∨ w.heap.size ≤ x) (fun d x hs => .inl hs)).le (Nat.le_add_left fb f)
  have HB := Lib.hid hb2
  have HR := Lib.hid hr
  clear hr hv hvb hb2
  unfold Nd.val at HR ⊢
  go_enter Try.func15, Try.ntmps15
  go_wp2_with fail
  refine bodyPost_ret (v := .agg #[.int .i64 b.kind, .string b.text, .slice Ab b.kids.length cb, .int .i64 b.place]) (by simp [results, Try.results15, go_sem]) rfl ⟨Ab, cb, rfl, HR.out, HB.out⟩

def RswRel (w0 : World) (S : Nat → Prop) (fb : Nat) (at_ : Nd → Option Nd) (f left : Nat) (n b : Nd) (A Ab : Option Addr) (c cb : Nat) (i : Value) (W : World) : Prop :=
  ∃ (p : Nat) (v : Value) (l : List Ent), p ≤ n.kids.length ∧ i = .int .i64 p ∧ l.map (·.1) = (n.kids.take p).map (swN at_ left) ∧ Below w0.heap.size w0 W ∧ Whole W w0.heap.size 24 #[.int .i64 n.kind, .string n.text, .slice A n.kids.length c, .int .i64 n.place] ∧
    Whole W (w0.heap.size + 1) 24 #[.int .i64 b.kind, .string b.text, .slice Ab b.kids.length cb, .int .i64 b.place] ∧ Whole W (w0.heap.size + 1 + 1) 24 #[.int .i64 0, .string ⟨#[]⟩, .slice none 0 0, .int .i64 0] ∧
    Whole W (w0.heap.size + 1 + 1 + 1) 24 #[.int .i64 n.kind, .string n.text, v, .int .i64 n.place] ∧
    RowNd (fun _ x => (S x ∧ x < w0.heap.size) ∨ w0.heap.size + 4 ≤ x) (w0.heap.size + 4) W 0 (f + fb) v l

set_option maxRecDepth 100000 in
set_option maxHeartbeats 2000000 in
theorem rsw_miss (fb : Nat) (kind : Int) (text : ByteArray) (vb : Value) (b : Nd) (left : Nat) (ih : RswC fb kind text vb b left) (S : Nat → Prop) (f : Nat) (v : Value) (n : Nd) (w : World) (hS : ∀ x, S x → x < w.heap.size) (hz : sizeN (left + 1 + 1) n ≤ 1048576) (hv : NdP (fun _ => S) w 0 (f + 1) v n) (hvb : NdP (fun _ => S) w 0 fb vb b)
    (hor : (n.kind == kind) = false ∨ ((n.kind == kind) = true ∧ (n.text.toList == text.toList) = false) ∨ ((n.kind == kind) = true ∧ (n.text.toList == text.toList) = true ∧ ((n.kids.length : Int) == 0) = false)) (hl : left < 100)
    (m : Nd) (hm9 : m = Nd.mk n.kind n.text (n.kids.map (swN (swapAt kind text b) left)) n.place) :
  Calls Try.prog 15 #[v, .int .i64 kind, .string text, vb, .int .i64 (left + 1 : Nat)] w fun e w' => ∃ A c, e = .returned (.agg #[.int .i64 m.kind, .string m.text, .slice A m.kids.length c, .int .i64 m.place]) ∧
    NdP (fun _ x => S x ∨ w.heap.size ≤ x) w' 0 (f + 1 + fb) (m.val A c) m ∧ Below w.heap.size w w' := by
  obtain ⟨A, c, rfl, ⟨hm, hcap⟩, hc⟩ := hv
  obtain ⟨Ab, cb, rfl, hmb⟩ := hvb.ndv.val
  have IH := Lib.hid ih
  have HC := Lib.hid hc
  have HM := Lib.hid hm9
  have HVB := Lib.hid hvb
  have HSW := Lib.hid hS
  have hZ := Lib.hid hz
  have d1 : (((left + 1 : Nat) : Int) == 0) = false := by simp; omega
  have d2 : (((left : Int) + 1) == 0) = false := by simp; omega
  clear ih hc hz hvb hm9 hS
  unfold Nd.val at IH ⊢
  have w1 : Below w.heap.size w ((((w.alloc (.cells #[.int .i64 n.kind, .string n.text, .slice A n.kids.length c, .int .i64 n.place] 24)).alloc (.cells #[.int .i64 b.kind, .string b.text, .slice Ab b.kids.length cb, .int .i64 b.place] 24)).alloc (.cells #[.int .i64 0, .string ⟨#[]⟩, .slice none 0 0, .int .i64 0] 24)).alloc (.cells #[.int .i64 n.kind, .string n.text, .slice none 0 0, .int .i64 n.place] 24)) := ((((Below.refl _ w).alloc (Nat.le_refl _) _).alloc (by simp) _).alloc (by simp; omega) _).alloc (by simp; omega) _
  have g1 : Whole ((((w.alloc (.cells #[.int .i64 n.kind, .string n.text, .slice A n.kids.length c, .int .i64 n.place] 24)).alloc (.cells #[.int .i64 b.kind, .string b.text, .slice Ab b.kids.length cb, .int .i64 b.place] 24)).alloc (.cells #[.int .i64 0, .string ⟨#[]⟩, .slice none 0 0, .int .i64 0] 24)).alloc (.cells #[.int .i64 n.kind, .string n.text, .slice none 0 0, .int .i64 n.place] 24)) w.heap.size 24 #[.int .i64 n.kind, .string n.text, .slice A n.kids.length c, .int .i64 n.place] := (((Whole.new w 24 _).alloc _).alloc _).alloc _
  have g2 : Whole ((((w.alloc (.cells #[.int .i64 n.kind, .string n.text, .slice A n.kids.length c, .int .i64 n.place] 24)).alloc (.cells #[.int .i64 b.kind, .string b.text, .slice Ab b.kids.length cb, .int .i64 b.place] 24)).alloc (.cells #[.int .i64 0, .string ⟨#[]⟩, .slice none 0 0, .int .i64 0] 24)).alloc (.cells #[.int .i64 n.kind, .string n.text, .slice none 0 0, .int .i64 n.place] 24)) (w.heap.size + 1) 24 #[.int .i64 b.kind, .string b.text, .slice Ab b.kids.length cb, .int .i64 b.place] := by
    have := ((Whole.new (w.alloc (.cells #[.int .i64 n.kind, .string n.text, .slice A n.kids.length c, .int .i64 n.place] 24)) 24 #[.int .i64 b.kind, .string b.text, .slice Ab b.kids.length cb, .int .i64 b.place]).alloc (.cells #[.int .i64 0, .string ⟨#[]⟩, .slice none 0 0, .int .i64 0] 24)).alloc (.cells #[.int .i64 n.kind, .string n.text, .slice none 0 0, .int .i64 n.place] 24)
    simpa using this
  have g3 : Whole ((((w.alloc (.cells #[.int .i64 n.kind, .string n.text, .slice A n.kids.length c, .int .i64 n.place] 24)).alloc (.cells #[.int .i64 b.kind, .string b.text, .slice Ab b.kids.length cb, .int .i64 b.place] 24)).alloc (.cells #[.int .i64 0, .string ⟨#[]⟩, .slice none 0 0, .int .i64 0] 24)).alloc (.cells #[.int .i64 n.kind, .string n.text, .slice none 0 0, .int .i64 n.place] 24)) (w.heap.size + 1 + 1) 24 #[.int .i64 0, .string ⟨#[]⟩, .slice none 0 0, .int .i64 0] := by
    have := (Whole.new ((w.alloc (.cells #[.int .i64 n.kind, .string n.text, .slice A n.kids.length c, .int .i64 n.place] 24)).alloc (.cells #[.int .i64 b.kind, .string b.text, .slice Ab b.kids.length cb, .int .i64 b.place] 24)) 24 #[.int .i64 0, .string ⟨#[]⟩, .slice none 0 0, .int .i64 0]).alloc (.cells #[.int .i64 n.kind, .string n.text, .slice none 0 0, .int .i64 n.place] 24)
    simpa using this
  have g4 : Whole ((((w.alloc (.cells #[.int .i64 n.kind, .string n.text, .slice A n.kids.length c, .int .i64 n.place] 24)).alloc (.cells #[.int .i64 b.kind, .string b.text, .slice Ab b.kids.length cb, .int .i64 b.place] 24)).alloc (.cells #[.int .i64 0, .string ⟨#[]⟩, .slice none 0 0, .int .i64 0] 24)).alloc (.cells #[.int .i64 n.kind, .string n.text, .slice none 0 0, .int .i64 n.place] 24)) (w.heap.size + 1 + 1 + 1) 24 #[.int .i64 n.kind, .string n.text, .slice none 0 0, .int .i64 n.place] := by
    have := Whole.new (((w.alloc (.cells #[.int .i64 n.kind, .string n.text, .slice A n.kids.length c, .int .i64 n.place] 24)).alloc (.cells #[.int .i64 b.kind, .string b.text, .slice Ab b.kids.length cb, .int .i64 b.place] 24)).alloc (.cells #[.int .i64 0, .string ⟨#[]⟩, .slice none 0 0, .int .i64 0] 24)) 24 #[.int .i64 n.kind, .string n.text, .slice none 0 0, .int .i64 n.place]
    simpa using this
  have G0 := Lib.hid w1
  have G1 := Lib.hid g1
  have G2 := Lib.hid g2
  have G3 := Lib.hid g3
  have G4 := Lib.hid g4
  clear w1 g1 g2 g3 g4
  rcases hor with e1 | ⟨e1, e2⟩ | ⟨e1, e2, e3⟩
  all_goals
    go_enter Try.func15, Try.ntmps15
    go_wp2_with fail
    go_loopw [12] (fun i W => RswRel w S fb (swapAt kind text b) f left n b A Ab c cb i W) (fun i _ => n.kids.length - (intOf i).toNat)
    case atStart => exact ⟨0, .slice none 0 0, [], Nat.zero_le _, rfl, by simp, G0.out, G1.out, G2.out, G3.out, G4.out, RowNd.nil _ _ _ _ _⟩
    case round =>
      clear G0 G1 G2 G3 G4
      obtain ⟨p, v, l, hp, rfl, hl1, hb, hw1, hw2, hw3, hw4, hrow⟩ := hrel
      have e2 : wr.cell? ⟨w.heap.size + 1 + 1 + 1, 2, none⟩ = some v := hw4.cell 2
      have x2 : wr.cell? ⟨w.heap.size, 2, none⟩ = some (.slice A n.kids.length c) := hw1.cell 2
      have b0 : wr.cell? ⟨w.heap.size + 1, 0, none⟩ = some (.int .i64 b.kind) := hw2.cell 0
      have b1 : wr.cell? ⟨w.heap.size + 1, 1, none⟩ = some (.string b.text) := hw2.cell 1
      have b2 : wr.cell? ⟨w.heap.size + 1, 2, none⟩ = some (.slice Ab b.kids.length cb) := hw2.cell 2
      have b3 : wr.cell? ⟨w.heap.size + 1, 3, none⟩ = some (.int .i64 b.place) := hw2.cell 3
      have f2 : wr.frozen? ⟨w.heap.size + 1 + 1 + 1, 2, none⟩ = false := hw4.free 2
      have q1 := hw1.lt
      have q2 := hw2.lt
      have q4 := hw4.lt
      by_cases hpl : p < n.kids.length
      · obtain ⟨bk, off, hA, hS, hi⟩ := HC.out (by omega)
        obtain ⟨k, hk⟩ : ∃ k, n.kids[p]? = some k := ⟨_, List.getElem?_eq_getElem hpl⟩
        obtain ⟨A', c', g0, g1, g2, g3, g4⟩ := hi p k hk
        have hbl := cell_lt g0
        have k0 := (hb.cell (cell_lt g0)).trans g0
        have k1 := (hb.cell (cell_lt g1)).trans g1
        have k2 := (hb.cell (cell_lt g2)).trans g2
        have k3 := (hb.cell (cell_lt g3)).trans g3
        subst hA
        have hzk : sizeN (left + 1) k ≤ 1048576 := Nat.le_trans (size_kid hk) hZ.out
        have hll : n.kids.length ≤ 1048576 := Nat.le_trans (size_len left n) hZ.out
        obtain ⟨q, hq⟩ : ∃ q, q = swN (swapAt kind text b) left k := ⟨_, rfl⟩
        have hin : ∀ W', Below wr.heap.size wr W' → Calls Try.prog 15 #[.agg #[.int .i64 k.kind, .string k.text, .slice A' k.kids.length c', .int .i64 k.place], .int .i64 kind, .string text, .agg #[.int .i64 b.kind, .string b.text, .slice Ab b.kids.length cb, .int .i64 b.place], .int .i64 (IntKind.i64.wrap (left : Int))] W' fun e w' => ∃ A c,
            e = .returned (.agg #[.int .i64 q.kind, .string q.text, .slice A q.kids.length c, .int .i64 q.place]) ∧ Below W'.heap.size W' w' ∧
            NdP (fun _ x => ((S x ∧ x < w.heap.size) ∨ w.heap.size + 4 ≤ x) ∧ v.ownBlock ≠ some x) w' 0 (f + fb) (q.val A c) q := by
          intro W' hW'
          rw [IntWalk.i64_in _ (by omega)]
          subst hq
          have hk4 : NdP (fun _ x => S x) W' 0 f (k.val A' c') k := (NdP.below hb g4).below hW'
          have hb4 : NdP (fun _ x => S x) W' 0 fb _ b := (HVB.out.below hb).below hW'
          have hsz := hb.size
          have hsz2 := hW'.size
          refine (IH.out S f _ k W' (fun x hx => by have := HSW.out x hx; omega) hzk hk4 hb4).mono ?_
          rintro e w' ⟨A, c, rfl, hn, hb2⟩
          refine ⟨A, c, rfl, hb2, hn.weak fun d x hs => ?_⟩
          have hlt := hrow.1.lt
          rcases hs with hs | hs
          · have := HSW.out _ hs
            exact ⟨.inl ⟨hs, this⟩, fun e => by have := hlt _ e; omega⟩
          · exact ⟨.inr (by omega), fun e => by have := hlt _ e; omega⟩
        have kp0 : ∀ W', Below (w.heap.size + 1 + 1 + 1) wr W' → W'.cell? ⟨w.heap.size, 2, none⟩ = some (.slice (some ⟨bk, off, none⟩) n.kids.length c) ∧ W'.cell? ⟨bk, off + p * 4, none⟩ = some (.int .i64 k.kind) ∧ W'.cell? ⟨bk, off + p * 4 + 1, none⟩ = some (.string k.text) ∧ W'.cell? ⟨bk, off + p * 4 + 2, none⟩ = some (.slice A' k.kids.length c') ∧ W'.cell? ⟨bk, off + p * 4 + 3, none⟩ = some (.int .i64 k.place) ∧ W'.cell? ⟨w.heap.size + 1, 0, none⟩ = some (.int .i64 b.kind) ∧ W'.cell? ⟨w.heap.size + 1, 1, none⟩ = some (.string b.text) ∧ W'.cell? ⟨w.heap.size + 1, 2, none⟩ = some (.slice Ab b.kids.length cb) ∧ W'.cell? ⟨w.heap.size + 1, 3, none⟩ = some (.int .i64 b.place) := fun W' hW =>
          have hl : bk < w.heap.size := HSW.out bk hS
          ⟨(hW.cell (p := ⟨w.heap.size, 2, none⟩) (by simp only; omega)).trans x2, (hW.cell (p := ⟨bk, _, none⟩) (by simp only; omega)).trans k0, (hW.cell (p := ⟨bk, _, none⟩) (by simp only; omega)).trans k1, (hW.cell (p := ⟨bk, _, none⟩) (by simp only; omega)).trans k2, (hW.cell (p := ⟨bk, _, none⟩) (by simp only; omega)).trans k3,
            (hW.cell (p := ⟨w.heap.size + 1, 0, none⟩) (by simp only; omega)).trans b0, (hW.cell (p := ⟨w.heap.size + 1, 1, none⟩) (by simp only; omega)).trans b1, (hW.cell (p := ⟨w.heap.size + 1, 2, none⟩) (by simp only; omega)).trans b2, (hW.cell (p := ⟨w.heap.size + 1, 3, none⟩) (by simp only; omega)).trans b3⟩
        have kp1 : ∀ W', Below (w.heap.size + 1 + 1 + 1 + 1) wr W' → W'.cell? ⟨w.heap.size + 1 + 1 + 1, 2, none⟩ = some v := fun W' hW => (hW.cell (p := ⟨w.heap.size + 1 + 1 + 1, 2, none⟩) (by simp only; omega)).trans e2
        have KP0 := Lib.hid kp0
        have KP1 := Lib.hid kp1
        clear kp0 kp1
        have HI := Lib.hid hin
        have HQ := Lib.hid hq
        have HROW := Lib.hid hrow
        have HBW := Lib.hid hb
        have HL1 := Lib.hid hl1
        have HK := Lib.hid hk
        have HWA := Lib.hid hw1
        have HWB := Lib.hid hw2
        have HWC := Lib.hid hw3
        have HWD := Lib.hid hw4
        have hp2 : p < 9223372036854775807 := by omega
        have hll2 := hl1
        have hlen : l.length = p := by have := congrArg List.length hl1; simpa [Nat.min_eq_left hp] using this
        have HLEN := Lib.hid hlen
        clear hin hq hrow hb hl1 hk hw1 hw2 hw3 hw4 hi hS g0 g1 g2 g3 g4 hzk hlen hll2
        obtain ⟨i0, hi0, hz0, hz1, hz2⟩ := info_parts Try.info24
        go_wp2_with fail
        refine Held.begin_ (fun w' => w'.cell? ⟨w.heap.size, 2, none⟩ = some (.slice (some ⟨bk, off, none⟩) n.kids.length c) ∧ w'.cell? ⟨bk, off + p * 4, none⟩ = some (.int .i64 k.kind) ∧ w'.cell? ⟨bk, off + p * 4 + 1, none⟩ = some (.string k.text) ∧ w'.cell? ⟨bk, off + p * 4 + 2, none⟩ = some (.slice A' k.kids.length c') ∧ w'.cell? ⟨bk, off + p * 4 + 3, none⟩ = some (.int .i64 k.place) ∧ w'.cell? ⟨w.heap.size + 1, 0, none⟩ = some (.int .i64 b.kind) ∧ w'.cell? ⟨w.heap.size + 1, 1, none⟩ = some (.string b.text) ∧ w'.cell? ⟨w.heap.size + 1, 2, none⟩ = some (.slice Ab b.kids.length cb) ∧ w'.cell? ⟨w.heap.size + 1, 3, none⟩ = some (.int .i64 b.place)) (fun w' => w'.cell? ⟨w.heap.size + 1 + 1 + 1, 2, none⟩ = some v) 16 (by kernel_rfl) (KP0.out _ ((Below.refl _ wr).drew)) (KP1.out _ ((Below.refl _ wr).drew)) ?_
        refine Held.take (i := 0) (oi := { dst := some 47, op := Op.fieldAddr 24 (Operand.tmp 11) 2, type := 0, pos := "ref.go:328", after := #[], guard := none }) (v := ?_) false [] rfl (by decide) (by kernel_rfl) (by kernel_rfl) (by kernel_rfl) (by kernel_rfl) (fun _ _ _ h => h) (Or.inl ⟨by rfl, ?_⟩) ?_
        rotate_left
        · rintro w ⟨hS0, hS1⟩
          clear hS1
          (try dsimp only at hS0)
          go_simp
          (try with_reducible rfl)
        try simp only [Act.put, List.setIfInBounds_toArray, List.set_cons_zero, List.set_cons_succ]
        refine Held.take (i := 1) (oi := { dst := some 48, op := Op.load 22 (Operand.tmp 47), type := 22, pos := "ref.go:328", after := #[{ on := 0, ground := Ground.data }], guard := none }) (v := ?_) true [] rfl (by decide) (by kernel_rfl) (by kernel_rfl) (by kernel_rfl) (by kernel_rfl) (fun _ _ _ h => h) (Or.inl ⟨by rfl, ?_⟩) ?_
        rotate_left
        · rintro w ⟨hS0, hS1⟩
          have hS2 := hS1 rfl
          clear hS1
          (try dsimp only at hS2)
          (try dsimp only at hS0)
          go_simp
          (try with_reducible rfl)
        try simp only [Act.put, List.setIfInBounds_toArray, List.set_cons_zero, List.set_cons_succ]
        refine Held.take (i := 2) (oi := { dst := some 49, op := Op.fieldAddr 24 (Operand.tmp 5) 2, type := 0, pos := "ref.go:328", after := #[], guard := none }) (v := ?_) false [] rfl (by decide) (by kernel_rfl) (by kernel_rfl) (by kernel_rfl) (by kernel_rfl) (fun _ _ _ h => h) (Or.inl ⟨by rfl, ?_⟩) ?_
        rotate_left
        · rintro w ⟨hS0, hS1⟩
          clear hS1
          (try dsimp only at hS0)
          go_simp
          (try with_reducible rfl)
        try simp only [Act.put, List.setIfInBounds_toArray, List.set_cons_zero, List.set_cons_succ]
        refine Held.take (i := 3) (oi := { dst := some 50, op := Op.load 22 (Operand.tmp 49), type := 22, pos := "ref.go:328", after := #[{ on := 2, ground := Ground.data }], guard := none }) (v := ?_) false [] rfl (by decide) (by kernel_rfl) (by kernel_rfl) (by kernel_rfl) (by kernel_rfl) (fun _ _ _ h => h) (Or.inl ⟨by rfl, ?_⟩) ?_
        rotate_left
        · rintro w ⟨hS0, hS1⟩
          clear hS1
          (try dsimp only at hS0)
          go_simp
          (try with_reducible rfl)
        try simp only [Act.put, List.setIfInBounds_toArray, List.set_cons_zero, List.set_cons_succ]
        refine Held.take (i := 4) (oi := { dst := some 51, op := Op.move (Operand.tmp 12), type := 3, pos := "ref.go:328", after := #[], guard := none }) (v := ?_) false [] rfl (by decide) (by kernel_rfl) (by kernel_rfl) (by kernel_rfl) (by kernel_rfl) (fun _ _ _ h => h) (Or.inl ⟨by rfl, ?_⟩) ?_
        rotate_left
        · rintro w ⟨hS0, hS1⟩
          clear hS1
          (try dsimp only at hS0)
          go_simp
          (try with_reducible rfl)
        try simp only [Act.put, List.setIfInBounds_toArray, List.set_cons_zero, List.set_cons_succ]
        refine Held.take (i := 5) (oi := { dst := some 52, op := Op.indexAddr 22 (Operand.tmp 50) (Operand.tmp 51), type := 0, pos := "ref.go:328", after := #[{ on := 3, ground := Ground.data }, { on := 4, ground := Ground.data }], guard := none }) (v := ?_) false [] rfl (by decide) (by kernel_rfl) (by kernel_rfl) (by kernel_rfl) (by kernel_rfl) (fun _ _ _ h => h) (Or.inl ⟨by rfl, ?_⟩) ?_
        rotate_left
        · rintro w ⟨hS0, hS1⟩
          clear hS1
          (try dsimp only at hS0)
          go_simp
          (try with_reducible rfl)
        try simp only [Act.put, List.setIfInBounds_toArray, List.set_cons_zero, List.set_cons_succ]
        refine Held.take (i := 6) (oi := { dst := some 53, op := Op.load 24 (Operand.tmp 52), type := 24, pos := "ref.go:328", after := #[{ on := 5, ground := Ground.data }], guard := none }) (v := ?_) false [] rfl (by decide) (by kernel_rfl) (by kernel_rfl) (by kernel_rfl) (by kernel_rfl) (fun _ _ _ h => h) (Or.inl ⟨by rfl, ?_⟩) ?_
        rotate_left
        · rintro w ⟨hS0, hS1⟩
          clear hS1
          (try dsimp only at hS0)
          go_simp
          (try with_reducible rfl)
        try simp only [Act.put, List.setIfInBounds_toArray, List.set_cons_zero, List.set_cons_succ]
        refine Held.take (i := 7) (oi := { dst := some 54, op := Op.move (Operand.tmp 1), type := 3, pos := "ref.go:328", after := #[], guard := none }) (v := ?_) false [] rfl (by decide) (by kernel_rfl) (by kernel_rfl) (by kernel_rfl) (by kernel_rfl) (fun _ _ _ h => h) (Or.inl ⟨by rfl, ?_⟩) ?_
        rotate_left
        · rintro w ⟨hS0, hS1⟩
          clear hS1
          (try dsimp only at hS0)
          go_simp
          (try with_reducible rfl)
        try simp only [Act.put, List.setIfInBounds_toArray, List.set_cons_zero, List.set_cons_succ]
        refine Held.take (i := 8) (oi := { dst := some 55, op := Op.move (Operand.tmp 2), type := 9, pos := "ref.go:328", after := #[], guard := none }) (v := ?_) false [] rfl (by decide) (by kernel_rfl) (by kernel_rfl) (by kernel_rfl) (by kernel_rfl) (fun _ _ _ h => h) (Or.inl ⟨by rfl, ?_⟩) ?_
        rotate_left
        · rintro w ⟨hS0, hS1⟩
          clear hS1
          (try dsimp only at hS0)
          go_simp
          (try with_reducible rfl)
        try simp only [Act.put, List.setIfInBounds_toArray, List.set_cons_zero, List.set_cons_succ]
        refine Held.take (i := 9) (oi := { dst := some 56, op := Op.load 24 (Operand.tmp 8), type := 24, pos := "ref.go:328", after := #[], guard := none }) (v := ?_) false [] rfl (by decide) (by kernel_rfl) (by kernel_rfl) (by kernel_rfl) (by kernel_rfl) (fun _ _ _ h => h) (Or.inl ⟨by rfl, ?_⟩) ?_
        rotate_left
        · rintro w ⟨hS0, hS1⟩
          clear hS1
          (try dsimp only at hS0)
          go_simp
          (try with_reducible rfl)
        try simp only [Act.put, List.setIfInBounds_toArray, List.set_cons_zero, List.set_cons_succ]
        refine Held.take (i := 10) (oi := { dst := some 57, op := Op.move (Operand.tmp 4), type := 3, pos := "ref.go:328", after := #[], guard := none }) (v := ?_) false [] rfl (by decide) (by kernel_rfl) (by kernel_rfl) (by kernel_rfl) (by kernel_rfl) (fun _ _ _ h => h) (Or.inl ⟨by rfl, ?_⟩) ?_
        rotate_left
        · rintro w ⟨hS0, hS1⟩
          clear hS1
          (try dsimp only at hS0)
          go_simp
          (try with_reducible rfl)
        try simp only [Act.put, List.setIfInBounds_toArray, List.set_cons_zero, List.set_cons_succ]
        refine Held.take (i := 11) (oi := { dst := some 58, op := Op.binOp BinOp.sub 3 (Operand.tmp 57) (Operand.const (Value.int IntKind.i64 1)) 3, type := 3, pos := "ref.go:328", after := #[{ on := 10, ground := Ground.data }], guard := none }) (v := ?_) false [] rfl (by decide) (by kernel_rfl) (by kernel_rfl) (by kernel_rfl) (by kernel_rfl) (fun _ _ _ h => h) (Or.inl ⟨by rfl, ?_⟩) ?_
        rotate_left
        · rintro w ⟨hS0, hS1⟩
          clear hS1
          (try dsimp only at hS0)
          go_simp
          (try with_reducible rfl)
        try simp only [Act.put, List.setIfInBounds_toArray, List.set_cons_zero, List.set_cons_succ]
        refine Held.step (i := 12) (o := { dst := some 59, op := Op.call { callee := Callee.value (Operand.func 15), args := #[Operand.tmp 53, Operand.tmp 54, Operand.tmp 55, Operand.tmp 56, Operand.tmp 58], argTypes := #[24, 3, 9, 24, 3] }, type := 24, pos := "ref.go:328", after := #[{ on := 6, ground := Ground.data }, { on := 7, ground := Ground.data }, { on := 8, ground := Ground.data }, { on := 9, ground := Ground.data }, { on := 11, ground := Ground.data }], guard := none }) rfl (by kernel_rfl) (fun K hK => ?_)
        go_simp
        go_at_call 15
        refine (HI.out _ ((Below.refl _ wr).drew)).mono ?_
        rintro e w2 ⟨A2, c2, rfl, b4, n3⟩
        have bw : Below wr.heap.size wr w2 := ((Below.refl _ wr).drew).trans b4
        have R2 := Lib.hid (HROW.out.kept bw)
        have N3 := Lib.hid n3
        have BW := Lib.hid bw
        have sz2 : wr.heap.size ≤ w2.heap.size := b4.size
        clear n3 b4 bw
        refine hK.out _ _ ⟨KP0.out _ (BW.out.mono (by omega)), fun _ => KP1.out _ (BW.out.mono (by omega))⟩ ?_
        clear hK K
        try simp only [Act.put, List.setIfInBounds_toArray, List.set_cons_zero, List.set_cons_succ]
        refine Held.step (i := 13) (o := { dst := some 60, op := Op.buildSlice 22 1 #[(0, Operand.tmp 59)], type := 22, pos := "ref.go:328", after := #[{ on := 12, ground := Ground.data }], guard := none }) rfl (by kernel_rfl) (fun K hK => ?_)
        go_simp
        refine hK.out _ _ ⟨KP0.out _ ((BW.out.mono (by omega)).alloc (by omega) _), fun _ => KP1.out _ ((BW.out.mono (by omega)).alloc (by omega) _)⟩ ?_
        clear hK K
        try simp only [Act.put, List.setIfInBounds_toArray, List.set_cons_zero, List.set_cons_succ]
        refine Held.step (i := 14) (o := { dst := some 61, op := Op.call { callee := Callee.builtin Builtin.append, args := #[Operand.tmp 48, Operand.tmp 60], argTypes := #[22, 22] }, type := 22, pos := "ref.go:328", after := #[{ on := 1, ground := Ground.data }, { on := 13, ground := Ground.data }, { on := 12, ground := Ground.chain }], guard := none }) rfl (by kernel_rfl) (fun K hK => ?_)
        refine step_append_lies _ (by rfl) _ _ _ (by rfl) (w.heap.size + 4) 24 i0 _ 4 56 Try.underlying22 hi0 hz0 hz1 hz2 rfl (by omega) v l.length (l.flatMap cells4) (by rfl) (R2.out.1.alloc _)
          ⟨w2.heap.size, 0, none⟩ 1 1 (cells4 (q, A2, c2)) (by rfl) (by rfl) (World.news_of_block (cs := #[.int .i64 q.kind, .string q.text, .slice A2 q.kids.length c2, .int .i64 q.place]) (t := 24) (fr := (0, 0)) (heap_alloc_new w2 _)) (by simp [cells4, Value.oneCell'])
          (by omega) (by rw [HLEN.out]; simp only [maxLen]; omega) (by rw [HLEN.out]; omega) (by simp; omega) (w2.heap.size + 1) (by simp) ?_
        intro gg cap w3 hown3 hgrow hat hlt
        have sz3 : w2.heap.size < w3.heap.size := (by have := hgrow.size; simp at this; omega)
        have bw3 : Below (w.heap.size + 1 + 1 + 1 + 1) wr w3 := ((BW.out.mono (by omega)).alloc (by omega) _).grown hgrow (by simp; omega) (fun j hj => by have := (HROW.out.1.lt j hj).1; omega)
        have BW3 := Lib.hid bw3
        clear bw3
        refine hK.out _ _ ⟨KP0.out _ (BW3.out.mono (by omega)), fun _ => KP1.out _ BW3.out⟩ ?_
        clear hK K
        try simp only [Act.put, List.setIfInBounds_toArray, List.set_cons_zero, List.set_cons_succ]
        refine Held.take (i := 15) (oi := { dst := some 62, op := Op.fieldAddr 24 (Operand.tmp 11) 2, type := 0, pos := "ref.go:328", after := #[{ on := 0, ground := Ground.phase }, { on := 1, ground := Ground.phase }, { on := 2, ground := Ground.phase }, { on := 3, ground := Ground.phase }, { on := 4, ground := Ground.phase }, { on := 5, ground := Ground.phase }, { on := 6, ground := Ground.phase }, { on := 7, ground := Ground.phase }, { on := 8, ground := Ground.phase }, { on := 9, ground := Ground.phase }, { on := 10, ground := Ground.phase }, { on := 11, ground := Ground.phase }, { on := 12, ground := Ground.phase }, { on := 13, ground := Ground.phase }, { on := 14, ground := Ground.phase }], guard := none }) (v := ?_) false [] rfl (by decide) (by kernel_rfl) (by kernel_rfl) (by kernel_rfl) (by kernel_rfl) (fun _ _ _ h => h) (Or.inl ⟨by rfl, ?_⟩) ?_
        rotate_left
        · rintro w ⟨hS0, hS1⟩
          clear hS1
          (try dsimp only at hS0)
          go_simp
          (try with_reducible rfl)
        try simp only [Act.put, List.setIfInBounds_toArray, List.set_cons_zero, List.set_cons_succ]
        refine Held.step (i := 16) (o := { dst := none, op := Op.store 22 (Operand.tmp 62) (Operand.tmp 61), type := 0, pos := "ref.go:328", after := #[{ on := 15, ground := Ground.data }, { on := 14, ground := Ground.data }, { on := 14, ground := Ground.chain }, { on := 0, ground := Ground.phase }, { on := 1, ground := Ground.phase }, { on := 2, ground := Ground.phase }, { on := 3, ground := Ground.phase }, { on := 4, ground := Ground.phase }, { on := 5, ground := Ground.phase }, { on := 6, ground := Ground.phase }, { on := 7, ground := Ground.phase }, { on := 8, ground := Ground.phase }, { on := 9, ground := Ground.phase }, { on := 10, ground := Ground.phase }, { on := 11, ground := Ground.phase }, { on := 12, ground := Ground.phase }, { on := 13, ground := Ground.phase }, { on := 14, ground := Ground.phase }], guard := none }) rfl (by kernel_rfl) (fun K hK => ?_)
        have f4 : w3.frozen? ⟨w.heap.size + 1 + 1 + 1, 2, none⟩ = false := ((BW3.out.frozen (p := ⟨w.heap.size + 1 + 1 + 1, 2, none⟩) (by simp)).trans f2)
        have e4 : w3.cell? ⟨w.heap.size + 1 + 1 + 1, 2, none⟩ = some v := KP1.out _ BW3.out
        go_simp
        refine hK.out _ _ ⟨KP0.out _ ((BW3.out.mono (by omega)).setCell (p := ⟨w.heap.size + 1 + 1 + 1, 2, none⟩) (by simp only; omega) _), fun h => absurd h (by decide)⟩ ?_
        clear hK K
        try simp only [Act.put, List.setIfInBounds_toArray, List.set_cons_zero, List.set_cons_succ]
        refine Held.done (by kernel_rfl) ?_ _
        go_wp2_with fail
        go_roundw
        case rel =>
          have row3 := (R2.out.kept ((Below.refl _ w2).alloc (Nat.le_refl _) (.cells #[.int .i64 q.kind, .string q.text, .slice A2 q.kids.length c2, .int .i64 q.place] 24))).snoc (x := (q, A2, c2)) (N3.out.below ((Below.refl _ w2).alloc (Nat.le_refl _) _)) hown3 hgrow (by
            rcases hat with h1 | h1
            · exact .inl (by rw [h1]; rfl)
            · exact .inr ⟨gg, rfl, by rw [h1]; simp⟩)
          have hbw := HBW.out
          have hbs := hbw.size
          have b9 : Below w.heap.size w w3 := hbw.trans (BW3.out.mono (by omega))
          have m1 := (HWA.out.below BW3.out (by omega)).far (p := ⟨w.heap.size + 1 + 1 + 1, 2, none⟩) (by simp only; omega) (.slice (some ⟨gg, 0, none⟩) (l.length + 1) cap)
          have m2 := (HWB.out.below BW3.out (by omega)).far (p := ⟨w.heap.size + 1 + 1 + 1, 2, none⟩) (by simp only; omega) (.slice (some ⟨gg, 0, none⟩) (l.length + 1) cap)
          have m3 := (HWC.out.below BW3.out (by omega)).far (p := ⟨w.heap.size + 1 + 1 + 1, 2, none⟩) (by simp only; omega) (.slice (some ⟨gg, 0, none⟩) (l.length + 1) cap)
          have m4 := (HWD.out.below BW3.out (by omega)).put 2 (.slice (some ⟨gg, 0, none⟩) (l.length + 1) cap)
          have hdone : RswRel w S fb (swapAt kind text b) f left n b (some ⟨bk, off, none⟩) Ab c cb (.int .i64 ((p : Int) + 1)) (w3.setCell ⟨w.heap.size + 1 + 1 + 1, 2, none⟩ (.slice (some ⟨gg, 0, none⟩) (l.length + 1) cap)) := by
            refine ⟨p + 1, .slice (some ⟨gg, 0, none⟩) (l.length + 1) cap, l ++ [(q, A2, c2)], by omega, rfl, ?_, b9.setCell (p := ⟨w.heap.size + 1 + 1 + 1, 2, none⟩) (by simp only; omega) _, m1, m2, m3, m4, row3.far _ _ (by simp only; omega) (fun d x hs => ?_)⟩
            · rw [take_snoc HK.out, List.map_append, List.map_append, HL1.out, HQ.out]; rfl
            · simp only
              rcases hs with ⟨_, hs⟩ | hs <;> omega
          first | exact hdone | ((repeat apply Exists.intro); exact ⟨hdone, rfl⟩)
        case measure => simp [intOf]; omega
      · have hpe : p = n.kids.length := by omega
        subst hpe
        rw [List.take_length] at hl1
        have hm9 := HM.out
        have ek : m.kids.length = n.kids.length := by rw [hm9]; simp [Nd.kids]
        have ek1 : m.kind = n.kind := by rw [hm9]; rfl
        have ek2 : m.text = n.text := by rw [hm9]; rfl
        have ek3 : m.place = n.place := by rw [hm9]; rfl
        obtain ⟨A9, c9, rfl, hN⟩ := hrow.kids m (by rw [hl1, hm9]; rfl) (by rw [ek]; exact hm) 0 (fun b hb => .inr hb) rfl
        rw [← ek1, ← ek2, ← ek3] at hw4
        clear ek1 ek2 ek3 hm9 ek
        have HN := Lib.hid hN
        have HBW := Lib.hid hb
        have HW3 := Lib.hid hw3
        have c10 : wr.cell? ⟨w.heap.size + 1 + 1 + 1, 0, none⟩ = some (.int .i64 m.kind) := hw4.cell 0
        have c11 : wr.cell? ⟨w.heap.size + 1 + 1 + 1, 1, none⟩ = some (.string m.text) := hw4.cell 1
        have c12 : wr.cell? ⟨w.heap.size + 1 + 1 + 1, 2, none⟩ = some (.slice A9 m.kids.length c9) := hw4.cell 2
        have c13 : wr.cell? ⟨w.heap.size + 1 + 1 + 1, 3, none⟩ = some (.int .i64 m.place) := hw4.cell 3
        have q3 := hw3.lt
        have c20 : wr.cell? ⟨w.heap.size + 1 + 1, 0, none⟩ = some (.int .i64 0) := hw3.cell 0
        have c21 : wr.cell? ⟨w.heap.size + 1 + 1, 1, none⟩ = some (.string ⟨#[]⟩) := hw3.cell 1
        have c22 : wr.cell? ⟨w.heap.size + 1 + 1, 2, none⟩ = some (.slice none 0 0) := hw3.cell 2
        have c23 : wr.cell? ⟨w.heap.size + 1 + 1, 3, none⟩ = some (.int .i64 0) := hw3.cell 3
        have f20 : wr.frozen? ⟨w.heap.size + 1 + 1, 0, none⟩ = false := hw3.free 0
        have f21 : wr.frozen? ⟨w.heap.size + 1 + 1, 1, none⟩ = false := hw3.free 1
        have f22 : wr.frozen? ⟨w.heap.size + 1 + 1, 2, none⟩ = false := hw3.free 2
        have f23 : wr.frozen? ⟨w.heap.size + 1 + 1, 3, none⟩ = false := hw3.free 3
        clear hN hb hw1 hw2 hw3 hw4 hrow hl1 e2 b0 b1 b2 b3 f2
        go_wp2_with fail
        have y := (((HW3.out.put 0 (.int .i64 m.kind)).put 1 (.string m.text)).put 2 (.slice A9 m.kids.length c9)).put 3 (.int .i64 m.place)
        have hfar := fun {w1 : World} (h : NdP (fun _ x => (S x ∧ x < w.heap.size) ∨ w.heap.size + 4 ≤ x) w1 0 (f + fb + 1) (m.val A9 c9) m) (o : Nat) (u : Value) => h.far ⟨w.heap.size + 1 + 1, o, none⟩ u (by
          intro d x hs
          rcases hs with ⟨_, hs⟩ | hs <;> (simp only; omega))
        have y1 := hfar (hfar (hfar (hfar HN.out 0 (.int .i64 m.kind)) 1 (.string m.text)) 2 (.slice A9 m.kids.length c9)) 3 (.int .i64 m.place)
        have y2 := (((HBW.out.setCell (p := ⟨w.heap.size + 1 + 1, 0, none⟩) (by simp only; omega) (.int .i64 m.kind)).setCell (p := ⟨w.heap.size + 1 + 1, 1, none⟩) (by simp only; omega) (.string m.text)).setCell (p := ⟨w.heap.size + 1 + 1, 2, none⟩) (by simp only; omega) (.slice A9 m.kids.length c9)).setCell (p := ⟨w.heap.size + 1 + 1, 3, none⟩) (by simp only; omega) (.int .i64 m.place)
        generalize ((((wr.setCell ⟨w.heap.size + 1 + 1, 0, none⟩ (.int .i64 m.kind)).setCell ⟨w.heap.size + 1 + 1, 1, none⟩ (.string m.text)).setCell ⟨w.heap.size + 1 + 1, 2, none⟩ (.slice A9 m.kids.length c9)).setCell ⟨w.heap.size + 1 + 1, 3, none⟩ (.int .i64 m.place)) = W9 at y y1 y2 ⊢
        have r0 : W9.cell? ⟨w.heap.size + 1 + 1, 0, none⟩ = some (.int .i64 m.kind) := y.cell 0
        have r1 : W9.cell? ⟨w.heap.size + 1 + 1, 1, none⟩ = some (.string m.text) := y.cell 1
        have r2 : W9.cell? ⟨w.heap.size + 1 + 1, 2, none⟩ = some (.slice A9 m.kids.length c9) := y.cell 2
        have r3 : W9.cell? ⟨w.heap.size + 1 + 1, 3, none⟩ = some (.int .i64 m.place) := y.cell 3
        refine bodyPost_ret (v := .agg #[.int .i64 m.kind, .string m.text, .slice A9 m.kids.length c9, .int .i64 m.place]) (by simp [results, Try.results15, go_sem, r0, r1, r2, r3]) rfl ⟨A9, c9, rfl, (y1.weak ?_).le (by omega), y2⟩
        intro d x hs
        rcases hs with ⟨h1, _⟩ | hs
        · exact .inl h1
        · exact .inr (by omega)

theorem rsw_c (fb : Nat) (kind : Int) (text : ByteArray) (vb : Value) (b : Nd) : ∀ left, left ≤ 100 → RswC fb kind text vb b left
  | 0, _ => rsw_zero fb kind text vb b
  | left + 1, h => by
    intro S f v n w hS hz hv hvb
    cases f with
    | zero => exact hv.elim
    | succ f =>
    cases hq : (n.kind == kind && (n.text.toList == text.toList && ((n.kids.length : Int) == 0))) with
    | true =>
      have e : swN (swapAt kind text b) (left + 1) n = b := by simp only [swN, swapAt]; rw [hq]; rfl
      rw [e]
      simp only [Bool.and_eq_true] at hq
      exact rsw_hit fb kind text vb b left S (f + 1) v n w hv hvb hq.1 hq.2.1 hq.2.2 (by omega)
    | false =>
      have e : swN (swapAt kind text b) (left + 1) n = Nd.mk n.kind n.text (n.kids.map (swN (swapAt kind text b) left)) n.place := by simp only [swN, swapAt]; rw [hq]; rfl
      refine rsw_miss fb kind text vb b left (rsw_c fb kind text vb b left (by omega)) S f v n w hS hz hv hvb ?_ (by omega) _ e
      cases e1 : (n.kind == kind) with
      | false => exact .inl rfl
      | true =>
        rw [e1] at hq
        cases e2 : (n.text.toList == text.toList) with
        | false => exact .inr (.inl ⟨rfl, rfl⟩)
        | true =>
          rw [e2] at hq
          exact .inr (.inr ⟨rfl, rfl, by simpa using hq⟩)

end Go.Proofs.Ytkmhijkpbmcgbaa
