/-
  The program's named, unary, and Plain at one digit: walks.
-/
import Derived.Test.YtkmhijkpbmcgbaaGreatOf
namespace Go.Proofs.YtkmhijkpbmcgbaaGreat
set_option linter.all false
open Go.RowKit Go.Shelf

/-- A function value's answer on one string. -/
def AnsS (w : World) (g : Nat) (cb : Array Value) (s : ByteArray) (r : Bool) : Prop :=
  (∀ args w, (callFunc g args).run Tryz.prog w = .ok (.enter g args) w) ∧ ∀ W, Below w.heap.size w W → Calls Tryz.prog g (#[.string s] ++ cb) W fun e W' => e = .returned (.bool r) ∧ Below W.heap.size W W'

def namedN (n : Nd) (r : Bool) : Nd := if r then .mk n.kind ⟨#[]⟩ n.kids n.place else .mk 37 ⟨#[]⟩ [] 0

set_option maxRecDepth 100000 in
set_option maxHeartbeats 1000000 in
theorem named_c (f g : Nat) (cb : Array Value) (v : Value) (n : Nd) (r : Bool) (w : World) (hs : AnsS w g cb n.text r) (hv : NdV w (f + 1) v n) :
    Calls Tryz.prog 60 #[v, .func (.func g) #[] cb] w fun e w' => ∃ A c, e = .returned (.agg #[.int .i64 (namedN n r).kind, .string (namedN n r).text, .slice A (namedN n r).kids.length c, .int .i64 (namedN n r).place]) ∧ NdV w' (f + 1) ((namedN n r).val A c) (namedN n r) ∧ Below w.heap.size w w' := by
  obtain ⟨A, c, rfl, ⟨hm, hcap⟩, hc⟩ := hv
  have hb : Below w.heap.size w ((w.alloc (.cells #[.int .i64 n.kind, .string n.text, .slice A n.kids.length c, .int .i64 n.place] 24)).alloc (.cells #[.int .i64 0, .string ⟨#[]⟩, .slice none 0 0, .int .i64 0] 24)) := ((Below.refl _ w).alloc (Nat.le_refl _) _).alloc (by simp) _
  have w1 := ((Whole.new w 24 #[.int .i64 n.kind, .string n.text, .slice A n.kids.length c, .int .i64 n.place]).alloc (.cells #[.int .i64 0, .string ⟨#[]⟩, .slice none 0 0, .int .i64 0] 24))
  have w2 : Whole ((w.alloc (.cells #[.int .i64 n.kind, .string n.text, .slice A n.kids.length c, .int .i64 n.place] 24)).alloc (.cells #[.int .i64 0, .string ⟨#[]⟩, .slice none 0 0, .int .i64 0] 24)) (w.heap.size + 1) 24 #[.int .i64 0, .string ⟨#[]⟩, .slice none 0 0, .int .i64 0] := by
    have := Whole.new (w.alloc (.cells #[.int .i64 n.kind, .string n.text, .slice A n.kids.length c, .int .i64 n.place] 24)) 24 #[.int .i64 0, .string ⟨#[]⟩, .slice none 0 0, .int .i64 0]
    simpa using this
  have eg := hs.1
  have hcall := hs.2 _ hb
  have HCALL := Lib.hid hcall
  have HB := Lib.hid hb
  have HC := Lib.hid hc
  have HW1 := Lib.hid w1
  have HW2 := Lib.hid w2
  clear hcall hb hc hs w1 w2
  unfold Nd.val
  go_enter Tryz.func60, Tryz.ntmps60
  go_wp2_with fail
  refine HCALL.out.mono ?_
  rintro e W1 ⟨rfl, b1⟩
  have B1 := Lib.hid (HB.out.trans (b1.mono HB.out.size))
  have v1 := HW1.out.below b1 (by simp; omega)
  have v2 := HW2.out.below b1 (by simp)
  have q1 := v1.lt
  have q2 := v2.lt
  have c10 : W1.cell? ⟨w.heap.size, 0, none⟩ = some (.int .i64 n.kind) := v1.cell 0
  have c11 : W1.cell? ⟨w.heap.size, 1, none⟩ = some (.string n.text) := v1.cell 1
  have c12 : W1.cell? ⟨w.heap.size, 2, none⟩ = some (.slice A n.kids.length c) := v1.cell 2
  have c13 : W1.cell? ⟨w.heap.size, 3, none⟩ = some (.int .i64 n.place) := v1.cell 3
  have f11 : W1.frozen? ⟨w.heap.size, 1, none⟩ = false := v1.free 1
  have c20 : W1.cell? ⟨w.heap.size + 1, 0, none⟩ = some (.int .i64 0) := v2.cell 0
  have c21 : W1.cell? ⟨w.heap.size + 1, 1, none⟩ = some (.string ⟨#[]⟩) := v2.cell 1
  have c22 : W1.cell? ⟨w.heap.size + 1, 2, none⟩ = some (.slice none 0 0) := v2.cell 2
  have c23 : W1.cell? ⟨w.heap.size + 1, 3, none⟩ = some (.int .i64 0) := v2.cell 3
  have f20 : W1.frozen? ⟨w.heap.size + 1, 0, none⟩ = false := v2.free 0
  have f21 : W1.frozen? ⟨w.heap.size + 1, 1, none⟩ = false := v2.free 1
  have f22 : W1.frozen? ⟨w.heap.size + 1, 2, none⟩ = false := v2.free 2
  have f23 : W1.frozen? ⟨w.heap.size + 1, 3, none⟩ = false := v2.free 3
  have V1 := Lib.hid v1
  have V2 := Lib.hid v2
  clear b1 v1 v2 HB HW1 HW2 HCALL
  cases r with
  | false =>
    go_wp2_with fail
    have y := (((V2.out.put 0 (.int .i64 37)).put 1 (.string ⟨#[]⟩)).put 2 (.slice none 0 0)).put 3 (.int .i64 0)
    have y2 := (((B1.out.setCell (p := ⟨w.heap.size + 1, 0, none⟩) (by simp) (.int .i64 37)).setCell (p := ⟨w.heap.size + 1, 1, none⟩) (by simp) (.string ⟨#[]⟩)).setCell (p := ⟨w.heap.size + 1, 2, none⟩) (by simp) (.slice none 0 0)).setCell (p := ⟨w.heap.size + 1, 3, none⟩) (by simp) (.int .i64 0)
    generalize ((((W1.setCell ⟨w.heap.size + 1, 0, none⟩ (.int .i64 37)).setCell ⟨w.heap.size + 1, 1, none⟩ (.string ⟨#[]⟩)).setCell ⟨w.heap.size + 1, 2, none⟩ (.slice none 0 0)).setCell ⟨w.heap.size + 1, 3, none⟩ (.int .i64 0)) = W9 at y y2 ⊢
    have r0 : W9.cell? ⟨w.heap.size + 1, 0, none⟩ = some (.int .i64 37) := y.cell 0
    have r1 : W9.cell? ⟨w.heap.size + 1, 1, none⟩ = some (.string ⟨#[]⟩) := y.cell 1
    have r2 : W9.cell? ⟨w.heap.size + 1, 2, none⟩ = some (.slice none 0 0) := y.cell 2
    have r3 : W9.cell? ⟨w.heap.size + 1, 3, none⟩ = some (.int .i64 0) := y.cell 3
    refine bodyPost_ret (v := .agg #[.int .i64 37, .string ⟨#[]⟩, .slice none 0 0, .int .i64 0]) (by simp [results, Tryz.results60, go_sem, r0, r1, r2, r3]) rfl ⟨none, 0, rfl, ⟨none, 0, rfl, ⟨Nat.zero_le _, Nat.zero_le _⟩, fun h => absurd h (by simp [namedN, Nd.kids])⟩, y2⟩
  | true =>
    go_wp2_with fail
    have y := ((((V2.out.far (p := ⟨w.heap.size, 1, none⟩) (by simp) (.string ⟨#[]⟩)).put 0 (.int .i64 n.kind)).put 1 (.string ⟨#[]⟩)).put 2 (.slice A n.kids.length c)).put 3 (.int .i64 n.place)
    have y2 := ((((B1.out.setCell (p := ⟨w.heap.size, 1, none⟩) (by simp) (.string ⟨#[]⟩)).setCell (p := ⟨w.heap.size + 1, 0, none⟩) (by simp) (.int .i64 n.kind)).setCell (p := ⟨w.heap.size + 1, 1, none⟩) (by simp) (.string ⟨#[]⟩)).setCell (p := ⟨w.heap.size + 1, 2, none⟩) (by simp) (.slice A n.kids.length c)).setCell (p := ⟨w.heap.size + 1, 3, none⟩) (by simp) (.int .i64 n.place)
    generalize (((((W1.setCell ⟨w.heap.size, 1, none⟩ (.string ⟨#[]⟩)).setCell ⟨w.heap.size + 1, 0, none⟩ (.int .i64 n.kind)).setCell ⟨w.heap.size + 1, 1, none⟩ (.string ⟨#[]⟩)).setCell ⟨w.heap.size + 1, 2, none⟩ (.slice A n.kids.length c)).setCell ⟨w.heap.size + 1, 3, none⟩ (.int .i64 n.place)) = W9 at y y2 ⊢
    have r0 : W9.cell? ⟨w.heap.size + 1, 0, none⟩ = some (.int .i64 n.kind) := y.cell 0
    have r1 : W9.cell? ⟨w.heap.size + 1, 1, none⟩ = some (.string ⟨#[]⟩) := y.cell 1
    have r2 : W9.cell? ⟨w.heap.size + 1, 2, none⟩ = some (.slice A n.kids.length c) := y.cell 2
    have r3 : W9.cell? ⟨w.heap.size + 1, 3, none⟩ = some (.int .i64 n.place) := y.cell 3
    refine bodyPost_ret (v := .agg #[.int .i64 n.kind, .string ⟨#[]⟩, .slice A n.kids.length c, .int .i64 n.place]) (by simp [results, Tryz.results60, go_sem, r0, r1, r2, r3]) rfl ⟨A, c, rfl, ⟨A, c, rfl, ⟨hm, hcap⟩, fun h0 => ?_⟩, y2⟩
    obtain ⟨b, off, hA, hi⟩ := HC.out h0
    refine ⟨b, off, hA, fun i k hik => ?_⟩
    obtain ⟨A', c', h1, h2, h3, h4, h5⟩ := hi i k hik
    exact ⟨A', c', (y2.cell (cell_lt h1)).trans h1, (y2.cell (cell_lt h2)).trans h2, (y2.cell (cell_lt h3)).trans h3, (y2.cell (cell_lt h4)).trans h4, h5.below y2⟩

set_option maxRecDepth 100000 in
set_option maxHeartbeats 1000000 in
/-- unary, at '-'. -/
theorem unary_minus (w : World) : AnsS w 71 #[] ⟨#[45]⟩ true := by
  refine ⟨enters_of Tryz.func71 (by kernel_rfl) rfl, fun W hW => ?_⟩
  have h : Calls Tryz.prog 71 #[.string ⟨#[45]⟩] W fun e W' => e = .returned (.bool true) ∧ Below W.heap.size W W' := by
    go_enter Tryz.func71, Tryz.ntmps71
    go_wp2_with fail
    go_ret
    exact ⟨rfl, Below.refl _ _⟩
  exact h

def OneRel (W wr : World) : Prop := ∃ pos : Nat, pos ≤ 1 ∧ wr.heap[W.heap.size]? = some (.stringIter ⟨#[49]⟩ pos) ∧ Below W.heap.size W wr

set_option maxRecDepth 100000 in
set_option maxHeartbeats 1000000 in
/-- lit.Plain, at '1'. -/
theorem plain_one (w : World) : AnsS w 69 #[] ⟨#[49]⟩ true := by
  refine ⟨enters_of Tryz.func69 (by kernel_rfl) rfl, fun W hW => ?_⟩
  have h : Calls Tryz.prog 69 #[.string ⟨#[49]⟩] W fun e W' => e = .returned (.bool true) ∧ Below W.heap.size W W' := by
    go_enter Tryz.func69, Tryz.ntmps69
    go_wp2_with fail
    go_loopw [] (fun wr => OneRel W wr) (fun wr => 1 - wr.iterPos W.heap.size)
    case atStart => exact ⟨0, by omega, World.iter_heap W _ 0, (Below.refl _ W).alloc (Nat.le_refl _) _⟩
    case round =>
      obtain ⟨pos, hpos, hit, hbel⟩ := hrel
      have hsz : W.heap.size < wr.heap.size := (Array.getElem?_eq_some_iff.1 hit).1
      have hip : wr.iterPos W.heap.size = pos := by simp [World.iterPos, hit]
      by_cases hp : pos = 0
      · subst hp
        have hnx : ∀ ty, (Instr.next (.pointer (some ⟨W.heap.size, 0, none⟩)) true ty).run Tryz.prog wr = .ok (.tuple #[.bool true, .int .i64 0, .int .i32 49]) (wr.iterAt W.heap.size ⟨#[49]⟩ 1) := fun ty =>
          Lib.run_next_ascii_at wr W.heap.size ⟨#[49]⟩ 0 ty hit (by decide) (by decide)
        have hit1 := Lib.iterAt_heap wr W.heap.size ⟨#[49]⟩ 0 1 hit
        have hb1 := Lib.below_iterAt hbel (Nat.le_refl W.heap.size) ⟨#[49]⟩ 1
        have hip1 : (wr.iterAt W.heap.size ⟨#[49]⟩ 1).iterPos W.heap.size = 1 := by simp [World.iterPos, hit1]
        obtain ⟨W1, hW1⟩ : ∃ W1, W1 = wr.iterAt W.heap.size ⟨#[49]⟩ 1 := ⟨_, rfl⟩
        rw [← hW1] at hnx hit1 hb1 hip1
        have HB1 := Lib.hid hb1
        have HIT := Lib.hid hit1
        have HIP := Lib.hid hip1
        have HIQ := Lib.hid hip
        clear hit hbel hW1 hb1 hit1 hip1 hip
        go_wp2_with fail
        go_roundw
        case rel =>
          have hd : OneRel W W1 := ⟨1, by omega, HIT.out, HB1.out⟩
          first | exact hd | ((repeat apply Exists.intro); exact ⟨hd, rfl⟩)
        case measure => rw [HIP.out, HIQ.out]; omega
      · obtain rfl : pos = 1 := by omega
        have hnx : ∀ ty, (Instr.next (.pointer (some ⟨W.heap.size, 0, none⟩)) true ty).run Tryz.prog wr = .ok (.tuple #[.bool false]) wr := fun ty =>
          Lib.run_next_end_at wr W.heap.size ⟨#[49]⟩ 1 ty hit (by decide)
        have HB1 := Lib.hid hbel
        clear hit hbel hip
        go_wp2_with fail
        go_ret
        exact ⟨rfl, HB1.out⟩
  exact h

end Go.Proofs.YtkmhijkpbmcgbaaGreat
