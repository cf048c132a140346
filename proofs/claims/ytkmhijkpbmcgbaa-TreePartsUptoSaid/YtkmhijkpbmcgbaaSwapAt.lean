/-
  The program's Swap: its walk.
-/
import Derived.Test.YtkmhijkpbmcgbaaSwap
import Derived.Shelf.Abstract
namespace Go.Proofs.Ytkmhijkpbmcgbaa
set_option linter.all false
open Go.RowKit

theorem sw_c (w0 : World) (S : Nat → Prop) (hS0 : ∀ b, S b → b < w0.heap.size) (fb g : Nat) (cb : Array Value) (at_ : Nd → Option Nd) (hat : TellsAt w0 S fb g cb at_) : ∀ left, left ≤ 100 → SwC w0 S fb g cb at_ left
  | 0, _ => sw_zero w0 S fb g cb at_
  | left + 1, h => sw_succ w0 S hS0 fb g cb at_ hat left h (sw_c w0 S hS0 fb g cb at_ hat left (by omega))

theorem cell_far {w : World} {p q : Addr} {u v : Value} (h : w.cell? q = some v) (hne : q.block ≠ p.block) : (w.setCell p u).cell? q = some v := by
  have hg : w.grownBy (w.setCell p u) (some p.block) := ⟨rfl, rfl, rfl, by simp [World.setCell], fun i hi hn => Below.heap_setCell w p u i (fun e => hn (by rw [e]))⟩
  exact hg.cell h (by simpa using hne)
theorem far4 {w : World} {g b o : Nat} {u0 u1 u2 u3 v : Value} (h : w.cell? ⟨b, o, none⟩ = some v) (hne : b ≠ g) : ((((w.setCell ⟨g, 0, none⟩ u0).setCell ⟨g, 1, none⟩ u1).setCell ⟨g, 2, none⟩ u2).setCell ⟨g, 3, none⟩ u3).cell? ⟨b, o, none⟩ = some v :=
  cell_far (cell_far (cell_far (cell_far h hne) hne) hne) hne

/-- What Swap asks of a node. -/
def swapAt (kind : Int) (text : ByteArray) (b : Nd) (x : Nd) : Option Nd := if (x.kind == kind && (x.text.toList == text.toList && ((x.kids.length : Int) == 0))) = true then some b else none

set_option maxRecDepth 100000 in
set_option maxHeartbeats 1000000 in
theorem swap1_c (S : Nat → Prop) (fb : Nat) (kind : Int) (text : ByteArray) (b : Nd) (Ab : Option Addr) (cb : Nat) (Bb Bk Bt : Nat) (W : World) (f : Nat) (v : Value) (n : Nd) (hz : sizeN 101 b ≤ 1048576) (hSL : ∀ x, S x → x < W.heap.size)
    (hk : Whole W Bk 3 #[.int .i64 kind]) (ht : Whole W Bt 9 #[.string text]) (hb : Whole W Bb 24 #[.int .i64 b.kind, .string b.text, .slice Ab b.kids.length cb, .int .i64 b.place]) (hbn : NdP (fun _ => S) W 0 fb (b.val Ab cb) b) (hv : NdV W f v n) :
    Calls Try.prog 24 #[v, .pointer (some ⟨Bb, 0, none⟩), .pointer (some ⟨Bk, 0, none⟩), .pointer (some ⟨Bt, 0, none⟩)] W fun e w' => Below W.heap.size W w' ∧ ∃ (A : Option Addr) (c : Nat), e = .returned (.tuple #[b.val A c, .bool (n.kind == kind && (n.text.toList == text.toList && ((n.kids.length : Int) == 0)))]) ∧
      NdP (fun _ x => S x ∨ W.heap.size ≤ x) w' 0 fb (b.val A c) b := by
  obtain ⟨A, c, rfl, hm⟩ := hv.val
  have q1 : W.cell? ⟨Bk, 0, none⟩ = some (.int .i64 kind) := hk.cell 0
  have q2 : W.cell? ⟨Bt, 0, none⟩ = some (.string text) := ht.cell 0
  have r0 : W.cell? ⟨Bb, 0, none⟩ = some (.int .i64 b.kind) := hb.cell 0
  have r1 : W.cell? ⟨Bb, 1, none⟩ = some (.string b.text) := hb.cell 1
  have r2 : W.cell? ⟨Bb, 2, none⟩ = some (.slice Ab b.kids.length cb) := hb.cell 2
  have r3 : W.cell? ⟨Bb, 3, none⟩ = some (.int .i64 b.place) := hb.cell 3
  have l1 : Bk < W.heap.size := hk.lt
  have l2 : Bt < W.heap.size := ht.lt
  have l3 : Bb < W.heap.size := hb.lt
  have hc := fun W' (hW : Below W.heap.size W W') => copy_any S fb _ b W' hz (hbn.below hW)
  have HC := Lib.hid hc
  have hx : ∀ o1 o2, Below W.heap.size W ((W.alloc o1).alloc o2) := fun o1 o2 => ((Below.refl _ W).alloc (Nat.le_refl _) _).alloc (by simp) _
  have HX := Lib.hid hx
  have HSL := Lib.hid hSL
  clear hv hc hbn hk ht hb hx hSL
  unfold Nd.val at HC ⊢
  have w1 : Whole ((W.alloc (.cells #[.int .i64 n.kind, .string n.text, .slice A n.kids.length c, .int .i64 n.place] 24)).alloc (.cells #[.int .i64 0, .string ⟨#[]⟩, .slice none 0 0, .int .i64 0] 24)) W.heap.size 24 #[.int .i64 n.kind, .string n.text, .slice A n.kids.length c, .int .i64 n.place] := (Whole.new W 24 #[.int .i64 n.kind, .string n.text, .slice A n.kids.length c, .int .i64 n.place]).alloc _
  have w2 : Whole ((W.alloc (.cells #[.int .i64 n.kind, .string n.text, .slice A n.kids.length c, .int .i64 n.place] 24)).alloc (.cells #[.int .i64 0, .string ⟨#[]⟩, .slice none 0 0, .int .i64 0] 24)) (W.heap.size + 1) 24 #[.int .i64 0, .string ⟨#[]⟩, .slice none 0 0, .int .i64 0] := by
    have := Whole.new (W.alloc (.cells #[.int .i64 n.kind, .string n.text, .slice A n.kids.length c, .int .i64 n.place] 24)) 24 #[.int .i64 0, .string ⟨#[]⟩, .slice none 0 0, .int .i64 0]
    simpa using this
  have HW1 := Lib.hid w1
  have HW2 := Lib.hid w2
  clear w1 w2
  obtain ⟨W3, hW3⟩ : ∃ W3, W3 = ((W.alloc (.cells #[.int .i64 n.kind, .string n.text, .slice A n.kids.length c, .int .i64 n.place] 24)).alloc (.cells #[.int .i64 0, .string ⟨#[]⟩, .slice none 0 0, .int .i64 0] 24)) := ⟨_, rfl⟩
  have hx3 := HX.out (.cells #[.int .i64 n.kind, .string n.text, .slice A n.kids.length c, .int .i64 n.place] 24) (.cells #[.int .i64 0, .string ⟨#[]⟩, .slice none 0 0, .int .i64 0] 24)
  rw [← hW3] at HW1 HW2 hx3
  have s0 : W3.cell? ⟨W.heap.size, 0, none⟩ = some (.int .i64 n.kind) := HW1.out.cell 0
  have s1 : W3.cell? ⟨W.heap.size, 1, none⟩ = some (.string n.text) := HW1.out.cell 1
  have s2 : W3.cell? ⟨W.heap.size, 2, none⟩ = some (.slice A n.kids.length c) := HW1.out.cell 2
  have s3 : W3.cell? ⟨Bk, 0, none⟩ = some (.int .i64 kind) := (hx3.cell (p := ⟨Bk, 0, none⟩) l1).trans q1
  have s4 : W3.cell? ⟨Bt, 0, none⟩ = some (.string text) := (hx3.cell (p := ⟨Bt, 0, none⟩) l2).trans q2
  have s5 : W3.cell? ⟨Bb, 0, none⟩ = some (.int .i64 b.kind) := (hx3.cell (p := ⟨Bb, 0, none⟩) l3).trans r0
  have s6 : W3.cell? ⟨Bb, 1, none⟩ = some (.string b.text) := (hx3.cell (p := ⟨Bb, 1, none⟩) l3).trans r1
  have s7 : W3.cell? ⟨Bb, 2, none⟩ = some (.slice Ab b.kids.length cb) := (hx3.cell (p := ⟨Bb, 2, none⟩) l3).trans r2
  have s8 : W3.cell? ⟨Bb, 3, none⟩ = some (.int .i64 b.place) := (hx3.cell (p := ⟨Bb, 3, none⟩) l3).trans r3
  have f0 : W3.frozen? ⟨W.heap.size + 1, 0, none⟩ = false := HW2.out.free 0
  have f1 : W3.frozen? ⟨W.heap.size + 1, 1, none⟩ = false := HW2.out.free 1
  have f2 : W3.frozen? ⟨W.heap.size + 1, 2, none⟩ = false := HW2.out.free 2
  have f3 : W3.frozen? ⟨W.heap.size + 1, 3, none⟩ = false := HW2.out.free 3
  have HC2 := Lib.hid (fun W' (hW : Below W3.heap.size W3 W') => (HC.out W' (hx3.trans (hW.mono hx3.size))).mono (R' := fun e w' => ∃ (A8 : Option Addr) (c8 : Nat), e = .returned (.agg #[.int .i64 b.kind, .string b.text, .slice A8 b.kids.length c8, .int .i64 b.place]) ∧
      NdP (fun d b => (d = 0 ∧ S b) ∨ W'.heap.size ≤ b) w' 100 fb (b.val A8 c8) b ∧ Below W'.heap.size W' w' ∧ w'.cell? ⟨W.heap.size, 0, none⟩ = some (.int .i64 n.kind) ∧ w'.cell? ⟨W.heap.size, 1, none⟩ = some (.string n.text) ∧ w'.cell? ⟨W.heap.size, 2, none⟩ = some (.slice A n.kids.length c)
      ∧ w'.cell? ⟨Bk, 0, none⟩ = some (.int .i64 kind) ∧ w'.cell? ⟨Bt, 0, none⟩ = some (.string text) ∧ w'.cell? ⟨Bb, 0, none⟩ = some (.int .i64 b.kind) ∧ w'.cell? ⟨Bb, 1, none⟩ = some (.string b.text) ∧ w'.cell? ⟨Bb, 2, none⟩ = some (.slice Ab b.kids.length cb) ∧ w'.cell? ⟨Bb, 3, none⟩ = some (.int .i64 b.place)) (fun e w' h => by
    obtain ⟨A9, c9, h1, h2, h3⟩ := h
    have b9 := hW.trans (h3.mono hW.size)
    exact ⟨A9, c9, h1, h2, h3, (b9.cell (cell_lt s0)).trans s0, (b9.cell (cell_lt s1)).trans s1, (b9.cell (cell_lt s2)).trans s2, (b9.cell (cell_lt s3)).trans s3, (b9.cell (cell_lt s4)).trans s4, (b9.cell (cell_lt s5)).trans s5, (b9.cell (cell_lt s6)).trans s6, (b9.cell (cell_lt s7)).trans s7, (b9.cell (cell_lt s8)).trans s8⟩))
  have HX3 := Lib.hid hx3
  clear hx3 q1 q2 r0 r1 r2 r3 HC
  cases e1 : (n.kind == kind) with
  | false =>
    go_enter Try.func24, Try.ntmps24
    go_wp2_with fail
    rw [← hW3]
    clear hW3
    have b0 : Below W3.heap.size W3 W3.drew := (Below.refl _ W3).drew
    refine wp_region_held_drew (S := (fun w' => w'.cell? ⟨W.heap.size, 0, none⟩ = some (.int .i64 n.kind) ∧ w'.cell? ⟨W.heap.size, 1, none⟩ = some (.string n.text) ∧ w'.cell? ⟨W.heap.size, 2, none⟩ = some (.slice A n.kids.length c) ∧ w'.cell? ⟨Bk, 0, none⟩ = some (.int .i64 kind) ∧ w'.cell? ⟨Bt, 0, none⟩ = some (.string text) ∧ w'.cell? ⟨Bb, 0, none⟩ = some (.int .i64 b.kind) ∧ w'.cell? ⟨Bb, 1, none⟩ = some (.string b.text) ∧ w'.cell? ⟨Bb, 2, none⟩ = some (.slice Ab b.kids.length cb) ∧ w'.cell? ⟨Bb, 3, none⟩ = some (.int .i64 b.place))) (by kernel_rfl) ?_ (fun hHeld => ?_)
    · exact ⟨s0, s1, s2, s3, s4, s5, s6, s7, s8⟩
    refine wpAnyH_take (i := 0) (oi := { dst := some 7, op := Op.load 24 (Operand.tmp 1), type := 24, pos := "tree.go:327", after := #[], guard := none }) (v := ?v0) rfl (by kernel_rfl) (by kernel_rfl) (by kernel_rfl) (fun _ _ _ h => h) (Or.inl ⟨by rfl, ?hy0⟩) (by assumption) ?r0
    case hy0 =>
      intro w hSw
      (try dsimp only at hSw)
      go_simp
      (try with_reducible rfl)
    try simp only [Act.put, List.setIfInBounds_toArray, List.set_cons_zero, List.set_cons_succ]
    refine wpAnyH_take (i := 2) (oi := { dst := some 9, op := Op.fieldAddr 24 (Operand.tmp 4) 0, type := 0, pos := "tree.go:327", after := #[], guard := none }) (v := ?v1) rfl (by kernel_rfl) (by kernel_rfl) (by kernel_rfl) (fun _ _ _ h => h) (Or.inl ⟨by rfl, ?hy1⟩) (by assumption) ?r1
    case hy1 =>
      intro w hSw
      (try dsimp only at hSw)
      go_simp
      (try with_reducible rfl)
    try simp only [Act.put, List.setIfInBounds_toArray, List.set_cons_zero, List.set_cons_succ]
    refine wpAnyH_take (i := 3) (oi := { dst := some 10, op := Op.load 3 (Operand.tmp 9), type := 3, pos := "tree.go:327", after := #[{ on := 2, ground := Ground.data }], guard := none }) (v := ?v2) rfl (by kernel_rfl) (by kernel_rfl) (by kernel_rfl) (fun _ _ _ h => h) (Or.inl ⟨by rfl, ?hy2⟩) (by assumption) ?r2
    case hy2 =>
      intro w hSw
      (try dsimp only at hSw)
      go_simp
      (try with_reducible rfl)
    try simp only [Act.put, List.setIfInBounds_toArray, List.set_cons_zero, List.set_cons_succ]
    refine wpAnyH_take (i := 4) (oi := { dst := some 11, op := Op.load 3 (Operand.tmp 2), type := 3, pos := "tree.go:327", after := #[], guard := none }) (v := ?v3) rfl (by kernel_rfl) (by kernel_rfl) (by kernel_rfl) (fun _ _ _ h => h) (Or.inl ⟨by rfl, ?hy3⟩) (by assumption) ?r3
    case hy3 =>
      intro w hSw
      (try dsimp only at hSw)
      go_simp
      (try with_reducible rfl)
    try simp only [Act.put, List.setIfInBounds_toArray, List.set_cons_zero, List.set_cons_succ]
    refine wpAnyH_take (i := 5) (oi := { dst := some 12, op := Op.binOp BinOp.eql 3 (Operand.tmp 10) (Operand.tmp 11) 3, type := 4, pos := "tree.go:327", after := #[{ on := 3, ground := Ground.data }, { on := 4, ground := Ground.data }], guard := none }) (v := ?v4) rfl (by kernel_rfl) (by kernel_rfl) (by kernel_rfl) (fun _ _ _ h => h) (Or.inl ⟨by rfl, ?hy4⟩) (by assumption) ?r4
    case hy4 =>
      intro w hSw
      (try dsimp only at hSw)
      go_simp
      (try with_reducible rfl)
    try simp only [Act.put, List.setIfInBounds_toArray, List.set_cons_zero, List.set_cons_succ]
    refine wpAnyH_ready (rs := [1]) (by kernel_rfl) (by simp) (AllReadyH.cons (o := { dst := some 8, op := Op.call { callee := Callee.value (Operand.func 17), args := #[Operand.tmp 7], argTypes := #[24] }, type := 24, pos := "tree.go:327", after := #[{ on := 0, ground := Ground.data }], guard := none }) rfl (fun K hK => ?_) AllReadyH.nil)
    go_simp
    go_at_call 17
    refine (HC2.out _ b0).mono ?_
    rintro e w5 ⟨A5, c5, rfl, n5, b5, u0, u1, u2, u3, u4, u5, u6, u7, u8⟩
    have z2 := HW2.out.drew.below b5 (by have := HW2.out.lt; simpa using this)
    have f0 : w5.frozen? ⟨W.heap.size + 1, 0, none⟩ = false := z2.free 0
    have f1 : w5.frozen? ⟨W.heap.size + 1, 1, none⟩ = false := z2.free 1
    have f2 : w5.frozen? ⟨W.heap.size + 1, 2, none⟩ = false := z2.free 2
    have f3 : w5.frozen? ⟨W.heap.size + 1, 3, none⟩ = false := z2.free 3
    have g0 : w5.cell? ⟨W.heap.size + 1, 0, none⟩ = some (.int .i64 0) := z2.cell 0
    have g1 : w5.cell? ⟨W.heap.size + 1, 1, none⟩ = some (.string ⟨#[]⟩) := z2.cell 1
    have g2 : w5.cell? ⟨W.heap.size + 1, 2, none⟩ = some (.slice none 0 0) := z2.cell 2
    have g3 : w5.cell? ⟨W.heap.size + 1, 3, none⟩ = some (.int .i64 0) := z2.cell 3
    have qz := z2.lt
    have Z2 := Lib.hid z2
    have N5 := Lib.hid n5
    have B5 := Lib.hid b5
    clear z2 n5 b5
    refine hK.out _ _ ?_ (fun hHeld => ?_)
    · exact ⟨u0, u1, u2, u3, u4, u5, u6, u7, u8⟩
    clear hK K
    try simp only [Act.put, List.setIfInBounds_toArray, List.set_cons_zero, List.set_cons_succ]
    refine wpAnyH_take (i := 6) (oi := { dst := some 13, op := Op.move (Operand.tmp 12), type := 4, pos := "tree.go:327", after := #[{ on := 5, ground := Ground.data }, { on := 1, ground := Ground.chain }], guard := none }) (v := ?v5) rfl (by kernel_rfl) (by kernel_rfl) (by kernel_rfl) (fun _ _ _ h => h) (Or.inl ⟨by rfl, ?hy5⟩) (by assumption) ?r5
    case hy5 =>
      intro w hSw
      (try dsimp only at hSw)
      go_simp
      (try with_reducible rfl)
    try simp only [Act.put, List.setIfInBounds_toArray, List.set_cons_zero, List.set_cons_succ]
    refine wpAnyH_take (i := 7) (oi := { dst := some 14, op := Op.fieldAddr 24 (Operand.tmp 4) 1, type := 0, pos := "tree.go:327", after := #[{ on := 6, ground := Ground.guard }], guard := some (6, true) }) (v := undef) rfl (by kernel_rfl) (by kernel_rfl) (by kernel_rfl) (fun _ _ _ h => h) (Or.inr ⟨by rfl, rfl⟩) (by assumption) ?_
    try simp only [Act.put, List.setIfInBounds_toArray, List.set_cons_zero, List.set_cons_succ]
    refine wpAnyH_take (i := 8) (oi := { dst := some 15, op := Op.load 9 (Operand.tmp 14), type := 9, pos := "tree.go:327", after := #[{ on := 7, ground := Ground.data }, { on := 6, ground := Ground.guard }], guard := some (6, true) }) (v := undef) rfl (by kernel_rfl) (by kernel_rfl) (by kernel_rfl) (fun _ _ _ h => h) (Or.inr ⟨by rfl, rfl⟩) (by assumption) ?_
    try simp only [Act.put, List.setIfInBounds_toArray, List.set_cons_zero, List.set_cons_succ]
    refine wpAnyH_take (i := 9) (oi := { dst := some 16, op := Op.load 9 (Operand.tmp 3), type := 9, pos := "tree.go:327", after := #[{ on := 6, ground := Ground.guard }], guard := some (6, true) }) (v := undef) rfl (by kernel_rfl) (by kernel_rfl) (by kernel_rfl) (fun _ _ _ h => h) (Or.inr ⟨by rfl, rfl⟩) (by assumption) ?_
    try simp only [Act.put, List.setIfInBounds_toArray, List.set_cons_zero, List.set_cons_succ]
    refine wpAnyH_take (i := 10) (oi := { dst := some 17, op := Op.binOp BinOp.eql 9 (Operand.tmp 15) (Operand.tmp 16) 9, type := 4, pos := "tree.go:327", after := #[{ on := 8, ground := Ground.data }, { on := 9, ground := Ground.data }, { on := 6, ground := Ground.guard }], guard := some (6, true) }) (v := undef) rfl (by kernel_rfl) (by kernel_rfl) (by kernel_rfl) (fun _ _ _ h => h) (Or.inr ⟨by rfl, rfl⟩) (by assumption) ?_
    try simp only [Act.put, List.setIfInBounds_toArray, List.set_cons_zero, List.set_cons_succ]
    refine wpAnyH_take (i := 11) (oi := { dst := some 18, op := Op.pick (Operand.tmp 13) (Operand.tmp 17) (Operand.const (Value.bool false)), type := 4, pos := "tree.go:327", after := #[{ on := 6, ground := Ground.data }, { on := 10, ground := Ground.data }], guard := none }) (v := ?v6) rfl (by kernel_rfl) (by kernel_rfl) (by kernel_rfl) (fun _ _ _ h => h) (Or.inl ⟨by rfl, ?hy6⟩) (by assumption) ?r6
    case hy6 =>
      intro w hSw
      (try dsimp only at hSw)
      go_simp
      (try with_reducible rfl)
    try simp only [Act.put, List.setIfInBounds_toArray, List.set_cons_zero, List.set_cons_succ]
    refine wpAnyH_take (i := 12) (oi := { dst := some 19, op := Op.move (Operand.tmp 18), type := 4, pos := "tree.go:327", after := #[{ on := 11, ground := Ground.data }, { on := 6, ground := Ground.chain }], guard := none }) (v := ?v7) rfl (by kernel_rfl) (by kernel_rfl) (by kernel_rfl) (fun _ _ _ h => h) (Or.inl ⟨by rfl, ?hy7⟩) (by assumption) ?r7
    case hy7 =>
      intro w hSw
      (try dsimp only at hSw)
      go_simp
      (try with_reducible rfl)
    try simp only [Act.put, List.setIfInBounds_toArray, List.set_cons_zero, List.set_cons_succ]
    refine wpAnyH_take (i := 13) (oi := { dst := some 20, op := Op.fieldAddr 24 (Operand.tmp 4) 2, type := 0, pos := "tree.go:327", after := #[{ on := 12, ground := Ground.guard }], guard := some (12, true) }) (v := undef) rfl (by kernel_rfl) (by kernel_rfl) (by kernel_rfl) (fun _ _ _ h => h) (Or.inr ⟨by rfl, rfl⟩) (by assumption) ?_
    try simp only [Act.put, List.setIfInBounds_toArray, List.set_cons_zero, List.set_cons_succ]
    refine wpAnyH_take (i := 14) (oi := { dst := some 21, op := Op.load 22 (Operand.tmp 20), type := 22, pos := "tree.go:327", after := #[{ on := 13, ground := Ground.data }, { on := 12, ground := Ground.guard }], guard := some (12, true) }) (v := undef) rfl (by kernel_rfl) (by kernel_rfl) (by kernel_rfl) (fun _ _ _ h => h) (Or.inr ⟨by rfl, rfl⟩) (by assumption) ?_
    try simp only [Act.put, List.setIfInBounds_toArray, List.set_cons_zero, List.set_cons_succ]
    refine wpAnyH_take (i := 15) (oi := { dst := some 22, op := Op.call { callee := Callee.builtin Builtin.len, args := #[Operand.tmp 21], argTypes := #[22] }, type := 3, pos := "tree.go:327", after := #[{ on := 14, ground := Ground.data }, { on := 12, ground := Ground.guard }], guard := some (12, true) }) (v := undef) rfl (by kernel_rfl) (by kernel_rfl) (by kernel_rfl) (fun _ _ _ h => h) (Or.inr ⟨by rfl, rfl⟩) (by assumption) ?_
    try simp only [Act.put, List.setIfInBounds_toArray, List.set_cons_zero, List.set_cons_succ]
    refine wpAnyH_take (i := 16) (oi := { dst := some 23, op := Op.binOp BinOp.eql 3 (Operand.tmp 22) (Operand.const (Value.int IntKind.i64 0)) 3, type := 4, pos := "tree.go:327", after := #[{ on := 15, ground := Ground.data }, { on := 12, ground := Ground.guard }, { on := 18, ground := Ground.gcOnly Departure.lateStores }], guard := some (12, true) }) (v := undef) rfl (by kernel_rfl) (by kernel_rfl) (by kernel_rfl) (fun _ _ _ h => h) (Or.inr ⟨by rfl, rfl⟩) (by assumption) ?_
    try simp only [Act.put, List.setIfInBounds_toArray, List.set_cons_zero, List.set_cons_succ]
    refine wpAnyH_take (i := 17) (oi := { dst := some 24, op := Op.pick (Operand.tmp 19) (Operand.tmp 23) (Operand.const (Value.bool false)), type := 4, pos := "tree.go:327", after := #[{ on := 12, ground := Ground.data }, { on := 16, ground := Ground.data }, { on := 18, ground := Ground.gcOnly Departure.lateStores }], guard := none }) (v := ?v8) rfl (by kernel_rfl) (by kernel_rfl) (by kernel_rfl) (fun _ _ _ h => h) (Or.inl ⟨by rfl, ?hy8⟩) (by assumption) ?r8
    case hy8 =>
      intro w hSw
      (try dsimp only at hSw)
      go_simp
      (try with_reducible rfl)
    try simp only [Act.put, List.setIfInBounds_toArray, List.set_cons_zero, List.set_cons_succ]
    refine wpAnyH_ready (rs := [18]) (by kernel_rfl) (by simp) (AllReadyH.cons (o := { dst := none, op := Op.store 24 (Operand.tmp 5) (Operand.tmp 8), type := 0, pos := "tree.go:327", after := #[{ on := 1, ground := Ground.data }, { on := 12, ground := Ground.chain }, { on := 0, ground := Ground.phase }, { on := 1, ground := Ground.phase }, { on := 2, ground := Ground.textOnly Departure.lateStores }, { on := 3, ground := Ground.textOnly Departure.lateStores }, { on := 4, ground := Ground.textOnly Departure.lateStores }, { on := 5, ground := Ground.textOnly Departure.lateStores }, { on := 6, ground := Ground.textOnly Departure.lateStores }, { on := 7, ground := Ground.textOnly Departure.lateStores }, { on := 8, ground := Ground.textOnly Departure.lateStores }, { on := 9, ground := Ground.textOnly Departure.lateStores }, { on := 10, ground := Ground.textOnly Departure.lateStores }, { on := 11, ground := Ground.textOnly Departure.lateStores }, { on := 12, ground := Ground.textOnly Departure.lateStores }, { on := 13, ground := Ground.textOnly Departure.lateStores }, { on := 14, ground := Ground.textOnly Departure.lateStores }, { on := 15, ground := Ground.textOnly Departure.lateStoresUnsure }, { on := 16, ground := Ground.textOnly Departure.lateStores }, { on := 17, ground := Ground.textOnly Departure.lateStores }], guard := none }) rfl (fun K hK => ?_) AllReadyH.nil)
    go_simp
    refine hK.out _ _ ?_ (fun hHeld => ?_)
    · exact ⟨far4 u0 (by omega), far4 u1 (by omega), far4 u2 (by omega), far4 u3 (by omega), far4 u4 (by omega), far4 u5 (by omega), far4 u6 (by omega), far4 u7 (by omega), far4 u8 (by omega)⟩
    clear hK K
    try simp only [Act.put, List.setIfInBounds_toArray, List.set_cons_zero, List.set_cons_succ]
    refine wpAnyH_take (i := 19) (oi := { dst := some 6, op := Op.assign (Operand.tmp 24), type := 4, pos := "tree.go:327", after := #[{ on := 17, ground := Ground.data }, { on := 18, ground := Ground.chain }, { on := 0, ground := Ground.phase }, { on := 1, ground := Ground.phase }, { on := 2, ground := Ground.phase }, { on := 3, ground := Ground.phase }, { on := 4, ground := Ground.phase }, { on := 5, ground := Ground.phase }, { on := 6, ground := Ground.phase }, { on := 7, ground := Ground.phase }, { on := 8, ground := Ground.phase }, { on := 9, ground := Ground.phase }, { on := 10, ground := Ground.phase }, { on := 11, ground := Ground.phase }, { on := 12, ground := Ground.phase }, { on := 13, ground := Ground.phase }, { on := 14, ground := Ground.phase }, { on := 15, ground := Ground.phase }, { on := 16, ground := Ground.phase }, { on := 17, ground := Ground.phase }, { on := 18, ground := Ground.phase }], guard := none }) (v := ?v9) rfl (by kernel_rfl) (by kernel_rfl) (by kernel_rfl) (fun _ _ _ h => h) (Or.inl ⟨by rfl, ?hy9⟩) (by assumption) ?r9
    case hy9 =>
      intro w hSw
      (try dsimp only at hSw)
      go_simp
      (try with_reducible rfl)
    try simp only [Act.put, List.setIfInBounds_toArray, List.set_cons_zero, List.set_cons_succ]
    refine wpAnyH_done (by kernel_rfl) ?_ _
    go_wp2_with fail
    have y := (((Z2.out.put 0 (.int .i64 b.kind)).put 1 (.string b.text)).put 2 (.slice A5 b.kids.length c5)).put 3 (.int .i64 b.place)
    have hN := N5.out.weak (S' := fun _ x => (S x ∧ x < W.heap.size) ∨ W.heap.size + 2 ≤ x) (fun d x hs => by
      rcases hs with ⟨_, hs⟩ | hs
      · exact .inl ⟨hs, HSL.out x hs⟩
      · have := HW2.out.lt; simp at hs; exact .inr (by omega))
    have hfar := fun {w1 : World} (h : NdP (fun _ x => (S x ∧ x < W.heap.size) ∨ W.heap.size + 2 ≤ x) w1 100 fb (b.val A5 c5) b) (o : Nat) (u : Value) => h.far ⟨W.heap.size + 1, o, none⟩ u (by
      intro d x hs
      rcases hs with ⟨_, hs⟩ | hs <;> (simp only; omega))
    have y1 := hfar (hfar (hfar (hfar hN 0 (.int .i64 b.kind)) 1 (.string b.text)) 2 (.slice A5 b.kids.length c5)) 3 (.int .i64 b.place)
    have y0 := HX3.out.trans ((Below.refl _ W3).drew.trans B5.out |>.mono HX3.out.size)
    have y2 := (((y0.setCell (p := ⟨W.heap.size + 1, 0, none⟩) (by simp) (.int .i64 b.kind)).setCell (p := ⟨W.heap.size + 1, 1, none⟩) (by simp) (.string b.text)).setCell (p := ⟨W.heap.size + 1, 2, none⟩) (by simp) (.slice A5 b.kids.length c5)).setCell (p := ⟨W.heap.size + 1, 3, none⟩) (by simp) (.int .i64 b.place)
    generalize ((((w5.setCell ⟨W.heap.size + 1, 0, none⟩ (.int .i64 b.kind)).setCell ⟨W.heap.size + 1, 1, none⟩ (.string b.text)).setCell ⟨W.heap.size + 1, 2, none⟩ (.slice A5 b.kids.length c5)).setCell ⟨W.heap.size + 1, 3, none⟩ (.int .i64 b.place)) = W9 at y y1 y2 ⊢
    have r0 : W9.cell? ⟨W.heap.size + 1, 0, none⟩ = some (.int .i64 b.kind) := y.cell 0
    have r1 : W9.cell? ⟨W.heap.size + 1, 1, none⟩ = some (.string b.text) := y.cell 1
    have r2 : W9.cell? ⟨W.heap.size + 1, 2, none⟩ = some (.slice A5 b.kids.length c5) := y.cell 2
    have r3 : W9.cell? ⟨W.heap.size + 1, 3, none⟩ = some (.int .i64 b.place) := y.cell 3
    refine bodyPost_ret (v := .tuple #[.agg #[.int .i64 b.kind, .string b.text, .slice A5 b.kids.length c5, .int .i64 b.place], .bool false]) (by simp [results, Try.results24, go_sem, r0, r1, r2, r3]) rfl ⟨y2, A5, c5, rfl, (y1.weak (S' := fun _ x => S x ∨ W.heap.size ≤ x) ?_).anyd⟩
    intro d x hs
    rcases hs with ⟨h1, _⟩ | hs
    · exact .inl h1
    · exact .inr (by omega)
  | true =>
  cases e2 : (n.text.toList == text.toList) with
  | false =>
    go_enter Try.func24, Try.ntmps24
    go_wp2_with fail
    rw [← hW3]
    clear hW3
    have b0 : Below W3.heap.size W3 W3.drew := (Below.refl _ W3).drew
    refine wp_region_held_drew (S := (fun w' => w'.cell? ⟨W.heap.size, 0, none⟩ = some (.int .i64 n.kind) ∧ w'.cell? ⟨W.heap.size, 1, none⟩ = some (.string n.text) ∧ w'.cell? ⟨W.heap.size, 2, none⟩ = some (.slice A n.kids.length c) ∧ w'.cell? ⟨Bk, 0, none⟩ = some (.int .i64 kind) ∧ w'.cell? ⟨Bt, 0, none⟩ = some (.string text) ∧ w'.cell? ⟨Bb, 0, none⟩ = some (.int .i64 b.kind) ∧ w'.cell? ⟨Bb, 1, none⟩ = some (.string b.text) ∧ w'.cell? ⟨Bb, 2, none⟩ = some (.slice Ab b.kids.length cb) ∧ w'.cell? ⟨Bb, 3, none⟩ = some (.int .i64 b.place))) (by kernel_rfl) ?_ (fun hHeld => ?_)
    · exact ⟨s0, s1, s2, s3, s4, s5, s6, s7, s8⟩
    refine wpAnyH_take (i := 0) (oi := { dst := some 7, op := Op.load 24 (Operand.tmp 1), type := 24, pos := "tree.go:327", after := #[], guard := none }) (v := ?v10) rfl (by kernel_rfl) (by kernel_rfl) (by kernel_rfl) (fun _ _ _ h => h) (Or.inl ⟨by rfl, ?hy10⟩) (by assumption) ?r10
    case hy10 =>
      intro w hSw
      (try dsimp only at hSw)
      go_simp
      (try with_reducible rfl)
    try simp only [Act.put, List.setIfInBounds_toArray, List.set_cons_zero, List.set_cons_succ]
    refine wpAnyH_take (i := 2) (oi := { dst := some 9, op := Op.fieldAddr 24 (Operand.tmp 4) 0, type := 0, pos := "tree.go:327", after := #[], guard := none }) (v := ?v11) rfl (by kernel_rfl) (by kernel_rfl) (by kernel_rfl) (fun _ _ _ h => h) (Or.inl ⟨by rfl, ?hy11⟩) (by assumption) ?r11
    case hy11 =>
      intro w hSw
      (try dsimp only at hSw)
      go_simp
      (try with_reducible rfl)
    try simp only [Act.put, List.setIfInBounds_toArray, List.set_cons_zero, List.set_cons_succ]
    refine wpAnyH_take (i := 3) (oi := { dst := some 10, op := Op.load 3 (Operand.tmp 9), type := 3, pos := "tree.go:327", after := #[{ on := 2, ground := Ground.data }], guard := none }) (v := ?v12) rfl (by kernel_rfl) (by kernel_rfl) (by kernel_rfl) (fun _ _ _ h => h) (Or.inl ⟨by rfl, ?hy12⟩) (by assumption) ?r12
    case hy12 =>
      intro w hSw
      (try dsimp only at hSw)
      go_simp
      (try with_reducible rfl)
    try simp only [Act.put, List.setIfInBounds_toArray, List.set_cons_zero, List.set_cons_succ]
    refine wpAnyH_take (i := 4) (oi := { dst := some 11, op := Op.load 3 (Operand.tmp 2), type := 3, pos := "tree.go:327", after := #[], guard := none }) (v := ?v13) rfl (by kernel_rfl) (by kernel_rfl) (by kernel_rfl) (fun _ _ _ h => h) (Or.inl ⟨by rfl, ?hy13⟩) (by assumption) ?r13
    case hy13 =>
      intro w hSw
      (try dsimp only at hSw)
      go_simp
      (try with_reducible rfl)
    try simp only [Act.put, List.setIfInBounds_toArray, List.set_cons_zero, List.set_cons_succ]
    refine wpAnyH_take (i := 5) (oi := { dst := some 12, op := Op.binOp BinOp.eql 3 (Operand.tmp 10) (Operand.tmp 11) 3, type := 4, pos := "tree.go:327", after := #[{ on := 3, ground := Ground.data }, { on := 4, ground := Ground.data }], guard := none }) (v := ?v14) rfl (by kernel_rfl) (by kernel_rfl) (by kernel_rfl) (fun _ _ _ h => h) (Or.inl ⟨by rfl, ?hy14⟩) (by assumption) ?r14
    case hy14 =>
      intro w hSw
      (try dsimp only at hSw)
      go_simp
      (try with_reducible rfl)
    try simp only [Act.put, List.setIfInBounds_toArray, List.set_cons_zero, List.set_cons_succ]
    refine wpAnyH_ready (rs := [1]) (by kernel_rfl) (by simp) (AllReadyH.cons (o := { dst := some 8, op := Op.call { callee := Callee.value (Operand.func 17), args := #[Operand.tmp 7], argTypes := #[24] }, type := 24, pos := "tree.go:327", after := #[{ on := 0, ground := Ground.data }], guard := none }) rfl (fun K hK => ?_) AllReadyH.nil)
    go_simp
    go_at_call 17
    refine (HC2.out _ b0).mono ?_
    rintro e w5 ⟨A5, c5, rfl, n5, b5, u0, u1, u2, u3, u4, u5, u6, u7, u8⟩
    have z2 := HW2.out.drew.below b5 (by have := HW2.out.lt; simpa using this)
    have f0 : w5.frozen? ⟨W.heap.size + 1, 0, none⟩ = false := z2.free 0
    have f1 : w5.frozen? ⟨W.heap.size + 1, 1, none⟩ = false := z2.free 1
    have f2 : w5.frozen? ⟨W.heap.size + 1, 2, none⟩ = false := z2.free 2
    have f3 : w5.frozen? ⟨W.heap.size + 1, 3, none⟩ = false := z2.free 3
    have g0 : w5.cell? ⟨W.heap.size + 1, 0, none⟩ = some (.int .i64 0) := z2.cell 0
    have g1 : w5.cell? ⟨W.heap.size + 1, 1, none⟩ = some (.string ⟨#[]⟩) := z2.cell 1
    have g2 : w5.cell? ⟨W.heap.size + 1, 2, none⟩ = some (.slice none 0 0) := z2.cell 2
    have g3 : w5.cell? ⟨W.heap.size + 1, 3, none⟩ = some (.int .i64 0) := z2.cell 3
    have qz := z2.lt
    have Z2 := Lib.hid z2
    have N5 := Lib.hid n5
    have B5 := Lib.hid b5
    clear z2 n5 b5
    refine hK.out _ _ ?_ (fun hHeld => ?_)
    · exact ⟨u0, u1, u2, u3, u4, u5, u6, u7, u8⟩
    clear hK K
    try simp only [Act.put, List.setIfInBounds_toArray, List.set_cons_zero, List.set_cons_succ]
    refine wpAnyH_take (i := 6) (oi := { dst := some 13, op := Op.move (Operand.tmp 12), type := 4, pos := "tree.go:327", after := #[{ on := 5, ground := Ground.data }, { on := 1, ground := Ground.chain }], guard := none }) (v := ?v15) rfl (by kernel_rfl) (by kernel_rfl) (by kernel_rfl) (fun _ _ _ h => h) (Or.inl ⟨by rfl, ?hy15⟩) (by assumption) ?r15
    case hy15 =>
      intro w hSw
      (try dsimp only at hSw)
      go_simp
      (try with_reducible rfl)
    try simp only [Act.put, List.setIfInBounds_toArray, List.set_cons_zero, List.set_cons_succ]
    refine wpAnyH_take (i := 7) (oi := { dst := some 14, op := Op.fieldAddr 24 (Operand.tmp 4) 1, type := 0, pos := "tree.go:327", after := #[{ on := 6, ground := Ground.guard }], guard := some (6, true) }) (v := ?v16) rfl (by kernel_rfl) (by kernel_rfl) (by kernel_rfl) (fun _ _ _ h => h) (Or.inl ⟨by rfl, ?hy16⟩) (by assumption) ?r16
    case hy16 =>
      intro w hSw
      (try dsimp only at hSw)
      go_simp
      (try with_reducible rfl)
    try simp only [Act.put, List.setIfInBounds_toArray, List.set_cons_zero, List.set_cons_succ]
    refine wpAnyH_take (i := 8) (oi := { dst := some 15, op := Op.load 9 (Operand.tmp 14), type := 9, pos := "tree.go:327", after := #[{ on := 7, ground := Ground.data }, { on := 6, ground := Ground.guard }], guard := some (6, true) }) (v := ?v17) rfl (by kernel_rfl) (by kernel_rfl) (by kernel_rfl) (fun _ _ _ h => h) (Or.inl ⟨by rfl, ?hy17⟩) (by assumption) ?r17
    case hy17 =>
      intro w hSw
      (try dsimp only at hSw)
      go_simp
      (try with_reducible rfl)
    try simp only [Act.put, List.setIfInBounds_toArray, List.set_cons_zero, List.set_cons_succ]
    refine wpAnyH_take (i := 9) (oi := { dst := some 16, op := Op.load 9 (Operand.tmp 3), type := 9, pos := "tree.go:327", after := #[{ on := 6, ground := Ground.guard }], guard := some (6, true) }) (v := ?v18) rfl (by kernel_rfl) (by kernel_rfl) (by kernel_rfl) (fun _ _ _ h => h) (Or.inl ⟨by rfl, ?hy18⟩) (by assumption) ?r18
    case hy18 =>
      intro w hSw
      (try dsimp only at hSw)
      go_simp
      (try with_reducible rfl)
    try simp only [Act.put, List.setIfInBounds_toArray, List.set_cons_zero, List.set_cons_succ]
    refine wpAnyH_take (i := 10) (oi := { dst := some 17, op := Op.binOp BinOp.eql 9 (Operand.tmp 15) (Operand.tmp 16) 9, type := 4, pos := "tree.go:327", after := #[{ on := 8, ground := Ground.data }, { on := 9, ground := Ground.data }, { on := 6, ground := Ground.guard }], guard := some (6, true) }) (v := ?v19) rfl (by kernel_rfl) (by kernel_rfl) (by kernel_rfl) (fun _ _ _ h => h) (Or.inl ⟨by rfl, ?hy19⟩) (by assumption) ?r19
    case hy19 =>
      intro w hSw
      (try dsimp only at hSw)
      go_simp
      (try with_reducible rfl)
    try simp only [Act.put, List.setIfInBounds_toArray, List.set_cons_zero, List.set_cons_succ]
    refine wpAnyH_take (i := 11) (oi := { dst := some 18, op := Op.pick (Operand.tmp 13) (Operand.tmp 17) (Operand.const (Value.bool false)), type := 4, pos := "tree.go:327", after := #[{ on := 6, ground := Ground.data }, { on := 10, ground := Ground.data }], guard := none }) (v := ?v20) rfl (by kernel_rfl) (by kernel_rfl) (by kernel_rfl) (fun _ _ _ h => h) (Or.inl ⟨by rfl, ?hy20⟩) (by assumption) ?r20
    case hy20 =>
      intro w hSw
      (try dsimp only at hSw)
      go_simp
      (try with_reducible rfl)
    try simp only [Act.put, List.setIfInBounds_toArray, List.set_cons_zero, List.set_cons_succ]
    refine wpAnyH_take (i := 12) (oi := { dst := some 19, op := Op.move (Operand.tmp 18), type := 4, pos := "tree.go:327", after := #[{ on := 11, ground := Ground.data }, { on := 6, ground := Ground.chain }], guard := none }) (v := ?v21) rfl (by kernel_rfl) (by kernel_rfl) (by kernel_rfl) (fun _ _ _ h => h) (Or.inl ⟨by rfl, ?hy21⟩) (by assumption) ?r21
    case hy21 =>
      intro w hSw
      (try dsimp only at hSw)
      go_simp
      (try with_reducible rfl)
    try simp only [Act.put, List.setIfInBounds_toArray, List.set_cons_zero, List.set_cons_succ]
    refine wpAnyH_take (i := 13) (oi := { dst := some 20, op := Op.fieldAddr 24 (Operand.tmp 4) 2, type := 0, pos := "tree.go:327", after := #[{ on := 12, ground := Ground.guard }], guard := some (12, true) }) (v := undef) rfl (by kernel_rfl) (by kernel_rfl) (by kernel_rfl) (fun _ _ _ h => h) (Or.inr ⟨by rfl, rfl⟩) (by assumption) ?_
    try simp only [Act.put, List.setIfInBounds_toArray, List.set_cons_zero, List.set_cons_succ]
    refine wpAnyH_take (i := 14) (oi := { dst := some 21, op := Op.load 22 (Operand.tmp 20), type := 22, pos := "tree.go:327", after := #[{ on := 13, ground := Ground.data }, { on := 12, ground := Ground.guard }], guard := some (12, true) }) (v := undef) rfl (by kernel_rfl) (by kernel_rfl) (by kernel_rfl) (fun _ _ _ h => h) (Or.inr ⟨by rfl, rfl⟩) (by assumption) ?_
    try simp only [Act.put, List.setIfInBounds_toArray, List.set_cons_zero, List.set_cons_succ]
    refine wpAnyH_take (i := 15) (oi := { dst := some 22, op := Op.call { callee := Callee.builtin Builtin.len, args := #[Operand.tmp 21], argTypes := #[22] }, type := 3, pos := "tree.go:327", after := #[{ on := 14, ground := Ground.data }, { on := 12, ground := Ground.guard }], guard := some (12, true) }) (v := undef) rfl (by kernel_rfl) (by kernel_rfl) (by kernel_rfl) (fun _ _ _ h => h) (Or.inr ⟨by rfl, rfl⟩) (by assumption) ?_
    try simp only [Act.put, List.setIfInBounds_toArray, List.set_cons_zero, List.set_cons_succ]
    refine wpAnyH_take (i := 16) (oi := { dst := some 23, op := Op.binOp BinOp.eql 3 (Operand.tmp 22) (Operand.const (Value.int IntKind.i64 0)) 3, type := 4, pos := "tree.go:327", after := #[{ on := 15, ground := Ground.data }, { on := 12, ground := Ground.guard }, { on := 18, ground := Ground.gcOnly Departure.lateStores }], guard := some (12, true) }) (v := undef) rfl (by kernel_rfl) (by kernel_rfl) (by kernel_rfl) (fun _ _ _ h => h) (Or.inr ⟨by rfl, rfl⟩) (by assumption) ?_
    try simp only [Act.put, List.setIfInBounds_toArray, List.set_cons_zero, List.set_cons_succ]
    refine wpAnyH_take (i := 17) (oi := { dst := some 24, op := Op.pick (Operand.tmp 19) (Operand.tmp 23) (Operand.const (Value.bool false)), type := 4, pos := "tree.go:327", after := #[{ on := 12, ground := Ground.data }, { on := 16, ground := Ground.data }, { on := 18, ground := Ground.gcOnly Departure.lateStores }], guard := none }) (v := ?v22) rfl (by kernel_rfl) (by kernel_rfl) (by kernel_rfl) (fun _ _ _ h => h) (Or.inl ⟨by rfl, ?hy22⟩) (by assumption) ?r22
    case hy22 =>
      intro w hSw
      (try dsimp only at hSw)
      go_simp
      (try with_reducible rfl)
    try simp only [Act.put, List.setIfInBounds_toArray, List.set_cons_zero, List.set_cons_succ]
    refine wpAnyH_ready (rs := [18]) (by kernel_rfl) (by simp) (AllReadyH.cons (o := { dst := none, op := Op.store 24 (Operand.tmp 5) (Operand.tmp 8), type := 0, pos := "tree.go:327", after := #[{ on := 1, ground := Ground.data }, { on := 12, ground := Ground.chain }, { on := 0, ground := Ground.phase }, { on := 1, ground := Ground.phase }, { on := 2, ground := Ground.textOnly Departure.lateStores }, { on := 3, ground := Ground.textOnly Departure.lateStores }, { on := 4, ground := Ground.textOnly Departure.lateStores }, { on := 5, ground := Ground.textOnly Departure.lateStores }, { on := 6, ground := Ground.textOnly Departure.lateStores }, { on := 7, ground := Ground.textOnly Departure.lateStores }, { on := 8, ground := Ground.textOnly Departure.lateStores }, { on := 9, ground := Ground.textOnly Departure.lateStores }, { on := 10, ground := Ground.textOnly Departure.lateStores }, { on := 11, ground := Ground.textOnly Departure.lateStores }, { on := 12, ground := Ground.textOnly Departure.lateStores }, { on := 13, ground := Ground.textOnly Departure.lateStores }, { on := 14, ground := Ground.textOnly Departure.lateStores }, { on := 15, ground := Ground.textOnly Departure.lateStoresUnsure }, { on := 16, ground := Ground.textOnly Departure.lateStores }, { on := 17, ground := Ground.textOnly Departure.lateStores }], guard := none }) rfl (fun K hK => ?_) AllReadyH.nil)
    go_simp
    refine hK.out _ _ ?_ (fun hHeld => ?_)
    · exact ⟨far4 u0 (by omega), far4 u1 (by omega), far4 u2 (by omega), far4 u3 (by omega), far4 u4 (by omega), far4 u5 (by omega), far4 u6 (by omega), far4 u7 (by omega), far4 u8 (by omega)⟩
    clear hK K
    try simp only [Act.put, List.setIfInBounds_toArray, List.set_cons_zero, List.set_cons_succ]
    refine wpAnyH_take (i := 19) (oi := { dst := some 6, op := Op.assign (Operand.tmp 24), type := 4, pos := "tree.go:327", after := #[{ on := 17, ground := Ground.data }, { on := 18, ground := Ground.chain }, { on := 0, ground := Ground.phase }, { on := 1, ground := Ground.phase }, { on := 2, ground := Ground.phase }, { on := 3, ground := Ground.phase }, { on := 4, ground := Ground.phase }, { on := 5, ground := Ground.phase }, { on := 6, ground := Ground.phase }, { on := 7, ground := Ground.phase }, { on := 8, ground := Ground.phase }, { on := 9, ground := Ground.phase }, { on := 10, ground := Ground.phase }, { on := 11, ground := Ground.phase }, { on := 12, ground := Ground.phase }, { on := 13, ground := Ground.phase }, { on := 14, ground := Ground.phase }, { on := 15, ground := Ground.phase }, { on := 16, ground := Ground.phase }, { on := 17, ground := Ground.phase }, { on := 18, ground := Ground.phase }], guard := none }) (v := ?v23) rfl (by kernel_rfl) (by kernel_rfl) (by kernel_rfl) (fun _ _ _ h => h) (Or.inl ⟨by rfl, ?hy23⟩) (by assumption) ?r23
    case hy23 =>
      intro w hSw
      (try dsimp only at hSw)
      go_simp
      (try with_reducible rfl)
    try simp only [Act.put, List.setIfInBounds_toArray, List.set_cons_zero, List.set_cons_succ]
    refine wpAnyH_done (by kernel_rfl) ?_ _
    go_wp2_with fail
    have y := (((Z2.out.put 0 (.int .i64 b.kind)).put 1 (.string b.text)).put 2 (.slice A5 b.kids.length c5)).put 3 (.int .i64 b.place)
    have hN := N5.out.weak (S' := fun _ x => (S x ∧ x < W.heap.size) ∨ W.heap.size + 2 ≤ x) (fun d x hs => by
      rcases hs with ⟨_, hs⟩ | hs
      · exact .inl ⟨hs, HSL.out x hs⟩
      · have := HW2.out.lt; simp at hs; exact .inr (by omega))
    have hfar := fun {w1 : World} (h : NdP (fun _ x => (S x ∧ x < W.heap.size) ∨ W.heap.size + 2 ≤ x) w1 100 fb (b.val A5 c5) b) (o : Nat) (u : Value) => h.far ⟨W.heap.size + 1, o, none⟩ u (by
      intro d x hs
      rcases hs with ⟨_, hs⟩ | hs <;> (simp only; omega))
    have y1 := hfar (hfar (hfar (hfar hN 0 (.int .i64 b.kind)) 1 (.string b.text)) 2 (.slice A5 b.kids.length c5)) 3 (.int .i64 b.place)
    have y0 := HX3.out.trans ((Below.refl _ W3).drew.trans B5.out |>.mono HX3.out.size)
    have y2 := (((y0.setCell (p := ⟨W.heap.size + 1, 0, none⟩) (by simp) (.int .i64 b.kind)).setCell (p := ⟨W.heap.size + 1, 1, none⟩) (by simp) (.string b.text)).setCell (p := ⟨W.heap.size + 1, 2, none⟩) (by simp) (.slice A5 b.kids.length c5)).setCell (p := ⟨W.heap.size + 1, 3, none⟩) (by simp) (.int .i64 b.place)
    generalize ((((w5.setCell ⟨W.heap.size + 1, 0, none⟩ (.int .i64 b.kind)).setCell ⟨W.heap.size + 1, 1, none⟩ (.string b.text)).setCell ⟨W.heap.size + 1, 2, none⟩ (.slice A5 b.kids.length c5)).setCell ⟨W.heap.size + 1, 3, none⟩ (.int .i64 b.place)) = W9 at y y1 y2 ⊢
    have r0 : W9.cell? ⟨W.heap.size + 1, 0, none⟩ = some (.int .i64 b.kind) := y.cell 0
    have r1 : W9.cell? ⟨W.heap.size + 1, 1, none⟩ = some (.string b.text) := y.cell 1
    have r2 : W9.cell? ⟨W.heap.size + 1, 2, none⟩ = some (.slice A5 b.kids.length c5) := y.cell 2
    have r3 : W9.cell? ⟨W.heap.size + 1, 3, none⟩ = some (.int .i64 b.place) := y.cell 3
    refine bodyPost_ret (v := .tuple #[.agg #[.int .i64 b.kind, .string b.text, .slice A5 b.kids.length c5, .int .i64 b.place], .bool false]) (by simp [results, Try.results24, go_sem, r0, r1, r2, r3]) rfl ⟨y2, A5, c5, rfl, (y1.weak (S' := fun _ x => S x ∨ W.heap.size ≤ x) ?_).anyd⟩
    intro d x hs
    rcases hs with ⟨h1, _⟩ | hs
    · exact .inl h1
    · exact .inr (by omega)
  | true =>
    go_enter Try.func24, Try.ntmps24
    go_wp2_with fail
    rw [← hW3]
    clear hW3
    have b0 : Below W3.heap.size W3 W3.drew := (Below.refl _ W3).drew
    refine wp_region_held_drew (S := (fun w' => w'.cell? ⟨W.heap.size, 0, none⟩ = some (.int .i64 n.kind) ∧ w'.cell? ⟨W.heap.size, 1, none⟩ = some (.string n.text) ∧ w'.cell? ⟨W.heap.size, 2, none⟩ = some (.slice A n.kids.length c) ∧ w'.cell? ⟨Bk, 0, none⟩ = some (.int .i64 kind) ∧ w'.cell? ⟨Bt, 0, none⟩ = some (.string text) ∧ w'.cell? ⟨Bb, 0, none⟩ = some (.int .i64 b.kind) ∧ w'.cell? ⟨Bb, 1, none⟩ = some (.string b.text) ∧ w'.cell? ⟨Bb, 2, none⟩ = some (.slice Ab b.kids.length cb) ∧ w'.cell? ⟨Bb, 3, none⟩ = some (.int .i64 b.place))) (by kernel_rfl) ?_ (fun hHeld => ?_)
    · exact ⟨s0, s1, s2, s3, s4, s5, s6, s7, s8⟩
    refine wpAnyH_take (i := 0) (oi := { dst := some 7, op := Op.load 24 (Operand.tmp 1), type := 24, pos := "tree.go:327", after := #[], guard := none }) (v := ?v24) rfl (by kernel_rfl) (by kernel_rfl) (by kernel_rfl) (fun _ _ _ h => h) (Or.inl ⟨by rfl, ?hy24⟩) (by assumption) ?r24
    case hy24 =>
      intro w hSw
      (try dsimp only at hSw)
      go_simp
      (try with_reducible rfl)
    try simp only [Act.put, List.setIfInBounds_toArray, List.set_cons_zero, List.set_cons_succ]
    refine wpAnyH_take (i := 2) (oi := { dst := some 9, op := Op.fieldAddr 24 (Operand.tmp 4) 0, type := 0, pos := "tree.go:327", after := #[], guard := none }) (v := ?v25) rfl (by kernel_rfl) (by kernel_rfl) (by kernel_rfl) (fun _ _ _ h => h) (Or.inl ⟨by rfl, ?hy25⟩) (by assumption) ?r25
    case hy25 =>
      intro w hSw
      (try dsimp only at hSw)
      go_simp
      (try with_reducible rfl)
    try simp only [Act.put, List.setIfInBounds_toArray, List.set_cons_zero, List.set_cons_succ]
    refine wpAnyH_take (i := 3) (oi := { dst := some 10, op := Op.load 3 (Operand.tmp 9), type := 3, pos := "tree.go:327", after := #[{ on := 2, ground := Ground.data }], guard := none }) (v := ?v26) rfl (by kernel_rfl) (by kernel_rfl) (by kernel_rfl) (fun _ _ _ h => h) (Or.inl ⟨by rfl, ?hy26⟩) (by assumption) ?r26
    case hy26 =>
      intro w hSw
      (try dsimp only at hSw)
      go_simp
      (try with_reducible rfl)
    try simp only [Act.put, List.setIfInBounds_toArray, List.set_cons_zero, List.set_cons_succ]
    refine wpAnyH_take (i := 4) (oi := { dst := some 11, op := Op.load 3 (Operand.tmp 2), type := 3, pos := "tree.go:327", after := #[], guard := none }) (v := ?v27) rfl (by kernel_rfl) (by kernel_rfl) (by kernel_rfl) (fun _ _ _ h => h) (Or.inl ⟨by rfl, ?hy27⟩) (by assumption) ?r27
    case hy27 =>
      intro w hSw
      (try dsimp only at hSw)
      go_simp
      (try with_reducible rfl)
    try simp only [Act.put, List.setIfInBounds_toArray, List.set_cons_zero, List.set_cons_succ]
    refine wpAnyH_take (i := 5) (oi := { dst := some 12, op := Op.binOp BinOp.eql 3 (Operand.tmp 10) (Operand.tmp 11) 3, type := 4, pos := "tree.go:327", after := #[{ on := 3, ground := Ground.data }, { on := 4, ground := Ground.data }], guard := none }) (v := ?v28) rfl (by kernel_rfl) (by kernel_rfl) (by kernel_rfl) (fun _ _ _ h => h) (Or.inl ⟨by rfl, ?hy28⟩) (by assumption) ?r28
    case hy28 =>
      intro w hSw
      (try dsimp only at hSw)
      go_simp
      (try with_reducible rfl)
    try simp only [Act.put, List.setIfInBounds_toArray, List.set_cons_zero, List.set_cons_succ]
    refine wpAnyH_ready (rs := [1]) (by kernel_rfl) (by simp) (AllReadyH.cons (o := { dst := some 8, op := Op.call { callee := Callee.value (Operand.func 17), args := #[Operand.tmp 7], argTypes := #[24] }, type := 24, pos := "tree.go:327", after := #[{ on := 0, ground := Ground.data }], guard := none }) rfl (fun K hK => ?_) AllReadyH.nil)
    go_simp
    go_at_call 17
    refine (HC2.out _ b0).mono ?_
    rintro e w5 ⟨A5, c5, rfl, n5, b5, u0, u1, u2, u3, u4, u5, u6, u7, u8⟩
    have z2 := HW2.out.drew.below b5 (by have := HW2.out.lt; simpa using this)
    have f0 : w5.frozen? ⟨W.heap.size + 1, 0, none⟩ = false := z2.free 0
    have f1 : w5.frozen? ⟨W.heap.size + 1, 1, none⟩ = false := z2.free 1
    have f2 : w5.frozen? ⟨W.heap.size + 1, 2, none⟩ = false := z2.free 2
    have f3 : w5.frozen? ⟨W.heap.size + 1, 3, none⟩ = false := z2.free 3
    have g0 : w5.cell? ⟨W.heap.size + 1, 0, none⟩ = some (.int .i64 0) := z2.cell 0
    have g1 : w5.cell? ⟨W.heap.size + 1, 1, none⟩ = some (.string ⟨#[]⟩) := z2.cell 1
    have g2 : w5.cell? ⟨W.heap.size + 1, 2, none⟩ = some (.slice none 0 0) := z2.cell 2
    have g3 : w5.cell? ⟨W.heap.size + 1, 3, none⟩ = some (.int .i64 0) := z2.cell 3
    have qz := z2.lt
    have Z2 := Lib.hid z2
    have N5 := Lib.hid n5
    have B5 := Lib.hid b5
    clear z2 n5 b5
    refine hK.out _ _ ?_ (fun hHeld => ?_)
    · exact ⟨u0, u1, u2, u3, u4, u5, u6, u7, u8⟩
    clear hK K
    try simp only [Act.put, List.setIfInBounds_toArray, List.set_cons_zero, List.set_cons_succ]
    refine wpAnyH_take (i := 6) (oi := { dst := some 13, op := Op.move (Operand.tmp 12), type := 4, pos := "tree.go:327", after := #[{ on := 5, ground := Ground.data }, { on := 1, ground := Ground.chain }], guard := none }) (v := ?v29) rfl (by kernel_rfl) (by kernel_rfl) (by kernel_rfl) (fun _ _ _ h => h) (Or.inl ⟨by rfl, ?hy29⟩) (by assumption) ?r29
    case hy29 =>
      intro w hSw
      (try dsimp only at hSw)
      go_simp
      (try with_reducible rfl)
    try simp only [Act.put, List.setIfInBounds_toArray, List.set_cons_zero, List.set_cons_succ]
    refine wpAnyH_take (i := 7) (oi := { dst := some 14, op := Op.fieldAddr 24 (Operand.tmp 4) 1, type := 0, pos := "tree.go:327", after := #[{ on := 6, ground := Ground.guard }], guard := some (6, true) }) (v := ?v30) rfl (by kernel_rfl) (by kernel_rfl) (by kernel_rfl) (fun _ _ _ h => h) (Or.inl ⟨by rfl, ?hy30⟩) (by assumption) ?r30
    case hy30 =>
      intro w hSw
      (try dsimp only at hSw)
      go_simp
      (try with_reducible rfl)
    try simp only [Act.put, List.setIfInBounds_toArray, List.set_cons_zero, List.set_cons_succ]
    refine wpAnyH_take (i := 8) (oi := { dst := some 15, op := Op.load 9 (Operand.tmp 14), type := 9, pos := "tree.go:327", after := #[{ on := 7, ground := Ground.data }, { on := 6, ground := Ground.guard }], guard := some (6, true) }) (v := ?v31) rfl (by kernel_rfl) (by kernel_rfl) (by kernel_rfl) (fun _ _ _ h => h) (Or.inl ⟨by rfl, ?hy31⟩) (by assumption) ?r31
    case hy31 =>
      intro w hSw
      (try dsimp only at hSw)
      go_simp
      (try with_reducible rfl)
    try simp only [Act.put, List.setIfInBounds_toArray, List.set_cons_zero, List.set_cons_succ]
    refine wpAnyH_take (i := 9) (oi := { dst := some 16, op := Op.load 9 (Operand.tmp 3), type := 9, pos := "tree.go:327", after := #[{ on := 6, ground := Ground.guard }], guard := some (6, true) }) (v := ?v32) rfl (by kernel_rfl) (by kernel_rfl) (by kernel_rfl) (fun _ _ _ h => h) (Or.inl ⟨by rfl, ?hy32⟩) (by assumption) ?r32
    case hy32 =>
      intro w hSw
      (try dsimp only at hSw)
      go_simp
      (try with_reducible rfl)
    try simp only [Act.put, List.setIfInBounds_toArray, List.set_cons_zero, List.set_cons_succ]
    refine wpAnyH_take (i := 10) (oi := { dst := some 17, op := Op.binOp BinOp.eql 9 (Operand.tmp 15) (Operand.tmp 16) 9, type := 4, pos := "tree.go:327", after := #[{ on := 8, ground := Ground.data }, { on := 9, ground := Ground.data }, { on := 6, ground := Ground.guard }], guard := some (6, true) }) (v := ?v33) rfl (by kernel_rfl) (by kernel_rfl) (by kernel_rfl) (fun _ _ _ h => h) (Or.inl ⟨by rfl, ?hy33⟩) (by assumption) ?r33
    case hy33 =>
      intro w hSw
      (try dsimp only at hSw)
      go_simp
      (try with_reducible rfl)
    try simp only [Act.put, List.setIfInBounds_toArray, List.set_cons_zero, List.set_cons_succ]
    refine wpAnyH_take (i := 11) (oi := { dst := some 18, op := Op.pick (Operand.tmp 13) (Operand.tmp 17) (Operand.const (Value.bool false)), type := 4, pos := "tree.go:327", after := #[{ on := 6, ground := Ground.data }, { on := 10, ground := Ground.data }], guard := none }) (v := ?v34) rfl (by kernel_rfl) (by kernel_rfl) (by kernel_rfl) (fun _ _ _ h => h) (Or.inl ⟨by rfl, ?hy34⟩) (by assumption) ?r34
    case hy34 =>
      intro w hSw
      (try dsimp only at hSw)
      go_simp
      (try with_reducible rfl)
    try simp only [Act.put, List.setIfInBounds_toArray, List.set_cons_zero, List.set_cons_succ]
    refine wpAnyH_take (i := 12) (oi := { dst := some 19, op := Op.move (Operand.tmp 18), type := 4, pos := "tree.go:327", after := #[{ on := 11, ground := Ground.data }, { on := 6, ground := Ground.chain }], guard := none }) (v := ?v35) rfl (by kernel_rfl) (by kernel_rfl) (by kernel_rfl) (fun _ _ _ h => h) (Or.inl ⟨by rfl, ?hy35⟩) (by assumption) ?r35
    case hy35 =>
      intro w hSw
      (try dsimp only at hSw)
      go_simp
      (try with_reducible rfl)
    try simp only [Act.put, List.setIfInBounds_toArray, List.set_cons_zero, List.set_cons_succ]
    refine wpAnyH_take (i := 13) (oi := { dst := some 20, op := Op.fieldAddr 24 (Operand.tmp 4) 2, type := 0, pos := "tree.go:327", after := #[{ on := 12, ground := Ground.guard }], guard := some (12, true) }) (v := ?v36) rfl (by kernel_rfl) (by kernel_rfl) (by kernel_rfl) (fun _ _ _ h => h) (Or.inl ⟨by rfl, ?hy36⟩) (by assumption) ?r36
    case hy36 =>
      intro w hSw
      (try dsimp only at hSw)
      go_simp
      (try with_reducible rfl)
    try simp only [Act.put, List.setIfInBounds_toArray, List.set_cons_zero, List.set_cons_succ]
    refine wpAnyH_take (i := 14) (oi := { dst := some 21, op := Op.load 22 (Operand.tmp 20), type := 22, pos := "tree.go:327", after := #[{ on := 13, ground := Ground.data }, { on := 12, ground := Ground.guard }], guard := some (12, true) }) (v := ?v37) rfl (by kernel_rfl) (by kernel_rfl) (by kernel_rfl) (fun _ _ _ h => h) (Or.inl ⟨by rfl, ?hy37⟩) (by assumption) ?r37
    case hy37 =>
      intro w hSw
      (try dsimp only at hSw)
      go_simp
      (try with_reducible rfl)
    try simp only [Act.put, List.setIfInBounds_toArray, List.set_cons_zero, List.set_cons_succ]
    refine wpAnyH_take (i := 15) (oi := { dst := some 22, op := Op.call { callee := Callee.builtin Builtin.len, args := #[Operand.tmp 21], argTypes := #[22] }, type := 3, pos := "tree.go:327", after := #[{ on := 14, ground := Ground.data }, { on := 12, ground := Ground.guard }], guard := some (12, true) }) (v := ?v38) rfl (by kernel_rfl) (by kernel_rfl) (by kernel_rfl) (fun _ _ _ h => h) (Or.inl ⟨by rfl, ?hy38⟩) (by assumption) ?r38
    case hy38 =>
      intro w hSw
      (try dsimp only at hSw)
      go_simp
      (try with_reducible rfl)
    try simp only [Act.put, List.setIfInBounds_toArray, List.set_cons_zero, List.set_cons_succ]
    refine wpAnyH_take (i := 16) (oi := { dst := some 23, op := Op.binOp BinOp.eql 3 (Operand.tmp 22) (Operand.const (Value.int IntKind.i64 0)) 3, type := 4, pos := "tree.go:327", after := #[{ on := 15, ground := Ground.data }, { on := 12, ground := Ground.guard }, { on := 18, ground := Ground.gcOnly Departure.lateStores }], guard := some (12, true) }) (v := ?v39) rfl (by kernel_rfl) (by kernel_rfl) (by kernel_rfl) (fun _ _ _ h => h) (Or.inl ⟨by rfl, ?hy39⟩) (by assumption) ?r39
    case hy39 =>
      intro w hSw
      (try dsimp only at hSw)
      go_simp
      (try with_reducible rfl)
    try simp only [Act.put, List.setIfInBounds_toArray, List.set_cons_zero, List.set_cons_succ]
    refine wpAnyH_take (i := 17) (oi := { dst := some 24, op := Op.pick (Operand.tmp 19) (Operand.tmp 23) (Operand.const (Value.bool false)), type := 4, pos := "tree.go:327", after := #[{ on := 12, ground := Ground.data }, { on := 16, ground := Ground.data }, { on := 18, ground := Ground.gcOnly Departure.lateStores }], guard := none }) (v := ?v40) rfl (by kernel_rfl) (by kernel_rfl) (by kernel_rfl) (fun _ _ _ h => h) (Or.inl ⟨by rfl, ?hy40⟩) (by assumption) ?r40
    case hy40 =>
      intro w hSw
      (try dsimp only at hSw)
      go_simp
      (try with_reducible rfl)
    try simp only [Act.put, List.setIfInBounds_toArray, List.set_cons_zero, List.set_cons_succ]
    refine wpAnyH_ready (rs := [18]) (by kernel_rfl) (by simp) (AllReadyH.cons (o := { dst := none, op := Op.store 24 (Operand.tmp 5) (Operand.tmp 8), type := 0, pos := "tree.go:327", after := #[{ on := 1, ground := Ground.data }, { on := 12, ground := Ground.chain }, { on := 0, ground := Ground.phase }, { on := 1, ground := Ground.phase }, { on := 2, ground := Ground.textOnly Departure.lateStores }, { on := 3, ground := Ground.textOnly Departure.lateStores }, { on := 4, ground := Ground.textOnly Departure.lateStores }, { on := 5, ground := Ground.textOnly Departure.lateStores }, { on := 6, ground := Ground.textOnly Departure.lateStores }, { on := 7, ground := Ground.textOnly Departure.lateStores }, { on := 8, ground := Ground.textOnly Departure.lateStores }, { on := 9, ground := Ground.textOnly Departure.lateStores }, { on := 10, ground := Ground.textOnly Departure.lateStores }, { on := 11, ground := Ground.textOnly Departure.lateStores }, { on := 12, ground := Ground.textOnly Departure.lateStores }, { on := 13, ground := Ground.textOnly Departure.lateStores }, { on := 14, ground := Ground.textOnly Departure.lateStores }, { on := 15, ground := Ground.textOnly Departure.lateStoresUnsure }, { on := 16, ground := Ground.textOnly Departure.lateStores }, { on := 17, ground := Ground.textOnly Departure.lateStores }], guard := none }) rfl (fun K hK => ?_) AllReadyH.nil)
    go_simp
    refine hK.out _ _ ?_ (fun hHeld => ?_)
    · exact ⟨far4 u0 (by omega), far4 u1 (by omega), far4 u2 (by omega), far4 u3 (by omega), far4 u4 (by omega), far4 u5 (by omega), far4 u6 (by omega), far4 u7 (by omega), far4 u8 (by omega)⟩
    clear hK K
    try simp only [Act.put, List.setIfInBounds_toArray, List.set_cons_zero, List.set_cons_succ]
    refine wpAnyH_take (i := 19) (oi := { dst := some 6, op := Op.assign (Operand.tmp 24), type := 4, pos := "tree.go:327", after := #[{ on := 17, ground := Ground.data }, { on := 18, ground := Ground.chain }, { on := 0, ground := Ground.phase }, { on := 1, ground := Ground.phase }, { on := 2, ground := Ground.phase }, { on := 3, ground := Ground.phase }, { on := 4, ground := Ground.phase }, { on := 5, ground := Ground.phase }, { on := 6, ground := Ground.phase }, { on := 7, ground := Ground.phase }, { on := 8, ground := Ground.phase }, { on := 9, ground := Ground.phase }, { on := 10, ground := Ground.phase }, { on := 11, ground := Ground.phase }, { on := 12, ground := Ground.phase }, { on := 13, ground := Ground.phase }, { on := 14, ground := Ground.phase }, { on := 15, ground := Ground.phase }, { on := 16, ground := Ground.phase }, { on := 17, ground := Ground.phase }, { on := 18, ground := Ground.phase }], guard := none }) (v := ?v41) rfl (by kernel_rfl) (by kernel_rfl) (by kernel_rfl) (fun _ _ _ h => h) (Or.inl ⟨by rfl, ?hy41⟩) (by assumption) ?r41
    case hy41 =>
      intro w hSw
      (try dsimp only at hSw)
      go_simp
      (try with_reducible rfl)
    try simp only [Act.put, List.setIfInBounds_toArray, List.set_cons_zero, List.set_cons_succ]
    refine wpAnyH_done (by kernel_rfl) ?_ _
    go_wp2_with fail
    have y := (((Z2.out.put 0 (.int .i64 b.kind)).put 1 (.string b.text)).put 2 (.slice A5 b.kids.length c5)).put 3 (.int .i64 b.place)
    have hN := N5.out.weak (S' := fun _ x => (S x ∧ x < W.heap.size) ∨ W.heap.size + 2 ≤ x) (fun d x hs => by
      rcases hs with ⟨_, hs⟩ | hs
      · exact .inl ⟨hs, HSL.out x hs⟩
      · have := HW2.out.lt; simp at hs; exact .inr (by omega))
    have hfar := fun {w1 : World} (h : NdP (fun _ x => (S x ∧ x < W.heap.size) ∨ W.heap.size + 2 ≤ x) w1 100 fb (b.val A5 c5) b) (o : Nat) (u : Value) => h.far ⟨W.heap.size + 1, o, none⟩ u (by
      intro d x hs
      rcases hs with ⟨_, hs⟩ | hs <;> (simp only; omega))
    have y1 := hfar (hfar (hfar (hfar hN 0 (.int .i64 b.kind)) 1 (.string b.text)) 2 (.slice A5 b.kids.length c5)) 3 (.int .i64 b.place)
    have y0 := HX3.out.trans ((Below.refl _ W3).drew.trans B5.out |>.mono HX3.out.size)
    have y2 := (((y0.setCell (p := ⟨W.heap.size + 1, 0, none⟩) (by simp) (.int .i64 b.kind)).setCell (p := ⟨W.heap.size + 1, 1, none⟩) (by simp) (.string b.text)).setCell (p := ⟨W.heap.size + 1, 2, none⟩) (by simp) (.slice A5 b.kids.length c5)).setCell (p := ⟨W.heap.size + 1, 3, none⟩) (by simp) (.int .i64 b.place)
    generalize ((((w5.setCell ⟨W.heap.size + 1, 0, none⟩ (.int .i64 b.kind)).setCell ⟨W.heap.size + 1, 1, none⟩ (.string b.text)).setCell ⟨W.heap.size + 1, 2, none⟩ (.slice A5 b.kids.length c5)).setCell ⟨W.heap.size + 1, 3, none⟩ (.int .i64 b.place)) = W9 at y y1 y2 ⊢
    have r0 : W9.cell? ⟨W.heap.size + 1, 0, none⟩ = some (.int .i64 b.kind) := y.cell 0
    have r1 : W9.cell? ⟨W.heap.size + 1, 1, none⟩ = some (.string b.text) := y.cell 1
    have r2 : W9.cell? ⟨W.heap.size + 1, 2, none⟩ = some (.slice A5 b.kids.length c5) := y.cell 2
    have r3 : W9.cell? ⟨W.heap.size + 1, 3, none⟩ = some (.int .i64 b.place) := y.cell 3
    refine bodyPost_ret (v := .tuple #[.agg #[.int .i64 b.kind, .string b.text, .slice A5 b.kids.length c5, .int .i64 b.place], .bool ((n.kids.length : Int) == 0)]) (by simp [results, Try.results24, go_sem, r0, r1, r2, r3]) rfl ⟨y2, A5, c5, rfl, (y1.weak (S' := fun _ x => S x ∨ W.heap.size ≤ x) ?_).anyd⟩
    intro d x hs
    rcases hs with ⟨h1, _⟩ | hs
    · exact .inl h1
    · exact .inr (by omega)

set_option maxRecDepth 100000 in
set_option maxHeartbeats 1000000 in
/-- tree.Swap. -/
theorem swap_any (S : Nat → Prop) (f fb : Nat) (v vb : Value) (n b : Nd) (kind : Int) (text : ByteArray) (w : World) (hS : ∀ x, S x → x < w.heap.size) (hz : sizeN 101 n ≤ 1048576) (hzb : sizeN 101 b ≤ 1048576) (hv : NdP (fun _ => S) w 0 f v n) (hvb : NdP (fun _ => S) w 0 fb vb b) :
    Calls Try.prog 14 #[v, .int .i64 kind, .string text, vb] w fun e w' => ∃ A c, e = .returned (.agg #[.int .i64 (swN (swapAt kind text b) 100 n).kind, .string (swN (swapAt kind text b) 100 n).text, .slice A (swN (swapAt kind text b) 100 n).kids.length c, .int .i64 (swN (swapAt kind text b) 100 n).place]) ∧
      NdP (fun _ x => S x ∨ w.heap.size ≤ x) w' 0 (f + fb) ((swN (swapAt kind text b) 100 n).val A c) (swN (swapAt kind text b) 100 n) ∧ Below w.heap.size w w' := by
  obtain ⟨A, c, rfl, hm⟩ := hv.ndv.val
  obtain ⟨Ab, cb, rfl, hmb⟩ := hvb.ndv.val
  obtain ⟨w4, hw4⟩ : ∃ w4, w4 = ((((w.alloc (.cells #[.int .i64 n.kind, .string n.text, .slice A n.kids.length c, .int .i64 n.place] 24)).alloc (.cells #[.int .i64 kind] 3)).alloc (.cells #[.string text] 9)).alloc (.cells #[.int .i64 b.kind, .string b.text, .slice Ab b.kids.length cb, .int .i64 b.place] 24)).alloc (.cells #[.int .i64 0, .string ⟨#[]⟩, .slice none 0 0, .int .i64 0] 24) := ⟨_, rfl⟩
  have hb4 : Below w.heap.size w w4 := by rw [hw4]; exact (((((Below.refl _ w).alloc (Nat.le_refl _) _).alloc (by simp) _).alloc (by simp; omega) _).alloc (by simp; omega) _).alloc (by simp; omega) _
  have k1 : Whole w4 (w.heap.size + 1) 3 #[.int .i64 kind] := by
    rw [hw4]
    have := (((Whole.new (w.alloc (.cells #[.int .i64 n.kind, .string n.text, .slice A n.kids.length c, .int .i64 n.place] 24)) 3 #[.int .i64 kind]).alloc (.cells #[.string text] 9)).alloc (.cells #[.int .i64 b.kind, .string b.text, .slice Ab b.kids.length cb, .int .i64 b.place] 24)).alloc (.cells #[.int .i64 0, .string ⟨#[]⟩, .slice none 0 0, .int .i64 0] 24)
    simpa using this
  have k2 : Whole w4 (w.heap.size + 1 + 1) 9 #[.string text] := by
    rw [hw4]
    have := ((Whole.new ((w.alloc (.cells #[.int .i64 n.kind, .string n.text, .slice A n.kids.length c, .int .i64 n.place] 24)).alloc (.cells #[.int .i64 kind] 3)) 9 #[.string text]).alloc (.cells #[.int .i64 b.kind, .string b.text, .slice Ab b.kids.length cb, .int .i64 b.place] 24)).alloc (.cells #[.int .i64 0, .string ⟨#[]⟩, .slice none 0 0, .int .i64 0] 24)
    simpa using this
  have k3 : Whole w4 (w.heap.size + 1 + 1 + 1) 24 #[.int .i64 b.kind, .string b.text, .slice Ab b.kids.length cb, .int .i64 b.place] := by
    rw [hw4]
    have := (Whole.new (((w.alloc (.cells #[.int .i64 n.kind, .string n.text, .slice A n.kids.length c, .int .i64 n.place] 24)).alloc (.cells #[.int .i64 kind] 3)).alloc (.cells #[.string text] 9)) 24 #[.int .i64 b.kind, .string b.text, .slice Ab b.kids.length cb, .int .i64 b.place]).alloc (.cells #[.int .i64 0, .string ⟨#[]⟩, .slice none 0 0, .int .i64 0] 24)
    simpa using this
  have k4 : Whole w4 (w.heap.size + 1 + 1 + 1 + 1) 24 #[.int .i64 0, .string ⟨#[]⟩, .slice none 0 0, .int .i64 0] := by
    rw [hw4]
    have := Whole.new ((((w.alloc (.cells #[.int .i64 n.kind, .string n.text, .slice A n.kids.length c, .int .i64 n.place] 24)).alloc (.cells #[.int .i64 kind] 3)).alloc (.cells #[.string text] 9)).alloc (.cells #[.int .i64 b.kind, .string b.text, .slice Ab b.kids.length cb, .int .i64 b.place] 24)) 24 #[.int .i64 0, .string ⟨#[]⟩, .slice none 0 0, .int .i64 0]
    simpa using this
  have hsz4 : w4.heap.size = w.heap.size + 1 + 1 + 1 + 1 + 1 := by rw [hw4]; simp
  have hat : TellsAt w4 S fb 24 #[.pointer (some ⟨w.heap.size + 1 + 1 + 1, 0, none⟩), .pointer (some ⟨w.heap.size + 1, 0, none⟩), .pointer (some ⟨w.heap.size + 1 + 1, 0, none⟩)] (swapAt kind text b) := by
    refine ⟨fun args w => ?_, fun W f1 v1 n1 hW hv1 => ?_⟩
    · exact enters_of Try.func24 (by kernel_rfl) rfl args w
    · have hbW := hb4.trans (hW.mono hb4.size)
      refine (swap1_c S fb kind text b Ab cb _ _ _ W f1 v1 n1 hzb (fun x hx => Nat.lt_of_lt_of_le (hS x hx) hbW.size) (k1.below hW k1.lt) (k2.below hW k2.lt) (k3.below hW k3.lt) (hvb.below hbW) hv1).mono ?_
      rintro e w' ⟨h1, A9, c9, h2, h3⟩
      refine ⟨h1, b, A9, c9, _, h2, ?_⟩
      cases hq : (n1.kind == kind && (n1.text.toList == text.toList && ((n1.kids.length : Int) == 0))) with
      | false => exact .inl ⟨rfl, by unfold swapAt; rw [hq]; rfl⟩
      | true => exact .inr ⟨rfl, by unfold swapAt; rw [hq]; rfl, h3⟩
  have hc := sw_c w4 S (fun x hx => Nat.lt_of_lt_of_le (hS x hx) hb4.size) fb 24 _ _ hat 100 (Nat.le_refl _) f _ n w4 (Below.refl _ _) hz (hv.below hb4)
  obtain ⟨m, hm8⟩ : ∃ m, swN (swapAt kind text b) 100 n = m := ⟨_, rfl⟩
  rw [hm8] at hc ⊢
  have HC := Lib.hid hc
  have HB4 := Lib.hid hb4
  have K4 := Lib.hid k4
  have HS := Lib.hid hS
  have HZ4 := Lib.hid hsz4
  clear hc hb4 k1 k2 k3 k4 hv hvb hat hS hm8 hsz4
  have hmf : ∀ fn first cap w, (Instr.makeFunc fn first cap).run Try.prog w = .ok (.func fn first cap) w := fun _ _ _ _ => rfl
  unfold Nd.val at HC ⊢
  go_enter Try.func14, Try.ntmps14
  go_wp2_with fail
  rw [← hw4]
  clear hw4
  refine HC.out.mono ?_
  rintro e w1 ⟨A9, c9, rfl, n1, b1⟩
  have B1 := Lib.hid (HB4.out.trans (b1.mono HB4.out.size))
  have hw2 := K4.out.below b1 K4.out.lt
  have N1 := Lib.hid (n1.weak (S' := fun _ x => (S x ∧ x < w.heap.size) ∨ w.heap.size + 5 ≤ x) (fun d x hs => by
    rcases hs with hs | hs
    · exact .inl ⟨hs, HS.out x hs⟩
    · have := HZ4.out; exact .inr (by omega)))
  have q2 := hw2.lt
  have c20 : w1.cell? ⟨w.heap.size + 1 + 1 + 1 + 1, 0, none⟩ = some (.int .i64 0) := hw2.cell 0
  have c21 : w1.cell? ⟨w.heap.size + 1 + 1 + 1 + 1, 1, none⟩ = some (.string ⟨#[]⟩) := hw2.cell 1
  have c22 : w1.cell? ⟨w.heap.size + 1 + 1 + 1 + 1, 2, none⟩ = some (.slice none 0 0) := hw2.cell 2
  have c23 : w1.cell? ⟨w.heap.size + 1 + 1 + 1 + 1, 3, none⟩ = some (.int .i64 0) := hw2.cell 3
  have f20 : w1.frozen? ⟨w.heap.size + 1 + 1 + 1 + 1, 0, none⟩ = false := hw2.free 0
  have f21 : w1.frozen? ⟨w.heap.size + 1 + 1 + 1 + 1, 1, none⟩ = false := hw2.free 1
  have f22 : w1.frozen? ⟨w.heap.size + 1 + 1 + 1 + 1, 2, none⟩ = false := hw2.free 2
  have f23 : w1.frozen? ⟨w.heap.size + 1 + 1 + 1 + 1, 3, none⟩ = false := hw2.free 3
  have HW3 := Lib.hid hw2
  clear n1 b1 hw2 HB4 HC K4
  go_wp2_with fail
  have y := (((HW3.out.put 0 (.int .i64 m.kind)).put 1 (.string m.text)).put 2 (.slice A9 m.kids.length c9)).put 3 (.int .i64 m.place)
  have hfar := fun {w1 : World} (h : NdP (fun _ x => (S x ∧ x < w.heap.size) ∨ w.heap.size + 5 ≤ x) w1 0 (f + fb) (m.val A9 c9) m) (o : Nat) (u : Value) => h.far ⟨w.heap.size + 1 + 1 + 1 + 1, o, none⟩ u (by
    intro d x hs
    rcases hs with ⟨_, hs⟩ | hs <;> (simp only; omega))
  have y1 := hfar (hfar (hfar (hfar N1.out 0 (.int .i64 m.kind)) 1 (.string m.text)) 2 (.slice A9 m.kids.length c9)) 3 (.int .i64 m.place)
  have y2 := (((B1.out.setCell (p := ⟨w.heap.size + 1 + 1 + 1 + 1, 0, none⟩) (by simp only; omega) (.int .i64 m.kind)).setCell (p := ⟨w.heap.size + 1 + 1 + 1 + 1, 1, none⟩) (by simp only; omega) (.string m.text)).setCell (p := ⟨w.heap.size + 1 + 1 + 1 + 1, 2, none⟩) (by simp only; omega) (.slice A9 m.kids.length c9)).setCell (p := ⟨w.heap.size + 1 + 1 + 1 + 1, 3, none⟩) (by simp only; omega) (.int .i64 m.place)
  generalize ((((w1.setCell ⟨w.heap.size + 1 + 1 + 1 + 1, 0, none⟩ (.int .i64 m.kind)).setCell ⟨w.heap.size + 1 + 1 + 1 + 1, 1, none⟩ (.string m.text)).setCell ⟨w.heap.size + 1 + 1 + 1 + 1, 2, none⟩ (.slice A9 m.kids.length c9)).setCell ⟨w.heap.size + 1 + 1 + 1 + 1, 3, none⟩ (.int .i64 m.place)) = W9 at y y1 y2 ⊢
  have r0 : W9.cell? ⟨w.heap.size + 1 + 1 + 1 + 1, 0, none⟩ = some (.int .i64 m.kind) := y.cell 0
  have r1 : W9.cell? ⟨w.heap.size + 1 + 1 + 1 + 1, 1, none⟩ = some (.string m.text) := y.cell 1
  have r2 : W9.cell? ⟨w.heap.size + 1 + 1 + 1 + 1, 2, none⟩ = some (.slice A9 m.kids.length c9) := y.cell 2
  have r3 : W9.cell? ⟨w.heap.size + 1 + 1 + 1 + 1, 3, none⟩ = some (.int .i64 m.place) := y.cell 3
  refine bodyPost_ret (v := .agg #[.int .i64 m.kind, .string m.text, .slice A9 m.kids.length c9, .int .i64 m.place]) (by simp [results, Try.results14, go_sem, r0, r1, r2, r3]) rfl ⟨A9, c9, rfl, y1.weak ?_, y2⟩
  intro d x hs
  rcases hs with ⟨h1, _⟩ | hs
  · exact .inl h1
  · exact .inr (by omega)

end Go.Proofs.Ytkmhijkpbmcgbaa
