/-
  The reference's questions on nodes: nothing, lists of expressions, blocks.
-/
import Derived.Test.YtkmhijkpbmcgbaaGreatStab
import Derived.Test.YtkmhijkpbmcgbaaGreatAskX
import Derived.Test.YtkmhijkpbmcgbaaGreatRefTexts
namespace Go.Proofs.YtkmhijkpbmcgbaaGreat
set_option linter.all false
open Go.RowKit Go.Shelf

/-- A kid, now and later. -/
theorem LstAt.kidP {w : World} {f : Nat} {l : List Nd} {A : Option Addr} {p : Nat} (h : LstAt w f l A) (hp : p < l.length) : ∃ b off k A' c', A = some ⟨b, off, none⟩ ∧ l[p]? = some k ∧ ∀ W, Below w.heap.size w W → b < W.heap.size ∧
      W.cell? ⟨b, off + p * 4, none⟩ = some (.int .i64 k.kind) ∧ W.cell? ⟨b, off + p * 4 + 1, none⟩ = some (.string k.text) ∧
      W.cell? ⟨b, off + p * 4 + 2, none⟩ = some (.slice A' k.kids.length c') ∧ W.cell? ⟨b, off + p * 4 + 3, none⟩ = some (.int .i64 k.place) ∧ NdV W f (k.val A' c') k := by
  obtain ⟨b, off, k, A', c', hA, hk, hb, q0, q1, q2, q3, q5⟩ := h.kid hp
  exact ⟨b, off, k, A', c', hA, hk, fun W hW => ⟨Nat.lt_of_lt_of_le hb hW.size, (hW.cell (cell_lt q0)).trans q0, (hW.cell (cell_lt q1)).trans q1, (hW.cell (cell_lt q2)).trans q2, (hW.cell (cell_lt q3)).trans q3, q5.below hW⟩⟩
/-- The node's box, later. -/
theorem box_cells {w W : World} {B : Nat} {n : Nd} {A : Option Addr} {c : Nat} (h : Whole w B 24 (cellsOf n A c)) (hb : Below w.heap.size w W) :
    W.cell? ⟨B, 0, none⟩ = some (.int .i64 n.kind) ∧ W.cell? ⟨B, 1, none⟩ = some (.string n.text) ∧ W.cell? ⟨B, 2, none⟩ = some (.slice A n.kids.length c) ∧ W.cell? ⟨B, 3, none⟩ = some (.int .i64 n.place) ∧ B < W.heap.size := by
  have h1 := h.below hb h.lt
  exact ⟨h1.cell 0, h1.cell 1, h1.cell 2, h1.cell 3, h1.lt⟩

set_option maxRecDepth 100000 in
theorem nothing_any (f : Nat) (v : Value) (n : Nd) (W : World) (hv : NdV W f v n) : Calls Tryz.prog 45 #[v] W fun e w' => e = .returned (.bool (emptyB n)) ∧ Below W.heap.size W w' := by
  obtain ⟨A, c, rfl, hm⟩ := hv.val
  unfold Nd.val
  clear hv
  unfold emptyB
  generalize n.kids.length = l
  have hb : Below W.heap.size W (W.alloc (.cells #[.int .i64 n.kind, .string n.text, .slice A l c, .int .i64 n.place] 24)) := (Below.refl _ W).alloc (Nat.le_refl _) _
  have HB := Lib.hid hb
  clear hb
  cases h1 : (n.kind == 0) <;> cases h2 : (n.text.toList == []) <;> cases h3 : ((l : Int) == 0) <;>
  (go_enter Tryz.func45, Tryz.ntmps45
   go_wp2_with fail
   go_ret
   exact ⟨rfl, HB.out⟩)

/-- The reference's questions that come back, at a depth. -/
structure RKnow (w : World) (F : Nat) (g : Q → Nd → Bool) : Prop where
  typ : SaysF w F 19 #[] (g .typ)
  expr : SaysF w F 20 #[] (g .expr)
  stmt : SaysF w F 21 #[] (g .stmt)
theorem RKnow.below {w w' : World} {F : Nat} {g : Q → Nd → Bool} (h : RKnow w F g) (hb : Below w.heap.size w w') : RKnow w' F g := ⟨h.typ.below hb, h.expr.below hb, h.stmt.below hb⟩

def LoopRel (w : World) (l : List Nd) (q : Nd → Bool) (i : Value) (W : World) : Prop := ∃ p : Nat, p ≤ l.length ∧ i = .int .i64 p ∧ Below w.heap.size w W ∧ (l.take p).all q = true
theorem all_no {l : List Nd} {q : Nd → Bool} {p : Nat} {k : Nd} (hk : l[p]? = some k) (h : q k = false) : l.all q = false := by
  rw [Bool.eq_false_iff]
  intro ha
  rw [List.all_eq_true.1 ha k (List.mem_of_getElem? hk)] at h
  cases h
theorem all_yes {l : List Nd} {q : Nd → Bool} {p : Nat} {k : Nd} (hk : l[p]? = some k) (ha : (l.take p).all q = true) (h : q k = true) : (l.take (p + 1)).all q = true := by
  rw [take_snoc hk, List.all_append, ha]
  simp [h]
theorem all_end {l : List Nd} {q : Nd → Bool} {p : Nat} (hp : ¬ p < l.length) (ha : (l.take p).all q = true) : l.all q = true := by
  rw [List.take_of_length_le (by omega)] at ha
  exact ha

set_option maxRecDepth 100000 in
set_option maxHeartbeats 1000000 in
theorem exprs_any (F : Nat) (q : Nd → Bool) (l : List Nd) (A : Option Addr) (c : Nat) (w : World) (S : SaysF w F 20 #[] q) (hft : ∀ k ∈ l, Fits k) (hl : LstAt w F l A) (hm : l.length ≤ maxLen) :
    Calls Tryz.prog 43 #[.slice A l.length c] w fun e w' => e = .returned (.bool (l.all q)) ∧ Below w.heap.size w w' := by
  have LK := Lib.hid hl
  have HS := Lib.hid S
  have HF := Lib.hid hft
  have hm2 : l.length ≤ 9223372036854775807 := hm
  clear S hft hl
  go_enter Tryz.func43, Tryz.ntmps43
  go_wp2_with fail
  go_loopw [3] (fun i W => LoopRel w l q i W) (fun i _ => l.length - (intOf i).toNat)
  case atStart => exact ⟨0, Nat.zero_le _, rfl, Below.refl _ _, by simp⟩
  case round =>
    obtain ⟨p, hp, rfl, hb, ha⟩ := hrel
    have HB := Lib.hid hb
    have HA := Lib.hid ha
    clear hb ha
    by_cases hpl : p < l.length
    · obtain ⟨b, off, k, A', c', rfl, hk, hq⟩ := LK.out.kidP hpl
      obtain ⟨hbl, q0, q1, q2, q3, q5⟩ := hq _ HB.out
      have QA := Lib.hid (HS.out.2 _ _ k HB.out (HF.out k (List.mem_of_getElem? hk)) q5)
      have HK := Lib.hid hk
      have hp2 : p < 9223372036854775807 := by omega
      clear hq q5 hk
      unfold Nd.val at QA
      go_wp2_with fail
      refine QA.out.mono ?_
      rintro e w2 ⟨rfl, b2⟩
      have B2 := Lib.hid (HB.out.trans (b2.mono HB.out.size))
      clear b2 QA
      cases hq : q k with
      | false =>
        have HR := Lib.hid (all_no HK.out hq)
        go_wp2_with fail
        go_ret
        exact ⟨by rw [HR.out]; rfl, B2.out⟩
      | true =>
        have HR := Lib.hid (all_yes HK.out HA.out hq)
        go_wp2_with fail
        go_roundw
        case rel => exact ⟨p + 1, hpl, rfl, B2.out, HR.out⟩
        case measure => simp [intOf]; omega
    · have HR := Lib.hid (all_end hpl HA.out)
      go_wp2_with fail
      go_ret
      exact ⟨by rw [HR.out]; rfl, HB.out⟩

set_option maxRecDepth 100000 in
set_option maxHeartbeats 1000000 in
theorem rblock_any (g : Q → Nd → Bool) (F : Nat) (v : Value) (n : Nd) (w : World) (S : SaysF w F 21 #[] (g .stmt)) (hft : Fits n) (hv : NdV w (F + 1) v n) :
    Calls Tryz.prog 39 #[v] w fun e w' => e = .returned (.bool (blockB g n)) ∧ Below w.heap.size w w' := by
  obtain ⟨A, c, rfl, hm⟩ := hv.val
  have hb : Below w.heap.size w (w.alloc (.cells (cellsOf n A c) 24)) := (Below.refl _ w).alloc (Nat.le_refl _) _
  have hw := Whole.new w 24 (cellsOf n A c)
  have LK := Lib.hid hv.lst
  have HS := Lib.hid S
  have HF := Lib.hid fun k hk => hft.kid (k := k) hk
  have hm2 : n.kids.length ≤ 9223372036854775807 := hm
  have BX := Lib.hid fun W (h : Below (w.alloc (.cells (cellsOf n A c) 24)).heap.size (w.alloc (.cells (cellsOf n A c) 24)) W) => box_cells hw h
  have HB := Lib.hid hb
  clear S hft hv hb hw
  unfold blockB
  unfold Nd.val
  obtain ⟨W1, hW1⟩ : ∃ W1, W1 = w.alloc (.cells (cellsOf n A c) 24) := ⟨_, rfl⟩
  rw [← hW1] at BX HB
  have hW2 : w.alloc (.cells #[.int .i64 n.kind, .string n.text, .slice A n.kids.length c, .int .i64 n.place] 24) = W1 := hW1.symm
  have HW := Lib.hid hW2
  clear hW1 hW2
  cases h1 : (n.kind == 36) <;> cases h2 : (n.text.toList == [])
  case true.true =>
    have h1n : (n.kind != 36) = false := by simp only [bne, h1]; rfl
    go_enter Tryz.func39, Tryz.ntmps39
    go_wp2_with fail
    rw [HW.out]
    go_loopw [3] (fun i W => LoopRel W1 n.kids (g .stmt) i W) (fun i _ => n.kids.length - (intOf i).toNat)
    case atStart => exact ⟨0, Nat.zero_le _, rfl, Below.refl _ _, by simp⟩
    case round =>
      obtain ⟨p, hp, rfl, hb, ha⟩ := hrel
      have HA := Lib.hid ha
      have HC := Lib.hid (HB.out.trans (hb.mono HB.out.size))
      have HB1 := Lib.hid hb
      obtain ⟨x0, x1, x2, x3, x4⟩ := BX.out _ hb
      clear hb ha
      by_cases hpl : p < n.kids.length
      · obtain ⟨b, off, k, A', c', rfl, hk, hq⟩ := LK.out.kidP hpl
        obtain ⟨hbl, q0, q1, q2, q3, q5⟩ := hq _ HC.out
        have QA := Lib.hid (HS.out.2 _ _ k HC.out (HF.out k (List.mem_of_getElem? hk)) q5)
        have HK := Lib.hid hk
        have hp2 : p < 9223372036854775807 := by omega
        clear hq q5 hk
        unfold Nd.val at QA
        go_wp2_with fail
        refine QA.out.mono ?_
        rintro e w2 ⟨rfl, b2⟩
        have B2 := Lib.hid (HB1.out.trans (b2.mono HB1.out.size))
        clear b2 QA
        cases hq : g .stmt k with
        | false =>
          have HR := Lib.hid (all_no HK.out hq)
          go_wp2_with fail
          go_ret
          exact ⟨by rw [HR.out]; rfl, HB.out.trans (B2.out.mono HB.out.size)⟩
        | true =>
          have HR := Lib.hid (all_yes HK.out HA.out hq)
          go_wp2_with fail
          go_roundw
          case rel => exact ⟨p + 1, hpl, rfl, B2.out, HR.out⟩
          case measure => simp [intOf]; omega
      · have HR := Lib.hid (all_end hpl HA.out)
        go_wp2_with fail
        go_ret
        exact ⟨by rw [HR.out]; rfl, HC.out⟩
  all_goals
    first
      | have h1n : (n.kind != 36) = true := by simp only [bne, h1]; rfl
      | have h1n : (n.kind != 36) = false := by simp only [bne, h1]; rfl
    go_enter Tryz.func39, Tryz.ntmps39
    go_wp2_with fail
    go_ret
    exact ⟨rfl, by rw [HW.out]; exact HB.out⟩

end Go.Proofs.YtkmhijkpbmcgbaaGreat
