/-
  The program's Same: its walk.
-/
import Derived.Test.YtkmhijkpbmcgbaaGreatWords
namespace Go.Proofs.YtkmhijkpbmcgbaaGreat
set_option linter.all false
open Go.RowKit

/-- What a node's slice of kids says in a world. -/
def KidsAt (w : World) (f : Nat) (n : Nd) (A : Option Addr) : Prop := 0 < n.kids.length → ∃ b off, A = some ⟨b, off, none⟩ ∧ ∀ i k, n.kids[i]? = some k → ∃ A' c',
      w.cell? ⟨b, off + i * 4, none⟩ = some (.int .i64 k.kind) ∧ w.cell? ⟨b, off + i * 4 + 1, none⟩ = some (.string k.text) ∧
      w.cell? ⟨b, off + i * 4 + 2, none⟩ = some (.slice A' k.kids.length c') ∧ w.cell? ⟨b, off + i * 4 + 3, none⟩ = some (.int .i64 k.place) ∧ NdV w f (k.val A' c') k

theorem kidsAt_below {w w' : World} (hb : Below w.heap.size w w') {f : Nat} {n : Nd} {A : Option Addr} (h : KidsAt w f n A) : KidsAt w' f n A := fun h0 => by
  obtain ⟨b, off, hA, hi⟩ := h h0
  refine ⟨b, off, hA, fun i k hik => ?_⟩
  obtain ⟨A', c', h1, h2, h3, h4, h5⟩ := hi i k hik
  exact ⟨A', c', (hb.cell (cell_lt h1)).trans h1, (hb.cell (cell_lt h2)).trans h2, (hb.cell (cell_lt h3)).trans h3, (hb.cell (cell_lt h4)).trans h4, h5.below hb⟩

abbrev SameC (left : Nat) : Prop := ∀ (f : Nat) (v1 v2 : Value) (a b : Nd) (w : World), NdV w f v1 a → NdV w f v2 b →
  Calls Tryz.prog 50 #[v1, v2, .int .i64 left] w fun e w' => e = .returned (.bool (sameN left a b)) ∧ Below w.heap.size w w'

set_option maxRecDepth 100000 in
set_option maxHeartbeats 1000000 in
theorem same1_c (left : Nat) (hl : left ≤ 100) (ih : SameC left) (f : Nat) (v1 v2 : Value) (a b : Nd) (w : World) (h1 : NdV w f v1 a) (h2 : NdV w f v2 b) (B : Nat) (hB : w.cell? ⟨B, 0, none⟩ = some (.int .i64 ((left + 1 : Nat) : Int))) :
    Calls Tryz.prog 85 #[v1, v2, .pointer (some ⟨B, 0, none⟩)] w fun e w' => e = .returned (.bool (sameN left a b)) ∧ Below w.heap.size w w' := by
  obtain ⟨A1, c1, rfl, hm1⟩ := h1.val
  obtain ⟨A2, c2, rfl, hm2⟩ := h2.val
  have hlt := cell_lt hB
  have hb : ∀ o1 o2, Below w.heap.size w ((w.alloc o1).alloc o2) := fun o1 o2 => ((Below.refl _ w).alloc (Nat.le_refl _) _).alloc (by simp) _
  have hi := fun o1 o2 => ih f _ _ a b ((w.alloc o1).alloc o2) (h1.below (hb o1 o2)) (h2.below (hb o1 o2))
  have hB' := fun o1 o2 => ((hb o1 o2).cell (p := ⟨B, 0, none⟩) hlt).trans hB
  have HI := Lib.hid hi
  have HB := Lib.hid hb
  clear hi hb h1 h2 ih
  unfold Nd.val at HI ⊢
  have c := hB' (.cells #[.int .i64 a.kind, .string a.text, .slice A1 a.kids.length c1, .int .i64 a.place] 24) (.cells #[.int .i64 b.kind, .string b.text, .slice A2 b.kids.length c2, .int .i64 b.place] 24)
  clear hB'
  go_enter Tryz.func85, Tryz.ntmps85
  go_wp2_with (go_at_call 50; refine (HI.out _ _).mono ?_; rintro e w1 ⟨rfl, b1⟩)
  go_ret
  exact ⟨rfl, (HB.out _ _).trans (b1.mono (by simp; omega))⟩

def EqRel (w : World) (left : Nat) (la lb : List Nd) (i : Value) (W : World) : Prop :=
  ∃ p : Nat, p ≤ la.length ∧ i = .int .i64 p ∧ ((la.take p).zip (lb.take p)).all (fun x => sameN left x.1 x.2) = true ∧ Below w.heap.size w W

set_option maxRecDepth 100000 in
set_option maxHeartbeats 1000000 in
theorem equal_c (left : Nat) (hl : left ≤ 100) (ih : SameC left) (f : Nat) (a b : Nd) (A1 A2 : Option Addr) (c1 c2 : Nat) (w : World) (h1 : KidsAt w f a A1) (h2 : KidsAt w f b A2) (hm1 : a.kids.length ≤ maxLen) (hm2 : b.kids.length ≤ maxLen)
    (B : Nat) (hB : w.cell? ⟨B, 0, none⟩ = some (.int .i64 ((left + 1 : Nat) : Int))) :
    Calls Tryz.prog 84 #[.slice A1 a.kids.length c1, .slice A2 b.kids.length c2, .func (.func 85) #[] #[.pointer (some ⟨B, 0, none⟩)]] w fun e w' =>
      e = .returned (.bool (a.kids.length == b.kids.length && (a.kids.zip b.kids).all fun x => sameN left x.1 x.2)) ∧ Below w.heap.size w w' := by
  have hBl := cell_lt hB
  have hm1' : a.kids.length ≤ 9223372036854775807 := hm1
  by_cases hne : a.kids.length = b.kids.length
  · have HE := Lib.hid hne
    have d0 : ((a.kids.length : Int) == (b.kids.length : Int)) = true := by rw [hne]; simp
    have d1 : (a.kids.length == b.kids.length) = true := by rw [hne]; simp
    rw [d1, Bool.true_and]
    have H1 := Lib.hid h1
    have H2 := Lib.hid h2
    have IH := Lib.hid ih
    clear h1 h2 ih hne
    go_enter Tryz.func84, Tryz.ntmps84
    go_wp2_with fail
    go_loopw [17] (fun i W => EqRel w left a.kids b.kids i W) (fun i _ => a.kids.length - (intOf i).toNat)
    case atStart => exact ⟨0, Nat.zero_le _, rfl, by simp, Below.refl _ _⟩
    case round =>
      obtain ⟨p, hp, rfl, hall, hb⟩ := hrel
      by_cases hpl : p < a.kids.length
      · obtain ⟨b1, o1, k1, A1', c1', rfl, hk1, hbl1, k10, k11, k12, k13, k15⟩ := kid_cells H1.out hb hpl
        have hpl2 : p < b.kids.length := by have := HE.out; omega
        obtain ⟨b2, o2, k2, A2', c2', rfl, hk2, hbl2, k20, k21, k22, k23, k25⟩ := kid_cells H2.out hb hpl2
        have hbb : ∀ o1 o2, Below w.heap.size w ((wr.alloc o1).alloc o2) := fun o1 o2 => (hb.alloc hb.size _).alloc (by have := hb.size; simp; omega) _
        have hc := fun o1 o2 => same1_c left hl IH.out f _ _ k1 k2 ((wr.alloc o1).alloc o2) (k15.below (hbb o1 o2)) (k25.below (hbb o1 o2)) B (((hbb o1 o2).cell (p := ⟨B, 0, none⟩) hBl).trans hB)
        have HCC := Lib.hid hc
        have HBB := Lib.hid hbb
        have HP := Lib.hid hpl2
        have HA := Lib.hid hall
        have HK1 := Lib.hid hk1
        have HK2 := Lib.hid hk2
        have hp2 : p < 9223372036854775807 := Nat.lt_of_lt_of_le hpl hm1'
        have hb2 := hb.size
        clear hc hbb k15 k25 hb hall hk1 hk2
        have q1 : b1 < wr.heap.size := by omega
        have q2 : b2 < wr.heap.size := by omega
        go_wp2_with fail
        refine (HCC.out _ _).mono ?_
        rintro e w1 ⟨rfl, bb⟩
        have hB1 := (HBB.out _ _).trans (bb.mono (HBB.out _ _).size)
        have HB1 := Lib.hid hB1
        clear hB1 bb HBB HCC
        cases hs : sameN left k1 k2 with
        | true =>
          go_wp2_with fail
          go_roundw
          case rel =>
            refine ⟨p + 1, by omega, rfl, ?_, HB1.out⟩
            rw [take_snoc HK1.out, take_snoc HK2.out, List.zip_append (by simp; omega), List.all_append, HA.out]
            simp [hs]
          case measure => simp [intOf]; omega
        | false =>
          have e : ((a.kids.zip b.kids).all fun x => sameN left x.1 x.2) = false := by
            rw [List.all_eq_false]
            refine ⟨(k1, k2), ?_, by simp [hs]⟩
            apply List.mem_of_getElem? (i := p)
            rw [List.getElem?_zip_eq_some]
            exact ⟨HK1.out, HK2.out⟩
          have E := Lib.hid e
          clear e
          go_wp2_with fail
          go_ret
          exact ⟨by rw [E.out]; rfl, HB1.out⟩
      · have e : ((a.kids.zip b.kids).all fun x => sameN left x.1 x.2) = true := by
          rw [List.take_of_length_le (by omega), List.take_of_length_le (by have := HE.out; omega)] at hall
          exact hall
        have E := Lib.hid e
        have HA := Lib.hid hall
        have HBb := Lib.hid hb
        clear hall hb e
        go_wp2_with fail
        go_ret
        exact ⟨by rw [E.out]; rfl, HBb.out⟩
  · have d1 : (a.kids.length == b.kids.length) = false := by simpa using hne
    rw [d1, Bool.false_and]
    have d0 : ((a.kids.length : Int) == (b.kids.length : Int)) = false := by simp; omega
    clear h1 h2 ih
    go_enter Tryz.func84, Tryz.ntmps84
    go_wp2_with fail
    go_ret
    exact ⟨rfl, Below.refl _ _⟩

set_option maxRecDepth 100000 in
set_option maxHeartbeats 1000000 in
theorem same_zero : SameC 0 := by
  intro f v1 v2 a b w h1 h2
  obtain ⟨A1, c1, rfl, hm1⟩ := h1.val
  obtain ⟨A2, c2, rfl, hm2⟩ := h2.val
  clear h1 h2
  unfold Nd.val
  have e : sameN 0 a b = false := rfl
  rw [e]
  go_enter Tryz.func50, Tryz.ntmps50
  go_wp2_with fail
  go_ret
  exact ⟨rfl, (((Below.refl _ w).alloc (Nat.le_refl _) _).alloc (by simp) _).alloc (by simp; omega) _⟩

set_option maxRecDepth 100000 in
set_option maxHeartbeats 1000000 in
theorem same_succ (left : Nat) (hl : left < 100) (ih : SameC left) : SameC (left + 1) := by
  intro f v1 v2 a b w h1 h2
  cases f with
  | zero => exact h1.elim
  | succ f =>
  obtain ⟨A1, c1, rfl, ⟨hm1, hcap1⟩, hc1⟩ := h1
  obtain ⟨A2, c2, rfl, ⟨hm2, hcap2⟩, hc2⟩ := h2
  have hb : ∀ o1 o2 o3, Below w.heap.size w (((w.alloc o1).alloc o2).alloc o3) := fun o1 o2 o3 => (((Below.refl _ w).alloc (Nat.le_refl _) _).alloc (by simp) _).alloc (by simp; omega) _
  have HB := Lib.hid hb
  have d0 : decide (((left + 1 : Nat) : Int) > 0) = true := decide_eq_true (by omega)
  have d0' : decide ((0 : Int) < ((left : Int) + 1)) = true := decide_eq_true (by omega)
  unfold Nd.val
  unfold sameN
  cases hk : (a.kind == b.kind) with
  | false =>
    clear hc1 hc2 hb
    go_enter Tryz.func50, Tryz.ntmps50
    go_wp2_with fail
    go_ret
    exact ⟨rfl, HB.out _ _ _⟩
  | true =>
  cases ht : (a.text.toList == b.text.toList) with
  | false =>
    clear hc1 hc2 hb
    go_enter Tryz.func50, Tryz.ntmps50
    go_wp2_with fail
    go_ret
    exact ⟨rfl, HB.out _ _ _⟩
  | true =>
  have hq := fun o1 o2 => equal_c left (by omega) ih f a b A1 A2 c1 c2 (((w.alloc o1).alloc o2).alloc (.cells #[.int .i64 ((left + 1 : Nat) : Int)] 3)) (kidsAt_below (hb _ _ _) hc1) (kidsAt_below (hb _ _ _) hc2) hm1 hm2 (w.heap.size + 1 + 1) (by
    have h := (Whole.new ((w.alloc o1).alloc o2) 3 #[.int .i64 ((left + 1 : Nat) : Int)]).cell 0
    simpa using h)
  have er : (true && true && a.kids.length == b.kids.length && (a.kids.zip b.kids).all fun p => sameN left p.1 p.2) = (a.kids.length == b.kids.length && (a.kids.zip b.kids).all fun p => sameN left p.1 p.2) := by simp
  rw [er]
  clear er
  generalize (a.kids.length == b.kids.length && (a.kids.zip b.kids).all fun p => sameN left p.1 p.2) = r at hq ⊢
  have HQ := Lib.hid hq
  clear hq hc1 hc2 hb ih
  have hmf : ∀ fn first cap w, (Instr.makeFunc fn first cap).run Tryz.prog w = .ok (.func fn first cap) w := fun _ _ _ _ => rfl
  go_enter Tryz.func50, Tryz.ntmps50
  go_wp2_with (go_at_call 84; refine (HQ.out _ _).mono ?_; rintro e w1 ⟨rfl, b1⟩)
  go_ret
  exact ⟨rfl, (HB.out _ _ _).trans (b1.mono (HB.out _ _ _).size)⟩

theorem same_c : ∀ left, left ≤ 100 → SameC left
  | 0, _ => same_zero
  | left + 1, h => same_succ left h (same_c left (by omega))

set_option maxRecDepth 100000 in
set_option maxHeartbeats 1000000 in
/-- tree.Same. -/
theorem same_any (f g : Nat) (v1 v2 : Value) (a b : Nd) (w : World) (h1 : NdV w f v1 a) (h2 : NdV w g v2 b) :
    Calls Tryz.prog 24 #[v1, v2] w fun e w' => e = .returned (.bool (sameN 100 a b)) ∧ Below w.heap.size w w' := by
  have h1' := h1.le (Nat.le_max_left f g)
  have h2' := h2.le (Nat.le_max_right f g)
  obtain ⟨A1, c1, rfl, hm1⟩ := h1.val
  obtain ⟨A2, c2, rfl, hm2⟩ := h2.val
  have hb : ∀ o1 o2, Below w.heap.size w ((w.alloc o1).alloc o2) := fun o1 o2 => ((Below.refl _ w).alloc (Nat.le_refl _) _).alloc (by simp) _
  have hi := fun o1 o2 => same_c 100 (Nat.le_refl _) _ _ _ a b ((w.alloc o1).alloc o2) (h1'.below (hb o1 o2)) (h2'.below (hb o1 o2))
  have HI := Lib.hid hi
  have HB := Lib.hid hb
  clear hi hb h1 h2 h1' h2'
  unfold Nd.val at HI ⊢
  go_enter Tryz.func24, Tryz.ntmps24
  go_wp2_with (go_at_call 50; refine (HI.out _ _).mono ?_; rintro e w1 ⟨rfl, b1⟩)
  go_ret
  exact ⟨rfl, (HB.out _ _).trans (b1.mono (HB.out _ _).size)⟩

end Go.Proofs.YtkmhijkpbmcgbaaGreat
