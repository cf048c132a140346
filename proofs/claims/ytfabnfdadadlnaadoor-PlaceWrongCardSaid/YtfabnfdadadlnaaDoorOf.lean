/-
  place.Of, place.At, place.Lines, the reference's Of and Lines: walks.
-/
import Derived.Test.YtfabnfdadadlnaaDoorPlace
import Derived.Test.YtfabnfdadadlnaaDoorSign
namespace Go.Proofs.YtfabnfdadadlnaaDoor
set_option linter.all false
open Go.RowKit

/-- A byte's place: nothing outside. -/
def plc (l : List UInt8) (a : Int) : Nat × Nat := if a < 0 ∨ (l.length : Int) < a then (0, 0) else Pl.ofB l a.toNat

theorem makeFunc_run : ∀ (fn : Fn) (first cap : Array Value) (w : World), (Instr.makeFunc fn first cap).run Tryd.prog w = .ok (.func fn first cap) w := fun _ _ _ _ => rfl

set_option maxRecDepth 100000 in
set_option maxHeartbeats 400000 in
theorem of_out (A : Option Addr) (n c : Nat) (l : List UInt8) (a : Int) (w : World) (hl : l.length = n) (ha : a < 0 ∨ (n : Int) < a) :
    Calls Tryd.prog 12 #[.slice A n c, .int .i64 a] w fun e w' => e = .returned (.agg #[.int .i64 (plc l a).1, .int .i64 (plc l a).2]) ∧ Below w.heap.size w w' := by
  have hp : plc l a = (0, 0) := by unfold plc; rw [if_pos (by rw [hl]; exact ha)]
  rw [hp]
  clear hp
  have hl' := Lib.hid hl
  clear hl
  by_cases h0 : a < 0
  · have d1 : decide (a < 0) = true := by simpa using h0
    clear ha
    go_enter Tryd.func12, Tryd.ntmps12
    go_wp2
    refine bodyPost_ret (v := .agg #[.int .i64 0, .int .i64 0]) (by simp [results, Tryd.results12, go_sem]) rfl ⟨rfl, ?_⟩
    exact (((Below.refl _ w).alloc (Nat.le_refl _) _).alloc (by simp) _).alloc (by simp; omega) _
  · have ha' : (n : Int) < a := by omega
    clear ha
    have d1 : decide (a < 0) = false := by simpa using h0
    have d2 : decide ((n : Int) < a) = true := by simpa using ha'
    go_enter Tryd.func12, Tryd.ntmps12
    go_wp2
    refine bodyPost_ret (v := .agg #[.int .i64 0, .int .i64 0]) (by simp [results, Tryd.results12, go_sem]) rfl ⟨rfl, ?_⟩
    exact (((Below.refl _ w).alloc (Nat.le_refl _) _).alloc (by simp) _).alloc (by simp; omega) _

set_option maxRecDepth 100000 in
set_option maxHeartbeats 400000 in
theorem of_in (A : Option Addr) (n c : Nat) (l : List UInt8) (a : Nat) (w : World) (hb : Bts w A n l) (hn : n ≤ 1000) (ha : a ≤ n) :
    Calls Tryd.prog 12 #[.slice A n c, .int .i64 a] w fun e w' => e = .returned (.agg #[.int .i64 (Pl.ofB l a).1, .int .i64 (Pl.ofB l a).2]) ∧ Below w.heap.size w w' := by
  have hmf := makeFunc_run
  have d2 : decide ((n : Int) < a) = false := by simp; omega
  have hb1 : Bts (((w.alloc (.cells #[.int .i64 a] 3)).alloc (.cells #[.int .i64 0, .int .i64 0] 32)).alloc (.cells #[.int .i64 0, .int .i64 0] 32)) A n l :=
    hb.below ((((Below.refl _ w).alloc (Nat.le_refl _) _).alloc (by simp) _).alloc (by simp; omega) _)
  have hA : ∀ b off, A = some ⟨b, off, none⟩ → 0 < n → b ≠ w.heap.size + 2 := by
    intro b off hA h0 e
    obtain ⟨b', off', hA', hc⟩ := hb.2 h0
    have := cell_lt (hc 0 h0)
    rw [hA] at hA'
    injection hA' with hA'
    injection hA' with h1 _ _
    simp at this
    omega
  have ho : Whole (((w.alloc (.cells #[.int .i64 a] 3)).alloc (.cells #[.int .i64 0, .int .i64 0] 32)).alloc (.cells #[.int .i64 0, .int .i64 0] 32)) (w.heap.size + 2) 32 #[.int .i64 0, .int .i64 0] := by
    have := Whole.new ((w.alloc (.cells #[.int .i64 a] 3)).alloc (.cells #[.int .i64 0, .int .i64 0] 32)) 32 #[.int .i64 0, .int .i64 0]
    simpa using this
  have hw1 : Whole (((w.alloc (.cells #[.int .i64 a] 3)).alloc (.cells #[.int .i64 0, .int .i64 0] 32)).alloc (.cells #[.int .i64 0, .int .i64 0] 32)) (w.heap.size + 1) 32 #[.int .i64 0, .int .i64 0] := by
    have := (Whole.new (w.alloc (.cells #[.int .i64 a] 3)) 32 #[.int .i64 0, .int .i64 0]).alloc (.cells #[.int .i64 0, .int .i64 0] 32)
    simpa using this
  have hwa : Whole (((w.alloc (.cells #[.int .i64 a] 3)).alloc (.cells #[.int .i64 0, .int .i64 0] 32)).alloc (.cells #[.int .i64 0, .int .i64 0] 32)) w.heap.size 3 #[.int .i64 a] :=
    ((Whole.new w 3 #[.int .i64 a]).alloc _).alloc _
  have hbel : Below w.heap.size w (((w.alloc (.cells #[.int .i64 a] 3)).alloc (.cells #[.int .i64 0, .int .i64 0] 32)).alloc (.cells #[.int .i64 0, .int .i64 0] 32)) :=
    ((((Below.refl _ w).alloc (Nat.le_refl _) _).alloc (by simp) _).alloc (by simp; omega) _)
  have hcon := starts_of A n c l a _ _ _ _ _ hb1 hn ho hwa ha hA
  have HC := Lib.hid hcon
  clear hcon hb1 hA
  go_enter Tryd.func12, Tryd.ntmps12
  go_wp2_with (go_at_call 17; refine HC.out.mono ?_; rintro e w2 ⟨rfl, ho2, hg2⟩; have hw2 := hw1.grown hg2 (by simp); have c0 := ho2.cell 0; have c1 := ho2.cell 1; simp at c0 c1; have f0 := hw2.free 0; have f1 := hw2.free 1; have e0 := hw2.cell 0; have e1 := hw2.cell 1; simp at e0 e1; have hz2 := hw2.lt)
  refine bodyPost_ret (v := .agg #[.int .i64 (Pl.ofB l a).1, .int .i64 (Pl.ofB l a).2]) (by simp [results, Tryd.results12, go_sem, e0, e1, hz2]) rfl ⟨rfl, ?_⟩
  exact ((hbel.grown hg2 (by simp; omega) (fun k hk => by injection hk with hk; omega)).setCell (by simp) _).setCell (by simp) _

/-- What place.Of answers. -/
theorem of_any (A : Option Addr) (n c : Nat) (l : List UInt8) (a : Int) (w : World) (hb : Bts w A n l) (hn : n ≤ 1000) :
    Calls Tryd.prog 12 #[.slice A n c, .int .i64 a] w fun e w' => e = .returned (.agg #[.int .i64 (plc l a).1, .int .i64 (plc l a).2]) ∧ Below w.heap.size w w' := by
  by_cases h : a < 0 ∨ (n : Int) < a
  · exact of_out A n c l a w hb.1 h
  · obtain ⟨k, rfl⟩ := Int.eq_ofNat_of_zero_le (show 0 ≤ a by omega)
    have := of_in A n c l k w hb hn (by omega)
    have e : plc l (k : Int) = Pl.ofB l k := by
      unfold plc
      rw [if_neg (by rw [hb.1]; exact h)]
      simp
    rw [e]
    exact this

end Go.Proofs.YtfabnfdadadlnaaDoor
