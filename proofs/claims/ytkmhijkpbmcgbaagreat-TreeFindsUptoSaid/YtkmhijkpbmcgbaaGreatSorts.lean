/-
  The program's sorts: its walk; what is found in it.
-/
import Derived.Test.YtkmhijkpbmcgbaaGreatWake
import Derived.Maps.OwnSet
namespace Go.Proofs.YtkmhijkpbmcgbaaGreat
set_option linter.all false
open Go.RowKit Go.Shelf Go.Maps

/-- How a function value reads, here: by its number. -/
def RF : Value → Option (DataW Unit × List MemPlace)
  | .func (.func g) a b => if a.size = 0 ∧ b.size = 0 then some (.lit (.int .i64 g), []) else none
  | .nilFunc => some (.nil, [])
  | _ => none
theorem RF_inv {v : Value} {g : Int} {ps : List MemPlace} (h : RF v = some (.lit (.int .i64 g), ps)) : ∃ k : Nat, (k : Int) = g ∧ v = .func (.func k) #[] #[] := by
  unfold RF at h
  split at h
  · split at h
    · rename_i g' a b hab
      simp only [Option.some.injEq, Prod.mk.injEq, DataW.lit.injEq, Lit.int.injEq, true_and] at h
      exact ⟨g', h.1, by rw [Array.eq_empty_of_size_eq_zero hab.1, Array.eq_empty_of_size_eq_zero hab.2]⟩
    · cases h
  · simp at h
  · cases h
def sortsD : DataW Unit := (DataW.put (DataW.put (DataW.put (DataW.put (DataW.put (DataW.put (DataW.map []) (.string [102, 105, 108, 101]) (.lit (.int .i64 28))) (.string [100, 101, 99, 108, 97, 114, 97, 116, 105, 111, 110]) (.lit (.int .i64 31))) (.string [116, 121, 112, 101]) (.lit (.int .i64 32))) (.string [101, 120, 112, 114, 101, 115, 115, 105, 111, 110]) (.lit (.int .i64 33))) (.string [115, 116, 97, 116, 101, 109, 101, 110, 116]) (.lit (.int .i64 34))) (.string [115, 105, 103, 110, 97, 116, 117, 114, 101]) (.lit (.int .i64 35)))

set_option maxRecDepth 100000 in
set_option maxHeartbeats 1000000 in
theorem sorts_any (w : World) : Calls Tryz.prog 16 #[] w fun e w' => e = .returned (.map (some w.heap.size)) ∧ w'.ownsMap Tryz.prog 9 RF w.heap.size 6 sortsD ∧ Below w.heap.size w w' := by
  have hmm := @run_makeMap Tryz.prog
  have K := string_keyed (P := Tryz.prog) Tryz.underlying9
  have o0 := World.ownsMap_made w Tryz.prog 9 RF
  have b0 : Below w.heap.size w (w.alloc (.map #[] 0)) := (Below.refl _ w).alloc (Nat.le_refl _) _
  obtain ⟨w1, h1, o1, g1⟩ := o0.update K Tryz.underlying35 (by simp only [maxLen]; omega) (key := .string ⟨#[102, 105, 108, 101]⟩) (val := .func (.func 28) #[] #[]) (kl := .string [102, 105, 108, 101]) (d := .lit (.int .i64 28)) (ps := []) (by rfl) (by rfl)
  have b1 := b0.grown g1 b0.size (fun k e => by cases e; exact Nat.le_refl _)
  obtain ⟨w2, h2, o2, g2⟩ := o1.update K Tryz.underlying35 (by simp only [maxLen]; omega) (key := .string ⟨#[100, 101, 99, 108, 97, 114, 97, 116, 105, 111, 110]⟩) (val := .func (.func 31) #[] #[]) (kl := .string [100, 101, 99, 108, 97, 114, 97, 116, 105, 111, 110]) (d := .lit (.int .i64 31)) (ps := []) (by rfl) (by rfl)
  have b2 := b1.grown g2 b1.size (fun k e => by cases e; exact Nat.le_refl _)
  obtain ⟨w3, h3, o3, g3⟩ := o2.update K Tryz.underlying35 (by simp only [maxLen]; omega) (key := .string ⟨#[116, 121, 112, 101]⟩) (val := .func (.func 32) #[] #[]) (kl := .string [116, 121, 112, 101]) (d := .lit (.int .i64 32)) (ps := []) (by rfl) (by rfl)
  have b3 := b2.grown g3 b2.size (fun k e => by cases e; exact Nat.le_refl _)
  obtain ⟨w4, h4, o4, g4⟩ := o3.update K Tryz.underlying35 (by simp only [maxLen]; omega) (key := .string ⟨#[101, 120, 112, 114, 101, 115, 115, 105, 111, 110]⟩) (val := .func (.func 33) #[] #[]) (kl := .string [101, 120, 112, 114, 101, 115, 115, 105, 111, 110]) (d := .lit (.int .i64 33)) (ps := []) (by rfl) (by rfl)
  have b4 := b3.grown g4 b3.size (fun k e => by cases e; exact Nat.le_refl _)
  obtain ⟨w5, h5, o5, g5⟩ := o4.update K Tryz.underlying35 (by simp only [maxLen]; omega) (key := .string ⟨#[115, 116, 97, 116, 101, 109, 101, 110, 116]⟩) (val := .func (.func 34) #[] #[]) (kl := .string [115, 116, 97, 116, 101, 109, 101, 110, 116]) (d := .lit (.int .i64 34)) (ps := []) (by rfl) (by rfl)
  have b5 := b4.grown g5 b4.size (fun k e => by cases e; exact Nat.le_refl _)
  obtain ⟨w6, h6, o6, g6⟩ := o5.update K Tryz.underlying35 (by simp only [maxLen]; omega) (key := .string ⟨#[115, 105, 103, 110, 97, 116, 117, 114, 101]⟩) (val := .func (.func 35) #[] #[]) (kl := .string [115, 105, 103, 110, 97, 116, 117, 114, 101]) (d := .lit (.int .i64 35)) (ps := []) (by rfl) (by rfl)
  have b6 := b5.grown g6 b5.size (fun k e => by cases e; exact Nat.le_refl _)
  have B := Lib.hid b6
  have O := Lib.hid o6
  clear b0 b1 b2 b3 b4 b5 b6 o0 o1 o2 o3 o4 o5 o6 g1 g2 g3 g4 g5 g6 K
  go_enter Tryz.func16, Tryz.ntmps16
  go_wp2_with fail
  go_ret
  exact ⟨rfl, O.out, B.out⟩

set_option maxRecDepth 100000 in
theorem look_expr (w : World) (b n : Nat) (h : w.ownsMap Tryz.prog 9 RF b n sortsD) : (Instr.lookup 35 (.map (some b)) (.string ⟨#[101, 120, 112, 114, 101, 115, 115, 105, 111, 110]⟩) true).run Tryz.prog w = .ok (.tuple #[.func (.func 33) #[] #[], .bool true]) w := by
  obtain ⟨v, ps, hrun, hv⟩ := h.look_ok (string_keyed (P := Tryz.prog) Tryz.underlying9) Tryz.underlying35 (z := .nilFunc) (zd := .nil) (zp := []) (by rfl) (by rfl) (key := .string ⟨#[101, 120, 112, 114, 101, 115, 115, 105, 111, 110]⟩) (kl := .string [101, 120, 112, 114, 101, 115, 115, 105, 111, 110]) (by rfl)
  have e1 : has sortsD (.string [101, 120, 112, 114, 101, 115, 115, 105, 111, 110]) = true := by rfl
  have e2 : sortsD.atKey (.string [101, 120, 112, 114, 101, 115, 115, 105, 111, 110]) .nil = .lit (.int .i64 33) := by rfl
  rw [e2] at hv
  rw [e1] at hrun
  obtain ⟨g, hg, rfl⟩ := RF_inv hv
  obtain rfl : g = 33 := by omega
  exact hrun

set_option maxRecDepth 100000 in
theorem look_type (w : World) (b n : Nat) (h : w.ownsMap Tryz.prog 9 RF b n sortsD) : (Instr.lookup 35 (.map (some b)) (.string ⟨#[116, 121, 112, 101]⟩) true).run Tryz.prog w = .ok (.tuple #[.func (.func 32) #[] #[], .bool true]) w := by
  obtain ⟨v, ps, hrun, hv⟩ := h.look_ok (string_keyed (P := Tryz.prog) Tryz.underlying9) Tryz.underlying35 (z := .nilFunc) (zd := .nil) (zp := []) (by rfl) (by rfl) (key := .string ⟨#[116, 121, 112, 101]⟩) (kl := .string [116, 121, 112, 101]) (by rfl)
  have e1 : has sortsD (.string [116, 121, 112, 101]) = true := by rfl
  have e2 : sortsD.atKey (.string [116, 121, 112, 101]) .nil = .lit (.int .i64 32) := by rfl
  rw [e2] at hv
  rw [e1] at hrun
  obtain ⟨g, hg, rfl⟩ := RF_inv hv
  obtain rfl : g = 32 := by omega
  exact hrun

end Go.Proofs.YtkmhijkpbmcgbaaGreat
