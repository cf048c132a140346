/-
  Words for memory: a slice of bytes that reads as a list; a block that is known whole; small facts that the walks use.
-/
import Derived.Test.YtfabnfdadadlnaaDoorPure
import Derived.Test.YtfabnfdadadlnaaDoorProg
import Derived.WalkKit
import Derived.WalkSpells
import Derived.WalkLawsBesides
import Derived.Lib.Hide
import Derived.Lib.OthersKept
import Derived.Laws.BytesArg
import Derived.Deep.Draws
namespace Go.Proofs.YtfabnfdadadlnaaDoor
set_option linter.all false
open Go.RowKit

/-- A slice of bytes that reads as a list. -/
def Bts (w : World) (A : Option Addr) (n : Nat) (l : List UInt8) : Prop :=
  l.length = n ∧ (0 < n → ∃ b off, A = some ⟨b, off, none⟩ ∧ ∀ i, i < n → w.cell? ⟨b, off + i, none⟩ = some (.int .u8 ((l.getD i 0).toNat : Int)))

theorem cell_lt {w : World} {p : Addr} {v : Value} (h : w.cell? p = some v) : p.block < w.heap.size := by
  rcases Nat.lt_or_ge p.block w.heap.size with h1 | h1
  · exact h1
  · exfalso
    unfold World.cell? at h
    simp [Array.getElem?_eq_none h1] at h

theorem Bts.keep {w w' : World} {A : Option Addr} {n : Nat} {l : List UInt8} (h : Bts w A n l) (hk : ∀ p : Addr, p.block < w.heap.size → w'.cell? p = w.cell? p) : Bts w' A n l := by
  refine ⟨h.1, fun hn => ?_⟩
  obtain ⟨b, off, hA, hc⟩ := h.2 hn
  exact ⟨b, off, hA, fun i hi => (hk _ (cell_lt (hc i hi))).trans (hc i hi)⟩
theorem Bts.below {w w' : World} {A : Option Addr} {n : Nat} {l : List UInt8} (h : Bts w A n l) (hb : Below w.heap.size w w') : Bts w' A n l :=
  h.keep fun _ hp => hb.cell hp

theorem bcell {W w1 : World} (hb : Below W.heap.size W w1) : (∀ b o, b < W.heap.size → w1.cell? ⟨b, o, none⟩ = W.cell? ⟨b, o, none⟩) ∧ (∀ b o, b < W.heap.size → w1.frozen? ⟨b, o, none⟩ = W.frozen? ⟨b, o, none⟩) :=
  ⟨fun b o h => hb.cell (p := ⟨b, o, none⟩) h, fun b o h => hb.frozen (p := ⟨b, o, none⟩) h⟩

/-- The conversion of such a slice into a string. -/
theorem Bts.string {P : Program} {w : World} {A : Option Addr} {n : Nat} {l : List UInt8} (h : Bts w A n l) (c : Nat) (src e : TypeId) (hs : P.underlying src = some (.slice e)) (he : P.underlying e = some (.int .u8)) :
    ∀ dst, P.underlying dst = some .string → (convert src dst (.slice A n c)).run P w = .ok (.string ⟨l.toArray⟩) w := by
  intro dst hd
  rcases Nat.eq_zero_or_pos n with h0 | h0
  · subst h0
    have : l = [] := List.eq_nil_of_length_eq_zero h.1
    subst this
    rw [run_convert_bytes_string w src dst e _ 0 c hs he hd]
    cases A with
    | none => simp [Conv.bytesToString]; rfl
    | some a =>
      rw [run_bytesToString w a 0 c [] (by simpa using run_loadCells_list (P := P) w a [] (fun j v hj => by simp at hj))]
      rfl
  · obtain ⟨b, off, rfl, hc⟩ := h.2 h0
    have e1 : strOfNums (l.map fun x => (x.toNat : Int)) = ⟨l.toArray⟩ := by
      simp [strOfNums, Function.comp_def]
    rw [← e1]
    refine run_convert_bytes_arg w src e hs he b off n c _ (by simp [h.1]) (fun i hi => ?_) dst hd
    rw [hc i hi]
    simp [List.getD_eq_getElem?_getD, List.getElem?_map, List.getElem?_eq_getElem (show i < l.length by rw [h.1]; exact hi)]

/-- A block that is known whole, and may be written. -/
def Whole (w : World) (g : Nat) (t : TypeId) (cs : Array Value) : Prop := w.heap[g]? = some (.cells cs t (0, 0))
section
variable {w w' : World} {g : Nat} {t : TypeId} {cs : Array Value}
theorem Whole.lt (h : Whole w g t cs) : g < w.heap.size := (Array.getElem?_eq_some_iff.1 h).1
theorem Whole.cell (h : Whole w g t cs) (i : Nat) : w.cell? ⟨g, i, none⟩ = cs[i]? := cell_of_row w g i cs t (0, 0) h
theorem Whole.free (h : Whole w g t cs) (i : Nat) : w.frozen? ⟨g, i, none⟩ = false := by
  unfold Whole at h
  simp [World.frozen?, h]
theorem Whole.new (w : World) (t : TypeId) (cs : Array Value) : Whole (w.alloc (.cells cs t)) w.heap.size t cs := heap_alloc_new w _
theorem Whole.alloc (h : Whole w g t cs) (o : Obj) : Whole (w.alloc o) g t cs := (Below.heap_alloc w o g h.lt).trans h
theorem Whole.drew (h : Whole w g t cs) : Whole w.drew g t cs := h
theorem Whole.put (h : Whole w g t cs) (i : Nat) (u : Value) : Whole (w.setCell ⟨g, i, none⟩ u) g t (cs.setIfInBounds i u) := by
  unfold Whole at h ⊢
  simp [World.setCell, Array.getElem?_modify, h]
theorem Whole.far (h : Whole w g t cs) {p : Addr} (hp : g ≠ p.block) (u : Value) : Whole (w.setCell p u) g t cs := (Below.heap_setCell w p u g hp).trans h
theorem Whole.below {B : Nat} (h : Whole w g t cs) (hb : Below B w w') (hg : g < B) : Whole w' g t cs := (hb.block g hg).trans h
theorem Whole.grown {row : Option Nat} (h : Whole w g t cs) (hb : w.grownBy w' row) (hg : some g ≠ row) : Whole w' g t cs := (hb.block g h.lt hg).trans h
theorem Whole.ne {g' : Nat} {t' : TypeId} {cs' : Array Value} (h : Whole w g t cs) (h' : Whole w g' t' cs') (hne : t ≠ t') : g ≠ g' := by
  rintro rfl
  unfold Whole at h h'
  rw [h] at h'
  injection h' with h'
  injection h' with _ ht
  exact hne ht
end

theorem heap_far {w : World} {p : Addr} {u : Value} {k : Nat} {o : Option Obj} (h : k ≠ p.block) (hk : w.heap[k]? = o) : (w.setCell p u).heap[k]? = o := (Below.heap_setCell w p u k h).trans hk
/-- Only block g, and what is new, has turned. -/
theorem only_alloc {a w : World} {row : Option Nat} (h : a.grownBy w row) (o : Obj) : a.grownBy (w.alloc o) row :=
  ⟨h.os, h.tape, h.output, Nat.le_trans h.size (by simp), fun i hi hne => (Below.heap_alloc w o i (Nat.lt_of_lt_of_le hi h.size)).trans (h.block i hi hne)⟩
theorem only_set {a w : World} {g : Nat} (h : a.grownBy w (some g)) {p : Addr} (hp : p.block = g ∨ a.heap.size ≤ p.block) (u : Value) : a.grownBy (w.setCell p u) (some g) :=
  ⟨h.os, h.tape, h.output, by simpa [World.setCell] using h.size, fun i hi hne => (Below.heap_setCell w p u i (by
    rintro rfl
    rcases hp with hp | hp
    · exact hne (by rw [hp])
    · omega)).trans (h.block i hi hne)⟩
theorem only_iter {a w : World} {row : Option Nat} (h : a.grownBy w row) {k : Nat} (hk : a.heap.size ≤ k) (s : ByteArray) (pos : Nat) : a.grownBy (w.iterAt k s pos) row :=
  ⟨h.os, h.tape, h.output, by rw [Lib.iterAt_size]; exact h.size, fun i hi hne => (Lib.iterAt_other w k i s pos (by omega)).trans (h.block i hi hne)⟩
theorem only_trans {a b c : World} {g : Nat} (h : a.grownBy b (some g)) (k : b.grownBy c (some g)) : a.grownBy c (some g) :=
  ⟨k.os.trans h.os, k.tape.trans h.tape, k.output.trans h.output, Nat.le_trans h.size k.size, fun i hi hne => (k.block i (Nat.lt_of_lt_of_le hi h.size) hne).trans (h.block i hi hne)⟩
theorem Bts.grown {w w' : World} {A : Option Addr} {n : Nat} {l : List UInt8} {g : Nat} {t : TypeId} {cs : Array Value} (h : Bts w A n l) (hg : w.grownBy w' (some g)) (hw : Whole w g t cs)
    (hne : ∀ b off, A = some ⟨b, off, none⟩ → 0 < n → b ≠ g) : Bts w' A n l := by
  refine ⟨h.1, fun hn => ?_⟩
  obtain ⟨b, off, hA, hc⟩ := h.2 hn
  exact ⟨b, off, hA, fun i hi => hg.cell (hc i hi) (fun e => hne b off hA hn (by simpa using e))⟩

end Go.Proofs.YtfabnfdadadlnaaDoor
