/-
  Words for memory: a block that is known whole; a value that reads as a tree of nodes.
-/
import Derived.Test.YtkmhijkpbmcgbaaGreatPure
import Derived.Test.YtkmhijkpbmcgbaaGreatProg
import Derived.WalkKit
import Derived.WalkSpells
import Derived.WalkLawsBesides
import Derived.Lib.Hide
import Derived.Lib.OthersKept
import Derived.Deep.Draws
namespace Go.Proofs.YtkmhijkpbmcgbaaGreat
set_option linter.all false
open Go.RowKit

theorem wrap64_small {n : Int} (h0 : 0 ≤ n) (h1 : n < 9223372036854775808) : wrap64 n = n := by unfold wrap64; omega
theorem wrap64_add (a b : Int) : wrap64 (wrap64 a + wrap64 b) = wrap64 (a + b) := by unfold wrap64; omega
theorem wrap64_add1 (a b : Int) : wrap64 (wrap64 a + b) = wrap64 (a + b) := by unfold wrap64; omega

theorem cell_lt {w : World} {p : Addr} {v : Value} (h : w.cell? p = some v) : p.block < w.heap.size := by
  rcases Nat.lt_or_ge p.block w.heap.size with h1 | h1
  · exact h1
  · exfalso
    unfold World.cell? at h
    simp [Array.getElem?_eq_none h1] at h

theorem bcell {W w1 : World} (hb : Below W.heap.size W w1) : (∀ b o, b < W.heap.size → w1.cell? ⟨b, o, none⟩ = W.cell? ⟨b, o, none⟩) ∧ (∀ b o, b < W.heap.size → w1.frozen? ⟨b, o, none⟩ = W.frozen? ⟨b, o, none⟩) :=
  ⟨fun b o h => hb.cell (p := ⟨b, o, none⟩) h, fun b o h => hb.frozen (p := ⟨b, o, none⟩) h⟩

/-- A block that is known whole, and may be written. -/
def Whole (w : World) (g : Nat) (t : TypeId) (cs : Array Value) : Prop := w.heap[g]? = some (.cells cs t (0, 0))
section
variable {w w' : World} {g : Nat} {t : TypeId} {cs : Array Value}
theorem Whole.lt (h : Whole w g t cs) : g < w.heap.size := (Array.getElem?_eq_some_iff.1 h).1
theorem Whole.cell (h : Whole w g t cs) (i : Nat) : w.cell? ⟨g, i, none⟩ = cs[i]? := cell_of_row w g i cs t (0, 0) h
theorem Whole.free (h : Whole w g t cs) (i : Nat) : w.frozen? ⟨g, i, none⟩ = false := by
  unfold Whole at h
  simp [World.frozen?, h]
theorem Whole.new (w : World) (t : TypeId) (cs : Array Value) : Whole (w.alloc (.cells cs t)) w.heap.size t cs := heap_alloc_new w _
theorem Whole.alloc (h : Whole w g t cs) (o : Obj) : Whole (w.alloc o) g t cs := (Below.heap_alloc w o g h.lt).trans h
theorem Whole.drew (h : Whole w g t cs) : Whole w.drew g t cs := h
theorem Whole.put (h : Whole w g t cs) (i : Nat) (u : Value) : Whole (w.setCell ⟨g, i, none⟩ u) g t (cs.setIfInBounds i u) := by
  unfold Whole at h ⊢
  simp [World.setCell, Array.getElem?_modify, h]
theorem Whole.far (h : Whole w g t cs) {p : Addr} (hp : g ≠ p.block) (u : Value) : Whole (w.setCell p u) g t cs := (Below.heap_setCell w p u g hp).trans h
theorem Whole.below {B : Nat} (h : Whole w g t cs) (hb : Below B w w') (hg : g < B) : Whole w' g t cs := (hb.block g hg).trans h
theorem Whole.grown {row : Option Nat} (h : Whole w g t cs) (hb : w.grownBy w' row) (hg : some g ≠ row) : Whole w' g t cs := (hb.block g h.lt hg).trans h
theorem Whole.ne {g' : Nat} {t' : TypeId} {cs' : Array Value} (h : Whole w g t cs) (h' : Whole w g' t' cs') (hne : t ≠ t') : g ≠ g' := by
  rintro rfl
  unfold Whole at h h'
  rw [h] at h'
  injection h' with h'
  injection h' with _ ht
  exact hne ht
end

theorem heap_far {w : World} {p : Addr} {u : Value} {k : Nat} {o : Option Obj} (h : k ≠ p.block) (hk : w.heap[k]? = o) : (w.setCell p u).heap[k]? = o := (Below.heap_setCell w p u k h).trans hk
/-- Only block g, and what is new, has turned. -/
theorem only_alloc {a w : World} {row : Option Nat} (h : a.grownBy w row) (o : Obj) : a.grownBy (w.alloc o) row :=
  ⟨h.os, h.tape, h.output, Nat.le_trans h.size (by simp), fun i hi hne => (Below.heap_alloc w o i (Nat.lt_of_lt_of_le hi h.size)).trans (h.block i hi hne)⟩
theorem only_set {a w : World} {g : Nat} (h : a.grownBy w (some g)) {p : Addr} (hp : p.block = g ∨ a.heap.size ≤ p.block) (u : Value) : a.grownBy (w.setCell p u) (some g) :=
  ⟨h.os, h.tape, h.output, by simpa [World.setCell] using h.size, fun i hi hne => (Below.heap_setCell w p u i (by
    rintro rfl
    rcases hp with hp | hp
    · exact hne (by rw [hp])
    · omega)).trans (h.block i hi hne)⟩
theorem only_iter {a w : World} {row : Option Nat} (h : a.grownBy w row) {k : Nat} (hk : a.heap.size ≤ k) (s : ByteArray) (pos : Nat) : a.grownBy (w.iterAt k s pos) row :=
  ⟨h.os, h.tape, h.output, by rw [Lib.iterAt_size]; exact h.size, fun i hi hne => (Lib.iterAt_other w k i s pos (by omega)).trans (h.block i hi hne)⟩
theorem only_trans {a b c : World} {g : Nat} (h : a.grownBy b (some g)) (k : b.grownBy c (some g)) : a.grownBy c (some g) :=
  ⟨k.os.trans h.os, k.tape.trans h.tape, k.output.trans h.output, Nat.le_trans h.size k.size, fun i hi hne => (k.block i (Nat.lt_of_lt_of_le hi h.size) hne).trans (h.block i hi hne)⟩

/-- A node's four cells. -/
def Nd.val (n : Nd) (A : Option Addr) (c : Nat) : Value := .agg #[.int .i64 n.kind, .string n.text, .slice A n.kids.length c, .int .i64 n.place]

/-- So many kids a slice may hold, and this one has room for them. -/
def CapOk (n : Nd) (c : Nat) : Prop := n.kids.length ≤ maxLen ∧ n.kids.length ≤ c
/-- A value that reads as a tree of nodes, at most so many within one another. -/
def NdV (w : World) : Nat → Value → Nd → Prop
  | 0, _, _ => False
  | f + 1, v, n => ∃ A c, v = n.val A c ∧ CapOk n c ∧ (0 < n.kids.length → ∃ b off, A = some ⟨b, off, none⟩ ∧ ∀ i k, n.kids[i]? = some k → ∃ A' c',
      w.cell? ⟨b, off + i * 4, none⟩ = some (.int .i64 k.kind) ∧ w.cell? ⟨b, off + i * 4 + 1, none⟩ = some (.string k.text) ∧
      w.cell? ⟨b, off + i * 4 + 2, none⟩ = some (.slice A' k.kids.length c') ∧ w.cell? ⟨b, off + i * 4 + 3, none⟩ = some (.int .i64 k.place) ∧ NdV w f (k.val A' c') k)

theorem NdV.keep {w w' : World} (hk : ∀ p v, w.cell? p = some v → w'.cell? p = some v) : ∀ {f : Nat} {v : Value} {n : Nd}, NdV w f v n → NdV w' f v n
  | 0, _, _, h => h.elim
  | f + 1, v, n, ⟨A, c, hv, hl, hc⟩ => ⟨A, c, hv, hl, fun h0 => by
      obtain ⟨b, off, hA, hi⟩ := hc h0
      refine ⟨b, off, hA, fun i k hik => ?_⟩
      obtain ⟨A', c', h1, h2, h3, h4, h5⟩ := hi i k hik
      exact ⟨A', c', hk _ _ h1, hk _ _ h2, hk _ _ h3, hk _ _ h4, NdV.keep hk h5⟩⟩
theorem NdV.below {w w' : World} (hb : Below w.heap.size w w') {f : Nat} {v : Value} {n : Nd} (h : NdV w f v n) : NdV w' f v n :=
  h.keep fun _ _ hp => (hb.cell (cell_lt hp)).trans hp
theorem NdV.val {w : World} {f : Nat} {v : Value} {n : Nd} (h : NdV w f v n) : ∃ A c, v = n.val A c ∧ n.kids.length ≤ maxLen := by
  cases f with
  | zero => exact h.elim
  | succ f => obtain ⟨A, c, hv, hl, _⟩ := h; exact ⟨A, c, hv, hl.1⟩
theorem NdV.cap {w : World} {f : Nat} {A : Option Addr} {c : Nat} {n : Nd} (h : NdV w f (n.val A c) n) : n.kids.length ≤ c := by
  cases f with
  | zero => exact h.elim
  | succ f =>
    obtain ⟨A', c', e, hl, _⟩ := h
    unfold Nd.val at e
    simp only [Value.agg.injEq, Array.mk.injEq, List.cons.injEq, Value.slice.injEq] at e
    rw [e.2.2.1.2.2]
    exact hl.2
theorem NdV.up {w : World} : ∀ {f : Nat} {v : Value} {n : Nd}, NdV w f v n → NdV w (f + 1) v n
  | 0, _, _, h => h.elim
  | f + 1, v, n, ⟨A, c, hv, hl, hc⟩ => ⟨A, c, hv, hl, fun h0 => by
      obtain ⟨b, off, hA, hi⟩ := hc h0
      refine ⟨b, off, hA, fun i k hik => ?_⟩
      obtain ⟨A', c', h1, h2, h3, h4, h5⟩ := hi i k hik
      exact ⟨A', c', h1, h2, h3, h4, NdV.up h5⟩⟩
theorem NdV.le {w : World} {f g : Nat} {v : Value} {n : Nd} (h : NdV w f v n) (hg : f ≤ g) : NdV w g v n := by
  induction hg with
  | refl => exact h
  | step _ ih => exact ih.up

theorem take_snoc {α : Type} {l : List α} {p : Nat} {k : α} (h : l[p]? = some k) : l.take (p + 1) = l.take p ++ [k] := by
  rw [List.take_add_one, h]
  rfl
theorem flat_snoc {α β : Type} (g : α → List β) {l : List α} {p : Nat} {k : α} (h : l[p]? = some k) : (l.take (p + 1)).flatMap g = (l.take p).flatMap g ++ g k := by
  rw [take_snoc h]
  simp
theorem flat_le {α β : Type} (g : α → List β) (l : List α) (p : Nat) : ((l.take p).flatMap g).length ≤ (l.flatMap g).length := by
  have : l.flatMap g = (l.take p).flatMap g ++ (l.drop p).flatMap g := by rw [← List.flatMap_append, List.take_append_drop]
  rw [this, List.length_append]
  omega

/-- The cells of a kid, later. -/
theorem kid_cells {w W : World} {f : Nat} {n : Nd} {A : Option Addr} {p : Nat} (hc : 0 < n.kids.length → ∃ b off, A = some ⟨b, off, none⟩ ∧ ∀ i k, n.kids[i]? = some k → ∃ A' c',
      w.cell? ⟨b, off + i * 4, none⟩ = some (.int .i64 k.kind) ∧ w.cell? ⟨b, off + i * 4 + 1, none⟩ = some (.string k.text) ∧
      w.cell? ⟨b, off + i * 4 + 2, none⟩ = some (.slice A' k.kids.length c') ∧ w.cell? ⟨b, off + i * 4 + 3, none⟩ = some (.int .i64 k.place) ∧ NdV w f (k.val A' c') k)
    (hb : Below w.heap.size w W) (hp : p < n.kids.length) : ∃ b off k A' c', A = some ⟨b, off, none⟩ ∧ n.kids[p]? = some k ∧ b < w.heap.size ∧
      W.cell? ⟨b, off + p * 4, none⟩ = some (.int .i64 k.kind) ∧ W.cell? ⟨b, off + p * 4 + 1, none⟩ = some (.string k.text) ∧
      W.cell? ⟨b, off + p * 4 + 2, none⟩ = some (.slice A' k.kids.length c') ∧ W.cell? ⟨b, off + p * 4 + 3, none⟩ = some (.int .i64 k.place) ∧ NdV w f (k.val A' c') k := by
  obtain ⟨b, off, hA, hi⟩ := hc (by omega)
  obtain ⟨k, hk⟩ : ∃ k, n.kids[p]? = some k := ⟨_, List.getElem?_eq_getElem hp⟩
  obtain ⟨A', c', h1, h2, h3, h4, h5⟩ := hi p k hk
  exact ⟨b, off, k, A', c', hA, hk, cell_lt h1, (hb.cell (cell_lt h1)).trans h1, (hb.cell (cell_lt h2)).trans h2, (hb.cell (cell_lt h3)).trans h3, (hb.cell (cell_lt h4)).trans h4, h5⟩

end Go.Proofs.YtkmhijkpbmcgbaaGreat
