/-
  A value that reads as a tree of nodes, with a word on where its rows lie; a row of nodes that the call owns.
-/
import Derived.Test.YtkmhijkpbmcgbaaGreatWords
import Derived.Deep.AppendLies
namespace Go.Proofs.YtkmhijkpbmcgbaaGreat
set_option linter.all false
open Go.RowKit

def NdP (S : Nat → Nat → Prop) (w : World) : Nat → Nat → Value → Nd → Prop
  | _, 0, _, _ => False
  | d, f + 1, v, n => ∃ A c, v = n.val A c ∧ CapOk n c ∧ (0 < n.kids.length → ∃ b off, A = some ⟨b, off, none⟩ ∧ S d b ∧ ∀ i k, n.kids[i]? = some k → ∃ A' c',
      w.cell? ⟨b, off + i * 4, none⟩ = some (.int .i64 k.kind) ∧ w.cell? ⟨b, off + i * 4 + 1, none⟩ = some (.string k.text) ∧
      w.cell? ⟨b, off + i * 4 + 2, none⟩ = some (.slice A' k.kids.length c') ∧ w.cell? ⟨b, off + i * 4 + 3, none⟩ = some (.int .i64 k.place) ∧ NdP S w (d - 1) f (k.val A' c') k)

theorem NdP.ndv {S : Nat → Nat → Prop} {w : World} : ∀ {d f : Nat} {v : Value} {n : Nd}, NdP S w d f v n → NdV w f v n
  | _, 0, _, _, h => h.elim
  | d, f + 1, v, n, ⟨A, c, hv, hl, hc⟩ => ⟨A, c, hv, hl, fun h0 => by
      obtain ⟨b, off, hA, _, hi⟩ := hc h0
      refine ⟨b, off, hA, fun i k hik => ?_⟩
      obtain ⟨A', c', h1, h2, h3, h4, h5⟩ := hi i k hik
      exact ⟨A', c', h1, h2, h3, h4, NdP.ndv h5⟩⟩
theorem NdV.ndp {w : World} : ∀ {d f : Nat} {v : Value} {n : Nd}, NdV w f v n → NdP (fun _ b => b < w.heap.size) w d f v n
  | _, 0, _, _, h => h.elim
  | d, f + 1, v, n, ⟨A, c, hv, hl, hc⟩ => ⟨A, c, hv, hl, fun h0 => by
      obtain ⟨b, off, hA, hi⟩ := hc h0
      refine ⟨b, off, hA, ?_, fun i k hik => ?_⟩
      · obtain ⟨A', c', h1, _⟩ := hi 0 _ (List.getElem?_eq_getElem h0)
        exact cell_lt h1
      · obtain ⟨A', c', h1, h2, h3, h4, h5⟩ := hi i k hik
        exact ⟨A', c', h1, h2, h3, h4, NdV.ndp h5⟩⟩
theorem NdP.keep {S S' : Nat → Nat → Prop} {w w' : World} (hk : ∀ d b, S d b → S' d b ∨ w.heap.size ≤ b) (hc : ∀ d b o v, S d b → w.cell? ⟨b, o, none⟩ = some v → w'.cell? ⟨b, o, none⟩ = some v) :
    ∀ {d f : Nat} {v : Value} {n : Nd}, NdP S w d f v n → NdP S' w' d f v n
  | _, 0, _, _, h => h.elim
  | d, f + 1, v, n, ⟨A, c, hv, hl, h⟩ => ⟨A, c, hv, hl, fun h0 => by
      obtain ⟨b, off, hA, hS, hi⟩ := h h0
      refine ⟨b, off, hA, ?_, fun i k hik => ?_⟩
      · obtain ⟨A', c', h1, _⟩ := hi 0 _ (List.getElem?_eq_getElem h0)
        have := cell_lt h1
        rcases hk d b hS with h2 | h2
        · exact h2
        · simp at this; omega
      · obtain ⟨A', c', h1, h2, h3, h4, h5⟩ := hi i k hik
        exact ⟨A', c', hc d b _ _ hS h1, hc d b _ _ hS h2, hc d b _ _ hS h3, hc d b _ _ hS h4, NdP.keep hk hc h5⟩⟩
theorem NdP.below {S : Nat → Nat → Prop} {w w' : World} (hb : Below w.heap.size w w') {d f : Nat} {v : Value} {n : Nd} (h : NdP S w d f v n) : NdP S w' d f v n :=
  h.keep (fun _ _ hs => .inl hs) fun _ _ _ _ _ hp => (hb.cell (cell_lt hp)).trans hp
theorem NdP.weak {S S' : Nat → Nat → Prop} {w : World} (hs : ∀ d b, S d b → S' d b) {d f : Nat} {v : Value} {n : Nd} (h : NdP S w d f v n) : NdP S' w d f v n :=
  h.keep (fun _ _ h => .inl (hs _ _ h)) fun _ _ _ _ _ hp => hp

theorem NdP.far {S : Nat → Nat → Prop} {w : World} {d f : Nat} {v : Value} {n : Nd} (h : NdP S w d f v n) (p : Addr) (u : Value) (hS : ∀ d b, S d b → b ≠ p.block) : NdP S (w.setCell p u) d f v n :=
  h.keep (fun _ _ hs => .inl hs) fun d b o u' hs hu => by
    have hg : w.grownBy (w.setCell p u) (some p.block) := ⟨rfl, rfl, rfl, by simp [World.setCell], fun i hi hne => Below.heap_setCell w p u i (fun e => hne (by rw [e]))⟩
    exact hg.cell hu (by simp; exact hS d b hs)
theorem NdP.zero {S S' : Nat → Nat → Prop} {w : World} (hs : ∀ b, S 0 b → S' 0 b) : ∀ {f : Nat} {v : Value} {n : Nd}, NdP S w 0 f v n → NdP S' w 0 f v n
  | 0, _, _, h => h.elim
  | f + 1, v, n, ⟨A, c, hv, hl, h⟩ => ⟨A, c, hv, hl, fun h0 => by
      obtain ⟨b, off, hA, hS, hi⟩ := h h0
      refine ⟨b, off, hA, hs b hS, fun i k hik => ?_⟩
      obtain ⟨A', c', h1, h2, h3, h4, h5⟩ := hi i k hik
      exact ⟨A', c', h1, h2, h3, h4, NdP.zero hs h5⟩⟩
theorem NdP.and_lt {S : Nat → Prop} {w : World} {d f : Nat} {v : Value} {n : Nd} (h : NdP (fun _ => S) w d f v n) : NdP (fun _ b => S b ∧ b < w.heap.size) w d f v n :=
  h.keep (fun d b hs => by
    rcases Nat.lt_or_ge b w.heap.size with h1 | h1
    · exact .inl ⟨hs, h1⟩
    · exact .inr h1) fun _ _ _ _ _ hp => hp
theorem le_sum_map (g : Nd → Nat) : ∀ (l : List Nd) (k : Nd), k ∈ l → g k ≤ (l.map g).sum
  | [], k, h => by simp at h
  | y :: l, k, h => by
    simp only [List.map_cons, List.sum_cons]
    rcases List.mem_cons.1 h with rfl | h
    · omega
    · have := le_sum_map g l k h; omega
theorem size_kid {f : Nat} {n k : Nd} {p : Nat} (h : n.kids[p]? = some k) : sizeN f k ≤ sizeN (f + 1) n := by
  have hm := List.mem_of_getElem? h
  have : sizeN f k ≤ (n.kids.map (sizeN f)).sum := le_sum_map (sizeN f) n.kids k hm
  simp only [sizeN]
  omega
theorem sum_len (f : Nat) (l : List Nd) : l.length ≤ (l.map (sizeN (f + 1))).sum := by
  induction l with
  | nil => simp
  | cons k l ih => simp only [List.map_cons, List.sum_cons, List.length_cons, sizeN]; simp only [sizeN] at ih; omega
theorem size_len (f : Nat) (n : Nd) : n.kids.length ≤ sizeN (f + 1 + 1) n := by
  have := sum_len f n.kids
  rw [sizeN]
  omega

/-- A node's cells, as a list. -/
abbrev Ent := Nd × Option Addr × Nat
def cells4 (x : Ent) : List Value := [.int .i64 x.1.kind, .string x.1.text, .slice x.2.1 x.1.kids.length x.2.2, .int .i64 x.1.place]
theorem flat4 : ∀ (l : List Ent) (i j : Nat) (x : Ent), l[i]? = some x → j < 4 → (l.flatMap cells4)[i * 4 + j]? = (cells4 x)[j]?
  | [], i, j, x, h, _ => by simp at h
  | y :: l, 0, j, x, h, hj => by
    simp at h
    subst h
    rw [List.flatMap_cons, List.getElem?_append_left (by simp [cells4]; omega)]
    simp
  | y :: l, i + 1, j, x, h, hj => by
    have h' : l[i]? = some x := by simpa using h
    rw [List.flatMap_cons, List.getElem?_append_right (by simp [cells4]; omega)]
    have e : (i + 1) * 4 + j - (cells4 y).length = i * 4 + j := by simp [cells4]; omega
    rw [e]
    exact flat4 l i j x h' hj
theorem flat4_len (l : List Ent) : (l.flatMap cells4).length = l.length * 4 := by
  induction l with
  | nil => rfl
  | cons y l ih => rw [List.flatMap_cons, List.length_append, ih]; simp [cells4]; omega

/-- A row of nodes that the call owns. -/
def RowNd (S : Nat → Nat → Prop) (base : Nat) (W : World) (d f : Nat) (v : Value) (l : List Ent) : Prop :=
  W.ownsRow base 24 4 v l.length (l.flatMap cells4) ∧ ∀ x ∈ l, NdP (fun d b => S d b ∧ v.ownBlock ≠ some b) W d f (x.1.val x.2.1 x.2.2) x.1

theorem RowNd.nil (S : Nat → Nat → Prop) (base : Nat) (W : World) (d f : Nat) : RowNd S base W d f (.slice none 0 0) [] := ⟨World.ownsRow_nil _ _ _ _, fun x hx => by simp at hx⟩

/-- The row, read as a node's kids. -/
theorem RowNd.kids {S : Nat → Nat → Prop} {base : Nat} {W : World} {d f : Nat} {v : Value} {l : List Ent} (h : RowNd S base W d f v l) (n : Nd) (hn : l.map (·.1) = n.kids) (hm : n.kids.length ≤ maxLen)
    (d' : Nat) (hS : ∀ b, base ≤ b → S d' b) (hd : d' - 1 = d) : ∃ A c, v = .slice A n.kids.length c ∧ NdP S W d' (f + 1) (n.val A c) n := by
  have hl : l.length = n.kids.length := by rw [← hn]; simp
  rcases h.1.2 with ⟨hv, h0⟩ | ⟨g, cap, cur, hv, hb, hg, hnc, _, _, htk⟩
  · exact ⟨none, 0, by rw [hv, ← hl, h0], none, 0, rfl, ⟨hm, by omega⟩, fun h1 => absurd h1 (by omega)⟩
  · refine ⟨some ⟨g, 0, none⟩, cap, by rw [hv, hl], some ⟨g, 0, none⟩, cap, rfl, ⟨hm, by omega⟩, fun h1 => ⟨g, 0, rfl, hS g hb, fun i k hik => ?_⟩⟩
    have hi : i < l.length := by
      rcases Nat.lt_or_ge i l.length with h2 | h2
      · exact h2
      · rw [List.getElem?_eq_none (by omega)] at hik
        cases hik
    have hx : l[i]? = some l[i] := List.getElem?_eq_getElem hi
    have hk : l[i].1 = k := by
      rw [← hn, List.getElem?_map, hx] at hik
      simpa using hik
    have hc : ∀ j u, j < 4 → (cells4 l[i])[j]? = some u → W.cell? ⟨g, 0 + i * 4 + j, none⟩ = some u := fun j u hj hu => by
      rw [cell_of_row _ _ _ _ _ _ hg]
      have h3 : (cur.toList.take (l.length * 4))[i * 4 + j]? = some u := by rw [htk, flat4 l i j _ hx hj, hu]
      rw [List.getElem?_take] at h3
      split at h3
      · simpa using h3
      · cases h3
    have hp := h.2 l[i] (List.getElem_mem hi)
    rw [hk] at hp
    refine ⟨l[i].2.1, l[i].2.2, ?_, ?_, ?_, ?_, by rw [hd]; exact hp.weak fun _ _ h => h.1⟩
    · exact hc 0 _ (by omega) (by simp [cells4, hk])
    · exact hc 1 _ (by omega) (by simp [cells4, hk])
    · exact hc 2 _ (by omega) (by simp [cells4, hk])
    · exact hc 3 _ (by omega) (by simp [cells4, hk])

/-- The row, elsewhere. -/
theorem RowNd.kept {S : Nat → Nat → Prop} {base : Nat} {W W' : World} {d f : Nat} {v : Value} {l : List Ent} (h : RowNd S base W d f v l) (hb : Below W.heap.size W W') : RowNd S base W' d f v l :=
  ⟨h.1.kept (row := none) ⟨hb.os, hb.tape, hb.output, hb.size, fun k hk _ => hb.block k hk⟩ (by cases hv : v.ownBlock <;> simp), fun x hx => (h.2 x hx).below hb⟩

/-- The row, behind a store elsewhere. -/
theorem RowNd.far {S : Nat → Nat → Prop} {base : Nat} {W : World} {d f : Nat} {v : Value} {l : List Ent} (h : RowNd S base W d f v l) (p : Addr) (u : Value) (hp : p.block < base) (hS : ∀ d b, S d b → b ≠ p.block) : RowNd S base (W.setCell p u) d f v l := by
  have hg : W.grownBy (W.setCell p u) (some p.block) := ⟨rfl, rfl, rfl, by simp [World.setCell], fun i hi hne => Below.heap_setCell W p u i (fun e => hne (by rw [e]))⟩
  refine ⟨h.1.kept hg ?_, fun x hx => (h.2 x hx).keep (fun _ _ hs => .inl hs) fun d b o u' hs hu => hg.cell hu (by simp; exact hS d b hs.1)⟩
  rcases hv : v.ownBlock with _ | g
  · simp
  · right
    have := (h.1.lt g hv).1
    intro e
    injection e with e
    omega

/-- One more. -/
theorem RowNd.snoc {S : Nat → Nat → Prop} {base : Nat} {W W' : World} {d f : Nat} {v v' : Value} {l : List Ent} {x : Ent} (h : RowNd S base W d f v l) (hx : NdP (fun d b => S d b ∧ v.ownBlock ≠ some b) W d f (x.1.val x.2.1 x.2.2) x.1)
    (hown : W'.ownsRow base 24 4 v' (l.length + 1) (l.flatMap cells4 ++ cells4 x)) (hg : W.grownBy W' v.ownBlock) (hat : v'.ownBlock = v.ownBlock ∨ ∃ g, v'.ownBlock = some g ∧ W.heap.size ≤ g) : RowNd S base W' d f v' (l ++ [x]) := by
  refine ⟨by simpa using hown, fun y hy => ?_⟩
  have hy' : NdP (fun d b => S d b ∧ v.ownBlock ≠ some b) W d f (y.1.val y.2.1 y.2.2) y.1 := by
    rcases List.mem_append.1 hy with h1 | h1
    · exact h.2 y h1
    · simp at h1; subst h1; exact hx
  refine hy'.keep (fun d b hs => ?_) fun d b o u hs hu => (hg.cell hu (fun e => hs.2 (by simpa using e.symm)))
  rcases hat with h1 | ⟨g, h1, h2⟩
  · exact .inl ⟨hs.1, by rw [h1]; exact hs.2⟩
  · rcases Nat.lt_or_ge b W.heap.size with h3 | h3
    · exact .inl ⟨hs.1, by rw [h1]; intro e; injection e with e; omega⟩
    · exact .inr h3

end Go.Proofs.YtkmhijkpbmcgbaaGreat
