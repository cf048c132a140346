/-
  What a round that appends to one row keeps.
-/
import Derived.Test.YtkmhijkpbmcgbaaGreatWalkR
import Derived.Test.YtkmhijkpbmcgbaaGreatCopy
namespace Go.Proofs.YtkmhijkpbmcgbaaGreat
set_option linter.all false
open Go.RowKit Go.Shelf

/-- What keeps all blocks of cells but one, and the row that it points at. -/
def RowK (n₀ acc : Nat) (A B : World) : Prop := Below n₀ A B ∧
  (∀ i vs t, i ≠ acc → (∀ u, A.cell? ⟨acc, 0, none⟩ = some u → u.ownBlock ≠ some i) → A.heap[i]? = some (.cells vs t (0, 0)) → B.heap[i]? = some (.cells vs t (0, 0))) ∧
  (∀ u', B.cell? ⟨acc, 0, none⟩ = some u' → ∃ u, A.cell? ⟨acc, 0, none⟩ = some u ∧ (u'.ownBlock = u.ownBlock ∨ ∀ g, u'.ownBlock = some g → A.heap.size ≤ g ∧ g < B.heap.size))

theorem lt_of_heap {w : World} {i : Nat} {o : Obj} (h : w.heap[i]? = some o) : i < w.heap.size := (Array.getElem?_eq_some_iff.1 h).1

theorem RowK.refl (n₀ acc : Nat) (A : World) : RowK n₀ acc A A := ⟨Below.refl _ _, fun _ _ _ _ _ h => h, fun u' h => ⟨u', h, .inl rfl⟩⟩
theorem RowK.trans {n₀ acc : Nat} {A B C : World} (h : RowK n₀ acc A B) (k : RowK n₀ acc B C) : RowK n₀ acc A C := by
  refine ⟨h.1.trans k.1, fun i vs t hi hr h0 => ?_, fun u' hu' => ?_⟩
  · refine k.2.1 i vs t hi (fun u hu hr2 => ?_) (h.2.1 i vs t hi hr h0)
    obtain ⟨u0, hu0, hor⟩ := h.2.2 u hu
    rcases hor with h1 | h1
    · exact hr u0 hu0 (by rw [← h1]; exact hr2)
    · have := lt_of_heap h0
      have := (h1 i hr2).1
      omega
  · obtain ⟨u1, hu1, hor1⟩ := k.2.2 u' hu'
    obtain ⟨u0, hu0, hor0⟩ := h.2.2 u1 hu1
    refine ⟨u0, hu0, ?_⟩
    have hs1 := h.1.size
    have hs2 := k.1.size
    rcases hor1 with h1 | h1
    · rcases hor0 with h2 | h2
      · exact .inl (h1.trans h2)
      · exact .inr fun g hg => by
          have := h2 g (by rw [← h1]; exact hg)
          omega
    · exact .inr fun g hg => by
        have := h1 g hg
        omega
theorem RowK.put {n₀ acc : Nat} {w : World} (hn : n₀ ≤ w.heap.size) (ha : acc < w.heap.size) (W : World) (l : Nat) (o o' : Obj) (hl : w.heap.size ≤ l) (h : W.heap[l]? = some o) (hc : o.isCells = false) (hk : o.isWalk = false) : RowK n₀ acc W (W.putObj l o') := by
  refine ⟨belowK_b hn W l o o' hl h hc hk, fun i vs t hi _ h0 => ?_, fun u' hu' => ⟨u', ?_, .inl rfl⟩⟩
  · have hil : i ≠ l := by
      rintro rfl
      rw [h] at h0
      injection h0 with h0
      rw [h0] at hc
      simp [Obj.isCells] at hc
    exact (World.putObj_heap_other hil).trans h0
  · rw [← hu']
    exact (World.cell?_of_block (World.putObj_heap_other (by simp only; omega))).symm
theorem RowK.alloc {n₀ acc : Nat} (W : World) (o : Obj) (hn : n₀ ≤ W.heap.size) (ha : acc < W.heap.size) : RowK n₀ acc W (W.alloc o) := by
  refine ⟨(Below.refl _ _).alloc hn _, fun i vs t _ _ h0 => (Below.heap_alloc W o i (lt_of_heap h0)).trans h0, fun u' hu' => ⟨u', ?_, .inl rfl⟩⟩
  rw [← hu']
  exact (World.cell?_of_block (Below.heap_alloc W o acc ha)).symm

/-- What the walk asks of a world. -/
def RowG (acc : Nat) (W : World) : Prop := acc < W.heap.size ∧ ∀ u, W.cell? ⟨acc, 0, none⟩ = some u → ∀ g, u.ownBlock = some g → g < W.heap.size
theorem RowK.keeps {n₀ acc : Nat} (hn : n₀ ≤ acc) : WalkKeeps n₀ (RowK n₀ acc) (RowG acc) := by
  have hal : ∀ W o, RowG acc W → RowG acc (W.alloc o) := fun W o h => by
    refine ⟨by have := h.1; simp; omega, fun u hu g hg => ?_⟩
    have e := World.cell?_of_block (w := W) (w' := W.alloc o) (a := ⟨acc, 0, none⟩) (Below.heap_alloc W o acc h.1)
    rw [e] at hu
    have := h.2 u hu g hg
    simp
    omega
  refine ⟨hal, fun W vs t W' h hk => ?_⟩
  have h1 := hal W (.cells vs t) h
  have e := World.cell?_of_block (w := W) (w' := W.alloc (.cells vs t)) (a := ⟨acc, 0, none⟩) (Below.heap_alloc W (.cells vs t) acc h.1)
  refine ⟨hk.2.1 _ _ _ (by have := h.1; omega) (fun u hu hr => ?_) (heap_alloc_new W _), hk.1, ?_, fun u hu g hg => ?_⟩
  · rw [e] at hu
    have := h.2 u hu _ hr
    omega
  · have := hk.1.size
    have := h1.1
    omega
  · obtain ⟨u0, hu0, hor⟩ := hk.2.2 u hu
    have hs := hk.1.size
    rcases hor with h2 | h2
    · have := h1.2 u0 hu0 g (by rw [← h2]; exact hg)
      omega
    · exact (h2 g hg).2

theorem NdP.abides {S : Nat → Nat → Prop} {W W' : World} {row : Option Nat} (hg : W.grownBy W' row) (hr : ∀ r, row = some r → ∃ o : Obj, W.heap[r]? = some o ∧ o.isCells = false) {d f : Nat} {v : Value} {n : Nd} (h : NdP S W d f v n) : NdP S W' d f v n :=
  h.keep (fun _ _ hs => .inl hs) fun _ _ _ _ _ hv => cell_kept hv hg hr
theorem RowNd.abides {S : Nat → Nat → Prop} {base : Nat} {W W' : World} {row : Option Nat} (hg : W.grownBy W' row) (hr : ∀ r, row = some r → ∃ o : Obj, W.heap[r]? = some o ∧ o.isCells = false) {d f : Nat} {v : Value} {l : List Ent} (h : RowNd S base W d f v l) : RowNd S base W' d f v l := by
  refine ⟨h.1.kept hg ?_, fun x hx => (h.2 x hx).abides hg hr⟩
  rcases h.1.2 with ⟨hv, _⟩ | ⟨g, cap, cur, hv, _, hb, _⟩
  · exact .inl (by rw [hv]; rfl)
  · refine .inr fun e => ?_
    rw [hv] at e
    obtain ⟨o, ho, hc⟩ := hr g e.symm
    rw [hb] at ho
    injection ho with ho
    rw [← ho] at hc
    simp [Obj.isCells] at hc
/-- The row, elsewhere; base may be lower. -/
theorem RowNd.weak {S S' : Nat → Nat → Prop} {base : Nat} {W : World} {d f : Nat} {v : Value} {l : List Ent} (h : RowNd S base W d f v l) (hs : ∀ d b, S d b → S' d b) : RowNd S' base W d f v l :=
  ⟨h.1, fun x hx => (h.2 x hx).weak fun d b h => ⟨hs d b h.1, h.2⟩⟩

theorem cell_farK {w : World} {p q : Addr} {u v : Value} (h : w.cell? q = some v) (hne : q.block ≠ p.block) : (w.setCell p u).cell? q = some v := by
  have hg : w.grownBy (w.setCell p u) (some p.block) := ⟨rfl, rfl, rfl, by simp [World.setCell], fun i hi hn => Below.heap_setCell w p u i (fun e => hn (by rw [e]))⟩
  exact hg.cell h (by simpa using hne)
theorem setCell_comm (w : World) (p q : Addr) (u v : Value) (h : p.block ≠ q.block) : (w.setCell p u).setCell q v = (w.setCell q v).setCell p u := by
  unfold World.setCell
  congr 1
  apply Array.ext_getElem?
  intro i
  simp only [Array.getElem?_modify]
  by_cases h1 : p.block = i <;> by_cases h2 : q.block = i <;> simp [h1, h2]
  omega
theorem grownBy_set {a w : World} {row : Option Nat} (h : a.grownBy w row) {p : Addr} (hp : some p.block = row ∨ a.heap.size ≤ p.block) (u : Value) : a.grownBy (w.setCell p u) row :=
  ⟨h.os, h.tape, h.output, by simpa [World.setCell] using h.size, fun i hi hne => (Below.heap_setCell w p u i (by
    rintro rfl
    rcases hp with hp | hp
    · exact hne hp
    · omega)).trans (h.block i hi hne)⟩
/-- Four cells of a block, from a place on. -/
def set4 (w : World) (g k : Nat) (a b c d : Value) : World := (((w.setCell ⟨g, k, none⟩ a).setCell ⟨g, k + 1, none⟩ b).setCell ⟨g, k + 2, none⟩ c).setCell ⟨g, k + 3, none⟩ d
theorem set4_comm (w : World) (g k : Nat) (a b c d : Value) (q : Addr) (v : Value) (h : g ≠ q.block) : set4 (w.setCell q v) g k a b c d = (set4 w g k a b c d).setCell q v := by
  unfold set4
  rw [setCell_comm w q ⟨g, k, none⟩ v a (Ne.symm h), setCell_comm _ q ⟨g, k + 1, none⟩ v b (Ne.symm h), setCell_comm _ q ⟨g, k + 2, none⟩ v c (Ne.symm h), setCell_comm _ q ⟨g, k + 3, none⟩ v d (Ne.symm h)]
theorem set4_far {w : World} {g k : Nat} {a b c d : Value} {q : Addr} {v : Value} (h : w.cell? q = some v) (hne : q.block ≠ g) : (set4 w g k a b c d).cell? q = some v :=
  cell_farK (cell_farK (cell_farK (cell_farK h hne) hne) hne) hne
theorem set4_own {w : World} {base : Nat} {g n cap : Nat} {xs : List Value} {z0 z1 z2 z3 a b c d : Value} (h : w.ownsRow base 24 4 (.slice (some ⟨g, 0, none⟩) n cap) n (xs ++ [z0, z1, z2, z3])) (k : Nat) (hk : xs.length = k) :
    (set4 w g k a b c d).ownsRow base 24 4 (.slice (some ⟨g, 0, none⟩) n cap) n (xs ++ [a, b, c, d]) := by
  have h1 := ((((h.stored k a).1.stored (k + 1) b).1.stored (k + 2) c).1.stored (k + 3) d).1
  subst hk
  simpa [set4, List.set_append_right] using h1

theorem KeepsOthers.of_below {W W' : World} (h : Below W.heap.size W W') : KeepsOthers W W' := ⟨h.size, fun k o hk _ => (h.block k (lt_of_heap hk)).trans hk⟩

/-- A round of a loop that appends a copy to a row behind a box: what it leaves. -/
theorem find_round {n₀ acc base B4 : Nat} {S : Nat → Nat → Prop} {W W5 w3 : World} {d f : Nat} {Au : Option Addr} {cu : Nat} {l : List Ent} {x : Nd} {A2 : Option Addr} {c2 gg cap : Nat} {w : World}
    (hn : n₀ ≤ acc) (hba : acc < base) (hB : Below n₀ w W) (hu : W.cell? ⟨acc, 0, none⟩ = some (.slice Au l.length cu)) (hfu : W.frozen? ⟨acc, 0, none⟩ = false)
    (hrow : RowNd S base W d f (.slice Au l.length cu) l) (hS : ∀ d b, S d b → b ≠ acc) (b5 : Below W.heap.size W W5) (n5 : NdP (fun d b => S d b ∧ (Value.slice Au l.length cu).ownBlock ≠ some b) W5 d f (x.val A2 c2) x)
    (hown : w3.ownsRow base 24 4 (.slice (some ⟨gg, 0, none⟩) (l.length + 1) cap) (l.length + 1) (l.flatMap cells4 ++ [.int .i64 0, .string ⟨#[]⟩, .slice none 0 0, .int .i64 0]))
    (hg : W5.grownBy w3 (Value.slice Au l.length cu).ownBlock) (hat : (Value.slice Au l.length cu).ownBlock = some gg ∨ gg = W5.heap.size) (hl3 : gg < w3.heap.size)
    (P : World) (hP : P = (set4 w3 gg (l.length * 4) (.int .i64 x.kind) (.string x.text) (.slice A2 x.kids.length c2) (.int .i64 x.place)).setCell ⟨acc, 0, none⟩ (.slice (some ⟨gg, 0, none⟩) (l.length + 1) cap)) :
    KeepsFrom B4 W P ∧ RowK n₀ acc W P ∧ Below n₀ w P ∧ P.cell? ⟨acc, 0, none⟩ = some (.slice (some ⟨gg, 0, none⟩) (l.length + 1) cap) ∧ P.frozen? ⟨acc, 0, none⟩ = false ∧
      RowNd S base P d f (.slice (some ⟨gg, 0, none⟩) (l.length + 1) cap) (l ++ [(x, A2, c2)]) ∧ ∀ b o v, b < base → b ≠ acc → W.cell? ⟨b, o, none⟩ = some v → P.cell? ⟨b, o, none⟩ = some v := by
  have hac : acc < W.heap.size := cell_lt hu
  have sz5 := b5.size
  have sz3 := hg.size
  have hrlt := fun g hg => (hrow.1.lt g hg).1
  have hgb : base ≤ gg := by
    rcases hown.2 with ⟨hv, _⟩ | ⟨g, _, _, hv, hb, _⟩
    · cases hv
    · injection hv with hv; injection hv with hv; injection hv with hv; omega
  have hne : gg ≠ acc := by omega
  have r5 := hrow.kept b5
  obtain ⟨Q4, hQ4⟩ : ∃ Q4, Q4 = (set4 w3 gg (l.length * 4) (.int .i64 x.kind) (.string x.text) (.slice A2 x.kids.length c2) (.int .i64 x.place)) := ⟨_, rfl⟩
  rw [← hQ4] at hP
  -- the world behind the four stores
  have g4 : W5.grownBy Q4 (Value.slice Au l.length cu).ownBlock := by
    have hp : some gg = (Value.slice Au l.length cu).ownBlock ∨ W5.heap.size ≤ gg := by rcases hat with h | h; exact .inl h.symm; exact .inr (by omega)
    rw [hQ4]
    exact grownBy_set (grownBy_set (grownBy_set (grownBy_set hg (p := ⟨gg, _, none⟩) hp _) (p := ⟨gg, _, none⟩) hp _) (p := ⟨gg, _, none⟩) hp _) (p := ⟨gg, _, none⟩) hp _
  have o4 : Q4.ownsRow base 24 4 (.slice (some ⟨gg, 0, none⟩) (l.length + 1) cap) (l.length + 1) (l.flatMap cells4 ++ cells4 (x, A2, c2)) :=
    by rw [hQ4]; exact set4_own hown _ (flat4_len l)
  have row4 := r5.snoc (x := (x, A2, c2)) n5 o4 g4 (by
    rcases hat with h | h
    · exact .inl h.symm
    · exact .inr ⟨gg, rfl, by omega⟩)
  have row5 := row4.far ⟨acc, 0, none⟩ (.slice (some ⟨gg, 0, none⟩) (l.length + 1) cap) hba hS
  rw [← hP] at row5
  have hrowcells : ∀ (j : Nat) (o : Obj), (Value.slice Au l.length cu).ownBlock = some j → W5.heap[j]? = some o → o.isCells = true := fun j o hj ho => by
    rcases r5.1.2 with ⟨hv, _⟩ | ⟨g, _, _, hv, _, hb, _⟩
    · rw [hv] at hj; cases hj
    · rw [hv] at hj
      injection hj with hj
      simp only at hj
      subst hj
      rw [hb] at ho
      injection ho with ho
      rw [← ho]
      rfl
  have ko : KeepsOthers W P := (KeepsOthers.of_below b5).trans ((KeepsOthers.of_grownBy g4 hrowcells).trans (by rw [hP]; exact KeepsOthers.setCell _ _ _))
  have hfar : ∀ i, i < W.heap.size → i ≠ acc → (Value.slice Au l.length cu).ownBlock ≠ some i → P.heap[i]? = W.heap[i]? := fun i hi h1 h2 =>
    (by rw [hP]; exact Below.heap_setCell _ ⟨acc, 0, none⟩ _ i h1 : P.heap[i]? = Q4.heap[i]?).trans ((g4.block i (by omega) (fun e => h2 e.symm)).trans (b5.block i hi))
  have bwP : Below n₀ W P := by rw [hP]; exact ((b5.mono (by omega)).grown g4 (by omega) (fun j hj => by have := hrlt j hj; omega)).setCell (p := ⟨acc, 0, none⟩) hn _
  have hsz : P.heap.size = Q4.heap.size := by rw [hP]; simp [World.setCell]
  have c4 : Q4.cell? ⟨acc, 0, none⟩ = some (.slice Au l.length cu) :=
    (g4.cell_far ⟨acc, 0, none⟩ (by simp only; omega) (fun e => by have : base ≤ acc := hrlt _ e.symm; omega)).trans ((b5.cell (p := ⟨acc, 0, none⟩) hac).trans hu)
  have f4 : Q4.frozen? ⟨acc, 0, none⟩ = false :=
    (g4.frozen_far ⟨acc, 0, none⟩ (by simp only; omega) (fun e => by have : base ≤ acc := hrlt _ e.symm; omega)).trans ((b5.frozen (p := ⟨acc, 0, none⟩) hac).trans hfu)
  have cP : P.cell? ⟨acc, 0, none⟩ = some (.slice (some ⟨gg, 0, none⟩) (l.length + 1) cap) := by rw [hP]; exact World.cell?_setCell_same' _ _ _ (by rw [c4]; rfl)
  refine ⟨ko.from _, ⟨bwP, fun i vs t hi hr h0 => ?_, fun u' hu' => ?_⟩, hB.trans (bwP.mono (by omega)), cP, by rw [hP, World.frozen?_setCell]; exact f4, row5, fun b o v hb hb2 hv => ?_⟩
  · rw [hfar i (lt_of_heap h0) hi (hr _ hu)]
    exact h0
  · rw [cP] at hu'
    injection hu' with hu'
    refine ⟨_, hu, ?_⟩
    rw [← hu']
    rcases hat with h | h
    · exact .inl h.symm
    · refine .inr fun g hg2 => ?_
      injection hg2 with hg2
      simp only at hg2
      have h4 : gg < P.heap.size := by rw [hsz]; exact (o4.lt gg rfl).2
      omega
  · have hbw := cell_lt hv
    simp only at hbw
    rw [World.cell?_of_block (hfar b hbw hb2 (fun e => by have := hrlt _ e; omega))]
    exact hv

end Go.Proofs.YtkmhijkpbmcgbaaGreat
