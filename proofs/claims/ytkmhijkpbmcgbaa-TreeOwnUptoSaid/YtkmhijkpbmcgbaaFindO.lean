/-
  What Find collects lies in rows of its own: the round.
-/
import Derived.Test.YtkmhijkpbmcgbaaFindK
import Derived.Test.YtkmhijkpbmcgbaaCopyRow
namespace Go.Proofs.Ytkmhijkpbmcgbaa
set_option linter.all false
open Go.RowKit Go.Shelf

theorem Own1.and_lt {T : Nat → Prop} {S : Nat → Nat → Prop} {w : World} {d f : Nat} {A : Option Addr} {n : Nd} (h : Own1 T S w d f A n) : Own1 (fun g => T g ∧ g < w.heap.size) (fun d b => S d b ∧ b < w.heap.size) w d f A n := fun h0 => by
  obtain ⟨g, hA, hg, hfz, hi⟩ := h h0
  obtain ⟨A0, c0, q0, _⟩ := hi 0 _ (List.getElem?_eq_getElem h0)
  refine ⟨g, hA, ⟨hg, cell_lt q0⟩, hfz, fun i k hik => ?_⟩
  obtain ⟨A', c', h1, h2, h3, h4, h5⟩ := hi i k hik
  exact ⟨A', c', h1, h2, h3, h4, h5.keep (fun d b hs => by
    rcases Nat.lt_or_ge b w.heap.size with h | h
    · exact .inl ⟨⟨hs.1, h⟩, hs.2⟩
    · exact .inr h) fun _ _ _ _ _ hv => hv⟩
theorem Own1.weak {T T' : Nat → Prop} {S S' : Nat → Nat → Prop} {w : World} {d f : Nat} {A : Option Addr} {n : Nd} (h : Own1 T S w d f A n) (hT : ∀ g, T g → T' g) (hS : ∀ d b, S d b → S' d b) : Own1 T' S' w d f A n :=
  h.keep hT hS (fun _ _ _ _ h => h) (fun _ _ _ _ _ => ⟨rfl, fun _ => rfl⟩)
theorem Own1.grown {T : Nat → Prop} {S : Nat → Nat → Prop} {w w' : World} {row : Option Nat} {d f : Nat} {A : Option Addr} {n : Nd} (h : Own1 T S w d f A n) (hg : w.grownBy w' row) (hT : ∀ g, T g → some g ≠ row) (hS : ∀ d b, S d b → some b ≠ row) : Own1 T S w' d f A n :=
  h.keep (fun _ h => h) (fun _ _ h => h) (fun b o v hb hv => hg.cell hv (by
    rcases hb with hb | ⟨d, hb⟩
    · exact hT b hb
    · exact hS d b hb)) (fun b o v hb hv => ⟨hg.frozen_far ⟨b, o, none⟩ (cell_lt hv) (hT b hb), fun o' => hg.frozen_far ⟨b, o', none⟩ (by have := cell_lt hv; simpa using this) (hT b hb)⟩)

def OwnAll (T : Nat → Prop) (S : Nat → Nat → Prop) (W : World) (f : Nat) (v : Value) (l : List Ent) : Prop :=
  ∀ x ∈ l, Own1 (fun g => T g ∧ v.ownBlock ≠ some g) (fun d b => S d b ∧ v.ownBlock ≠ some b) W 99 f x.2.1 x.1
theorem OwnAll.abides {T : Nat → Prop} {S : Nat → Nat → Prop} {W W' : World} {f : Nat} {v : Value} {l : List Ent} {row : Option Nat} (h : OwnAll T S W f v l) (hg : W.grownBy W' row) (hr : ∀ r, row = some r → ∃ o : Obj, W.heap[r]? = some o ∧ o.isCells = false) : OwnAll T S W' f v l := fun x hx =>
  (h x hx).keep (fun _ h => h) (fun _ _ h => h) (fun b o v _ hv => cell_kept hv hg hr) (fun b o v _ hv => by
    have e : ∀ o', W'.frozen? ⟨b, o', none⟩ = W.frozen? ⟨b, o', none⟩ := fun o' => by
      obtain ⟨ob, ho, hc⟩ := cells_of_cell hv
      exact World.frozen?_of_block (a := ⟨b, o', none⟩) (grownBy_keeps_cells hg hr ho hc)
    exact ⟨e o, e⟩)

theorem own_round {acc base : Nat} {T : Nat → Prop} {S : Nat → Nat → Prop} {W W5 w3 : World} {d f f1 : Nat} {Au : Option Addr} {cu : Nat} {l : List Ent} {x : Nd} {A2 : Option Addr} {c2 gg cap : Nat}
    (hba : acc < base) (hrow : RowNd S base W d f (.slice Au l.length cu) l) (hT : ∀ g, T g → g ≠ acc) (hS : ∀ d b, S d b → b ≠ acc) (b5 : Below W.heap.size W W5)
    (hown : w3.ownsRow base 24 4 (.slice (some ⟨gg, 0, none⟩) (l.length + 1) cap) (l.length + 1) (l.flatMap cells4 ++ [.int .i64 0, .string ⟨#[]⟩, .slice none 0 0, .int .i64 0]))
    (hg : W5.grownBy w3 (Value.slice Au l.length cu).ownBlock) (hat : (Value.slice Au l.length cu).ownBlock = some gg ∨ gg = W5.heap.size)
    (ho : OwnAll T S W f1 (.slice Au l.length cu) l) (o5 : Own1 (fun g => T g ∧ (Value.slice Au l.length cu).ownBlock ≠ some g) (fun d b => S d b ∧ (Value.slice Au l.length cu).ownBlock ≠ some b) W5 99 f1 A2 x)
    (P : World) (hP : P = (set4 w3 gg (l.length * 4) (.int .i64 x.kind) (.string x.text) (.slice A2 x.kids.length c2) (.int .i64 x.place)).setCell ⟨acc, 0, none⟩ (.slice (some ⟨gg, 0, none⟩) (l.length + 1) cap)) :
    OwnAll T S P f1 (.slice (some ⟨gg, 0, none⟩) (l.length + 1) cap) (l ++ [(x, A2, c2)]) := by
  have g4 : W5.grownBy (set4 w3 gg (l.length * 4) (.int .i64 x.kind) (.string x.text) (.slice A2 x.kids.length c2) (.int .i64 x.place)) (Value.slice Au l.length cu).ownBlock := by
    have hp : some gg = (Value.slice Au l.length cu).ownBlock ∨ W5.heap.size ≤ gg := by rcases hat with h | h; exact .inl h.symm; exact .inr (by omega)
    exact grownBy_set (grownBy_set (grownBy_set (grownBy_set hg (p := ⟨gg, _, none⟩) hp _) (p := ⟨gg, _, none⟩) hp _) (p := ⟨gg, _, none⟩) hp _) (p := ⟨gg, _, none⟩) hp _
  have all : ∀ y : Ent, Own1 (fun g => T g ∧ (Value.slice Au l.length cu).ownBlock ≠ some g) (fun d b => S d b ∧ (Value.slice Au l.length cu).ownBlock ≠ some b) W5 99 f1 y.2.1 y.1 →
      Own1 (fun g => T g ∧ (Value.slice (some ⟨gg, 0, none⟩) (l.length + 1) cap).ownBlock ≠ some g) (fun d b => S d b ∧ (Value.slice (some ⟨gg, 0, none⟩) (l.length + 1) cap).ownBlock ≠ some b) P 99 f1 y.2.1 y.1 := fun y hy => by
    have h1 := (hy.and_lt.grown g4 (fun g hg e => hg.1.2 e.symm) (fun d b hb e => hb.1.2 e.symm)).far ⟨acc, 0, none⟩ (.slice (some ⟨gg, 0, none⟩) (l.length + 1) cap) (fun g hg => hT g hg.1.1) (fun d b hb => hS d b hb.1.1)
    rw [← hP] at h1
    have hne : ∀ b, (Value.slice Au l.length cu).ownBlock ≠ some b → b < W5.heap.size → (Value.slice (some ⟨gg, 0, none⟩) (l.length + 1) cap).ownBlock ≠ some b := fun b h2 h3 e => by
      have e2 : gg = b := by injection e
      rcases hat with h4 | h4
      · exact h2 (by rw [h4, e2])
      · omega
    exact h1.weak (fun g hg => ⟨hg.1.1, hne g hg.1.2 hg.2⟩) (fun d b hb => ⟨hb.1.1, hne b hb.1.2 hb.2⟩)
  intro y hy
  rcases List.mem_append.1 hy with h | h
  · exact all y ((ho y h).below b5)
  · simp at h
    subst h
    exact all _ o5

end Go.Proofs.Ytkmhijkpbmcgbaa
