/-
  append onto a row of the call's own, whatever the source: nil, empty, or not.
-/
import Derived.Test.YtfabnfdadadlnaaDoorWords
import Derived.Maps.AppendAt
import Derived.OwnWalk
namespace Go.Proofs.YtfabnfdadadlnaaDoor
set_option linter.all false
open Go.RowKit

/-- A source of an append: nil, or cells that are known. -/
def Src (w : World) (size : Nat) (A : Option Addr) (m : Nat) (news : List Value) : Prop :=
  news.length = m * size ∧ (A = none → m = 0) ∧ ∀ a, A = some a → ∀ j u, news[j]? = some u → w.cell? (a.add j) = some u

theorem Bts.src {w : World} {A : Option Addr} {n : Nat} {l : List UInt8} (h : Bts w A n l) : Src w 1 A n (l.map fun x => Value.int .u8 (x.toNat : Int)) := by
  refine ⟨by simp [h.1], fun hA => ?_, fun a hA j u hu => ?_⟩
  · rcases Nat.eq_zero_or_pos n with h0 | h0
    · exact h0
    · obtain ⟨b, off, hb, _⟩ := h.2 h0
      rw [hA] at hb
      cases hb
  · have hj : j < l.length := by
      rcases Nat.lt_or_ge j l.length with h1 | h1
      · exact h1
      · rw [List.getElem?_eq_none (by simpa using h1)] at hu
        cases hu
    obtain ⟨b, off, hb, hc⟩ := h.2 (by have := h.1; omega)
    rw [hA] at hb
    injection hb with hb
    subst hb
    have e : (⟨b, off, none⟩ : Addr).add j = ⟨b, off + j, none⟩ := by unfold Addr.add; split <;> simp_all
    rw [e, hc j (by have := h.1; omega)]
    rw [List.getElem?_map, List.getElem?_eq_getElem hj] at hu
    simp at hu
    subst hu
    simp [List.getD_eq_getElem?_getD, List.getElem?_eq_getElem hj]

section
variable {P : Program} (w : World)
theorem run_append_src (base : Nat) (t ty e : TypeId) (i : TypeInfo) (z : Value) (size bytes : Nat) (ht : P.underlying t = some (.slice e)) (hi : P.info? e = some i) (hz : i.zero = some z)
    (hsize : i.size = size) (hby : i.bytes = bytes) (hzs : z.cells.size = size) (hsz : 0 < size)
    (v : Value) (n : Nat) (xs : List Value) (hown : w.ownsRow base e size v n xs) (A : Option Addr) (m c : Nat) (news : List Value) (hs : Src w size A m news) (h1 : ∀ u ∈ news, u.oneCell' = true)
    (h63 : n + m ≤ maxLen) (hbytes : (n + m) * bytes ≤ 140737488355328) (hbase : base ≤ w.heap.size) :
    ∃ v' w', (Builtin.append_ #[t, t] ty #[v, .slice A m c]).run P w = .ok v' w' ∧ w'.ownsRow base e size v' (n + m) (xs ++ news) ∧ w.grownBy w' v.ownBlock ∧ (v'.ownBlock = v.ownBlock ∨ v'.ownBlock = some w.heap.size) := by
  cases A with
  | none =>
    obtain rfl : m = 0 := hs.2.1 rfl
    obtain rfl : news = [] := List.eq_nil_of_length_eq_zero (by simpa using hs.1)
    refine ⟨v, w, ?_, by simpa using hown, World.grownBy.refl w _, .inl rfl⟩
    rcases hown.2 with ⟨rfl, rfl⟩ | ⟨g, cap, cur, rfl, _, _, hnc, _⟩
    · simp [Builtin.append_, run_underlying ht, sizeOf, typeInfo, hi, Builtin.lenOf, Builtin.firstCells]
    · simp [Builtin.append_, run_underlying ht, sizeOf, typeInfo, hi, Builtin.lenOf, Builtin.firstCells, hnc, storeCells]
  | some a =>
    obtain ⟨v', w', h2, h3, h4, _, h6⟩ := run_append_own_at (P := P) w base t ty e i z size bytes ht hi hz hsize hby hzs hsz v n xs hown a m c news hs.1 (hs.2.2 a rfl) h1 h63 hbytes hbase
    exact ⟨v', w', h2, h3, h4, h6⟩

theorem wpList_append_src {ops : Array Oper} {rest : List Oper} {o : Oper} {a : Act} {Q : Exit → Act → World → Prop} (hgd : o.guard = none) (s x : Operand) (t : TypeId)
    (ho : o.op = .call { callee := .builtin .append, args := #[s, x], argTypes := #[t, t] })
    (base : Nat) (e : TypeId) (i : TypeInfo) (z : Value) (size bytes : Nat) (ht : P.underlying t = some (.slice e)) (hi : P.info? e = some i) (hz : i.zero = some z)
    (hsize : i.size = size) (hby : i.bytes = bytes) (hzs : z.cells.size = size) (hsz : 0 < size)
    (v : Value) (n : Nat) (xs : List Value) (hs : a.eval s = v) (hown : w.ownsRow base e size v n xs)
    (A : Option Addr) (m c : Nat) (news : List Value) (hx : a.eval x = .slice A m c) (hr : Src w size A m news) (h1 : ∀ u ∈ news, u.oneCell' = true)
    (h63 : n + m ≤ maxLen) (hbytes : (n + m) * bytes ≤ 140737488355328) (hbase : base ≤ w.heap.size)
    (h : ∀ v' w', w'.ownsRow base e size v' (n + m) (xs ++ news) → w.grownBy w' v.ownBlock → (v'.ownBlock = v.ownBlock ∨ v'.ownBlock = some w.heap.size) → wpList P ops Q rest (a.put o.dst v') w') : wpList P ops Q (o :: rest) a w := by
  refine wpList_plain hgd fun _ hK => ?_
  obtain ⟨v', w', hrun, h2, h3, h4⟩ := run_append_src (P := P) w base t o.type e i z size bytes ht hi hz hsize hby hzs hsz v n xs hown A m c news hr h1 h63 hbytes hbase
  unfold Oper.wp execOp
  simp only [ho, resolve, invoke, builtin, Sem.run_bind, Sem.run_pure, Result.andThen_ok, List.map_toArray, List.map_cons, List.map_nil, hs, hx, hrun]
  exact hK _ _ (h v' w' h2 h3 h4)
end

theorem src_one (w : World) (v : Value) (t : TypeId) : Src (w.alloc (.cells #[v] t)) 1 (some ⟨w.heap.size, 0, none⟩) 1 [v] := by
  refine ⟨rfl, fun h => (by cases h), fun a ha j u hu => ?_⟩
  have ha' := Option.some.inj ha
  subst ha'
  have hj : j = 0 := by
    rcases j with _ | j
    · rfl
    · simp at hu
  subst hj
  simp at hu
  subst hu
  have := (Whole.new w t #[v]).cell 0
  simpa [Addr.add] using this

/-- An owned row of bytes, read. -/
theorem own_bts {w : World} {base : Nat} {v : Value} {n : Nat} {l : List UInt8} (h : w.ownsRow base 5 1 v n (l.map fun x => Value.int .u8 (x.toNat : Int))) : ∃ A c, v = .slice A n c ∧ n ≤ c ∧ Bts w A n l := by
  have hl : l.length = n := by simpa using h.1
  rcases h.2 with ⟨rfl, h0⟩ | ⟨g, cap, cur, rfl, _, hg, hnc, _, _, htk⟩
  · exact ⟨none, 0, by rw [h0], by omega, hl, fun hn => absurd hn (by omega)⟩
  · refine ⟨some ⟨g, 0, none⟩, cap, rfl, hnc, hl, fun _ => ⟨g, 0, rfl, fun i hi => ?_⟩⟩
    rw [cell_of_row _ _ _ _ _ _ hg]
    have h1 : (cur.toList.take (n * 1))[i]? = some (.int .u8 ((l.getD i 0).toNat : Int)) := by
      rw [htk, List.getElem?_map, List.getElem?_eq_getElem (show i < l.length by omega)]
      simp [List.getD_eq_getElem?_getD, List.getElem?_eq_getElem (show i < l.length by omega)]
    rw [List.getElem?_take] at h1
    split at h1
    · simpa using h1
    · cases h1

end Go.Proofs.YtfabnfdadadlnaaDoor
