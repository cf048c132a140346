/-
  Names and found nodes: plain laws.
-/
import Derived.Test.YtkmhijkpbmcgbaaGreatNames
import Derived.Test.YtkmhijkpbmcgbaaGreatRefNodes
namespace Go.Proofs.YtkmhijkpbmcgbaaGreat
set_option linter.all false
open Go.RowKit Go.Shelf Go.Maps Go.Sort

theorem mem_ins {x p : Lit × DataW Unit} : ∀ l : List (Lit × DataW Unit), p ∈ DataW.insert x l ↔ p = x ∨ p ∈ l
  | [] => by simp [DataW.insert]
  | y :: r => by
    unfold DataW.insert
    split
    · simp
    · simp only [List.mem_cons, mem_ins r]
      constructor
      · rintro (h | h | h)
        · exact .inr (.inl h)
        · exact .inl h
        · exact .inr (.inr h)
      · rintro (h | h | h)
        · exact .inr (.inl h)
        · exact .inl h
        · exact .inr (.inr h)
def StrMap (D : DataW Unit) : Prop := ∃ es, D = .map es ∧ ∀ p ∈ es, ∃ x, p.1 = .string x
theorem StrMap.put {D : DataW Unit} (h : StrMap D) (x : List UInt8) (d : DataW Unit) : StrMap (D.put (.string x) d) := by
  obtain ⟨es, rfl, hk⟩ := h
  refine ⟨_, rfl, fun p hp => ?_⟩
  rcases (mem_ins _).1 hp with rfl | hp
  · exact ⟨x, rfl⟩
  · exact hk p (List.mem_filter.1 hp).1
theorem setD_spec' (l : List ByteArray) : StrMap (setD l.reverse) ∧ Tidy (setD l.reverse) ∧ ∀ x, has (setD l.reverse) (.string x) = true ↔ ∃ t ∈ l, t.data.toList = x := by
  induction l with
  | nil => exact ⟨⟨[], rfl, fun p hp => by simp at hp⟩, tidy_empty, fun x => by simp [setD, has]⟩
  | cons t l ih =>
    obtain ⟨h1, h2, h3⟩ := ih
    rw [List.reverse_cons, setD_snoc]
    refine ⟨h1.put _ _, h2.put (by trivial) _, fun x => ?_⟩
    by_cases e : x = t.data.toList
    · subst e
      rw [has_put_same h2.isMap (by trivial)]
      simp
    · rw [has_put_other (by intro h; injection h with h; exact e h), h3]
      constructor
      · rintro ⟨s, hs, rfl⟩
        exact ⟨s, by simp [hs], rfl⟩
      · rintro ⟨s, hs, rfl⟩
        rcases List.mem_cons.1 hs with hs | hs
        · subst hs
          exact absurd rfl e
        · exact ⟨s, hs, rfl⟩
theorem setD_spec (l : List ByteArray) : StrMap (setD l) ∧ Tidy (setD l) ∧ ∀ x, has (setD l) (.string x) = true ↔ ∃ t ∈ l, t.data.toList = x := by
  have := setD_spec' l.reverse
  rw [List.reverse_reverse] at this
  refine ⟨this.1, this.2.1, fun x => (this.2.2 x).trans ?_⟩
  simp
theorem strKeys_spec (l : List ByteArray) : (strKeys (setD l)).Nodup ∧ ∀ x, x ∈ strKeys (setD l) ↔ ∃ t ∈ l, t.data.toList = x := by
  obtain ⟨⟨es, he, hk⟩, ⟨es', he', hp⟩, hh⟩ := setD_spec l
  have e : es = es' := by rw [he] at he'; injection he'
  subst e
  rw [he] at hh ⊢
  constructor
  · show (es.map fun p => strOf p.1).Nodup
    refine List.pairwise_map.2 (hp.imp_of_mem fun {p q} hp' hq' hne e => hne ?_)
    obtain ⟨a, ha⟩ := hk p hp'
    obtain ⟨b, hb⟩ := hk q hq'
    rw [ha, hb] at e ⊢
    exact congrArg _ e
  · intro x
    rw [← hh x, has_eq, List.any_eq_true]
    show x ∈ es.map (fun p => strOf p.1) ↔ _
    rw [List.mem_map]
    constructor
    · rintro ⟨p, hp', rfl⟩
      obtain ⟨a, ha⟩ := hk p hp'
      exact ⟨p, hp', by rw [ha]; simp [Lit.sameKey, strOf]⟩
    · rintro ⟨p, hp', hs⟩
      obtain ⟨a, ha⟩ := hk p hp'
      rw [ha] at hs
      exact ⟨p, hp', by rw [ha]; simpa [Lit.sameKey, strOf] using hs⟩
theorem setD_len' (l : List ByteArray) : ∃ es, setD l.reverse = .map es ∧ es.length ≤ l.length := by
  induction l with
  | nil => exact ⟨[], rfl, by simp⟩
  | cons t l ih =>
    obtain ⟨es, he, hl⟩ := ih
    rw [List.reverse_cons, setD_snoc, he]
    refine ⟨_, rfl, ?_⟩
    rw [length_insert]
    have := List.length_filter_le (fun p => !p.1.sameKey (.string t.data.toList)) es
    simp only [List.length_cons]
    omega
theorem setD_len {l : List ByteArray} {ss : List (List UInt8)} (h : ss.Perm (strKeys (setD l))) : ss.length ≤ l.length := by
  obtain ⟨es, he, hl⟩ := setD_len' l.reverse
  rw [List.reverse_reverse] at he
  rw [h.length_eq, he]
  show (es.map fun p => strOf p.1).length ≤ _
  simpa using hl
/-- The names in order: what they are, and that they rise. -/
theorem sorted_spec {l : List ByteArray} {ss : List (List UInt8)} (h : ss.Perm (strKeys (setD l))) :
    (∀ x, x ∈ ss.mergeSort leB ↔ ∃ t ∈ l, t.data.toList = x) ∧ ∀ (j : Nat) (a b : List UInt8), (ss.mergeSort leB)[j]? = some a → (ss.mergeSort leB)[j + 1]? = some b → a < b := by
  obtain ⟨h1, h2⟩ := strKeys_spec l
  have hp := (List.mergeSort_perm ss leB).trans h
  refine ⟨fun x => (hp.mem_iff).trans (h2 x), fun j a b ha hb => ?_⟩
  have tr : ∀ a b c : List UInt8, leB a b = true → leB b c = true → leB a c = true := fun a b c h1 h2 => by simp only [leB, decide_eq_true_eq] at *; exact List.le_trans h1 h2
  have to : ∀ a b : List UInt8, (leB a b || leB b a) = true := fun a b => by simp only [leB, Bool.or_eq_true, decide_eq_true_eq]; exact List.le_total a b
  have hs := List.pairwise_mergeSort tr to ss
  have hn : (ss.mergeSort leB).Nodup := (hp.nodup_iff).2 h1
  have hj : j + 1 < (ss.mergeSort leB).length := (List.getElem?_eq_some_iff.1 hb).1
  have hle := List.pairwise_iff_getElem.1 hs j (j + 1) (by omega) hj (by omega)
  have hne := List.pairwise_iff_getElem.1 hn j (j + 1) (by omega) hj (by omega)
  rw [List.getElem?_eq_getElem (by omega)] at ha
  rw [List.getElem?_eq_getElem hj] at hb
  injection ha with ha
  injection hb with hb
  rw [ha, hb] at hle hne
  simp only [leB, decide_eq_true_eq] at hle
  rcases Decidable.em (b ≤ a) with h | h
  · exact absurd (List.le_antisymm hle h) hne
  · exact List.not_le.1 h
theorem filter_at {α : Type} {p : α → Bool} {l : List α} {i : Nat} {x : α} (hx : l[i]? = some x) (hp : p x = true) : (l.filter p)[((l.take i).filter p).length]? = some x := by
  have hi : i < l.length := (List.getElem?_eq_some_iff.1 hx).1
  have e : l = l.take i ++ x :: l.drop (i + 1) := by
    conv => lhs; rw [← List.take_append_drop i l]
    rw [List.drop_eq_getElem_cons hi]
    rw [List.getElem?_eq_getElem hi] at hx
    injection hx with hx
    rw [hx]
  conv => lhs; lhs; rw [e]
  rw [List.filter_append, List.filter_cons, if_pos hp, List.getElem?_append_right (Nat.le_refl _)]
  simp

end Go.Proofs.YtkmhijkpbmcgbaaGreat
