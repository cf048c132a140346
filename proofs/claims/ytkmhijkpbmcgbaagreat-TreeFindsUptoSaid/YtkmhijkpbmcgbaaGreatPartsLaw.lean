/-
  What is in a right node is right: the plain law.
-/
import Derived.Test.YtkmhijkpbmcgbaaGreatAsk
import Derived.Test.YtkmhijkpbmcgbaaGreatFind
import Derived.Test.YtkmhijkpbmcgbaaGreatPlain
namespace Go.Proofs.YtkmhijkpbmcgbaaGreat
set_option linter.all false

theorem of_parts {n : Nd} {K : Int} {qs : List (Nd → Bool)} (h : ofN n K qs = true) : n.kind = K ∧ n.kids.length = qs.length ∧ (n.kids.zip qs).all (fun x => x.2 x.1) = true := by
  unfold ofN at h
  simp only [Bool.and_eq_true, beq_iff_eq] at h
  exact ⟨h.1.1.1, h.1.2, h.2⟩
theorem named_parts {n : Nd} {r : Bool} {K : Int} {qs : List (Nd → Bool)} (hK : K ≠ 37) (h : ofN (namedN n r) K qs = true) : n.kind = K ∧ n.kids.length = qs.length ∧ (n.kids.zip qs).all (fun x => x.2 x.1) = true := by
  cases r with
  | true =>
    have h2 := of_parts h
    exact h2
  | false => exact absurd (of_parts h).1.symm hK
theorem zip_mem {α β : Type} {P : α × β → Prop} : ∀ {l : List α} {l2 : List β}, l.length = l2.length → (∀ x ∈ l.zip l2, P x) → ∀ k ∈ l, ∃ q ∈ l2, P (k, q)
  | [], _, _, _, k, hk => by simp at hk
  | _ :: _, [], h, _, _, _ => by simp at h
  | x :: l, y :: l2, h, hp, k, hk => by
    rcases List.mem_cons.1 hk with rfl | hk
    · exact ⟨y, by simp, hp _ (by simp)⟩
    · obtain ⟨q, hq, hp⟩ := zip_mem (l := l) (l2 := l2) (by simpa using h) (fun z hz => hp z (by simp [hz])) k hk
      exact ⟨q, by simp [hq], hp⟩
theorem parts_mem {n : Nd} {qs : List (Nd → Bool)} (hl : n.kids.length = qs.length) (h : (n.kids.zip qs).all (fun x => x.2 x.1) = true) : ∀ k ∈ n.kids, ∃ q ∈ qs, q k = true := by
  rw [List.all_eq_true] at h
  exact fun k hk => zip_mem hl h k hk
theorem of_mem {n : Nd} {K : Int} {qs : List (Nd → Bool)} (h : ofN n K qs = true) : ∀ k ∈ n.kids, ∃ q ∈ qs, q k = true := parts_mem (of_parts h).2.1 (of_parts h).2.2
theorem named_mem {n : Nd} {r : Bool} {K : Int} {qs : List (Nd → Bool)} (hK : K ≠ 37) (h : ofN (namedN n r) K qs = true) : ∀ k ∈ n.kids, ∃ q ∈ qs, q k = true := parts_mem (named_parts hK h).2.1 (named_parts hK h).2.2

/-- A node that some question answers with yes. -/
inductive Rt (g : Q → Nd → Bool) (x : Nd) : Prop
  | empty (h : emptyB x = true)
  | ask (q : Q) (h : g q x = true)
  | typ (h : typB g x = true)
  | expr (h : exprB g x = true)
  | stmt (h : stmtB g x = true)
  | iff (h : ifB g x = true)
  | decl (h : declB g x = true)
  | sig (so : ByteArray → Bool) (h : sigB g so x = true)
  | plist (so : ByteArray → Bool) (h : listB (paramB g so) x = true)
  | param (so : ByteArray → Bool) (h : paramB g so x = true)
  | term (h : termB g x = true)
  | inter (h : interB g x = true)
  | field (h : fieldB g x = true)
  | str (h : structB g x = true)
  | params (h : paramsB g x = true)
  | tparam (h : tparamB g x = true)
  | var (h : varB g x = true)
  | block (h : blockB g x = true)
  | short (h : shortB g x = true)
  | set (h : setB g x = true)
  | inc (h : incB g x = true)
  | call (h : callB g x = true)

theorem and3 {a b c : Bool} (h : (a && b && c) = true) : a = true ∧ b = true ∧ c = true := by
  simp only [Bool.and_eq_true] at h
  exact ⟨h.1.1, h.1.2, h.2⟩
theorem or2 {a b : Bool} (h : (a || b) = true) : a = true ∨ b = true := by simpa using h
theorem list_kids {p : Nd → Bool} {x : Nd} (h : listB p x = true) : x.kind = 6 ∧ ∀ k ∈ x.kids, p k = true := by
  obtain ⟨h1, _, h3⟩ := and3 h
  exact ⟨by simpa using h1, List.all_eq_true.1 h3⟩
section
variable {g : Q → Nd → Bool} {x k : Nd}
theorem param_kids {so : ByteArray → Bool} (h : paramB g so x = true) : x.kind = 8 ∧ ∀ k ∈ x.kids, g .typ k = true :=
  ⟨(named_parts (by omega) h).1, fun k hk => by obtain ⟨q, hq, h⟩ := named_mem (by omega) h k hk; simp at hq; subst hq; exact h⟩
theorem sig_kids {so : ByteArray → Bool} (h : sigB g so x = true) : x.kind = 12 ∧ ∀ k ∈ x.kids, Rt g k :=
  ⟨(of_parts h).1, fun k hk => by
    obtain ⟨q, hq, h⟩ := of_mem h k hk
    simp at hq
    rcases hq with rfl | rfl
    · exact .plist so h
    · rcases or2 h with h | h
      · exact .empty h
      · exact .ask .typ h⟩
theorem typ_kids (h : typB g x = true) : (x.kind = 10 ∨ x.kind = 11 ∨ x.kind = 12) ∧ ∀ k ∈ x.kids, Rt g k := by
  unfold typB at h
  by_cases h1 : x.kind = 10
  · rw [if_pos h1] at h
    simp only [Bool.and_eq_true] at h
    exact ⟨.inl h1, fun k hk => .ask .typ (List.all_eq_true.1 h.2 k hk)⟩
  rw [if_neg h1] at h
  by_cases h2 : x.kind = 11
  · rw [if_pos h2] at h
    exact ⟨.inr (.inl h2), fun k hk => by obtain ⟨q, hq, h⟩ := of_mem h k hk; simp at hq; subst hq; exact .ask .typ h⟩
  rw [if_neg h2] at h
  by_cases h3 : x.kind = 12
  · rw [if_pos h3] at h
    exact ⟨.inr (.inr h3), (sig_kids h).2⟩
  rw [if_neg h3] at h
  cases h
theorem term_kids (h : termB g x = true) : x.kind = 15 ∧ ∀ k ∈ x.kids, Rt g k :=
  ⟨(named_parts (by omega) h).1, fun k hk => by obtain ⟨q, hq, h⟩ := named_mem (by omega) h k hk; simp at hq; subst hq; exact .ask .typ h⟩
theorem field_kids (h : fieldB g x = true) : x.kind = 9 ∧ ∀ k ∈ x.kids, Rt g k :=
  ⟨(named_parts (by omega) h).1, fun k hk => by obtain ⟨q, hq, h⟩ := named_mem (by omega) h k hk; simp at hq; subst hq; exact .ask .typ h⟩
theorem inter_kids (h : interB g x = true) : x.kind = 14 ∧ ∀ k ∈ x.kids, Rt g k := by
  unfold interB at h
  simp only [Bool.and_eq_true] at h
  exact ⟨by simpa using h.1.1.1, fun k hk => .term (List.all_eq_true.1 h.2 k hk)⟩
theorem str_kids (h : structB g x = true) : x.kind = 13 ∧ ∀ k ∈ x.kids, Rt g k := by
  obtain ⟨h1, _, h3⟩ := and3 h
  exact ⟨by simpa using h1, fun k hk => .field (List.all_eq_true.1 h3 k hk)⟩
theorem tparam_kids (h : tparamB g x = true) : x.kind = 7 ∧ ∀ k ∈ x.kids, Rt g k :=
  ⟨(named_parts (by omega) h).1, fun k hk => by
    obtain ⟨q, hq, h⟩ := named_mem (by omega) h k hk
    simp at hq
    subst hq
    rcases or2 h with h | h
    · unfold named1B at h
      simp only [Bool.and_eq_true] at h
      exact .ask .typ h.2
    · exact .inter h⟩
theorem params_kids (h : paramsB g x = true) : x.kind = 6 ∧ ∀ k ∈ x.kids, Rt g k := ⟨(list_kids h).1, fun k hk => .tparam ((list_kids h).2 k hk)⟩
theorem var_kids (h : varB g x = true) : x.kind = 5 ∧ ∀ k ∈ x.kids, Rt g k := by
  unfold varB at h
  simp only [Bool.and_eq_true] at h
  refine ⟨(named_parts (by omega) h.1).1, fun k hk => ?_⟩
  obtain ⟨q, hq, h⟩ := named_mem (by omega) h.1 k hk
  simp at hq
  rcases hq with rfl | rfl
  · rcases or2 h with h | h
    · exact .empty h
    · exact .ask .typ h
  · rcases or2 h with h | h
    · exact .empty h
    · exact .ask .expr h
theorem block_kids (h : blockB g x = true) : x.kind = 36 ∧ ∀ k ∈ x.kids, g .stmt k = true := by
  obtain ⟨h1, _, h3⟩ := and3 h
  exact ⟨by simpa using h1, List.all_eq_true.1 h3⟩
theorem decl_kids (h : declB g x = true) : (x.kind = 2 ∨ x.kind = 3 ∨ x.kind = 4 ∨ x.kind = 5) ∧ ∀ k ∈ x.kids, Rt g k := by
  unfold declB at h
  by_cases h1 : x.kind = 2
  · rw [if_pos h1] at h
    refine ⟨.inl h1, fun k hk => ?_⟩
    obtain ⟨q, hq, h⟩ := named_mem (by omega) h k hk
    simp at hq
    rcases hq with rfl | rfl | rfl
    · exact .params h
    · exact .sig nameB h
    · exact .block h
  rw [if_neg h1] at h
  by_cases h2 : x.kind = 3
  · rw [if_pos h2] at h
    refine ⟨.inr (.inl h2), fun k hk => ?_⟩
    obtain ⟨q, hq, h⟩ := named_mem (by omega) h k hk
    simp at hq
    rcases hq with rfl | rfl
    · exact .params h
    · rcases or2 h with h | h
      · rcases or2 h with h | h
        · exact .ask .typ h
        · exact .str h
      · exact .inter h
  rw [if_neg h2] at h
  by_cases h3 : x.kind = 4
  · rw [if_pos h3] at h
    refine ⟨.inr (.inr (.inl h3)), fun k hk => ?_⟩
    obtain ⟨q, hq, h⟩ := named_mem (by omega) h k hk
    simp at hq
    rcases hq with rfl | rfl
    · exact .params h
    · exact .ask .typ h
  rw [if_neg h3] at h
  exact ⟨.inr (.inr (.inr (var_kids h).1)), (var_kids h).2⟩
theorem one_expr {r : Bool} {K : Int} (hK : K ≠ 37) (h : ofN (namedN x r) K [g .expr] = true) : x.kind = K ∧ ∀ k ∈ x.kids, Rt g k :=
  ⟨(named_parts hK h).1, fun k hk => by obtain ⟨q, hq, h⟩ := named_mem hK h k hk; simp at hq; subst hq; exact .ask .expr h⟩
theorem no_kids {r : Bool} {K : Int} (hK : K ≠ 37) (h : ofN (namedN x r) K [] = true) : x.kind = K ∧ ∀ k ∈ x.kids, Rt g k :=
  ⟨(named_parts hK h).1, fun k hk => by obtain ⟨q, hq, h⟩ := named_mem hK h k hk; simp at hq⟩
theorem take_drop_mem {l : List Nd} {k : Nd} (h : k ∈ l) : k ∈ l.take 1 ∨ k ∈ l.drop 1 := by
  rw [← List.take_append_drop 1 l] at h
  exact List.mem_append.1 h
/-- A sum's kids. -/
theorem sum_kids (h : exprB g x = true) (hk : x.kind = 20) : x.kids.length = 2 ∧ ∀ k ∈ x.kids, g .expr k = true := by
  unfold exprB at h
  rw [if_neg (by omega), if_neg (by omega), if_neg (by omega), if_neg (by omega), if_pos hk] at h
  refine ⟨(named_parts (by omega) h).2.1, fun k hk => ?_⟩
  obtain ⟨q, hq, h⟩ := named_mem (by omega) h k hk
  simp at hq
  subst hq
  exact h
theorem expr_kids (h : exprB g x = true) : (16 ≤ x.kind ∧ x.kind ≤ 25) ∧ ∀ k ∈ x.kids, Rt g k := by
  have h0 := h
  unfold exprB at h
  by_cases h1 : x.kind = 16
  · rw [if_pos h1] at h; exact ⟨by omega, (no_kids (by omega) h).2⟩
  rw [if_neg h1] at h
  by_cases h2 : x.kind = 17
  · rw [if_pos h2] at h; exact ⟨by omega, (no_kids (by omega) h).2⟩
  rw [if_neg h2] at h
  by_cases h3 : x.kind = 18
  · rw [if_pos h3] at h; exact ⟨by omega, (no_kids (by omega) h).2⟩
  rw [if_neg h3] at h
  by_cases h4 : x.kind = 19
  · rw [if_pos h4] at h; exact ⟨by omega, (one_expr (by omega) h).2⟩
  rw [if_neg h4] at h
  by_cases h5 : x.kind = 20
  · exact ⟨by omega, fun k hk => .ask .expr ((sum_kids h0 h5).2 k hk)⟩
  rw [if_neg h5] at h
  by_cases h6 : x.kind = 21
  · rw [if_pos h6] at h
    simp only [Bool.and_eq_true] at h
    exact ⟨by omega, fun k hk => .ask .expr (List.all_eq_true.1 h.2.2 k hk)⟩
  rw [if_neg h6] at h
  by_cases h7 : x.kind = 22
  · rw [if_pos h7] at h
    simp only [Bool.and_eq_true] at h
    refine ⟨by omega, fun k hk => ?_⟩
    rcases take_drop_mem hk with hk | hk
    · exact .ask .expr (List.all_eq_true.1 h.2.2.1 k hk)
    · have := List.all_eq_true.1 h.2.2.2 k hk
      unfold partB at this
      rcases or2 this with h | h
      · exact .ask .expr h
      · simp only [Bool.and_eq_true] at h
        exact .ask .typ h.2
  rw [if_neg h7] at h
  by_cases h8 : x.kind = 23
  · rw [if_pos h8] at h; exact ⟨by omega, (one_expr (by omega) h).2⟩
  rw [if_neg h8] at h
  by_cases h9 : x.kind = 24
  · rw [if_pos h9] at h
    simp only [Bool.and_eq_true] at h
    refine ⟨by omega, fun k hk => ?_⟩
    rcases take_drop_mem hk with hk | hk
    · have := List.all_eq_true.1 h.2.2.1 k hk
      simp only [Bool.and_eq_true] at this
      exact .ask .typ this.2
    · exact .ask .expr (List.all_eq_true.1 h.2.2.2 k hk)
  rw [if_neg h9] at h
  refine ⟨by have := (of_parts h).1; omega, fun k hk => ?_⟩
  obtain ⟨q, hq, h⟩ := of_mem h k hk
  simp at hq
  rcases hq with rfl | rfl
  · exact .sig nameB h
  · exact .block h
theorem short_kids (h : shortB g x = true) : x.kind = 26 ∧ ∀ k ∈ x.kids, Rt g k := one_expr (by omega) h
theorem inc_kids (h : incB g x = true) : x.kind = 28 ∧ ∀ k ∈ x.kids, Rt g k := one_expr (by omega) h
theorem set_kids (h : setB g x = true) : x.kind = 27 ∧ ∀ k ∈ x.kids, Rt g k :=
  ⟨(of_parts h).1, fun k hk => by obtain ⟨q, hq, h⟩ := of_mem h k hk; simp at hq; subst hq; exact .ask .expr h⟩
theorem call_kids (h : callB g x = true) : x.kind = 29 ∧ ∀ k ∈ x.kids, Rt g k :=
  ⟨(of_parts h).1, fun k hk => by
    obtain ⟨q, hq, h⟩ := of_mem h k hk
    simp at hq
    subst hq
    unfold call1B at h
    simp only [Bool.and_eq_true] at h
    exact .ask .expr h.2⟩
theorem if_kids (h : ifB g x = true) : x.kind = 30 ∧ ∀ k ∈ x.kids, Rt g k :=
  ⟨(of_parts h).1, fun k hk => by
    obtain ⟨q, hq, h⟩ := of_mem h k hk
    simp at hq
    rcases hq with rfl | rfl | rfl
    · exact .ask .expr h
    · exact .block h
    · rcases or2 h with h | h
      · rcases or2 h with h | h
        · exact .empty h
        · exact .block h
      · exact .ask .iff h⟩
theorem stmt_kids (h : stmtB g x = true) : (x.kind = 5 ∨ (26 ≤ x.kind ∧ x.kind ≤ 36)) ∧ (∀ k ∈ x.kids, Rt g k) ∧ (x.kind = 36 → ∀ k ∈ x.kids, g .stmt k = true) := by
  unfold stmtB at h
  by_cases h1 : x.kind = 5
  · rw [if_pos h1] at h; exact ⟨by omega, (var_kids h).2, by omega⟩
  rw [if_neg h1] at h
  by_cases h2 : x.kind = 26
  · rw [if_pos h2] at h; exact ⟨by omega, (short_kids h).2, by omega⟩
  rw [if_neg h2] at h
  by_cases h3 : x.kind = 27
  · rw [if_pos h3] at h; exact ⟨by omega, (set_kids h).2, by omega⟩
  rw [if_neg h3] at h
  by_cases h4 : x.kind = 28
  · rw [if_pos h4] at h; exact ⟨by omega, (inc_kids h).2, by omega⟩
  rw [if_neg h4] at h
  by_cases h5 : x.kind = 29
  · rw [if_pos h5] at h; exact ⟨by omega, (call_kids h).2, by omega⟩
  rw [if_neg h5] at h
  by_cases h6 : x.kind = 30
  · rw [if_pos h6] at h; exact ⟨by omega, (if_kids h).2, by omega⟩
  rw [if_neg h6] at h
  by_cases h7 : x.kind = 31
  · rw [if_pos h7] at h
    refine ⟨by omega, fun k hk => ?_, by omega⟩
    obtain ⟨q, hq, h⟩ := of_mem h k hk
    simp at hq
    rcases hq with rfl | rfl | rfl | rfl
    · rcases or2 h with h | h
      · rcases or2 h with h | h
        · exact .empty h
        · exact .short h
      · rcases or2 h with h | h
        · exact .set h
        · exact .inc h
    · rcases or2 h with h | h
      · exact .empty h
      · exact .ask .expr h
    · rcases or2 h with h | h
      · rcases or2 h with h | h
        · exact .empty h
        · exact .set h
      · rcases or2 h with h | h
        · exact .inc h
        · exact .call h
    · exact .block h
  rw [if_neg h7] at h
  by_cases h8 : x.kind = 32
  · rw [if_pos h8] at h
    refine ⟨by omega, fun k hk => ?_, by omega⟩
    obtain ⟨q, hq, h⟩ := named_mem (by omega) h k hk
    simp at hq
    rcases hq with rfl | rfl
    · exact .ask .expr h
    · exact .block h
  rw [if_neg h8] at h
  by_cases h9 : x.kind = 33
  · rw [if_pos h9] at h
    refine ⟨by omega, fun k hk => ?_, by omega⟩
    obtain ⟨q, hq, h⟩ := of_mem h k hk
    simp at hq
    subst hq
    rcases or2 h with h | h
    · exact .empty h
    · exact .ask .expr h
  rw [if_neg h9] at h
  by_cases h10 : x.kind = 34 ∨ x.kind = 35
  · rw [if_pos h10] at h
    exact ⟨by omega, fun k hk => by obtain ⟨q, hq, h⟩ := of_mem h k hk; simp at hq, by omega⟩
  rw [if_neg h10] at h
  exact ⟨by have := (block_kids h).1; omega, fun k hk => .ask .stmt ((block_kids h).2 k hk), fun _ => (block_kids h).2⟩
end

theorem ask_of {F : Nat} {q : Q} {x : Nd} (h : isN F q x = true) : ∃ F', F = F' + 1 ∧ askN (isN F') q x = true := by
  cases F with
  | zero => cases h
  | succ F => exact ⟨F, rfl, h⟩
/-- A kid of what is right is right. -/
theorem Rt.kid {F : Nat} {x : Nd} (h : Rt (isN F) x) {k : Nd} (hk : k ∈ x.kids) : ∃ F', F' ≤ F ∧ Rt (isN F') k := by
  cases h with
  | empty h =>
    unfold emptyB at h
    simp only [Bool.and_eq_true, beq_iff_eq] at h
    have : x.kids = [] := List.length_eq_zero_iff.1 (by omega)
    rw [this] at hk
    simp at hk
  | ask q h =>
    obtain ⟨F', rfl, h⟩ := ask_of h
    refine ⟨F', Nat.le_succ _, ?_⟩
    cases q with
    | typ => exact (typ_kids h).2 k hk
    | expr => exact (expr_kids h).2 k hk
    | stmt => exact (stmt_kids h).2.1 k hk
    | iff => exact (if_kids h).2 k hk
  | typ h => exact ⟨F, Nat.le_refl _, (typ_kids h).2 k hk⟩
  | expr h => exact ⟨F, Nat.le_refl _, (expr_kids h).2 k hk⟩
  | stmt h => exact ⟨F, Nat.le_refl _, (stmt_kids h).2.1 k hk⟩
  | iff h => exact ⟨F, Nat.le_refl _, (if_kids h).2 k hk⟩
  | decl h => exact ⟨F, Nat.le_refl _, (decl_kids h).2 k hk⟩
  | sig so h => exact ⟨F, Nat.le_refl _, (sig_kids h).2 k hk⟩
  | plist so h => exact ⟨F, Nat.le_refl _, .param so ((list_kids h).2 k hk)⟩
  | param so h => exact ⟨F, Nat.le_refl _, .ask .typ ((param_kids h).2 k hk)⟩
  | term h => exact ⟨F, Nat.le_refl _, (term_kids h).2 k hk⟩
  | inter h => exact ⟨F, Nat.le_refl _, (inter_kids h).2 k hk⟩
  | field h => exact ⟨F, Nat.le_refl _, (field_kids h).2 k hk⟩
  | str h => exact ⟨F, Nat.le_refl _, (str_kids h).2 k hk⟩
  | params h => exact ⟨F, Nat.le_refl _, (params_kids h).2 k hk⟩
  | tparam h => exact ⟨F, Nat.le_refl _, (tparam_kids h).2 k hk⟩
  | var h => exact ⟨F, Nat.le_refl _, (var_kids h).2 k hk⟩
  | block h => exact ⟨F, Nat.le_refl _, .ask .stmt ((block_kids h).2 k hk)⟩
  | short h => exact ⟨F, Nat.le_refl _, (short_kids h).2 k hk⟩
  | set h => exact ⟨F, Nat.le_refl _, (set_kids h).2 k hk⟩
  | inc h => exact ⟨F, Nat.le_refl _, (inc_kids h).2 k hk⟩
  | call h => exact ⟨F, Nat.le_refl _, (call_kids h).2 k hk⟩
/-- A right block's kids. -/
theorem Rt.blocks {F : Nat} {x : Nd} (h : Rt (isN F) x) (hx : x.kind = 36) : ∃ F', F' ≤ F ∧ ∀ k ∈ x.kids, isN F' .stmt k = true := by
  cases h with
  | empty h =>
    unfold emptyB at h
    simp only [Bool.and_eq_true, beq_iff_eq] at h
    omega
  | ask q h =>
    obtain ⟨F', rfl, h⟩ := ask_of h
    refine ⟨F', Nat.le_succ _, ?_⟩
    cases q with
    | typ => have := (typ_kids h).1; omega
    | expr => have := (expr_kids h).1; omega
    | stmt => exact (stmt_kids h).2.2 hx
    | iff => have := (if_kids h).1; omega
  | typ h => have := (typ_kids h).1; omega
  | expr h => have := (expr_kids h).1; omega
  | stmt h => exact ⟨F, Nat.le_refl _, (stmt_kids h).2.2 hx⟩
  | iff h => have := (if_kids h).1; omega
  | decl h => have := (decl_kids h).1; omega
  | sig so h => have := (sig_kids h).1; omega
  | plist so h => have := (list_kids h).1; omega
  | param so h => have := (param_kids h).1; omega
  | term h => have := (term_kids h).1; omega
  | inter h => have := (inter_kids h).1; omega
  | field h => have := (field_kids h).1; omega
  | str h => have := (str_kids h).1; omega
  | params h => have := (params_kids h).1; omega
  | tparam h => have := (tparam_kids h).1; omega
  | var h => have := (var_kids h).1; omega
  | block h => exact ⟨F, Nat.le_refl _, (block_kids h).2⟩
  | short h => have := (short_kids h).1; omega
  | set h => have := (set_kids h).1; omega
  | inc h => have := (inc_kids h).1; omega
  | call h => have := (call_kids h).1; omega
/-- A right sum's kids. -/
theorem Rt.sums {F : Nat} {x : Nd} (h : Rt (isN F) x) (hx : x.kind = 20) : x.kids.length = 2 ∧ ∃ F', F' ≤ F ∧ ∀ k ∈ x.kids, isN F' .expr k = true := by
  cases h with
  | empty h =>
    unfold emptyB at h
    simp only [Bool.and_eq_true, beq_iff_eq] at h
    omega
  | ask q h =>
    obtain ⟨F', rfl, h⟩ := ask_of h
    cases q with
    | typ => have := (typ_kids h).1; omega
    | expr => exact ⟨(sum_kids h hx).1, F', Nat.le_succ _, (sum_kids h hx).2⟩
    | stmt => have := (stmt_kids h).1; omega
    | iff => have := (if_kids h).1; omega
  | typ h => have := (typ_kids h).1; omega
  | expr h => exact ⟨(sum_kids h hx).1, F, Nat.le_refl _, (sum_kids h hx).2⟩
  | stmt h => have := (stmt_kids h).1; omega
  | iff h => have := (if_kids h).1; omega
  | decl h => have := (decl_kids h).1; omega
  | sig so h => have := (sig_kids h).1; omega
  | plist so h => have := (list_kids h).1; omega
  | param so h => have := (param_kids h).1; omega
  | term h => have := (term_kids h).1; omega
  | inter h => have := (inter_kids h).1; omega
  | field h => have := (field_kids h).1; omega
  | str h => have := (str_kids h).1; omega
  | params h => have := (params_kids h).1; omega
  | tparam h => have := (tparam_kids h).1; omega
  | var h => have := (var_kids h).1; omega
  | block h => have := (block_kids h).1; omega
  | short h => have := (short_kids h).1; omega
  | set h => have := (set_kids h).1; omega
  | inc h => have := (inc_kids h).1; omega
  | call h => have := (call_kids h).1; omega

/-- All in a node whose kids are right. -/
theorem all_right : ∀ (m : Nat) (n : Nd) (F : Nat), Rt (isN F) n → ∀ p ∈ allN m n, ∃ F', F' ≤ F ∧ Rt (isN F') p.1
  | 0, n, F, h, p, hp => by simp [allN] at hp
  | m + 1, n, F, h, p, hp => by
    simp only [allN, List.mem_cons, List.mem_flatMap] at hp
    rcases hp with rfl | ⟨k, hk, hp⟩
    · exact ⟨F, Nat.le_refl _, h⟩
    · obtain ⟨F1, h1, h2⟩ := h.kid hk
      obtain ⟨F2, h3, h4⟩ := all_right m k F1 h2 p hp
      exact ⟨F2, Nat.le_trans h3 h1, h4⟩

end Go.Proofs.YtkmhijkpbmcgbaaGreat
