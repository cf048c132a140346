/-
  The questions, asked deeper than a node is high, answer no other.
-/
import Derived.Test.YtkmhijkpbmcgbaaGreatMono
namespace Go.Proofs.YtkmhijkpbmcgbaaGreat
set_option linter.all false
open Go.RowKit Go.Shelf

theorem namedK {n k : Nd} {r : Bool} (h : k ∈ (namedN n r).kids) : k ∈ n.kids := by
  cases r with
  | true => exact h
  | false => exact absurd h (by simp [namedN, Nd.kids])
/-- Questions, each of which implies the other list's where P holds. -/
inductive Imp2P (P : Nd → Prop) : List (Nd → Bool) → List (Nd → Bool) → Prop
  | nil : Imp2P P [] []
  | cons {p q : Nd → Bool} {ps qs : List (Nd → Bool)} (h : ∀ k, P k → p k = true → q k = true) (t : Imp2P P ps qs) : Imp2P P (p :: ps) (q :: qs)
theorem Imp2P.len {P : Nd → Prop} : ∀ {ps qs : List (Nd → Bool)}, Imp2P P ps qs → ps.length = qs.length
  | _, _, .nil => rfl
  | _, _, .cons _ t => by simp [t.len]
theorem Imp2P.zip {P : Nd → Prop} : ∀ {ps qs : List (Nd → Bool)} (l : List Nd), (∀ k ∈ l, P k) → Imp2P P ps qs → (l.zip ps).all (fun x => x.2 x.1) = true → (l.zip qs).all (fun x => x.2 x.1) = true
  | _, _, [], _, .nil, h => h
  | _, _, _ :: _, _, .nil, h => by simp
  | _, _, [], _, .cons _ _, _ => by simp
  | _, _, x :: l, hl, .cons hp t, h => by
    simp only [List.zip_cons_cons, List.all_cons, Bool.and_eq_true] at h ⊢
    exact ⟨hp _ (hl x (by simp)) h.1, t.zip l (fun k hk => hl k (by simp [hk])) h.2⟩
theorem of_impP {P : Nd → Prop} {n : Nd} {K : Int} {ps qs : List (Nd → Bool)} (hn : ∀ k ∈ n.kids, P k) (t : Imp2P P ps qs) (h : ofN n K ps = true) : ofN n K qs = true := by
  unfold ofN at h ⊢
  simp only [Bool.and_eq_true, beq_iff_eq] at h ⊢
  exact ⟨⟨h.1.1, by rw [h.1.2, t.len]⟩, t.zip _ hn h.2⟩
theorem all_impP {P : Nd → Prop} {l : List Nd} {p q : Nd → Bool} (hl : ∀ k ∈ l, P k) (h : ∀ k, P k → p k = true → q k = true) (ha : l.all p = true) : l.all q = true :=
  List.all_eq_true.2 fun k hk => h k (hl k hk) (List.all_eq_true.1 ha k hk)
section
variable {P : Nd → Prop} {g g' : Q → Nd → Bool} (hP : ∀ k, P k → ∀ k' ∈ k.kids, P k') (G : ∀ q k, P k → g q k = true → g' q k = true)
include hP G
theorem orE_impP {q : Q} (k : Nd) (hk : P k) (h : (emptyB k || g q k) = true) : (emptyB k || g' q k) = true := or_imp' id (G q k hk) h
theorem list_impP {p q : Nd → Bool} (h : ∀ k, P k → p k = true → q k = true) (n : Nd) (hn : ∀ k ∈ n.kids, P k) (hl : listB p n = true) : listB q n = true := and_imp' id (all_impP hn h) hl
theorem param_impP (so : ByteArray → Bool) (n : Nd) (hn : ∀ k ∈ n.kids, P k) (h : paramB g so n = true) : paramB g' so n = true := of_impP (fun k hk => hn k (namedK hk)) (.cons (G .typ) .nil) h
theorem sig_impP (so : ByteArray → Bool) (n : Nd) (hn : ∀ k ∈ n.kids, P k) (h : sigB g so n = true) : sigB g' so n = true := of_impP hn (.cons (fun k hk => list_impP hP G (fun k2 hk2 => param_impP hP G so k2 (hP k2 hk2)) k (hP k hk)) (.cons (orE_impP hP G) .nil)) h
theorem typ_impP (n : Nd) (hn : ∀ k ∈ n.kids, P k) (h : typB g n = true) : typB g' n = true := by
  unfold typB at h ⊢
  split at h
  · rw [if_pos ‹_›]; exact and_imp' id (all_impP hn (G .typ)) h
  rw [if_neg ‹_›]
  split at h
  · rw [if_pos ‹_›]; exact of_impP hn (.cons (G .typ) .nil) h
  rw [if_neg ‹_›]
  split at h
  · rw [if_pos ‹_›]; exact sig_impP hP G noneB n hn h
  · cases h
theorem term_impP (n : Nd) (hn : ∀ k ∈ n.kids, P k) (h : termB g n = true) : termB g' n = true := of_impP (fun k hk => hn k (namedK hk)) (.cons (G .typ) .nil) h
theorem field_impP (n : Nd) (hn : ∀ k ∈ n.kids, P k) (h : fieldB g n = true) : fieldB g' n = true := of_impP (fun k hk => hn k (namedK hk)) (.cons (G .typ) .nil) h
theorem inter_impP (n : Nd) (hn : ∀ k ∈ n.kids, P k) (h : interB g n = true) : interB g' n = true := and_imp' id (all_impP hn (fun k hk => term_impP hP G k (hP k hk))) h
theorem str_impP (n : Nd) (hn : ∀ k ∈ n.kids, P k) (h : structB g n = true) : structB g' n = true := and_imp' id (all_impP hn (fun k hk => field_impP hP G k (hP k hk))) h
theorem tparam_impP (n : Nd) (hn : ∀ k ∈ n.kids, P k) (h : tparamB g n = true) : tparamB g' n = true := of_impP (fun k hk => hn k (namedK hk)) (.cons (fun k hk => or_imp' (and_imp' id (G .typ k hk)) (inter_impP hP G k (hP k hk))) .nil) h
theorem params_impP (n : Nd) (hn : ∀ k ∈ n.kids, P k) (h : paramsB g n = true) : paramsB g' n = true := list_impP hP G (fun k hk => tparam_impP hP G k (hP k hk)) n hn h
theorem var_impP (n : Nd) (hn : ∀ k ∈ n.kids, P k) (h : varB g n = true) : varB g' n = true := and_imp' (of_impP (fun k hk => hn k (namedK hk)) (.cons (orE_impP hP G) (.cons (orE_impP hP G) .nil))) id h
theorem block_impP (n : Nd) (hn : ∀ k ∈ n.kids, P k) (h : blockB g n = true) : blockB g' n = true := and_imp' id (all_impP hn (G .stmt)) h
theorem decl_impP (n : Nd) (hn : ∀ k ∈ n.kids, P k) (h : declB g n = true) : declB g' n = true := by
  unfold declB at h ⊢
  split at h
  · rw [if_pos ‹_›]; exact of_impP (fun k hk => hn k (namedK hk)) (.cons (fun k hk => params_impP hP G k (hP k hk)) (.cons (fun k hk => sig_impP hP G nameB k (hP k hk)) (.cons (fun k hk => block_impP hP G k (hP k hk)) .nil))) h
  rw [if_neg ‹_›]
  split at h
  · rw [if_pos ‹_›]; exact of_impP (fun k hk => hn k (namedK hk)) (.cons (fun k hk => params_impP hP G k (hP k hk)) (.cons (fun k hk => or_imp' (or_imp' (G .typ k hk) (str_impP hP G k (hP k hk))) (inter_impP hP G k (hP k hk))) .nil)) h
  rw [if_neg ‹_›]
  split at h
  · rw [if_pos ‹_›]; exact of_impP (fun k hk => hn k (namedK hk)) (.cons (fun k hk => params_impP hP G k (hP k hk)) (.cons (G .typ) .nil)) h
  rw [if_neg ‹_›]
  exact var_impP hP G n hn h
theorem part_impP (n : Nd) (hp : P n) (h : partB g n = true) : partB g' n = true := or_imp' (G .expr n hp) (and_imp' id (G .typ n hp)) h
theorem expr_impP (n : Nd) (hn : ∀ k ∈ n.kids, P k) (h : exprB g n = true) : exprB g' n = true := by
  unfold exprB at h ⊢
  split at h
  · rw [if_pos ‹_›]; exact h
  rw [if_neg ‹_›]
  split at h
  · rw [if_pos ‹_›]; exact h
  rw [if_neg ‹_›]
  split at h
  · rw [if_pos ‹_›]; exact h
  rw [if_neg ‹_›]
  split at h
  · rw [if_pos ‹_›]; exact of_impP (fun k hk => hn k (namedK hk)) (.cons (G .expr) .nil) h
  rw [if_neg ‹_›]
  split at h
  · rw [if_pos ‹_›]; exact of_impP (fun k hk => hn k (namedK hk)) (.cons (G .expr) (.cons (G .expr) .nil)) h
  rw [if_neg ‹_›]
  split at h
  · rw [if_pos ‹_›]; exact and_imp' id (and_imp' id (all_impP hn (G .expr))) h
  rw [if_neg ‹_›]
  split at h
  · rw [if_pos ‹_›]; exact and_imp' id (and_imp' id (and_imp' (all_impP (fun k hk => hn k (List.mem_of_mem_take hk)) (G .expr)) (all_impP (fun k hk => hn k (List.mem_of_mem_drop hk)) (part_impP hP G)))) h
  rw [if_neg ‹_›]
  split at h
  · rw [if_pos ‹_›]; exact of_impP (fun k hk => hn k (namedK hk)) (.cons (G .expr) .nil) h
  rw [if_neg ‹_›]
  split at h
  · rw [if_pos ‹_›]; exact and_imp' id (and_imp' id (and_imp' (all_impP (fun k hk => hn k (List.mem_of_mem_take hk)) fun k hk => and_imp' id (G .typ k hk)) (all_impP (fun k hk => hn k (List.mem_of_mem_drop hk)) (G .expr)))) h
  rw [if_neg ‹_›]
  exact of_impP hn (.cons (fun k hk => sig_impP hP G nameB k (hP k hk)) (.cons (fun k hk => block_impP hP G k (hP k hk)) .nil)) h
theorem inc_impP (n : Nd) (hn : ∀ k ∈ n.kids, P k) (h : incB g n = true) : incB g' n = true := of_impP (fun k hk => hn k (namedK hk)) (.cons (G .expr) .nil) h
theorem set_impP (n : Nd) (hn : ∀ k ∈ n.kids, P k) (h : setB g n = true) : setB g' n = true := of_impP hn (.cons (G .expr) (.cons (G .expr) .nil)) h
theorem call_impP (n : Nd) (hn : ∀ k ∈ n.kids, P k) (h : callB g n = true) : callB g' n = true := of_impP hn (.cons (fun k hk => and_imp' id (G .expr k hk)) .nil) h
theorem short_impP (n : Nd) (hn : ∀ k ∈ n.kids, P k) (h : shortB g n = true) : shortB g' n = true := of_impP (fun k hk => hn k (namedK hk)) (.cons (G .expr) .nil) h
theorem if_impP (n : Nd) (hn : ∀ k ∈ n.kids, P k) (h : ifB g n = true) : ifB g' n = true := of_impP hn (.cons (G .expr) (.cons (fun k hk => block_impP hP G k (hP k hk)) (.cons (fun k hk => or_imp' (or_imp' id (block_impP hP G k (hP k hk))) (G .iff k hk)) .nil))) h
theorem stmt_impP (n : Nd) (hn : ∀ k ∈ n.kids, P k) (h : stmtB g n = true) : stmtB g' n = true := by
  unfold stmtB at h ⊢
  split at h
  · rw [if_pos ‹_›]; exact var_impP hP G n hn h
  rw [if_neg ‹_›]
  split at h
  · rw [if_pos ‹_›]; exact short_impP hP G n hn h
  rw [if_neg ‹_›]
  split at h
  · rw [if_pos ‹_›]; exact set_impP hP G n hn h
  rw [if_neg ‹_›]
  split at h
  · rw [if_pos ‹_›]; exact inc_impP hP G n hn h
  rw [if_neg ‹_›]
  split at h
  · rw [if_pos ‹_›]; exact call_impP hP G n hn h
  rw [if_neg ‹_›]
  split at h
  · rw [if_pos ‹_›]; exact if_impP hP G n hn h
  rw [if_neg ‹_›]
  split at h
  · rw [if_pos ‹_›]; exact of_impP hn (.cons (fun k hk => or_imp' (or_imp' id (short_impP hP G k (hP k hk))) (or_imp' (set_impP hP G k (hP k hk)) (inc_impP hP G k (hP k hk)))) (.cons (orE_impP hP G) (.cons (fun k hk => or_imp' (or_imp' id (set_impP hP G k (hP k hk))) (or_imp' (inc_impP hP G k (hP k hk)) (call_impP hP G k (hP k hk)))) (.cons (fun k hk => block_impP hP G k (hP k hk)) .nil)))) h
  rw [if_neg ‹_›]
  split at h
  · rw [if_pos ‹_›]; exact of_impP (fun k hk => hn k (namedK hk)) (.cons (G .expr) (.cons (fun k hk => block_impP hP G k (hP k hk)) .nil)) h
  rw [if_neg ‹_›]
  split at h
  · rw [if_pos ‹_›]; exact of_impP hn (.cons (orE_impP hP G) .nil) h
  rw [if_neg ‹_›]
  split at h
  · rw [if_pos ‹_›]; exact h
  rw [if_neg ‹_›]
  exact block_impP hP G n hn h
theorem ask_impP (q : Q) (n : Nd) (hn : ∀ k ∈ n.kids, P k) (h : askN g q n = true) : askN g' q n = true := by
  cases q with
  | typ => exact typ_impP hP G n hn h
  | expr => exact expr_impP hP G n hn h
  | stmt => exact stmt_impP hP G n hn h
  | iff => exact if_impP hP G n hn h
end

/-- At most so high. -/
def Low : Nat → Nd → Prop
  | 0, _ => False
  | f + 1, n => ∀ k ∈ n.kids, Low f k
theorem Low.up : ∀ {f : Nat} {n : Nd}, Low f n → Low (f + 1) n
  | 0, _, h => h.elim
  | f + 1, n, h => fun k hk => (h k hk).up
theorem Low.kid {f : Nat} {n k : Nd} (h : Low f n) (hk : k ∈ n.kids) : Low f k := by
  cases f with
  | zero => exact h.elim
  | succ f => exact (h k hk).up
theorem NdV.low {w : World} : ∀ {f : Nat} {v : Value} {n : Nd}, NdV w f v n → Low f n
  | 0, _, _, h => h.elim
  | f + 1, v, n, ⟨A, c, hv, hl, hc⟩ => fun k hk => by
    obtain ⟨b, off, hA, hi⟩ := hc (List.length_pos_of_mem hk)
    obtain ⟨i, hik⟩ := List.getElem?_of_mem hk
    obtain ⟨A', c', _, _, _, _, h5⟩ := hi i k hik
    exact h5.low
theorem is_down : ∀ (F : Nat) (q : Q) (n : Nd), Low F n → isN (F + 1) q n = true → isN F q n = true
  | 0, _, _, h, _ => h.elim
  | F + 1, q, n, h, ha => ask_impP (P := Low F) (fun k hk k' hk' => hk.kid hk') (fun q k hk => is_down F q k hk) q n h ha
/-- At a node that is not higher than they go, they answer themselves. -/
theorem is_fix {F : Nat} {n : Nd} (h : Low F n) (q : Q) : isN F q n = askN (isN F) q n := by
  have : isN (F + 1) q n = isN F q n := by
    cases h1 : isN (F + 1) q n with
    | true => exact (is_down F q n h h1).symm
    | false =>
      cases h2 : isN F q n with
      | false => rfl
      | true => rw [is_up F q n h2] at h1; cases h1
  exact this.symm

end Go.Proofs.YtkmhijkpbmcgbaaGreat
