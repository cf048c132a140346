/-
  The questions, asked deeper, answer yes where they did; what is in a node that is not too great is not too great.
-/
import Derived.Test.YtkmhijkpbmcgbaaGreatPartsLaw
namespace Go.Proofs.YtkmhijkpbmcgbaaGreat
set_option linter.all false
open Go.RowKit Go.Shelf

/-- Questions, each of which implies the other list's. -/
inductive Imp2 : List (Nd → Bool) → List (Nd → Bool) → Prop
  | nil : Imp2 [] []
  | cons {p q : Nd → Bool} {ps qs : List (Nd → Bool)} (h : ∀ k, p k = true → q k = true) (t : Imp2 ps qs) : Imp2 (p :: ps) (q :: qs)
theorem Imp2.len : ∀ {ps qs : List (Nd → Bool)}, Imp2 ps qs → ps.length = qs.length
  | _, _, .nil => rfl
  | _, _, .cons _ t => by simp [t.len]
theorem Imp2.zip : ∀ {ps qs : List (Nd → Bool)} (l : List Nd), Imp2 ps qs → (l.zip ps).all (fun x => x.2 x.1) = true → (l.zip qs).all (fun x => x.2 x.1) = true
  | _, _, [], .nil, h => h
  | _, _, _ :: _, .nil, h => by simp
  | _, _, [], .cons _ _, _ => by simp
  | _, _, x :: l, .cons hp t, h => by
    simp only [List.zip_cons_cons, List.all_cons, Bool.and_eq_true] at h ⊢
    exact ⟨hp _ h.1, t.zip l h.2⟩
theorem of_imp {n : Nd} {K : Int} {ps qs : List (Nd → Bool)} (t : Imp2 ps qs) (h : ofN n K ps = true) : ofN n K qs = true := by
  unfold ofN at h ⊢
  simp only [Bool.and_eq_true, beq_iff_eq] at h ⊢
  exact ⟨⟨h.1.1, by rw [h.1.2, t.len]⟩, t.zip _ h.2⟩
theorem all_imp {l : List Nd} {p q : Nd → Bool} (h : ∀ k, p k = true → q k = true) (ha : l.all p = true) : l.all q = true :=
  List.all_eq_true.2 fun k hk => h k (List.all_eq_true.1 ha k hk)
theorem or_imp' {a b c d : Bool} (h1 : a = true → c = true) (h2 : b = true → d = true) (h : (a || b) = true) : (c || d) = true := by
  rcases or2 h with h | h
  · rw [h1 h]; rfl
  · rw [h2 h]; simp
theorem and_imp' {a b c d : Bool} (h1 : a = true → c = true) (h2 : b = true → d = true) (h : (a && b) = true) : (c && d) = true := by
  simp only [Bool.and_eq_true] at h ⊢
  exact ⟨h1 h.1, h2 h.2⟩
section
variable {g g' : Q → Nd → Bool} (G : ∀ q k, g q k = true → g' q k = true)
include G
theorem orE_imp {q : Q} (k : Nd) (h : (emptyB k || g q k) = true) : (emptyB k || g' q k) = true := or_imp' id (G q k) h
theorem list_imp {p q : Nd → Bool} (h : ∀ k, p k = true → q k = true) (n : Nd) (hl : listB p n = true) : listB q n = true := and_imp' id (all_imp h) hl
theorem param_imp (so : ByteArray → Bool) (n : Nd) (h : paramB g so n = true) : paramB g' so n = true := of_imp (.cons (G .typ) .nil) h
theorem sig_imp (so : ByteArray → Bool) (n : Nd) (h : sigB g so n = true) : sigB g' so n = true := of_imp (.cons (list_imp G (param_imp G so)) (.cons (orE_imp G) .nil)) h
theorem typ_imp (n : Nd) (h : typB g n = true) : typB g' n = true := by
  unfold typB at h ⊢
  split at h
  · rw [if_pos ‹_›]; exact and_imp' id (all_imp (G .typ)) h
  rw [if_neg ‹_›]
  split at h
  · rw [if_pos ‹_›]; exact of_imp (.cons (G .typ) .nil) h
  rw [if_neg ‹_›]
  split at h
  · rw [if_pos ‹_›]; exact sig_imp G noneB n h
  · cases h
theorem term_imp (n : Nd) (h : termB g n = true) : termB g' n = true := of_imp (.cons (G .typ) .nil) h
theorem field_imp (n : Nd) (h : fieldB g n = true) : fieldB g' n = true := of_imp (.cons (G .typ) .nil) h
theorem inter_imp (n : Nd) (h : interB g n = true) : interB g' n = true := and_imp' id (all_imp (term_imp G)) h
theorem str_imp (n : Nd) (h : structB g n = true) : structB g' n = true := and_imp' id (all_imp (field_imp G)) h
theorem tparam_imp (n : Nd) (h : tparamB g n = true) : tparamB g' n = true := of_imp (.cons (fun k => or_imp' (and_imp' id (G .typ k)) (inter_imp G k)) .nil) h
theorem params_imp (n : Nd) (h : paramsB g n = true) : paramsB g' n = true := list_imp G (tparam_imp G) n h
theorem var_imp (n : Nd) (h : varB g n = true) : varB g' n = true := and_imp' (of_imp (.cons (orE_imp G) (.cons (orE_imp G) .nil))) id h
theorem block_imp (n : Nd) (h : blockB g n = true) : blockB g' n = true := and_imp' id (all_imp (G .stmt)) h
theorem decl_imp (n : Nd) (h : declB g n = true) : declB g' n = true := by
  unfold declB at h ⊢
  split at h
  · rw [if_pos ‹_›]; exact of_imp (.cons (params_imp G) (.cons (sig_imp G nameB) (.cons (block_imp G) .nil))) h
  rw [if_neg ‹_›]
  split at h
  · rw [if_pos ‹_›]; exact of_imp (.cons (params_imp G) (.cons (fun k => or_imp' (or_imp' (G .typ k) (str_imp G k)) (inter_imp G k)) .nil)) h
  rw [if_neg ‹_›]
  split at h
  · rw [if_pos ‹_›]; exact of_imp (.cons (params_imp G) (.cons (G .typ) .nil)) h
  rw [if_neg ‹_›]
  exact var_imp G n h
theorem part_imp (n : Nd) (h : partB g n = true) : partB g' n = true := or_imp' (G .expr n) (and_imp' id (G .typ n)) h
theorem expr_imp (n : Nd) (h : exprB g n = true) : exprB g' n = true := by
  unfold exprB at h ⊢
  split at h
  · rw [if_pos ‹_›]; exact h
  rw [if_neg ‹_›]
  split at h
  · rw [if_pos ‹_›]; exact h
  rw [if_neg ‹_›]
  split at h
  · rw [if_pos ‹_›]; exact h
  rw [if_neg ‹_›]
  split at h
  · rw [if_pos ‹_›]; exact of_imp (.cons (G .expr) .nil) h
  rw [if_neg ‹_›]
  split at h
  · rw [if_pos ‹_›]; exact of_imp (.cons (G .expr) (.cons (G .expr) .nil)) h
  rw [if_neg ‹_›]
  split at h
  · rw [if_pos ‹_›]; exact and_imp' id (and_imp' id (all_imp (G .expr))) h
  rw [if_neg ‹_›]
  split at h
  · rw [if_pos ‹_›]; exact and_imp' id (and_imp' id (and_imp' (all_imp (G .expr)) (all_imp (part_imp G)))) h
  rw [if_neg ‹_›]
  split at h
  · rw [if_pos ‹_›]; exact of_imp (.cons (G .expr) .nil) h
  rw [if_neg ‹_›]
  split at h
  · rw [if_pos ‹_›]; exact and_imp' id (and_imp' id (and_imp' (all_imp fun k => and_imp' id (G .typ k)) (all_imp (G .expr)))) h
  rw [if_neg ‹_›]
  exact of_imp (.cons (sig_imp G nameB) (.cons (block_imp G) .nil)) h
theorem inc_imp (n : Nd) (h : incB g n = true) : incB g' n = true := of_imp (.cons (G .expr) .nil) h
theorem set_imp (n : Nd) (h : setB g n = true) : setB g' n = true := of_imp (.cons (G .expr) (.cons (G .expr) .nil)) h
theorem call_imp (n : Nd) (h : callB g n = true) : callB g' n = true := of_imp (.cons (fun k => and_imp' id (G .expr k)) .nil) h
theorem short_imp (n : Nd) (h : shortB g n = true) : shortB g' n = true := of_imp (.cons (G .expr) .nil) h
theorem if_imp (n : Nd) (h : ifB g n = true) : ifB g' n = true := of_imp (.cons (G .expr) (.cons (block_imp G) (.cons (fun k => or_imp' (or_imp' id (block_imp G k)) (G .iff k)) .nil))) h
theorem stmt_imp (n : Nd) (h : stmtB g n = true) : stmtB g' n = true := by
  unfold stmtB at h ⊢
  split at h
  · rw [if_pos ‹_›]; exact var_imp G n h
  rw [if_neg ‹_›]
  split at h
  · rw [if_pos ‹_›]; exact short_imp G n h
  rw [if_neg ‹_›]
  split at h
  · rw [if_pos ‹_›]; exact set_imp G n h
  rw [if_neg ‹_›]
  split at h
  · rw [if_pos ‹_›]; exact inc_imp G n h
  rw [if_neg ‹_›]
  split at h
  · rw [if_pos ‹_›]; exact call_imp G n h
  rw [if_neg ‹_›]
  split at h
  · rw [if_pos ‹_›]; exact if_imp G n h
  rw [if_neg ‹_›]
  split at h
  · rw [if_pos ‹_›]; exact of_imp (.cons (fun k => or_imp' (or_imp' id (short_imp G k)) (or_imp' (set_imp G k) (inc_imp G k))) (.cons (orE_imp G) (.cons (fun k => or_imp' (or_imp' id (set_imp G k)) (or_imp' (inc_imp G k) (call_imp G k))) (.cons (block_imp G) .nil)))) h
  rw [if_neg ‹_›]
  split at h
  · rw [if_pos ‹_›]; exact of_imp (.cons (G .expr) (.cons (block_imp G) .nil)) h
  rw [if_neg ‹_›]
  split at h
  · rw [if_pos ‹_›]; exact of_imp (.cons (orE_imp G) .nil) h
  rw [if_neg ‹_›]
  split at h
  · rw [if_pos ‹_›]; exact h
  rw [if_neg ‹_›]
  exact block_imp G n h
theorem ask_imp (q : Q) (n : Nd) (h : askN g q n = true) : askN g' q n = true := by
  cases q with
  | typ => exact typ_imp G n h
  | expr => exact expr_imp G n h
  | stmt => exact stmt_imp G n h
  | iff => exact if_imp G n h
end
theorem is_up : ∀ (F : Nat) (q : Q) (n : Nd), isN F q n = true → isN (F + 1) q n = true
  | 0, _, _, h => by cases h
  | F + 1, q, n, h => ask_imp (is_up F) q n h
theorem is_le {F F' : Nat} (hF : F ≤ F') (q : Q) (n : Nd) (h : isN F q n = true) : isN F' q n = true := by
  induction hF with
  | refl => exact h
  | step _ ih => exact is_up _ q n ih

/-- Not too deep, not too great. -/
def okN (n : Nd) : Bool := decide (depthN 101 n ≤ 100) && decide (wrap64 (sizeN 100 n) ≤ 65536)
theorem size_kid_lt {m : Nat} {n k : Nd} (h : k ∈ n.kids) : sizeN m k < sizeN (m + 1) n := by
  obtain ⟨p, hp⟩ := List.getElem?_of_mem h
  have := size_kid (f := m) hp
  have h2 := le_sum (sizeN m) n.kids k h
  simp only [sizeN]
  omega
theorem size_flat : ∀ (f : Nat) (n : Nd), depthN (f + 1) n ≤ f → sizeN (f + 1) n = sizeN f n
  | 0, n, h => by simp only [depthN] at h; omega
  | f + 1, n, h => by
    have e : n.kids.map (sizeN (f + 1)) = n.kids.map (sizeN f) := List.map_congr_left fun k hk => size_flat f k (by
      have := depth_kid (f := f + 1) hk
      omega)
    show 1 + (n.kids.map (sizeN (f + 1))).sum = 1 + (n.kids.map (sizeN f)).sum
    rw [e]
theorem ok_kid {n k : Nd} (h : depthN 101 n ≤ 100 ∧ sizeN 100 n ≤ 65536) (hk : k ∈ n.kids) : depthN 101 k ≤ 100 ∧ sizeN 100 k ≤ 65536 := by
  have h6 : depthN 100 k + 1 ≤ depthN 101 n := depth_kid hk
  have h1 : depthN 101 k = depthN 100 k := depth_same 100 k (by omega)
  have h5 : sizeN 100 k = sizeN 99 k := size_flat 99 k (by show depthN 100 k ≤ 99; omega)
  have h7 : sizeN 99 k < sizeN 100 n := size_kid_lt hk
  omega
theorem ok_all : ∀ (m : Nat) (n : Nd), (depthN 101 n ≤ 100 ∧ sizeN 100 n ≤ 65536) → ∀ p ∈ allN m n, depthN 101 p.1 ≤ 100 ∧ sizeN 100 p.1 ≤ 65536
  | 0, n, h, p, hp => by simp [allN] at hp
  | m + 1, n, h, p, hp => by
    simp only [allN, List.mem_cons, List.mem_flatMap] at hp
    rcases hp with rfl | ⟨k, hk, hp⟩
    · exact h
    · exact ok_all m k (ok_kid h hk) p hp
theorem mem_allN (m : Nat) {n : Nd} {p : Nd × Nat} (hp : p ∈ allN (m + 1) n) : p = (n, m + 1) ∨ ∃ k ∈ n.kids, p ∈ allN m k := by
  simp only [allN, List.mem_cons, List.mem_flatMap] at hp
  exact hp
theorem fits_all : ∀ (m : Nat) (n : Nd), Fits n → ∀ p ∈ allN m n, Fits p.1
  | 0, n, h, p, hp => by simp [allN] at hp
  | m + 1, n, h, p, hp => by
    simp only [allN, List.mem_cons, List.mem_flatMap] at hp
    rcases hp with rfl | ⟨k, hk, hp⟩
    · exact h
    · exact fits_all m k (h.kid hk) p hp
theorem ok_of {n : Nd} (h : okN n = true) (hz : sizeN 100 n ≤ 1048576) : depthN 101 n ≤ 100 ∧ sizeN 100 n ≤ 65536 := by
  unfold okN at h
  rw [wrap64_small (by omega) (by omega)] at h
  simp only [Bool.and_eq_true, decide_eq_true_eq] at h
  omega
theorem ok_to {n : Nd} (h : depthN 101 n ≤ 100 ∧ sizeN 100 n ≤ 65536) : okN n = true := by
  unfold okN
  rw [wrap64_small (by omega) (by omega)]
  simp only [Bool.and_eq_true, decide_eq_true_eq]
  omega
/-- What is in a right file. -/
theorem file_parts {F : Nat} {n : Nd} (hft : Fits n) (hok : okN n = true) (hf : fileB (isN F) n = true) :
    (∀ k ∈ n.kids, okN k = true ∧ Fits k ∧ declB (isN F) k = true) ∧
    (∀ x ∈ findN 100 36 n, ∀ k ∈ x.kids, okN k = true ∧ Fits k ∧ isN F .stmt k = true) ∧
    (∀ x ∈ findN 100 20 n, x.kids.length = 2 ∧ ∀ k ∈ x.kids, okN k = true ∧ Fits k ∧ isN F .expr k = true) := by
  have hz := Nat.le_trans (size_le_bulk 100 n) (hft 100)
  have ho := ok_of hok hz
  obtain ⟨h1, _, h3⟩ := and3 hf
  have h3 := List.all_eq_true.1 h3
  have hin : ∀ (kind : Int) (x : Nd), kind ≠ 1 → x ∈ findN 100 kind n → x.kind = kind ∧ (∃ F', F' ≤ F ∧ Rt (isN F') x) ∧ (depthN 101 x ≤ 100 ∧ sizeN 100 x ≤ 65536) ∧ Fits x := fun kind x hne hx => by
    unfold findN at hx
    rw [List.mem_filter] at hx
    obtain ⟨hm, hk⟩ := hx
    have hk : x.kind = kind := by simpa using hk
    obtain ⟨p, hp, rfl⟩ := List.mem_map.1 hm
    refine ⟨hk, ?_, ok_all 100 n ho p hp, fits_all 100 n hft p hp⟩
    have hp2 : p = (n, 100) ∨ ∃ k ∈ n.kids, p ∈ allN 99 k := mem_allN 99 hp
    rcases hp2 with rfl | ⟨k, hkm, hp2⟩
    · have : n.kind = 1 := by simpa using h1
      exact absurd (hk.symm.trans this) hne
    · exact all_right 99 k F (.decl (h3 k hkm)) p hp2
  refine ⟨fun k hk => ⟨ok_to (ok_kid ho hk), hft.kid hk, h3 k hk⟩, fun x hx => ?_, fun x hx => ?_⟩
  · obtain ⟨hk, ⟨F', hF, hr⟩, ho, hf⟩ := hin 36 x (by omega) hx
    obtain ⟨F2, hF2, hs⟩ := hr.blocks hk
    exact fun k hk => ⟨ok_to (ok_kid ho hk), hf.kid hk, is_le (Nat.le_trans hF2 hF) _ _ (hs k hk)⟩
  · obtain ⟨hk, ⟨F', hF, hr⟩, ho, hf⟩ := hin 20 x (by omega) hx
    obtain ⟨hl, F2, hF2, hs⟩ := hr.sums hk
    exact ⟨hl, fun k hk => ⟨ok_to (ok_kid ho hk), hf.kid hk, is_le (Nat.le_trans hF2 hF) _ _ (hs k hk)⟩⟩

end Go.Proofs.YtkmhijkpbmcgbaaGreat
