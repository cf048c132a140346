/-
  Same is an equality; sums: plain laws.
-/
import Derived.Test.YtkmhijkpbmcgbaaGreatPure
namespace Go.Proofs.YtkmhijkpbmcgbaaGreat
set_option linter.all false

theorem foldl_max_le (l : List Nat) (m b : Nat) : l.foldl max m ≤ b ↔ m ≤ b ∧ ∀ x ∈ l, x ≤ b := by
  induction l generalizing m with
  | nil => simp
  | cons y l ih =>
    simp only [List.foldl_cons, List.mem_cons, forall_eq_or_imp]
    rw [ih]
    constructor
    · intro ⟨h1, h2⟩; exact ⟨by omega, by omega, h2⟩
    · intro ⟨h1, h2, h3⟩; exact ⟨by omega, h3⟩
theorem zip_self_all (g : Nd → Nd → Bool) (l : List Nd) : ((l.zip l).all fun p => g p.1 p.2) = l.all fun k => g k k := by
  induction l with
  | nil => rfl
  | cons k l ih => simp only [List.zip_cons_cons, List.all_cons, ih]

theorem same_self : ∀ (f : Nat) (n : Nd), sameN f n n = decide (depthN (f + 1) n ≤ f)
  | 0, n => by
    have h : ¬ depthN (0 + 1) n ≤ 0 := by simp only [depthN]; omega
    simp only [sameN, h, decide_false]
  | f + 1, n => by
    have ih := same_self f
    simp only [sameN, beq_self_eq_true, Bool.true_and]
    rw [zip_self_all (sameN f)]
    rw [Bool.eq_iff_iff]
    rw [List.all_eq_true, decide_eq_true_iff]
    rw [show depthN (f + 1 + 1) n = (n.kids.map (depthN (f + 1))).foldl max 0 + 1 from rfl]
    have := foldl_max_le (n.kids.map (depthN (f + 1))) 0 f
    constructor
    · intro h
      have h2 := this.2 ⟨by omega, fun x hx => by
        obtain ⟨k, hk, rfl⟩ := List.mem_map.1 hx
        have := h k hk
        rw [ih k] at this
        simpa using this⟩
      omega
    · intro h k hk
      rw [ih k]
      have h2 := (this.1 (by omega)).2 _ (List.mem_map_of_mem hk)
      simpa using h2

theorem all_zip_iff (P : Nd → Nd → Prop) : ∀ (a b : List Nd), a.length = b.length → ((∀ p ∈ a.zip b, P p.1 p.2) ↔ ∀ (i : Nat) (x y : Nd), a[i]? = some x → b[i]? = some y → P x y) := by
  intro a b h
  constructor
  · intro hp i x y hx hy
    exact hp (x, y) (List.mem_of_getElem? (i := i) (by rw [List.getElem?_zip_eq_some]; exact ⟨hx, hy⟩))
  · intro hp p hm
    obtain ⟨i, hi⟩ := List.getElem?_of_mem hm
    rw [List.getElem?_zip_eq_some] at hi
    exact hp i _ _ hi.1 hi.2

theorem same_iff (f : Nat) (a b : Nd) : sameN (f + 1) a b = true ↔ a.kind = b.kind ∧ a.text.toList = b.text.toList ∧ a.kids.length = b.kids.length ∧ ∀ (i : Nat) (x y : Nd), a.kids[i]? = some x → b.kids[i]? = some y → sameN f x y = true := by
  simp only [sameN, Bool.and_eq_true, beq_iff_eq, List.all_eq_true]
  constructor
  · rintro ⟨⟨⟨h1, h2⟩, h3⟩, h4⟩
    exact ⟨h1, h2, h3, (all_zip_iff (fun x y => sameN f x y = true) _ _ h3).1 h4⟩
  · rintro ⟨h1, h2, h3, h4⟩
    exact ⟨⟨⟨h1, h2⟩, h3⟩, (all_zip_iff (fun x y => sameN f x y = true) _ _ h3).2 h4⟩

theorem same_comm : ∀ (f : Nat) (a b : Nd), sameN f a b = sameN f b a := by
  have h : ∀ (f : Nat) (a b : Nd), sameN f a b = true → sameN f b a = true := by
    intro f
    induction f with
    | zero => intro a b h; cases h
    | succ f ih =>
      intro a b h
      rw [same_iff] at h ⊢
      exact ⟨h.1.symm, h.2.1.symm, h.2.2.1.symm, fun i x y hx hy => ih _ _ (h.2.2.2 i y x hy hx)⟩
  intro f a b
  rw [Bool.eq_iff_iff]
  exact ⟨h f a b, h f b a⟩

theorem same_trans : ∀ (f : Nat) (a b c : Nd), sameN f a b = true → sameN f b c = true → sameN f a c = true
  | 0, a, b, c, h, _ => by cases h
  | f + 1, a, b, c, h1, h2 => by
    rw [same_iff] at h1 h2 ⊢
    refine ⟨h1.1.trans h2.1, h1.2.1.trans h2.2.1, h1.2.2.1.trans h2.2.2.1, fun i x y hx hy => ?_⟩
    have hi : i < a.kids.length := by
      rcases Nat.lt_or_ge i a.kids.length with h | h
      · exact h
      · rw [List.getElem?_eq_none h] at hx; cases hx
    have hb : b.kids[i]? = some (b.kids[i]'(by have := h1.2.2.1; omega)) := List.getElem?_eq_getElem _
    exact same_trans f x _ y (h1.2.2.2 i x _ hx hb) (h2.2.2.2 i _ y hb hy)

theorem depth_kid {f : Nat} {n k : Nd} (h : k ∈ n.kids) : depthN f k + 1 ≤ depthN (f + 1) n := by
  have := (foldl_max_le (n.kids.map (depthN f)) 0 ((n.kids.map (depthN f)).foldl max 0)).1 (Nat.le_refl _)
  have := this.2 _ (List.mem_map_of_mem h)
  simp only [depthN]
  omega
theorem depth_same : ∀ (f : Nat) (n : Nd), depthN f n < f → depthN (f + 1) n = depthN f n
  | 0, n, h => by omega
  | f + 1, n, h => by
    rw [show depthN (f + 1 + 1) n = (n.kids.map (depthN (f + 1))).foldl max 0 + 1 from rfl, show depthN (f + 1) n = (n.kids.map (depthN f)).foldl max 0 + 1 from rfl]
    rw [List.map_congr_left fun k hk => depth_same f k (by have := depth_kid (f := f) hk; omega)]
theorem size_same : ∀ (f : Nat) (n : Nd), depthN f n < f → sizeN (f + 1) n = sizeN f n
  | 0, n, h => by omega
  | f + 1, n, h => by
    rw [show sizeN (f + 1 + 1) n = 1 + (n.kids.map (sizeN (f + 1))).sum from rfl, show sizeN (f + 1) n = 1 + (n.kids.map (sizeN f)).sum from rfl]
    rw [List.map_congr_left fun k hk => size_same f k (by have := depth_kid (f := f) hk; omega)]
theorem depth_mono : ∀ (f : Nat) (n : Nd), depthN f n ≤ depthN (f + 1) n
  | 0, n => Nat.zero_le _
  | f + 1, n => by
    rw [show depthN (f + 1) n = (n.kids.map (depthN f)).foldl max 0 + 1 from rfl]
    have := (foldl_max_le (n.kids.map (depthN f)) 0 (depthN (f + 1 + 1) n - 1)).2 ⟨Nat.zero_le _, fun x hx => by
      obtain ⟨k, hk, rfl⟩ := List.mem_map.1 hx
      have h1 := depth_mono f k
      have h2 := depth_kid (f := f + 1) hk
      omega⟩
    have h3 : 1 ≤ depthN (f + 1 + 1) n := by simp only [depthN]; omega
    omega
/-- What TreeSums says. -/
theorem sums_law (n : Nd) (h : depthN 101 n ≤ 90) : sizeN 100 n = 1 + (n.kids.map (sizeN 100)).sum ∧ depthN 101 n = (n.kids.map (depthN 101)).foldl max 0 + 1 := by
  have h1 : depthN 100 n ≤ depthN 101 n := depth_mono 100 n
  constructor
  · rw [← size_same 100 n (by omega)]
    rfl
  · rw [show depthN 101 n = (n.kids.map (depthN 100)).foldl max 0 + 1 from rfl]
    rw [List.map_congr_left fun k hk => depth_same 100 k (by have : depthN 100 k + 1 ≤ depthN 101 n := depth_kid hk; omega)]
theorem depth_le : ∀ (f : Nat) (n : Nd), depthN f n ≤ f
  | 0, n => Nat.le_refl _
  | f + 1, n => by
    rw [show depthN (f + 1) n = (n.kids.map (depthN f)).foldl max 0 + 1 from rfl]
    have := (foldl_max_le (n.kids.map (depthN f)) 0 f).2 ⟨Nat.zero_le _, fun x hx => by
      obtain ⟨k, hk, rfl⟩ := List.mem_map.1 hx
      exact depth_le f k⟩
    omega

end Go.Proofs.YtkmhijkpbmcgbaaGreat
