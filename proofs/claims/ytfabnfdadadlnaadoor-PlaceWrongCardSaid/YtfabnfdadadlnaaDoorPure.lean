/-
  Plain laws on bytes, signs and places (chapter 1): no program in sight.
-/
import GoSem.Core.Utf8
namespace Go.Proofs.YtfabnfdadadlnaaDoor.Pl
set_option linter.all false

/-- The sign at the head of some bytes: its number, and how many bytes it has. -/
def dec : List UInt8 → Nat × Nat
  | [] => (65533, 1)
  | b0 :: r =>
    let at' (k : Nat) : Nat := (r.getD (k - 1) 0).toNat
    let cont (k : Nat) : Bool := decide (k ≤ r.length) && at' k / 64 == 2
    if b0.toNat < 0x80 then (b0.toNat, 1)
    else if b0.toNat / 32 == 6 && cont 1 then
      let c := (b0.toNat % 32) * 64 + at' 1 % 64
      if c ≥ 0x80 then (c, 2) else (65533, 1)
    else if b0.toNat / 16 == 14 && cont 1 && cont 2 then
      let c := (b0.toNat % 16) * 4096 + (at' 1 % 64) * 64 + at' 2 % 64
      if c ≥ 0x800 && Utf8.valid c then (c, 3) else (65533, 1)
    else if b0.toNat / 8 == 30 && cont 1 && cont 2 && cont 3 then
      let c := (b0.toNat % 8) * 262144 + (at' 1 % 64) * 4096 + (at' 2 % 64) * 64 + at' 3 % 64
      if c ≥ 0x10000 && Utf8.valid c then (c, 4) else (65533, 1)
    else (65533, 1)

theorem get_drop (s : ByteArray) (i k : Nat) : s.get! (i + k) = (s.data.toList.drop i).getD k 0 := by
  by_cases h : i + k < s.size
  · have h' : i + k < s.data.toList.length := by simpa using h
    simp only [List.getD_eq_getElem?_getD, List.getElem?_drop]
    rw [List.getElem?_eq_getElem h']
    show s.data[i + k]! = _
    rw [getElem!_pos s.data (i + k) (by simpa using h)]
    simp
  · have h' : s.data.toList.length ≤ i + k := by simpa using h
    simp only [List.getD_eq_getElem?_getD, List.getElem?_drop]
    rw [List.getElem?_eq_none h']
    show s.data[i + k]! = _
    rw [getElem!_neg s.data (i + k) (by simpa using h)]
    rfl

theorem decode_dec (s : ByteArray) (i : Nat) (h : i < s.size) : Utf8.decode s i = dec (s.data.toList.drop i) := by
  have hl : i < s.data.toList.length := by simpa using h
  have hd := List.drop_eq_getElem_cons hl
  have hlen : (s.data.toList.drop (i + 1)).length = s.size - (i + 1) := by simp
  have e0 := get_drop s i 0
  have e1 := get_drop s i 1
  have e2 := get_drop s i 2
  have e3 := get_drop s i 3
  rw [hd] at e0 e1 e2 e3 ⊢
  simp only [List.getD_cons_zero, List.getD_cons_succ] at e0 e1 e2 e3
  unfold Utf8.decode dec
  simp only [e0, e1, e2, e3, hlen]
  have c1 : decide (i + 1 < s.size) = decide (1 ≤ s.size - (i + 1)) := by simp; omega
  have c2 : decide (i + 2 < s.size) = decide (2 ≤ s.size - (i + 1)) := by simp; omega
  have c3 : decide (i + 3 < s.size) = decide (3 ≤ s.size - (i + 1)) := by simp; omega
  simp only [c1, c2, c3]
  rfl

theorem dec_pos (l : List UInt8) : 1 ≤ (dec l).2 := by
  cases l with
  | nil => simp [dec]
  | cons b r =>
    simp only [dec]
    repeat' split
    all_goals simp

theorem dec_le (l : List UInt8) (h : l ≠ []) : (dec l).2 ≤ l.length := by
  cases l with
  | nil => exact absurd rfl h
  | cons b r =>
    simp only [dec]
    repeat' split
    all_goals simp_all
    all_goals omega

/-- All signs of some bytes, one by one: number and width. -/
def signsF : Nat → List UInt8 → List (Nat × Nat)
  | 0, _ => []
  | _ + 1, [] => []
  | f + 1, b :: r => dec (b :: r) :: signsF f ((b :: r).drop (dec (b :: r)).2)
def signs (l : List UInt8) : List (Nat × Nat) := signsF l.length l

theorem signsF_fuel : ∀ (f g : Nat) (l : List UInt8), l.length ≤ f → l.length ≤ g → signsF f l = signsF g l := by
  intro f
  induction f with
  | zero =>
    intro g l hf _
    have : l = [] := List.eq_nil_of_length_eq_zero (by omega)
    subst this
    cases g <;> rfl
  | succ f ih =>
    intro g l hf hg
    cases l with
    | nil => cases g <;> rfl
    | cons b r =>
      cases g with
      | zero => simp at hg
      | succ g =>
        simp only [signsF]
        have h1 := dec_pos (b :: r)
        congr 1
        refine ih g _ ?_ ?_ <;> simp only [List.length_drop, List.length_cons] at * <;> omega

theorem signs_nil : signs [] = [] := rfl
theorem signs_cons (l : List UInt8) (h : l ≠ []) : signs l = dec l :: signs (l.drop (dec l).2) := by
  cases l with
  | nil => exact absurd rfl h
  | cons b r =>
    show signsF (r.length + 1) (b :: r) = _
    simp only [signsF]
    congr 1
    have h1 := dec_pos (b :: r)
    exact signsF_fuel _ _ _ (by simp only [List.length_drop, List.length_cons]; omega) (Nat.le_refl _)

/-- The next sign's place. -/
def step (c : Nat) (p : Nat × Nat) : Nat × Nat := if c = 10 then (p.1 + 1, 1) else (p.1, p.2 + 1)

/-- All places at which a sign begins, and the end: byte and place. -/
def plcs : Nat → Nat × Nat → List (Nat × Nat) → List (Nat × (Nat × Nat))
  | pos, p, [] => [(pos, p)]
  | pos, p, (c, n) :: r => (pos, p) :: plcs (pos + n) (step c p) r

/-- The place of a byte: of the first sign at or behind it. -/
def ofF (at_ : Nat) : Nat → Nat × Nat → List (Nat × Nat) → Nat × Nat
  | _, p, [] => p
  | pos, p, (c, n) :: r => if at_ ≤ pos then p else ofF at_ (pos + n) (step c p) r

/-- The byte of a place. -/
def atF (q : Int × Int) : Nat → Nat × Nat → List (Nat × Nat) → Option Nat
  | pos, p, [] => if ((p.1 : Int), (p.2 : Int)) = q then some pos else none
  | pos, p, (c, n) :: r => if ((p.1 : Int), (p.2 : Int)) = q then some pos else atF q (pos + n) (step c p) r

/-- The place at the end. -/
def endF : Nat × Nat → List (Nat × Nat) → Nat × Nat
  | p, [] => p
  | p, (c, _) :: r => endF (step c p) r

def widths : List (Nat × Nat) → Nat
  | [] => 0
  | (_, n) :: r => n + widths r

def oks : List (Nat × Nat) → Prop
  | [] => True
  | (_, n) :: r => 1 ≤ n ∧ oks r

theorem signs_widths : ∀ (f : Nat) (l : List UInt8), l.length ≤ f → widths (signs l) = l.length := by
  intro f
  induction f with
  | zero =>
    intro l hl
    have : l = [] := List.eq_nil_of_length_eq_zero (by omega)
    subst this; rfl
  | succ f ih =>
    intro l hl
    by_cases h : l = []
    · subst h; rfl
    · rw [signs_cons l h]
      have h1 := dec_pos l
      have h2 := dec_le l h
      simp only [widths]
      rw [ih _ (by simp only [List.length_drop]; omega)]
      simp only [List.length_drop]; omega

theorem signs_oks : ∀ (f : Nat) (l : List UInt8), l.length ≤ f → oks (signs l) := by
  intro f
  induction f with
  | zero =>
    intro l hl
    have : l = [] := List.eq_nil_of_length_eq_zero (by omega)
    subst this; exact True.intro
  | succ f ih =>
    intro l hl
    by_cases h : l = []
    · subst h; exact True.intro
    · rw [signs_cons l h]
      have h1 := dec_pos l
      exact ⟨h1, ih _ (by simp only [List.length_drop]; omega)⟩

/-- The place of byte 'at_' of some bytes. -/
def ofB (l : List UInt8) (at_ : Nat) : Nat × Nat := ofF at_ 0 (1, 1) (signs l)
def atB (l : List UInt8) (q : Int × Int) : Option Nat := atF q 0 (1, 1) (signs l)
def tens (l : List UInt8) : Nat := (l.filter fun b => b.toNat == 10).length

/-! The end. -/
theorem ofF_end : ∀ (r : List (Nat × Nat)) (at_ pos : Nat) (p : Nat × Nat), oks r → pos + widths r ≤ at_ → ofF at_ pos p r = endF p r := by
  intro r
  induction r with
  | nil => intros; rfl
  | cons x r ih =>
    obtain ⟨c, n⟩ := x
    intro at_ pos p hok hle
    simp only [oks] at hok
    simp only [widths] at hle
    simp only [ofF, endF]
    rw [if_neg (by omega)]
    exact ih _ _ _ hok.2 (by omega)

def lines10 : List (Nat × Nat) → Nat
  | [] => 0
  | (c, _) :: r => (if c = 10 then 1 else 0) + lines10 r

theorem endF_line : ∀ (r : List (Nat × Nat)) (p : Nat × Nat), (endF p r).1 = p.1 + lines10 r := by
  intro r
  induction r with
  | nil => intros; rfl
  | cons x r ih =>
    obtain ⟨c, n⟩ := x
    intro p
    simp only [endF, lines10, ih]
    unfold step
    split <;> simp <;> omega

theorem dec_ten (l : List UInt8) : (dec l).1 = 10 ↔ ∃ r, l = 10 :: r := by
  cases l with
  | nil => simp [dec]
  | cons b r =>
    constructor
    · intro h
      simp only [dec] at h
      have : b.toNat = 10 := by
        repeat' split at h
        all_goals simp_all
        all_goals omega
      exact ⟨r, by congr 1; exact UInt8.toNat_inj.1 this⟩
    · rintro ⟨r', h⟩
      injection h with h1 h2
      subst h1
      simp [dec]


theorem dec_cont (b : UInt8) (r : List UInt8) : ∀ k, k + 1 < (dec (b :: r)).2 → k < r.length ∧ 128 ≤ (r.getD k 0).toNat ∧ (r.getD k 0).toNat ≤ 191 := by
  have hb : ∀ j, (r.getD j 0).toNat < 256 := fun j => (r.getD j 0).toNat_lt
  have h0 := hb 0
  have h1 := hb 1
  have h2 := hb 2
  intro k hk
  simp only [dec] at hk
  repeat' split at hk
  all_goals simp only [Bool.and_eq_true, beq_iff_eq, decide_eq_true_eq, Nat.reduceSub] at *
  all_goals first
    | (exfalso; omega)
    | skip
  · obtain rfl : k = 0 := by omega
    omega
  · rcases (by omega : k = 0 ∨ k = 1) with rfl | rfl <;> omega
  · rcases (by omega : k = 0 ∨ k = 1 ∨ k = 2) with rfl | rfl | rfl <;> omega

theorem filter_take_cont (r : List UInt8) : ∀ n, (∀ k, k < n → k < r.length ∧ 128 ≤ (r.getD k 0).toNat) → ((r.take n).filter fun b => b.toNat == 10) = [] := by
  intro n h
  rw [List.filter_eq_nil_iff]
  intro b hb
  obtain ⟨i, hi, rfl⟩ := List.mem_iff_getElem.1 hb
  simp only [List.length_take] at hi
  have := h i (by omega)
  simp only [List.getElem_take]
  rw [List.getD_eq_getElem?_getD, List.getElem?_eq_getElem this.1, Option.getD_some] at this
  simp
  omega

theorem lines10_signs : ∀ (f : Nat) (l : List UInt8), l.length ≤ f → lines10 (signs l) = tens l := by
  intro f
  induction f with
  | zero =>
    intro l hl
    have : l = [] := List.eq_nil_of_length_eq_zero (by omega)
    subst this; rfl
  | succ f ih =>
    intro l hl
    cases l with
    | nil => rfl
    | cons b r =>
      rw [signs_cons _ (by simp)]
      have h1 := dec_pos (b :: r)
      have hlen := dec_le (b :: r) (by simp)
      have hc := dec_cont b r
      have ht := dec_ten (b :: r)
      simp only [lines10]
      rw [ih _ (by simp only [List.length_drop, List.length_cons] at *; omega)]
      obtain ⟨n, hn⟩ : ∃ n, (dec (b :: r)).2 = n + 1 := ⟨_, (Nat.sub_add_cancel h1).symm⟩
      rw [hn] at hc ⊢
      simp only [List.drop_succ_cons]
      have hf := filter_take_cont r n (fun k hk => ⟨(hc k (by omega)).1, (hc k (by omega)).2.1⟩)
      have hsplit : tens r = tens (r.drop n) := by
        unfold tens
        conv => lhs; rw [← List.take_append_drop n r]
        rw [List.filter_append, hf, List.nil_append]
      have hcons : tens (b :: r) = (if b.toNat = 10 then 1 else 0) + tens r := by
        unfold tens
        by_cases h : b.toNat = 10 <;> simp [List.filter_cons, h]; omega
      rw [hcons, hsplit]
      have : (dec (b :: r)).1 = 10 ↔ b.toNat = 10 := by
        rw [ht]
        constructor
        · rintro ⟨r', h⟩
          injection h with h1 h2
          subst h1; rfl
        · intro h
          exact ⟨r, by congr 1; exact UInt8.toNat_inj.1 h⟩
      simp only [this]

theorem ofB_end (l : List UInt8) : (ofB l l.length).1 = 1 + tens l := by
  unfold ofB
  rw [ofF_end _ _ _ _ (signs_oks _ l (Nat.le_refl _)) (by rw [signs_widths _ l (Nat.le_refl _)]; omega), endF_line, lines10_signs _ l (Nat.le_refl _)]

theorem ofF_here (at_ pos : Nat) (p : Nat × Nat) (r : List (Nat × Nat)) (h : at_ ≤ pos) : ofF at_ pos p r = p := by
  cases r with
  | nil => rfl
  | cons x r => obtain ⟨c, n⟩ := x; simp only [ofF]; rw [if_pos h]

theorem ofB_zero (l : List UInt8) : ofB l 0 = (1, 1) := ofF_here _ _ _ _ (Nat.le_refl _)

/-- Places, in order. -/
def le2 (p q : Nat × Nat) : Prop := p.1 < q.1 ∨ p.1 = q.1 ∧ p.2 ≤ q.2
def lt2 (p q : Nat × Nat) : Prop := p.1 < q.1 ∨ p.1 = q.1 ∧ p.2 < q.2
theorem lt2_step (c : Nat) (p : Nat × Nat) : lt2 p (step c p) := by
  unfold lt2 step
  split <;> simp
theorem le2_refl (p : Nat × Nat) : le2 p p := .inr ⟨rfl, Nat.le_refl _⟩
theorem le2_trans {p q r : Nat × Nat} (h : le2 p q) (k : le2 q r) : le2 p r := by unfold le2 at *; omega
theorem lt2_le2 {p q : Nat × Nat} (h : lt2 p q) : le2 p q := by unfold le2 lt2 at *; omega
theorem lt2_of_lt_le {p q r : Nat × Nat} (h : lt2 p q) (k : le2 q r) : lt2 p r := by unfold le2 lt2 at *; omega
theorem lt2_ne {p q : Nat × Nat} (h : lt2 p q) : p ≠ q := by rintro rfl; unfold lt2 at h; omega

theorem ofF_ge (at_ : Nat) : ∀ (r : List (Nat × Nat)) (pos : Nat) (p : Nat × Nat), le2 p (ofF at_ pos p r) := by
  intro r
  induction r with
  | nil => intro pos p; exact le2_refl p
  | cons x r ih =>
    obtain ⟨c, n⟩ := x
    intro pos p
    simp only [ofF]
    split
    · exact le2_refl p
    · exact le2_trans (lt2_le2 (lt2_step c p)) (ih _ _)

theorem ofF_mono (a b : Nat) (hab : a ≤ b) : ∀ (r : List (Nat × Nat)) (pos : Nat) (p : Nat × Nat), le2 (ofF a pos p r) (ofF b pos p r) := by
  intro r
  induction r with
  | nil => intro pos p; exact le2_refl p
  | cons x r ih =>
    obtain ⟨c, n⟩ := x
    intro pos p
    simp only [ofF]
    by_cases ha : a ≤ pos
    · rw [if_pos ha]
      split
      · exact le2_refl p
      · exact le2_trans (lt2_le2 (lt2_step c p)) (ofF_ge _ _ _ _)
    · rw [if_neg ha, if_neg (by omega)]
      exact ih _ _

theorem ofF_le_end (a : Nat) : ∀ (r : List (Nat × Nat)) (pos : Nat) (p : Nat × Nat), le2 (ofF a pos p r) (endF p r) := by
  intro r
  induction r with
  | nil => intro pos p; exact le2_refl p
  | cons x r ih =>
    obtain ⟨c, n⟩ := x
    intro pos p
    simp only [ofF, endF]
    split
    · have : ∀ (r : List (Nat × Nat)) (p : Nat × Nat), le2 p (endF p r) := by
        intro r
        induction r with
        | nil => intro p; exact le2_refl p
        | cons x r ih => obtain ⟨c, n⟩ := x; intro p; exact le2_trans (lt2_le2 (lt2_step c p)) (ih _)
      exact le2_trans (lt2_le2 (lt2_step c p)) (this _ _)
    · exact ih _ _

theorem ofF_pos1 (a : Nat) : ∀ (r : List (Nat × Nat)) (pos : Nat) (p : Nat × Nat), 1 ≤ p.1 → 1 ≤ p.2 → 1 ≤ (ofF a pos p r).1 ∧ 1 ≤ (ofF a pos p r).2 := by
  intro r
  induction r with
  | nil => intro pos p h k; exact ⟨h, k⟩
  | cons x r ih =>
    obtain ⟨c, n⟩ := x
    intro pos p h k
    simp only [ofF]
    split
    · exact ⟨h, k⟩
    · refine ih _ _ ?_ ?_ <;> unfold step <;> split <;> simp <;> omega

theorem rises (l : List UInt8) (x y : Nat) (h : x ≤ y) :
    le2 (ofB l x) (ofB l y) ∧ (ofB l y).1 ≤ 1 + tens l ∧ 1 ≤ (ofB l x).1 ∧ 1 ≤ (ofB l x).2 := by
  refine ⟨ofF_mono _ _ h _ _ _, ?_, ofF_pos1 _ _ _ _ (Nat.le_refl _) (Nat.le_refl _)⟩
  have h1 := ofF_le_end y (signs l) 0 (1, 1)
  have h2 := endF_line (signs l) (1, 1)
  rw [lines10_signs _ l (Nat.le_refl _)] at h2
  unfold ofB
  unfold le2 at h1
  simp only at h2
  omega

/-- Bounds: neither lines nor columns are more than there are bytes. -/
theorem ofF_bound (a : Nat) : ∀ (r : List (Nat × Nat)) (pos : Nat) (p : Nat × Nat), (ofF a pos p r).1 ≤ p.1 + r.length ∧ (ofF a pos p r).2 ≤ max 1 p.2 + r.length := by
  intro r
  induction r with
  | nil => intro pos p; simp only [ofF, List.length_nil]; omega
  | cons x r ih =>
    obtain ⟨c, n⟩ := x
    intro pos p
    simp only [ofF, List.length_cons]
    split
    · omega
    · have h := ih (pos + n) (step c p)
      have : (step c p).1 ≤ p.1 + 1 ∧ max 1 (step c p).2 ≤ max 1 p.2 + 1 := by
        unfold step
        split <;> simp <;> omega
      omega

theorem signs_len : ∀ (f : Nat) (l : List UInt8), l.length ≤ f → (signs l).length ≤ l.length := by
  intro f
  induction f with
  | zero =>
    intro l hl
    have : l = [] := List.eq_nil_of_length_eq_zero (by omega)
    subst this; exact Nat.le_refl _
  | succ f ih =>
    intro l hl
    by_cases h : l = []
    · subst h; exact Nat.le_refl _
    · rw [signs_cons l h]
      have h1 := dec_pos l
      have h2 := dec_le l h
      have := ih (l.drop (dec l).2) (by simp only [List.length_drop]; omega)
      simp only [List.length_cons, List.length_drop] at *
      omega

theorem ofB_bound (l : List UInt8) (a : Nat) : (ofB l a).1 ≤ l.length + 1 ∧ (ofB l a).2 ≤ l.length + 1 := by
  have h1 := ofF_bound a (signs l) 0 (1, 1)
  have h2 := signs_len _ l (Nat.le_refl _)
  unfold ofB
  simp at h1
  omega

/-! Back. -/
theorem atF_of (q : Int × Int) : ∀ (r : List (Nat × Nat)) (pos : Nat) (p : Nat × Nat) (k : Nat), oks r → atF q pos p r = some k →
    pos ≤ k ∧ k ≤ pos + widths r ∧ (((ofF k pos p r).1 : Int), ((ofF k pos p r).2 : Int)) = q := by
  intro r
  induction r with
  | nil =>
    intro pos p k _ h
    simp only [atF] at h
    split at h
    · injection h with h; subst h; exact ⟨Nat.le_refl _, by simp [widths], by simpa [ofF]⟩
    · cases h
  | cons x r ih =>
    obtain ⟨c, n⟩ := x
    intro pos p k hok h
    simp only [oks] at hok
    simp only [atF] at h
    split at h
    · injection h with h; subst h
      rw [ofF_here _ _ _ _ (Nat.le_refl _)]
      exact ⟨Nat.le_refl _, by omega, by assumption⟩
    · have := ih _ _ _ hok.2 h
      simp only [widths, ofF]
      rw [if_neg (by omega)]
      exact ⟨by omega, by omega, this.2.2⟩

/-- Is a byte one at which a sign begins (or the end)? -/
def isStart (k : Nat) : Nat → List (Nat × Nat) → Prop
  | pos, [] => k = pos
  | pos, (_, n) :: r => k = pos ∨ isStart k (pos + n) r

theorem isStart_le (k : Nat) : ∀ (r : List (Nat × Nat)) (pos : Nat), isStart k pos r → pos ≤ k := by
  intro r
  induction r with
  | nil => intro pos h; exact Nat.le_of_eq h.symm
  | cons x r ih =>
    obtain ⟨c, n⟩ := x
    intro pos h
    rcases h with h | h
    · omega
    · have := ih _ h; omega

theorem atF_start (k : Nat) : ∀ (r : List (Nat × Nat)) (pos : Nat) (p : Nat × Nat), oks r → isStart k pos r →
    atF (((ofF k pos p r).1 : Int), ((ofF k pos p r).2 : Int)) pos p r = some k := by
  intro r
  induction r with
  | nil =>
    intro pos p _ h
    have : k = pos := h
    subst this
    simp [atF, ofF]
  | cons x r ih =>
    obtain ⟨c, n⟩ := x
    intro pos p hok h
    simp only [oks] at hok
    by_cases hk : k = pos
    · subst hk
      rw [ofF_here _ _ _ _ (Nat.le_refl _)]
      simp only [atF, if_true]
    · have h' : isStart k (pos + n) r := by
        rcases h with h | h
        · exact absurd h hk
        · exact h
      have hle := isStart_le _ _ _ h'
      simp only [ofF]
      rw [if_neg (by omega)]
      simp only [atF]
      rw [if_neg]
      · exact ih _ _ hok.2 h'
      · intro e
        have h1 := lt2_of_lt_le (lt2_step c p) (ofF_ge k r (pos + n) (step c p))
        refine lt2_ne h1 ?_
        simp only [Prod.mk.injEq] at e
        exact Prod.ext (by omega) (by omega)

/-- A start of a sign, told by the rest. -/
def startAt (l : List UInt8) (k : Nat) : Prop := isStart k 0 (signs l)

theorem isStart_trans (l : List UInt8) : ∀ (f : Nat) (i j : Nat), l.length - i ≤ f → i ≤ l.length → isStart j i (signs (l.drop i)) → j < l.length →
    isStart (j + (dec (l.drop j)).2) i (signs (l.drop i)) := by
  intro f
  induction f with
  | zero =>
    intro i j hf hi hs hj
    have : i = l.length := by omega
    subst this
    rw [List.drop_length] at hs
    have : j = l.length := hs
    omega
  | succ f ih =>
    intro i j hf hi hs hj
    have hle := isStart_le _ _ _ hs
    have hne : l.drop i ≠ [] := by
      intro h
      have := congrArg List.length h
      simp at this
      omega
    rw [signs_cons _ hne] at hs ⊢
    have h1 := dec_pos (l.drop i)
    have h2 := dec_le _ hne
    simp only [List.length_drop] at h2
    rw [List.drop_drop] at hs ⊢
    rcases hs with h | h
    · subst h
      refine .inr ?_
      generalize signs (l.drop (j + (dec (l.drop j)).2)) = r
      cases r with
      | nil => rfl
      | cons x r => exact .inl rfl
    · have e := ih (i + (dec (l.drop i)).2) j (by omega) (by omega) h hj
      exact .inr e

theorem startAt_zero (l : List UInt8) : startAt l 0 := by
  unfold startAt
  cases signs l with
  | nil => rfl
  | cons x r => exact .inl rfl
theorem startAt_next (l : List UInt8) (j : Nat) (h : startAt l j) (hj : j < l.length) : startAt l (j + (dec (l.drop j)).2) := by
  have := isStart_trans l _ 0 j (Nat.le_refl _) (Nat.zero_le _) (by simpa [startAt] using h) hj
  simpa [startAt] using this
theorem back (l : List UInt8) (k : Nat) (h : startAt l k) : atB l (((ofB l k).1 : Int), ((ofB l k).2 : Int)) = some k :=
  atF_start k _ _ _ (signs_oks _ l (Nat.le_refl _)) h
theorem back_some (l : List UInt8) (q : Int × Int) (k : Nat) (h : atB l q = some k) : k ≤ l.length ∧ (((ofB l k).1 : Int), ((ofB l k).2 : Int)) = q := by
  have := atF_of q _ _ _ _ (signs_oks _ l (Nat.le_refl _)) h
  rw [signs_widths _ l (Nat.le_refl _)] at this
  exact ⟨by omega, this.2.2⟩
theorem back_none (l : List UInt8) : atB l (0, 0) = none := by
  cases h : atB l (0, 0) with
  | none => rfl
  | some k =>
    have := (back_some l _ k h).2
    have h1 := ofF_pos1 k (signs l) 0 (1, 1) (Nat.le_refl _) (Nat.le_refl _)
    simp only [Prod.mk.injEq] at this
    unfold ofB at this
    omega

/-! Joins. -/
theorem dec_append (l r : List UInt8) (h : l ≠ []) : dec (l ++ 10 :: r) = dec l := by
  match l, h with
  | [a], _ =>
    simp [dec]
  | [a, b], _ =>
    simp [dec]
  | [a, b, c], _ =>
    simp [dec]
  | a :: b :: c :: d :: l, _ =>
    simp [dec]

theorem signs_append : ∀ (f : Nat) (l r : List UInt8), l.length ≤ f → signs (l ++ 10 :: r) = signs l ++ (10, 1) :: signs r := by
  intro f
  induction f with
  | zero =>
    intro l r hl
    have : l = [] := List.eq_nil_of_length_eq_zero (by omega)
    subst this
    rw [List.nil_append, signs_cons _ (by simp)]
    simp [dec, signs_nil]
  | succ f ih =>
    intro l r hl
    by_cases h : l = []
    · subst h
      rw [List.nil_append, signs_cons _ (by simp)]
      simp [dec, signs_nil]
    · have h1 := dec_pos l
      have h2 := dec_le l h
      rw [signs_cons _ (by simp), dec_append l r h, signs_cons l h, List.drop_append_of_le_length h2, ih _ _ (by simp only [List.length_drop]; omega)]
      rfl

theorem ofF_append (at_ : Nat) : ∀ (x y : List (Nat × Nat)) (pos : Nat) (p : Nat × Nat), oks x → pos + widths x ≤ at_ →
    ofF at_ pos p (x ++ y) = ofF at_ (pos + widths x) (endF p x) y := by
  intro x
  induction x with
  | nil => intro y pos p _ _; simp [widths, endF]
  | cons a x ih =>
    obtain ⟨c, n⟩ := a
    intro y pos p hok hle
    simp only [oks] at hok
    simp only [widths] at hle
    simp only [List.cons_append, ofF, widths, endF]
    rw [if_neg (by omega), ih _ _ _ hok.2 (by omega), Nat.add_assoc]

theorem ofF_shift (d e k : Nat) : ∀ (r : List (Nat × Nat)) (pos : Nat) (p : Nat × Nat),
    ofF (d + k) (d + pos) (e + p.1, p.2) r = (e + (ofF k pos p r).1, (ofF k pos p r).2) := by
  intro r
  induction r with
  | nil => intro pos p; rfl
  | cons a r ih =>
    obtain ⟨c, n⟩ := a
    intro pos p
    simp only [ofF]
    by_cases h : k ≤ pos
    · rw [if_pos (by omega), if_pos h]
    · rw [if_neg (by omega), if_neg h, ← ih]
      have : step c (e + p.1, p.2) = (e + (step c p).1, (step c p).2) := by
        unfold step
        split <;> simp <;> omega
      rw [this, Nat.add_assoc]

theorem joins (a b : List UInt8) (k : Nat) : ofB (a ++ 10 :: b) (a.length + 1 + k) = ((ofB b k).1 + (ofB a a.length).1, (ofB b k).2) := by
  have ha := signs_oks _ a (Nat.le_refl _)
  have hw := signs_widths _ a (Nat.le_refl _)
  have he : ofB a a.length = endF (1, 1) (signs a) := ofF_end _ _ _ _ ha (by omega)
  rw [he]
  unfold ofB
  rw [signs_append _ a b (Nat.le_refl _), ofF_append _ _ _ _ _ ha (by omega), hw]
  simp only [ofF]
  rw [if_neg (by omega)]
  have h := ofF_shift (a.length + 1) (endF (1, 1) (signs a)).1 k (signs b) 0 (1, 1)
  have hs : step 10 (endF (1, 1) (signs a)) = ((endF (1, 1) (signs a)).1 + 1, 1) := by simp [step]
  rw [hs]
  rw [Nat.zero_add]
  simp only [Nat.add_zero] at h
  rw [h, Nat.add_comm]
theorem tens_join (a b : List UInt8) : tens (a ++ 10 :: b) + 1 = (tens a + 1) + (tens b + 1) := by
  unfold tens
  rw [List.filter_append]
  simp [List.filter_cons]
  omega

/-! The reference's reading of a sign. -/
def contB (b : UInt8) : Bool := decide (128 ≤ b.toNat) && decide (b.toNat ≤ 191)
def fold6 (v : Nat) (l : List UInt8) : Nat := l.foldl (fun v b => 64 * v + b.toNat - 128) v
def bad (v least : Nat) : Bool := decide (v < least) || decide (1114111 < v) || (decide (55296 ≤ v) && decide (v ≤ 57343))
def multi (n v least : Nat) (r : List UInt8) : Nat × Int :=
  if r.length + 1 < n then (1, -1) else if (r.take (n - 1)).all contB then (if bad (fold6 v (r.take (n - 1))) least then (1, -1) else (n, fold6 v (r.take (n - 1)))) else (1, -1)
def signR : List UInt8 → Nat × Int
  | [] => (1, -1)
  | b :: r =>
    if b.toNat < 128 then (1, b.toNat)
    else if 194 ≤ b.toNat ∧ b.toNat ≤ 223 then multi 2 (b.toNat - 192) 128 r
    else if 224 ≤ b.toNat ∧ b.toNat ≤ 239 then multi 3 (b.toNat - 224) 2048 r
    else if 240 ≤ b.toNat ∧ b.toNat ≤ 244 then multi 4 (b.toNat - 240) 65536 r
    else (1, -1)

def signV (d : Nat × Nat) : Nat × Int := if d.1 = 65533 ∧ d.2 = 1 then (1, -1) else (d.2, d.1)

theorem valid_iff (c : Nat) : Utf8.valid (c : Int) = true ↔ (c < 55296 ∨ 57344 ≤ c ∧ c ≤ 1114111) := by
  simp only [Utf8.valid, Bool.or_eq_true, Bool.and_eq_true, decide_eq_true_eq]
  omega

theorem contB_iff (b : UInt8) : contB b = true ↔ b.toNat / 64 = 2 := by
  have := b.toNat_lt
  simp only [contB, Bool.and_eq_true, decide_eq_true_eq]
  omega

theorem bad_iff (v least : Nat) : bad v least = true ↔ (v < least ∨ 1114111 < v ∨ (55296 ≤ v ∧ v ≤ 57343)) := by
  simp [bad, or_assoc]

theorem multi_none (n v least : Nat) (r : List UInt8) (h : ¬ (n ≤ r.length + 1 ∧ (r.take (n - 1)).all contB = true)) : multi n v least r = (1, -1) := by
  unfold multi
  by_cases h1 : r.length + 1 < n
  · rw [if_pos h1]
  · rw [if_neg h1, if_neg (fun h2 => h ⟨by omega, h2⟩)]
theorem multi_bad (n v least : Nat) (r : List UInt8) (h : bad (fold6 v (r.take (n - 1))) least = true) : multi n v least r = (1, -1) := by
  unfold multi
  split
  · rfl
  · split
    · first | rfl | rw [if_pos h]
    · rfl
theorem multi_ok (n v least : Nat) (r : List UInt8) (h1 : n ≤ r.length + 1) (h2 : (r.take (n - 1)).all contB = true) (h : bad (fold6 v (r.take (n - 1))) least = false) :
    multi n v least r = (n, (fold6 v (r.take (n - 1)) : Int)) := by
  unfold multi
  rw [if_neg (by omega), if_pos h2, if_neg (by simp [h])]

theorem signR_dec (l : List UInt8) (h : l ≠ []) : signR l = signV (dec l) := by
  match l, h with
  | b :: r, _ =>
    have hb := b.toNat_lt
    have hr : ∀ k, (r.getD k 0).toNat < 256 := fun k => (r.getD k 0).toNat_lt
    by_cases c1 : b.toNat < 128
    · simp only [signR, dec, if_pos c1, signV]
      rw [if_neg (by omega)]
    by_cases c2 : b.toNat / 32 = 6
    · have e : dec (b :: r) = if (decide (1 ≤ r.length) && (r.getD 0 0).toNat / 64 == 2) = true then (if b.toNat % 32 * 64 + (r.getD 0 0).toNat % 64 ≥ 128 then (b.toNat % 32 * 64 + (r.getD 0 0).toNat % 64, 2) else (65533, 1)) else (65533, 1) := by
        simp only [dec]
        rw [if_neg c1]
        by_cases hc : (decide (1 ≤ r.length) && (r.getD 0 0).toNat / 64 == 2) = true
        · rw [if_pos (by simpa [c2] using hc), if_pos hc]
        · rw [if_neg (by simpa [c2] using hc), if_neg hc, if_neg (by simp; omega), if_neg (by simp; omega)]
      rw [e]
      match r with
      | [] =>
        simp [signV, signR, multi, c1]
      | x :: r =>
        have hx := x.toNat_lt
        simp only [List.getD_cons_zero, List.length_cons]
        by_cases hc : x.toNat / 64 = 2
        · by_cases hd : 194 ≤ b.toNat
          · rw [if_pos (by simp [hc]), if_pos (by omega)]
            simp only [signR]
            rw [if_neg c1, if_pos (by omega), multi_ok _ _ _ _ (by simp) (by simp [contB_iff, hc]) (by rw [← Bool.not_eq_true, bad_iff]; simp [fold6]; omega)]
            simp only [signV]
            rw [if_neg (by omega)]
            simp [fold6]
            omega
          · rw [if_pos (by simp [hc]), if_neg (by omega)]
            simp only [signR]
            rw [if_neg c1, if_neg (by omega), if_neg (by omega), if_neg (by omega)]
            simp [signV]
        · rw [if_neg (by simp [hc])]
          simp only [signR]
          rw [if_neg c1]
          split
          · rw [multi_none _ _ _ _ (by simp [contB_iff, hc])]; simp [signV]
          · rw [if_neg (by omega), if_neg (by omega)]; simp [signV]
    by_cases c3 : b.toNat / 16 = 14
    · have e : dec (b :: r) = if (decide (1 ≤ r.length) && (r.getD 0 0).toNat / 64 == 2 && (decide (2 ≤ r.length) && (r.getD 1 0).toNat / 64 == 2)) = true then (if (decide (b.toNat % 16 * 4096 + (r.getD 0 0).toNat % 64 * 64 + (r.getD 1 0).toNat % 64 ≥ 0x800) && Utf8.valid ((b.toNat % 16 * 4096 + (r.getD 0 0).toNat % 64 * 64 + (r.getD 1 0).toNat % 64 : Nat) : Int)) = true then (b.toNat % 16 * 4096 + (r.getD 0 0).toNat % 64 * 64 + (r.getD 1 0).toNat % 64, 3) else (65533, 1)) else (65533, 1) := by
        simp only [dec]
        rw [if_neg c1, if_neg (by simp [c2])]
        by_cases hc : (decide (1 ≤ r.length) && (r.getD 0 0).toNat / 64 == 2 && (decide (2 ≤ r.length) && (r.getD 1 0).toNat / 64 == 2)) = true
        · rw [if_pos (by simpa [c3] using hc), if_pos hc]
        · rw [if_neg (by simpa [c3] using hc), if_neg hc, if_neg (by simp; omega)]
      rw [e]
      match r with
      | [] => simp [signV, signR, multi, c1]
      | [x] =>
        have hs : signR [b, x] = (1, -1) := by
          simp only [signR]
          rw [if_neg c1, if_neg (by omega), if_pos (by omega), multi_none _ _ _ _ (by simp)]
        rw [hs]; simp [signV]
      | x :: y :: r =>
        have hx := x.toNat_lt
        have hy := y.toNat_lt
        simp only [List.getD_cons_zero, List.getD_cons_succ, List.length_cons]
        by_cases hc : x.toNat / 64 = 2 ∧ y.toNat / 64 = 2
        · obtain ⟨hcx, hcy⟩ := hc
          rw [if_pos (by simp [hcx, hcy])]
          by_cases hd : (decide (b.toNat % 16 * 4096 + x.toNat % 64 * 64 + y.toNat % 64 ≥ 0x800) && Utf8.valid ((b.toNat % 16 * 4096 + x.toNat % 64 * 64 + y.toNat % 64 : Nat) : Int)) = true
          · rw [if_pos hd]
            rw [Bool.and_eq_true, valid_iff, decide_eq_true_eq] at hd
            simp only [signR]
            rw [if_neg c1, if_neg (by omega), if_pos (by omega), multi_ok _ _ _ _ (by simp) (by simp [contB_iff, hcx, hcy]) (by rw [← Bool.not_eq_true, bad_iff]; simp [fold6]; omega)]
            simp only [signV]
            rw [if_neg (by omega)]
            simp [fold6]
            omega
          · rw [if_neg hd]
            rw [Bool.and_eq_true, valid_iff, decide_eq_true_eq] at hd
            simp only [signR]
            rw [if_neg c1, if_neg (by omega), if_pos (by omega), multi_bad _ _ _ _ (by rw [bad_iff]; simp [fold6]; omega)]
            simp [signV]
        · rw [if_neg (by simp; omega)]
          simp only [signR]
          rw [if_neg c1, if_neg (by omega), if_pos (by omega), multi_none _ _ _ _ (by simp [contB_iff]; omega)]
          simp [signV]
    by_cases c4 : b.toNat / 8 = 30
    · have e : dec (b :: r) = if (decide (1 ≤ r.length) && (r.getD 0 0).toNat / 64 == 2 && (decide (2 ≤ r.length) && (r.getD 1 0).toNat / 64 == 2) && (decide (3 ≤ r.length) && (r.getD 2 0).toNat / 64 == 2)) = true then (if (decide (b.toNat % 8 * 262144 + (r.getD 0 0).toNat % 64 * 4096 + (r.getD 1 0).toNat % 64 * 64 + (r.getD 2 0).toNat % 64 ≥ 0x10000) && Utf8.valid ((b.toNat % 8 * 262144 + (r.getD 0 0).toNat % 64 * 4096 + (r.getD 1 0).toNat % 64 * 64 + (r.getD 2 0).toNat % 64 : Nat) : Int)) = true then (b.toNat % 8 * 262144 + (r.getD 0 0).toNat % 64 * 4096 + (r.getD 1 0).toNat % 64 * 64 + (r.getD 2 0).toNat % 64, 4) else (65533, 1)) else (65533, 1) := by
        simp only [dec]
        rw [if_neg c1, if_neg (by simp [c2]), if_neg (by simp [c3])]
        by_cases hc : (decide (1 ≤ r.length) && (r.getD 0 0).toNat / 64 == 2 && (decide (2 ≤ r.length) && (r.getD 1 0).toNat / 64 == 2) && (decide (3 ≤ r.length) && (r.getD 2 0).toNat / 64 == 2)) = true
        · rw [if_pos (by simpa [c4] using hc), if_pos hc]
        · rw [if_neg (by simpa [c4] using hc), if_neg hc]
      rw [e]
      have short : r.length < 3 → signR (b :: r) = (1, -1) := by
        intro hl
        simp only [signR]
        rw [if_neg c1, if_neg (by omega), if_neg (by omega)]
        split
        · rw [multi_none _ _ _ _ (by omega)]
        · rfl
      match r with
      | [] => rw [short (by simp)]; simp [signV]
      | [x] => rw [short (by simp)]; simp [signV]
      | [x, y] => rw [short (by simp)]; simp [signV]
      | x :: y :: z :: r =>
        clear short
        have hx := x.toNat_lt
        have hy := y.toNat_lt
        have hz := z.toNat_lt
        simp only [List.getD_cons_zero, List.getD_cons_succ, List.length_cons]
        by_cases hc : x.toNat / 64 = 2 ∧ y.toNat / 64 = 2 ∧ z.toNat / 64 = 2
        · obtain ⟨hcx, hcy, hcz⟩ := hc
          rw [if_pos (by simp [hcx, hcy, hcz])]
          by_cases hd : (decide (b.toNat % 8 * 262144 + x.toNat % 64 * 4096 + y.toNat % 64 * 64 + z.toNat % 64 ≥ 0x10000) && Utf8.valid ((b.toNat % 8 * 262144 + x.toNat % 64 * 4096 + y.toNat % 64 * 64 + z.toNat % 64 : Nat) : Int)) = true
          · rw [if_pos hd]
            rw [Bool.and_eq_true, valid_iff, decide_eq_true_eq] at hd
            simp only [signR]
            rw [if_neg c1, if_neg (by omega), if_neg (by omega), if_pos (by omega), multi_ok _ _ _ _ (by simp) (by simp [contB_iff, hcx, hcy, hcz]) (by rw [← Bool.not_eq_true, bad_iff]; simp [fold6]; omega)]
            simp only [signV]
            rw [if_neg (by omega)]
            simp [fold6]
            omega
          · rw [if_neg hd]
            rw [Bool.and_eq_true, valid_iff, decide_eq_true_eq] at hd
            simp only [signR]
            rw [if_neg c1, if_neg (by omega), if_neg (by omega)]
            split
            · rw [multi_bad _ _ _ _ (by rw [bad_iff]; simp [fold6]; omega)]
              simp [signV]
            · simp [signV]
        · rw [if_neg (by simp; omega)]
          simp only [signR]
          rw [if_neg c1, if_neg (by omega), if_neg (by omega)]
          split
          · rw [multi_none _ _ _ _ (by simp [contB_iff]; omega)]
            simp [signV]
          · simp [signV]
    · have e : dec (b :: r) = (65533, 1) := by
        simp only [dec]
        rw [if_neg c1, if_neg (by simp [c2]), if_neg (by simp [c3]), if_neg (by simp [c4])]
      rw [e]
      simp only [signR]
      rw [if_neg c1, if_neg (by omega), if_neg (by omega), if_neg (by omega)]
      simp [signV]

end Go.Proofs.YtfabnfdadadlnaaDoor.Pl
