/-
  The reference's reading of one sign (demoticref01.Sign): a walk, class by class.
-/
import Derived.Test.YtfabnfdadadlnaaDoorWords
namespace Go.Proofs.YtfabnfdadadlnaaDoor
set_option linter.all false
open Go.RowKit
open Pl (signR fold6 contB)

theorem contB_bounds {b : UInt8} (h : contB b = true) : 128 ≤ b.toNat ∧ b.toNat ≤ 191 := by
  simpa [contB] using h

theorem fold6_le (v0 : Nat) : ∀ l : List UInt8, l.all contB = true → fold6 v0 l + 1 ≤ (v0 + 1) * 64 ^ l.length := by
  intro l
  induction l generalizing v0 with
  | nil => intro _; simp [fold6]
  | cons b l ih =>
    intro h
    simp only [List.all_cons, Bool.and_eq_true] at h
    have hb := contB_bounds h.1
    have := ih (64 * v0 + b.toNat - 128) h.2
    have e : fold6 v0 (b :: l) = fold6 (64 * v0 + b.toNat - 128) l := by unfold fold6; rw [List.foldl_cons]
    rw [e, List.length_cons, Nat.pow_succ, Nat.mul_comm (64 ^ l.length) 64, ← Nat.mul_assoc]
    refine Nat.le_trans this (Nat.mul_le_mul_right _ ?_)
    omega

theorem fold6_snoc (v0 : Nat) (l : List UInt8) (b : UInt8) : fold6 v0 (l ++ [b]) = 64 * fold6 v0 l + b.toNat - 128 := by
  simp [fold6]

theorem take_snoc' (r : List UInt8) (k : Nat) (h : k < r.length) : r.take (k + 1) = r.take k ++ [r.getD k 0] := by
  rw [List.take_succ_eq_append_getElem h]
  simp [List.getD_eq_getElem?_getD, List.getElem?_eq_getElem h]

theorem getD_drop' (l : List UInt8) (i k : Nat) : (l.drop i).getD k 0 = l.getD (i + k) 0 := by
  simp [List.getD_eq_getElem?_getD]

theorem all_of_all (r : List UInt8) (k n : Nat) (hk : k < n) (hr : k < r.length) (h : contB (r.getD k 0) = false) : (r.take n).all contB = false := by
  rw [Bool.eq_false_iff]
  intro h'
  rw [List.all_eq_true] at h'
  have : r.getD k 0 ∈ r.take n := by
    rw [List.getD_eq_getElem?_getD, List.getElem?_eq_getElem hr, Option.getD_some]
    rw [List.mem_iff_getElem]
    exact ⟨k, by simp only [List.length_take]; omega, by simp⟩
  rw [h' _ this] at h
  cases h

theorem drop_head (l : List UInt8) (i : Nat) (h : i < l.length) : l.drop i = l.getD i 0 :: l.drop (i + 1) := by
  rw [List.drop_eq_getElem_cons h]
  simp [List.getD_eq_getElem?_getD, List.getElem?_eq_getElem h]

/-- The loop's relation: k continuing bytes have been taken in. -/
def SgRel (N lo x : Nat) (r : List UInt8) (v j : Value) : Prop :=
  ∃ k : Nat, k + 1 ≤ N ∧ j = .int .i64 ((k : Int) + 1) ∧ v = .int .i64 (fold6 (x - lo) (r.take k)) ∧ (r.take k).all contB = true

set_option maxRecDepth 100000 in
set_option maxHeartbeats 400000 in
theorem sign_ascii (b off n c i : Nat) (l : List UInt8) (w : World) (hn : n ≤ 1000) (hi : i < n) (hl : l.length = n)
    (hc : ∀ i, i < n → w.cell? ⟨b, off + i, none⟩ = some (.int .u8 ((l.getD i 0).toNat : Int))) (h : (l.getD i 0).toNat < 128) :
    Calls Tryd.prog 10 #[.slice (some ⟨b, off, none⟩) n c, .int .i64 i] w fun e w' => e = .returned (.tuple #[.int .i64 (signR (l.drop i)).1, .int .i64 (signR (l.drop i)).2]) ∧ w = w' := by
  have hc0 := hc i (by omega)
  clear hc
  have hS := Lib.hid (show signR (l.drop i) = (1, ((l.getD i 0).toNat : Int)) by rw [drop_head l i (by omega)]; simp only [signR]; rw [if_pos h])
  rw [hS.out]
  have hL := Lib.hid hl
  clear hl
  generalize (l.getD i 0).toNat = x at *
  go_enter Tryd.func10, Tryd.ntmps10
  go_wp2
  go_ret2
  exact ⟨rfl, rfl⟩

set_option maxRecDepth 100000 in
set_option maxHeartbeats 400000 in
theorem sign_none (b off n c i : Nat) (l : List UInt8) (w : World) (hn : n ≤ 1000) (hi : i < n) (hl : l.length = n)
    (hc : ∀ i, i < n → w.cell? ⟨b, off + i, none⟩ = some (.int .u8 ((l.getD i 0).toNat : Int))) (h : 128 ≤ (l.getD i 0).toNat) (h' : (l.getD i 0).toNat < 194 ∨ 244 < (l.getD i 0).toNat) :
    Calls Tryd.prog 10 #[.slice (some ⟨b, off, none⟩) n c, .int .i64 i] w fun e w' => e = .returned (.tuple #[.int .i64 (signR (l.drop i)).1, .int .i64 (signR (l.drop i)).2]) ∧ w = w' := by
  have hc0 := hc i (by omega)
  clear hc
  have hS := Lib.hid (show signR (l.drop i) = (1, -1) by rw [drop_head l i (by omega)]; simp only [signR]; rw [if_neg (by omega), if_neg (by omega), if_neg (by omega), if_neg (by omega)])
  rw [hS.out]
  have hL := Lib.hid hl
  clear hl
  have hx := (l.getD i 0).toNat_lt
  generalize (l.getD i 0).toNat = x at *
  rcases h' with h' | h'
  · go_enter Tryd.func10, Tryd.ntmps10
    go_wp2
    go_ret2
    exact ⟨rfl, rfl⟩
  · go_enter Tryd.func10, Tryd.ntmps10
    go_wp2
    go_ret2
    exact ⟨rfl, rfl⟩

theorem sign_two_eq (l : List UInt8) (i : Nat) (h : i < l.length) (h1 : 194 ≤ (l.getD i 0).toNat) (h2 : (l.getD i 0).toNat ≤ 223) :
    signR (l.drop i) = Pl.multi 2 ((l.getD i 0).toNat - 192) 128 (l.drop (i + 1)) := by
  rw [drop_head l i h]
  simp only [signR]
  rw [if_neg (by omega), if_pos (by omega)]

set_option maxRecDepth 100000 in
set_option maxHeartbeats 400000 in
theorem sign_two_short (b off n c i : Nat) (l : List UInt8) (w : World) (hn : n ≤ 1000) (hi : i < n) (hi' : n < i + 2) (hl : l.length = n)
    (hc : ∀ i, i < n → w.cell? ⟨b, off + i, none⟩ = some (.int .u8 ((l.getD i 0).toNat : Int))) (h1 : 194 ≤ (l.getD i 0).toNat) (h2 : (l.getD i 0).toNat ≤ 223) :
    Calls Tryd.prog 10 #[.slice (some ⟨b, off, none⟩) n c, .int .i64 i] w fun e w' => e = .returned (.tuple #[.int .i64 (signR (l.drop i)).1, .int .i64 (signR (l.drop i)).2]) ∧ w = w' := by
  have hc0 := hc i (by omega)
  clear hc
  have hS := Lib.hid (show signR (l.drop i) = (1, -1) by rw [sign_two_eq l i (by omega) h1 h2, Pl.multi_none _ _ _ _ (by simp only [List.length_drop]; omega)])
  rw [hS.out]
  have hL := Lib.hid hl
  clear hl
  generalize (l.getD i 0).toNat = x at *
  go_enter Tryd.func10, Tryd.ntmps10
  go_wp2
  go_ret2
  exact ⟨rfl, rfl⟩

set_option maxRecDepth 100000 in
set_option maxHeartbeats 1000000 in
theorem sign_two (b off n c i : Nat) (l : List UInt8) (w : World) (hn : n ≤ 1000) (hi : i + 2 ≤ n) (hl : l.length = n)
    (hc : ∀ i, i < n → w.cell? ⟨b, off + i, none⟩ = some (.int .u8 ((l.getD i 0).toNat : Int))) (h1 : 194 ≤ (l.getD i 0).toNat) (h2 : (l.getD i 0).toNat ≤ 223) :
    Calls Tryd.prog 10 #[.slice (some ⟨b, off, none⟩) n c, .int .i64 i] w fun e w' => e = .returned (.tuple #[.int .i64 (signR (l.drop i)).1, .int .i64 (signR (l.drop i)).2]) ∧ w = w' := by
  have hc0 := hc i (by omega)
  have hC := Lib.hid hc
  clear hc
  have hS := Lib.hid (sign_two_eq l i (by omega) h1 h2)
  rw [hS.out]
  obtain ⟨x, hx⟩ : ∃ x : Nat, x = (l.getD i 0).toNat := ⟨_, rfl⟩
  rw [← hx] at hc0 h1 h2 ⊢
  clear hS hx
  obtain ⟨r, hr⟩ : ∃ r : List UInt8, r = l.drop (i + 1) := ⟨_, rfl⟩
  have hrl : r.length = n - (i + 1) := by rw [hr]; simp [hl]
  have hcr : ∀ k, k + 1 < 2 → w.cell? ⟨b, off + (i + (k + 1)), none⟩ = some (.int .u8 ((r.getD k 0).toNat : Int)) := by
    intro k hk
    have := hC.out (i + (k + 1)) (by omega)
    rw [hr, getD_drop', this, show i + 1 + k = i + (k + 1) by omega]
  rw [← hr]
  have HC := Lib.hid hcr
  clear hC hcr hr hl
  have HRL : Lib.hid (show r.length + 1 ≥ 2 by omega) = Lib.hid (show r.length + 1 ≥ 2 by omega) := rfl
  clear HRL
  have hrl' : 2 ≤ r.length + 1 := by omega
  have HR := Lib.hid hrl
  clear hrl
  have d1 : decide ((x : Int) < 128) = false := by simp; omega
  have d2 : decide ((x : Int) ≤ 223) = true := by simp; omega
  have d3 : decide ((x : Int) ≤ 239) = true := by simp; omega
  have d4 : decide ((x : Int) ≤ 244) = true := by simp; omega
  have d5 : decide ((n : Int) < (i : Int) + 2) = false := by simp; omega
  go_enter Tryd.func10, Tryd.ntmps10
  go_wp2
  go_loop [4, 5, 8, 10] (fun _ _ v j => SgRel 2 192 x r v j) (fun _ _ _ j => (2 - intOf j).toNat)
  case atStart => exact ⟨0, by omega, by simp, congrArg (Value.int .i64) (by simp [fold6]; omega), by simp⟩
  case round =>
    obtain ⟨k, hk, rfl, rfl, hall⟩ := hrel
    have hfb : fold6 (x - 192) (r.take k) ≤ 2048 := by
      have h3 := fold6_le (x - 192) (r.take k) hall
      have h4 : (r.take k).length ≤ 2 - 1 := by simp only [List.length_take]; omega
      have h5 : 64 ^ (r.take k).length ≤ 64 ^ (2 - 1) := Nat.pow_le_pow_right (by omega) h4
      have h6 : (x - 192 + 1) * 64 ^ (r.take k).length ≤ 32 * 64 ^ (2 - 1) := Nat.mul_le_mul (by omega) h5
      omega
    have HALL := Lib.hid hall
    clear hall
    by_cases hlt : k + 1 < 2
    · have hck := HC.out k hlt
      have hsn := Lib.hid (fold6_snoc (x - 192) (r.take k) (r.getD k 0))
      have hts := Lib.hid (take_snoc' r k (by omega))
      by_cases hcb : contB (r.getD k 0) = true
      · have hcb' := contB_bounds hcb
        have hall' := Lib.hid (show (r.take (k + 1)).all contB = true by rw [hts.out, List.all_append, HALL.out]; simpa using hcb)
        have hv' := Lib.hid (show (fold6 (x - 192) (r.take (k + 1)) : Int) = 64 * (fold6 (x - 192) (r.take k) : Int) + ((r.getD k 0).toNat : Int) - 128 by rw [hts.out, hsn.out]; omega)
        clear hcb hsn hts
        have hyb := (r.getD k 0).toNat_lt
        generalize (r.getD k 0).toNat = y at *
        generalize fold6 (x - 192) (r.take k) = f at *
        go_wp2
        go_round
        case rel => exact ⟨k + 1, by omega, by go_num, by rw [hv'.out], hall'.out⟩
        case measure => simp [intOf]; omega
      · have hcb' : (r.getD k 0).toNat < 128 ∨ 191 < (r.getD k 0).toNat := by
          rcases Nat.lt_or_ge (r.getD k 0).toNat 128 with h3 | h3
          · exact .inl h3
          · rcases Nat.lt_or_ge 191 (r.getD k 0).toNat with h4 | h4
            · exact .inr h4
            · exact absurd (show contB (r.getD k 0) = true by rw [contB, decide_eq_true h3, decide_eq_true h4]; rfl) hcb
        have hres := Lib.hid (show Pl.multi 2 (x - 192) 128 r = (1, -1) from Pl.multi_none _ _ _ _ (fun h => by
          have := all_of_all r k (2 - 1) (by omega) (by omega) (by simpa using hcb)
          rw [this] at h
          exact absurd h.2 (by simp)))
        clear hcb hsn hts
        have hyb := (r.getD k 0).toNat_lt
        generalize (r.getD k 0).toNat = y at *
        generalize fold6 (x - 192) (r.take k) = f at *
        rcases hcb' with h3 | h3
        · go_wp2
          all_goals (go_ret2; rw [hres.out]; all_goals exact ⟨rfl, rfl⟩)
        · go_wp2
          all_goals (go_ret2; rw [hres.out]; all_goals exact ⟨rfl, rfl⟩)
    · obtain rfl : k = 2 - 1 := by omega
      clear hlt
      have hgood : ∀ h : Pl.bad (fold6 (x - 192) (r.take (2 - 1))) 128 = false, Pl.multi 2 (x - 192) 128 r = (2, (fold6 (x - 192) (r.take (2 - 1)) : Int)) := fun h => Pl.multi_ok _ _ _ _ hrl' HALL.out h
      have hbad : ∀ h : Pl.bad (fold6 (x - 192) (r.take (2 - 1))) 128 = true, Pl.multi 2 (x - 192) 128 r = (1, -1) := fun h => Pl.multi_bad _ _ _ _ h
      have HG := Lib.hid hgood
      have HB := Lib.hid hbad
      clear hgood hbad
      generalize fold6 (x - 192) (r.take (2 - 1)) = f at *
      by_cases b1 : f < 128
      · have hres := Lib.hid (HB.out (by rw [Pl.bad_iff]; omega))
        go_wp2
        all_goals (go_ret2; rw [hres.out]; all_goals exact ⟨rfl, rfl⟩)
      · by_cases b2 : 1114111 < f
        · have hres := Lib.hid (HB.out (by rw [Pl.bad_iff]; omega))
          go_wp2
          all_goals (go_ret2; rw [hres.out]; all_goals exact ⟨rfl, rfl⟩)
        · by_cases b3 : 55296 ≤ f
          · by_cases b4 : f ≤ 57343
            · have hres := Lib.hid (HB.out (by rw [Pl.bad_iff]; omega))
              go_wp2
              all_goals (go_ret2; rw [hres.out]; all_goals exact ⟨rfl, rfl⟩)
            · have hres := Lib.hid (HG.out (by rw [← Bool.not_eq_true, Pl.bad_iff]; omega))
              go_wp2
              all_goals (go_ret2; rw [hres.out]; all_goals exact ⟨rfl, rfl⟩)
          · have hres := Lib.hid (HG.out (by rw [← Bool.not_eq_true, Pl.bad_iff]; omega))
            go_wp2
            all_goals (go_ret2; rw [hres.out]; all_goals exact ⟨rfl, rfl⟩)

theorem sign_three_eq (l : List UInt8) (i : Nat) (h : i < l.length) (h1 : 224 ≤ (l.getD i 0).toNat) (h2 : (l.getD i 0).toNat ≤ 239) :
    signR (l.drop i) = Pl.multi 3 ((l.getD i 0).toNat - 224) 2048 (l.drop (i + 1)) := by
  rw [drop_head l i h]
  simp only [signR]
  rw [if_neg (by omega), if_neg (by omega), if_pos (by omega)]

set_option maxRecDepth 100000 in
set_option maxHeartbeats 400000 in
theorem sign_three_short (b off n c i : Nat) (l : List UInt8) (w : World) (hn : n ≤ 1000) (hi : i < n) (hi' : n < i + 3) (hl : l.length = n)
    (hc : ∀ i, i < n → w.cell? ⟨b, off + i, none⟩ = some (.int .u8 ((l.getD i 0).toNat : Int))) (h1 : 224 ≤ (l.getD i 0).toNat) (h2 : (l.getD i 0).toNat ≤ 239) :
    Calls Tryd.prog 10 #[.slice (some ⟨b, off, none⟩) n c, .int .i64 i] w fun e w' => e = .returned (.tuple #[.int .i64 (signR (l.drop i)).1, .int .i64 (signR (l.drop i)).2]) ∧ w = w' := by
  have hc0 := hc i (by omega)
  clear hc
  have hS := Lib.hid (show signR (l.drop i) = (1, -1) by rw [sign_three_eq l i (by omega) h1 h2, Pl.multi_none _ _ _ _ (by simp only [List.length_drop]; omega)])
  rw [hS.out]
  have hL := Lib.hid hl
  clear hl
  generalize (l.getD i 0).toNat = x at *
  go_enter Tryd.func10, Tryd.ntmps10
  go_wp2
  go_ret2
  exact ⟨rfl, rfl⟩

set_option maxRecDepth 100000 in
set_option maxHeartbeats 1000000 in
theorem sign_three (b off n c i : Nat) (l : List UInt8) (w : World) (hn : n ≤ 1000) (hi : i + 3 ≤ n) (hl : l.length = n)
    (hc : ∀ i, i < n → w.cell? ⟨b, off + i, none⟩ = some (.int .u8 ((l.getD i 0).toNat : Int))) (h1 : 224 ≤ (l.getD i 0).toNat) (h2 : (l.getD i 0).toNat ≤ 239) :
    Calls Tryd.prog 10 #[.slice (some ⟨b, off, none⟩) n c, .int .i64 i] w fun e w' => e = .returned (.tuple #[.int .i64 (signR (l.drop i)).1, .int .i64 (signR (l.drop i)).2]) ∧ w = w' := by
  have hc0 := hc i (by omega)
  have hC := Lib.hid hc
  clear hc
  have hS := Lib.hid (sign_three_eq l i (by omega) h1 h2)
  rw [hS.out]
  obtain ⟨x, hx⟩ : ∃ x : Nat, x = (l.getD i 0).toNat := ⟨_, rfl⟩
  rw [← hx] at hc0 h1 h2 ⊢
  clear hS hx
  obtain ⟨r, hr⟩ : ∃ r : List UInt8, r = l.drop (i + 1) := ⟨_, rfl⟩
  have hrl : r.length = n - (i + 1) := by rw [hr]; simp [hl]
  have hcr : ∀ k, k + 1 < 3 → w.cell? ⟨b, off + (i + (k + 1)), none⟩ = some (.int .u8 ((r.getD k 0).toNat : Int)) := by
    intro k hk
    have := hC.out (i + (k + 1)) (by omega)
    rw [hr, getD_drop', this, show i + 1 + k = i + (k + 1) by omega]
  rw [← hr]
  have HC := Lib.hid hcr
  clear hC hcr hr hl
  have HRL : Lib.hid (show r.length + 1 ≥ 3 by omega) = Lib.hid (show r.length + 1 ≥ 3 by omega) := rfl
  clear HRL
  have hrl' : 3 ≤ r.length + 1 := by omega
  have HR := Lib.hid hrl
  clear hrl
  have d1 : decide ((x : Int) < 128) = false := by simp; omega
  have d2 : decide ((x : Int) ≤ 223) = false := by simp; omega
  have d3 : decide ((x : Int) ≤ 239) = true := by simp; omega
  have d4 : decide ((x : Int) ≤ 244) = true := by simp; omega
  have d5 : decide ((n : Int) < (i : Int) + 3) = false := by simp; omega
  go_enter Tryd.func10, Tryd.ntmps10
  go_wp2
  go_loop [4, 5, 8, 10] (fun _ _ v j => SgRel 3 224 x r v j) (fun _ _ _ j => (3 - intOf j).toNat)
  case atStart => exact ⟨0, by omega, by simp, congrArg (Value.int .i64) (by simp [fold6]; omega), by simp⟩
  case round =>
    obtain ⟨k, hk, rfl, rfl, hall⟩ := hrel
    have hfb : fold6 (x - 224) (r.take k) ≤ 65536 := by
      have h3 := fold6_le (x - 224) (r.take k) hall
      have h4 : (r.take k).length ≤ 3 - 1 := by simp only [List.length_take]; omega
      have h5 : 64 ^ (r.take k).length ≤ 64 ^ (3 - 1) := Nat.pow_le_pow_right (by omega) h4
      have h6 : (x - 224 + 1) * 64 ^ (r.take k).length ≤ 16 * 64 ^ (3 - 1) := Nat.mul_le_mul (by omega) h5
      omega
    have HALL := Lib.hid hall
    clear hall
    by_cases hlt : k + 1 < 3
    · have hck := HC.out k hlt
      have hsn := Lib.hid (fold6_snoc (x - 224) (r.take k) (r.getD k 0))
      have hts := Lib.hid (take_snoc' r k (by omega))
      by_cases hcb : contB (r.getD k 0) = true
      · have hcb' := contB_bounds hcb
        have hall' := Lib.hid (show (r.take (k + 1)).all contB = true by rw [hts.out, List.all_append, HALL.out]; simpa using hcb)
        have hv' := Lib.hid (show (fold6 (x - 224) (r.take (k + 1)) : Int) = 64 * (fold6 (x - 224) (r.take k) : Int) + ((r.getD k 0).toNat : Int) - 128 by rw [hts.out, hsn.out]; omega)
        clear hcb hsn hts
        have hyb := (r.getD k 0).toNat_lt
        generalize (r.getD k 0).toNat = y at *
        generalize fold6 (x - 224) (r.take k) = f at *
        go_wp2
        go_round
        case rel => exact ⟨k + 1, by omega, by go_num, by rw [hv'.out], hall'.out⟩
        case measure => simp [intOf]; omega
      · have hcb' : (r.getD k 0).toNat < 128 ∨ 191 < (r.getD k 0).toNat := by
          rcases Nat.lt_or_ge (r.getD k 0).toNat 128 with h3 | h3
          · exact .inl h3
          · rcases Nat.lt_or_ge 191 (r.getD k 0).toNat with h4 | h4
            · exact .inr h4
            · exact absurd (show contB (r.getD k 0) = true by rw [contB, decide_eq_true h3, decide_eq_true h4]; rfl) hcb
        have hres := Lib.hid (show Pl.multi 3 (x - 224) 2048 r = (1, -1) from Pl.multi_none _ _ _ _ (fun h => by
          have := all_of_all r k (3 - 1) (by omega) (by omega) (by simpa using hcb)
          rw [this] at h
          exact absurd h.2 (by simp)))
        clear hcb hsn hts
        have hyb := (r.getD k 0).toNat_lt
        generalize (r.getD k 0).toNat = y at *
        generalize fold6 (x - 224) (r.take k) = f at *
        rcases hcb' with h3 | h3
        · go_wp2
          all_goals (go_ret2; rw [hres.out]; all_goals exact ⟨rfl, rfl⟩)
        · go_wp2
          all_goals (go_ret2; rw [hres.out]; all_goals exact ⟨rfl, rfl⟩)
    · obtain rfl : k = 3 - 1 := by omega
      clear hlt
      have hgood : ∀ h : Pl.bad (fold6 (x - 224) (r.take (3 - 1))) 2048 = false, Pl.multi 3 (x - 224) 2048 r = (3, (fold6 (x - 224) (r.take (3 - 1)) : Int)) := fun h => Pl.multi_ok _ _ _ _ hrl' HALL.out h
      have hbad : ∀ h : Pl.bad (fold6 (x - 224) (r.take (3 - 1))) 2048 = true, Pl.multi 3 (x - 224) 2048 r = (1, -1) := fun h => Pl.multi_bad _ _ _ _ h
      have HG := Lib.hid hgood
      have HB := Lib.hid hbad
      clear hgood hbad
      generalize fold6 (x - 224) (r.take (3 - 1)) = f at *
      by_cases b1 : f < 2048
      · have hres := Lib.hid (HB.out (by rw [Pl.bad_iff]; omega))
        go_wp2
        all_goals (go_ret2; rw [hres.out]; all_goals exact ⟨rfl, rfl⟩)
      · by_cases b2 : 1114111 < f
        · have hres := Lib.hid (HB.out (by rw [Pl.bad_iff]; omega))
          go_wp2
          all_goals (go_ret2; rw [hres.out]; all_goals exact ⟨rfl, rfl⟩)
        · by_cases b3 : 55296 ≤ f
          · by_cases b4 : f ≤ 57343
            · have hres := Lib.hid (HB.out (by rw [Pl.bad_iff]; omega))
              go_wp2
              all_goals (go_ret2; rw [hres.out]; all_goals exact ⟨rfl, rfl⟩)
            · have hres := Lib.hid (HG.out (by rw [← Bool.not_eq_true, Pl.bad_iff]; omega))
              go_wp2
              all_goals (go_ret2; rw [hres.out]; all_goals exact ⟨rfl, rfl⟩)
          · have hres := Lib.hid (HG.out (by rw [← Bool.not_eq_true, Pl.bad_iff]; omega))
            go_wp2
            all_goals (go_ret2; rw [hres.out]; all_goals exact ⟨rfl, rfl⟩)

theorem sign_four_eq (l : List UInt8) (i : Nat) (h : i < l.length) (h1 : 240 ≤ (l.getD i 0).toNat) (h2 : (l.getD i 0).toNat ≤ 244) :
    signR (l.drop i) = Pl.multi 4 ((l.getD i 0).toNat - 240) 65536 (l.drop (i + 1)) := by
  rw [drop_head l i h]
  simp only [signR]
  rw [if_neg (by omega), if_neg (by omega), if_neg (by omega), if_pos (by omega)]

set_option maxRecDepth 100000 in
set_option maxHeartbeats 400000 in
theorem sign_four_short (b off n c i : Nat) (l : List UInt8) (w : World) (hn : n ≤ 1000) (hi : i < n) (hi' : n < i + 4) (hl : l.length = n)
    (hc : ∀ i, i < n → w.cell? ⟨b, off + i, none⟩ = some (.int .u8 ((l.getD i 0).toNat : Int))) (h1 : 240 ≤ (l.getD i 0).toNat) (h2 : (l.getD i 0).toNat ≤ 244) :
    Calls Tryd.prog 10 #[.slice (some ⟨b, off, none⟩) n c, .int .i64 i] w fun e w' => e = .returned (.tuple #[.int .i64 (signR (l.drop i)).1, .int .i64 (signR (l.drop i)).2]) ∧ w = w' := by
  have hc0 := hc i (by omega)
  clear hc
  have hS := Lib.hid (show signR (l.drop i) = (1, -1) by rw [sign_four_eq l i (by omega) h1 h2, Pl.multi_none _ _ _ _ (by simp only [List.length_drop]; omega)])
  rw [hS.out]
  have hL := Lib.hid hl
  clear hl
  generalize (l.getD i 0).toNat = x at *
  go_enter Tryd.func10, Tryd.ntmps10
  go_wp2
  go_ret2
  exact ⟨rfl, rfl⟩

set_option maxRecDepth 100000 in
set_option maxHeartbeats 1000000 in
theorem sign_four (b off n c i : Nat) (l : List UInt8) (w : World) (hn : n ≤ 1000) (hi : i + 4 ≤ n) (hl : l.length = n)
    (hc : ∀ i, i < n → w.cell? ⟨b, off + i, none⟩ = some (.int .u8 ((l.getD i 0).toNat : Int))) (h1 : 240 ≤ (l.getD i 0).toNat) (h2 : (l.getD i 0).toNat ≤ 244) :
    Calls Tryd.prog 10 #[.slice (some ⟨b, off, none⟩) n c, .int .i64 i] w fun e w' => e = .returned (.tuple #[.int .i64 (signR (l.drop i)).1, .int .i64 (signR (l.drop i)).2]) ∧ w = w' := by
  have hc0 := hc i (by omega)
  have hC := Lib.hid hc
  clear hc
  have hS := Lib.hid (sign_four_eq l i (by omega) h1 h2)
  rw [hS.out]
  obtain ⟨x, hx⟩ : ∃ x : Nat, x = (l.getD i 0).toNat := ⟨_, rfl⟩
  rw [← hx] at hc0 h1 h2 ⊢
  clear hS hx
  obtain ⟨r, hr⟩ : ∃ r : List UInt8, r = l.drop (i + 1) := ⟨_, rfl⟩
  have hrl : r.length = n - (i + 1) := by rw [hr]; simp [hl]
  have hcr : ∀ k, k + 1 < 4 → w.cell? ⟨b, off + (i + (k + 1)), none⟩ = some (.int .u8 ((r.getD k 0).toNat : Int)) := by
    intro k hk
    have := hC.out (i + (k + 1)) (by omega)
    rw [hr, getD_drop', this, show i + 1 + k = i + (k + 1) by omega]
  rw [← hr]
  have HC := Lib.hid hcr
  clear hC hcr hr hl
  have HRL : Lib.hid (show r.length + 1 ≥ 4 by omega) = Lib.hid (show r.length + 1 ≥ 4 by omega) := rfl
  clear HRL
  have hrl' : 4 ≤ r.length + 1 := by omega
  have HR := Lib.hid hrl
  clear hrl
  have d1 : decide ((x : Int) < 128) = false := by simp; omega
  have d2 : decide ((x : Int) ≤ 223) = false := by simp; omega
  have d3 : decide ((x : Int) ≤ 239) = false := by simp; omega
  have d4 : decide ((x : Int) ≤ 244) = true := by simp; omega
  have d5 : decide ((n : Int) < (i : Int) + 4) = false := by simp; omega
  go_enter Tryd.func10, Tryd.ntmps10
  go_wp2
  go_loop [4, 5, 8, 10] (fun _ _ v j => SgRel 4 240 x r v j) (fun _ _ _ j => (4 - intOf j).toNat)
  case atStart => exact ⟨0, by omega, by simp, congrArg (Value.int .i64) (by simp [fold6]; omega), by simp⟩
  case round =>
    obtain ⟨k, hk, rfl, rfl, hall⟩ := hrel
    have hfb : fold6 (x - 240) (r.take k) ≤ 1310720 := by
      have h3 := fold6_le (x - 240) (r.take k) hall
      have h4 : (r.take k).length ≤ 4 - 1 := by simp only [List.length_take]; omega
      have h5 : 64 ^ (r.take k).length ≤ 64 ^ (4 - 1) := Nat.pow_le_pow_right (by omega) h4
      have h6 : (x - 240 + 1) * 64 ^ (r.take k).length ≤ 5 * 64 ^ (4 - 1) := Nat.mul_le_mul (by omega) h5
      omega
    have HALL := Lib.hid hall
    clear hall
    by_cases hlt : k + 1 < 4
    · have hck := HC.out k hlt
      have hsn := Lib.hid (fold6_snoc (x - 240) (r.take k) (r.getD k 0))
      have hts := Lib.hid (take_snoc' r k (by omega))
      by_cases hcb : contB (r.getD k 0) = true
      · have hcb' := contB_bounds hcb
        have hall' := Lib.hid (show (r.take (k + 1)).all contB = true by rw [hts.out, List.all_append, HALL.out]; simpa using hcb)
        have hv' := Lib.hid (show (fold6 (x - 240) (r.take (k + 1)) : Int) = 64 * (fold6 (x - 240) (r.take k) : Int) + ((r.getD k 0).toNat : Int) - 128 by rw [hts.out, hsn.out]; omega)
        clear hcb hsn hts
        have hyb := (r.getD k 0).toNat_lt
        generalize (r.getD k 0).toNat = y at *
        generalize fold6 (x - 240) (r.take k) = f at *
        go_wp2
        go_round
        case rel => exact ⟨k + 1, by omega, by go_num, by rw [hv'.out], hall'.out⟩
        case measure => simp [intOf]; omega
      · have hcb' : (r.getD k 0).toNat < 128 ∨ 191 < (r.getD k 0).toNat := by
          rcases Nat.lt_or_ge (r.getD k 0).toNat 128 with h3 | h3
          · exact .inl h3
          · rcases Nat.lt_or_ge 191 (r.getD k 0).toNat with h4 | h4
            · exact .inr h4
            · exact absurd (show contB (r.getD k 0) = true by rw [contB, decide_eq_true h3, decide_eq_true h4]; rfl) hcb
        have hres := Lib.hid (show Pl.multi 4 (x - 240) 65536 r = (1, -1) from Pl.multi_none _ _ _ _ (fun h => by
          have := all_of_all r k (4 - 1) (by omega) (by omega) (by simpa using hcb)
          rw [this] at h
          exact absurd h.2 (by simp)))
        clear hcb hsn hts
        have hyb := (r.getD k 0).toNat_lt
        generalize (r.getD k 0).toNat = y at *
        generalize fold6 (x - 240) (r.take k) = f at *
        rcases hcb' with h3 | h3
        · go_wp2
          all_goals (go_ret2; rw [hres.out]; all_goals exact ⟨rfl, rfl⟩)
        · go_wp2
          all_goals (go_ret2; rw [hres.out]; all_goals exact ⟨rfl, rfl⟩)
    · obtain rfl : k = 4 - 1 := by omega
      clear hlt
      have hgood : ∀ h : Pl.bad (fold6 (x - 240) (r.take (4 - 1))) 65536 = false, Pl.multi 4 (x - 240) 65536 r = (4, (fold6 (x - 240) (r.take (4 - 1)) : Int)) := fun h => Pl.multi_ok _ _ _ _ hrl' HALL.out h
      have hbad : ∀ h : Pl.bad (fold6 (x - 240) (r.take (4 - 1))) 65536 = true, Pl.multi 4 (x - 240) 65536 r = (1, -1) := fun h => Pl.multi_bad _ _ _ _ h
      have HG := Lib.hid hgood
      have HB := Lib.hid hbad
      clear hgood hbad
      generalize fold6 (x - 240) (r.take (4 - 1)) = f at *
      by_cases b1 : f < 65536
      · have hres := Lib.hid (HB.out (by rw [Pl.bad_iff]; omega))
        go_wp2
        all_goals (go_ret2; rw [hres.out]; all_goals exact ⟨rfl, rfl⟩)
      · by_cases b2 : 1114111 < f
        · have hres := Lib.hid (HB.out (by rw [Pl.bad_iff]; omega))
          go_wp2
          all_goals (go_ret2; rw [hres.out]; all_goals exact ⟨rfl, rfl⟩)
        · by_cases b3 : 55296 ≤ f
          · by_cases b4 : f ≤ 57343
            · have hres := Lib.hid (HB.out (by rw [Pl.bad_iff]; omega))
              go_wp2
              all_goals (go_ret2; rw [hres.out]; all_goals exact ⟨rfl, rfl⟩)
            · have hres := Lib.hid (HG.out (by rw [← Bool.not_eq_true, Pl.bad_iff]; omega))
              go_wp2
              all_goals (go_ret2; rw [hres.out]; all_goals exact ⟨rfl, rfl⟩)
          · have hres := Lib.hid (HG.out (by rw [← Bool.not_eq_true, Pl.bad_iff]; omega))
            go_wp2
            all_goals (go_ret2; rw [hres.out]; all_goals exact ⟨rfl, rfl⟩)

/-- What Sign answers at any place of some bytes. -/
theorem sign_any (A : Option Addr) (n c i : Nat) (l : List UInt8) (w : World) (hb : Bts w A n l) (hn : n ≤ 1000) (hi : i < n) :
    Calls Tryd.prog 10 #[.slice A n c, .int .i64 i] w fun e w' => e = .returned (.tuple #[.int .i64 (signR (l.drop i)).1, .int .i64 (signR (l.drop i)).2]) ∧ w = w' := by
  obtain ⟨b, off, rfl, hc⟩ := hb.2 (by omega)
  have hl := hb.1
  have hx := (l.getD i 0).toNat_lt
  by_cases c1 : (l.getD i 0).toNat < 128
  · exact sign_ascii b off n c i l w hn hi hl hc c1
  by_cases c2 : (l.getD i 0).toNat < 194
  · exact sign_none b off n c i l w hn hi hl hc (by omega) (.inl c2)
  by_cases c3 : (l.getD i 0).toNat ≤ 223
  · by_cases s : i + 2 ≤ n
    · exact sign_two b off n c i l w hn s hl hc (by omega) c3
    · exact sign_two_short b off n c i l w hn hi (by omega) hl hc (by omega) c3
  by_cases c4 : (l.getD i 0).toNat ≤ 239
  · by_cases s : i + 3 ≤ n
    · exact sign_three b off n c i l w hn s hl hc (by omega) c4
    · exact sign_three_short b off n c i l w hn hi (by omega) hl hc (by omega) c4
  by_cases c5 : (l.getD i 0).toNat ≤ 244
  · by_cases s : i + 4 ≤ n
    · exact sign_four b off n c i l w hn s hl hc (by omega) c5
    · exact sign_four_short b off n c i l w hn hi (by omega) hl hc (by omega) c5
  · exact sign_none b off n c i l w hn hi hl hc (by omega) (.inr (by omega))

end Go.Proofs.YtfabnfdadadlnaaDoor
