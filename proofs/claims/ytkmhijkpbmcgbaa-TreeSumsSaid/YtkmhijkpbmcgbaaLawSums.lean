/-
  The law TreeSums: its walk.
-/
import Derived.Test.YtkmhijkpbmcgbaaLaw
import Derived.Test.YtkmhijkpbmcgbaaSize
namespace Go.Proofs.Ytkmhijkpbmcgbaa
set_option linter.all false
open Go.RowKit Go.Shelf

def deepL (l : List Nd) : Nat := (l.map (depthN 101)).foldl max 0
theorem deepL_snoc {l : List Nd} {p : Nat} {k : Nd} (h : l[p]? = some k) : deepL (l.take (p + 1)) = max (deepL (l.take p)) (depthN 101 k) := by
  rw [take_snoc h]
  simp [deepL]
theorem deepL_le (l : List Nd) : deepL l ≤ 101 := (foldl_max_le _ _ _).2 ⟨by omega, fun x hx => by
  obtain ⟨k, hk, rfl⟩ := List.mem_map.1 hx
  exact depth_le 101 k⟩

def SumsRel (w : World) (n : Nd) (A : Option Addr) (c : Nat) (s d i : Value) (W : World) : Prop :=
  ∃ p : Nat, p ≤ n.kids.length ∧ s = .int .i64 (wrap64 (1 + sumW 100 (n.kids.take p))) ∧ d = .int .i64 (deepL (n.kids.take p)) ∧ i = .int .i64 p ∧ Below w.heap.size w W ∧ Whole W w.heap.size 24 #[.int .i64 n.kind, .string n.text, .slice A n.kids.length c, .int .i64 n.place]

set_option maxRecDepth 100000 in
set_option maxHeartbeats 2000000 in
theorem lawSums_walk (f : Nat) (v : Value) (n : Nd) (w : World) (hv : NdV w f v n) : Calls Try.prog 4 #[v] w fun e w' => e = .returned (.bool true) ∧ Below w.heap.size w w' := by
  cases f with
  | zero => exact hv.elim
  | succ f =>
  have hv0 := hv
  obtain ⟨A, c, rfl, hm, hc⟩ := hv
  have hb : Below w.heap.size w (w.alloc (.cells #[.int .i64 n.kind, .string n.text, .slice A n.kids.length c, .int .i64 n.place] 24)) := (Below.refl _ w).alloc (Nat.le_refl _) _
  have hw := Whole.new w 24 #[.int .i64 n.kind, .string n.text, .slice A n.kids.length c, .int .i64 n.place]
  have HV := Lib.hid hv0
  have HC := Lib.hid hc
  have hm2 : n.kids.length ≤ 9223372036854775807 := hm
  have c1 := (small_any (f + 1) _ n (w.alloc (.cells #[.int .i64 n.kind, .string n.text, .slice A n.kids.length c, .int .i64 n.place] 24)) 500 (hv0.below hb)).mono (R' := fun e w' => e = .returned (.bool (decide (wrap64 (sizeN 1000 n) ≤ 500))) ∧ Below w.heap.size w w' ∧ Whole w' w.heap.size 24 #[.int .i64 n.kind, .string n.text, .slice A n.kids.length c, .int .i64 n.place]) (fun e w' h => ⟨h.1, hb.trans (h.2.mono hb.size), hw.below h.2 (by simp)⟩)
  have C1 := Lib.hid c1
  clear hv0 hc hb hw c1
  unfold Nd.val at HV C1 ⊢
  have hdl := depth_le 101 n
  cases hs : decide (wrap64 (sizeN 1000 n) ≤ 500) with
  | false =>
    rw [hs] at C1
    clear hs
    go_enter Try.func4, Try.ntmps4
    go_wp2_with fail
    refine C1.out.mono ?_
    rintro e w1 ⟨rfl, b1, _⟩
    go_wp2_with fail
    go_ret
    exact ⟨rfl, b1⟩
  | true =>
  rw [hs] at C1
  clear hs
  go_enter Try.func4, Try.ntmps4
  go_wp2_with fail
  refine C1.out.mono ?_
  rintro e w1 ⟨rfl, b1, W1⟩
  have HD := Lib.hid ((depth_any (f + 1) _ n w1 (HV.out.below b1)).mono (R' := fun e w' => e = .returned (.int .i64 (depthN 101 n)) ∧ Below w.heap.size w w' ∧ Whole w' w.heap.size 24 #[.int .i64 n.kind, .string n.text, .slice A n.kids.length c, .int .i64 n.place]) (fun e w' h =>
    ⟨h.1, b1.trans (h.2.mono b1.size), W1.below h.2 W1.lt⟩))
  have d0 : w1.cell? ⟨w.heap.size, 0, none⟩ = some (.int .i64 n.kind) := W1.cell 0
  have d1 : w1.cell? ⟨w.heap.size, 1, none⟩ = some (.string n.text) := W1.cell 1
  have d2 : w1.cell? ⟨w.heap.size, 2, none⟩ = some (.slice A n.kids.length c) := W1.cell 2
  have d3 : w1.cell? ⟨w.heap.size, 3, none⟩ = some (.int .i64 n.place) := W1.cell 3
  clear b1 W1 C1
  by_cases hd : depthN 101 n ≤ 90
  · have hdd : decide ((90 : Int) < (depthN 101 n : Int)) = false := decide_eq_false (by omega)
    have hlaw := Lib.hid (sums_law n hd)
    go_wp2_with fail
    refine HD.out.mono ?_
    rintro e w2 ⟨rfl, B2, W2⟩
    have HB2 := Lib.hid B2
    have HW2 := Lib.hid W2
    clear B2 W2 HD d0 d1 d2 d3
    go_wp2_with fail
    go_loopw [3, 4, 5] (fun s d i W => SumsRel w n A c s d i W) (fun _ _ i _ => n.kids.length - (intOf i).toNat)
    case atStart => exact ⟨0, Nat.zero_le _, by simp [sumW, wrap64_small], by simp [deepL], rfl, HB2.out, HW2.out⟩
    case round =>
      clear HB2 HW2
      obtain ⟨p, hp, rfl, rfl, rfl, hb, hw⟩ := hrel
      have e2 : wr.cell? ⟨w.heap.size, 2, none⟩ = some (.slice A n.kids.length c) := hw.cell 2
      by_cases hpl : p < n.kids.length
      · obtain ⟨b, off, k, A', c', rfl, hk, hbl, k0, k1, k2, k3, k5⟩ := kid_cells HC.out hb hpl
        have K := Lib.hid k5
        have HK := Lib.hid hk
        have hkw : ∀ W, Below w.heap.size w W → W.cell? ⟨b, off + p * 4, none⟩ = some (.int .i64 k.kind) ∧ W.cell? ⟨b, off + p * 4 + 1, none⟩ = some (.string k.text) ∧ W.cell? ⟨b, off + p * 4 + 2, none⟩ = some (.slice A' k.kids.length c') ∧ W.cell? ⟨b, off + p * 4 + 3, none⟩ = some (.int .i64 k.place) := fun W hW => by
          obtain ⟨b2, off2, k2', A2, c2, hA2, hk2, _, x0, x1, x2, x3, _⟩ := kid_cells HC.out hW hpl
          injection hA2 with hA2
          injection hA2 with hA3 hA4
          subst hA3 hA4
          rw [hk] at hk2
          injection hk2 with hk2
          subst hk2
          have q0 := (hb.cell (p := ⟨b, off + p * 4 + 2, none⟩) hbl)
          have q1 := (hW.cell (p := ⟨b, off + p * 4 + 2, none⟩) hbl)
          exact ⟨x0, x1, by rw [q1, ← q0]; exact k2, x3⟩
        have HKW := Lib.hid hkw
        have CZ := Lib.hid ((size_any f _ k wr (k5.below hb)).mono (R' := fun e w' => e = .returned (.int .i64 (wrap64 (sizeN 100 k))) ∧ Below w.heap.size w w' ∧ Whole w' w.heap.size 24 #[.int .i64 n.kind, .string n.text, .slice (some ⟨b, off, none⟩) n.kids.length c, .int .i64 n.place]) (fun e w' h =>
          ⟨h.1, hb.trans (h.2.mono hb.size), hw.below h.2 hw.lt⟩))
        have hp2 : p < 9223372036854775807 := by omega
        clear hb hw hk k5 hkw
        unfold Nd.val at CZ
        go_wp2_with fail
        refine CZ.out.mono ?_
        rintro e w3 ⟨rfl, b3, W3⟩
        obtain ⟨y0, y1, y2, y3⟩ := HKW.out w3 b3
        have f2 : w3.cell? ⟨w.heap.size, 2, none⟩ = some (.slice (some ⟨b, off, none⟩) n.kids.length c) := W3.cell 2
        have CD := Lib.hid ((depth_any f _ k w3 (K.out.below b3)).mono (R' := fun e w' => e = .returned (.int .i64 (depthN 101 k)) ∧ Below w.heap.size w w' ∧ Whole w' w.heap.size 24 #[.int .i64 n.kind, .string n.text, .slice (some ⟨b, off, none⟩) n.kids.length c, .int .i64 n.place]) (fun e w' h =>
          ⟨h.1, b3.trans (h.2.mono b3.size), W3.below h.2 W3.lt⟩))
        clear b3 W3 CZ HKW
        unfold Nd.val at CD
        go_wp2_with fail
        refine CD.out.mono ?_
        rintro e w4 ⟨rfl, b4, W4⟩
        have HB4 := Lib.hid b4
        have HW4 := Lib.hid W4
        have hdk := Lib.hid (deepL_snoc HK.out)
        clear b4 W4 CD
        go_wp2_with fail
        all_goals
          go_roundw
          case rel =>
            have hd : SumsRel w n (some ⟨b, off, none⟩) c (.int .i64 (wrap64 (1 + sumW 100 (n.kids.take (p + 1))))) (.int .i64 (deepL (n.kids.take (p + 1)))) (.int .i64 ((p : Int) + 1)) w4 := ⟨p + 1, by omega, rfl, rfl, rfl, HB4.out, HW4.out⟩
            have hs : (1 : Int) + sumW 100 (n.kids.take (p + 1)) = (1 + sumW 100 (n.kids.take p)) + sizeN 100 k := by rw [sumW_snoc HK.out]; push_cast; rw [Int.add_assoc]
            rw [hs, ← wrap64_add] at hd
            have hdm := hdk.out
            have hif : (if deepL (n.kids.take p) < depthN 101 k then ((depthN 101 k : Nat) : Int) else ((deepL (n.kids.take p) : Nat) : Int)) = (deepL (n.kids.take (p + 1)) : Nat) := by
              rw [hdm]
              split <;> omega
            rw [hif]
            first | exact hd | ((repeat apply Exists.intro); exact ⟨hd, rfl⟩)
          case measure => simp [intOf]; omega
      · have et : n.kids.take p = n.kids := List.take_of_length_le (by omega)
        rw [et]
        obtain ⟨l1, l2⟩ := hlaw.out
        have e1 : (1 : Int) + (sumW 100 n.kids : Nat) = (sizeN 100 n : Nat) := by rw [l1]; simp [sumW]
        rw [e1]
        obtain ⟨D, hD⟩ : ∃ D, D = deepL n.kids := ⟨_, rfl⟩
        have l3 : depthN 101 n = D + 1 := by rw [hD]; exact l2
        rw [← hD]
        have hD2 : D ≤ 101 := by omega
        have CZ := Lib.hid ((size_any (f + 1) _ n wr (HV.out.below hb)).mono (R' := fun e w' => e = .returned (.int .i64 (wrap64 (sizeN 100 n))) ∧ Below w.heap.size w w' ∧ Whole w' w.heap.size 24 #[.int .i64 n.kind, .string n.text, .slice A n.kids.length c, .int .i64 n.place]) (fun e w' h =>
          ⟨h.1, hb.trans (h.2.mono hb.size), hw.below h.2 hw.lt⟩))
        have d0 : wr.cell? ⟨w.heap.size, 0, none⟩ = some (.int .i64 n.kind) := hw.cell 0
        have d1 : wr.cell? ⟨w.heap.size, 1, none⟩ = some (.string n.text) := hw.cell 1
        have d3 : wr.cell? ⟨w.heap.size, 3, none⟩ = some (.int .i64 n.place) := hw.cell 3
        clear hb hw et l1 l2 e1 hD hd hdd hdl
        have HL3 := Lib.hid l3
        clear l3
        go_wp2_with fail
        refine CZ.out.mono ?_
        rintro e w3 ⟨rfl, b3, W3⟩
        have CD := Lib.hid ((depth_any (f + 1) _ n w3 (HV.out.below b3)).mono (R' := fun e w' => e = .returned (.int .i64 ((D : Int) + 1)) ∧ Below w.heap.size w w') (fun e w' h => by
          rw [HL3.out] at h
          exact ⟨h.1, b3.trans (h.2.mono b3.size)⟩))
        have d0 : w3.cell? ⟨w.heap.size, 0, none⟩ = some (.int .i64 n.kind) := W3.cell 0
        have d1 : w3.cell? ⟨w.heap.size, 1, none⟩ = some (.string n.text) := W3.cell 1
        have d2 : w3.cell? ⟨w.heap.size, 2, none⟩ = some (.slice A n.kids.length c) := W3.cell 2
        have d3 : w3.cell? ⟨w.heap.size, 3, none⟩ = some (.int .i64 n.place) := W3.cell 3
        clear b3 W3 CZ
        go_wp2_with fail
        refine CD.out.mono ?_
        rintro e w4 ⟨rfl, b4⟩
        have HB4 := Lib.hid b4
        have CA := Lib.hid (awake_any w4)
        clear b4 CD d0 d1 d2 d3
        go_wp2_with fail
        refine CA.out.mono ?_
        rintro e w5 ⟨rfl, b5⟩
        go_wp2_with fail
        go_ret
        exact ⟨rfl, HB4.out.trans (b5.mono HB4.out.size)⟩
  · have hdd : decide ((90 : Int) < (depthN 101 n : Int)) = true := decide_eq_true (by omega)
    go_wp2_with fail
    refine HD.out.mono ?_
    rintro e w2 ⟨rfl, B2, W2⟩
    clear HD W2
    go_wp2_with fail
    go_ret
    exact ⟨rfl, B2⟩

end Go.Proofs.Ytkmhijkpbmcgbaa
