/-
  The questions' contracts: calls, indices, literals, functions.
-/
import Derived.Test.YtkmhijkpbmcgbaaAskE
namespace Go.Proofs.Ytkmhijkpbmcgbaa
set_option linter.all false
open Go.RowKit Go.Shelf

theorem LstAt.drop1 {w : World} {f : Nat} {l : List Nd} {b off : Nat} (h : LstAt w f l (some ⟨b, off, none⟩)) : LstAt w f (l.drop 1) (some ⟨b, off + 4, none⟩) := fun h0 => by
  obtain ⟨b', off', hA, hi⟩ := h (by simp at h0; omega)
  injection hA with hA
  injection hA with h1 h2
  subst h1 h2
  refine ⟨b, off + 4, rfl, fun i k hk => ?_⟩
  obtain ⟨A', c', q0, q1, q2, q3, q5⟩ := hi (i + 1) k (by rw [List.getElem?_drop] at hk; rw [Nat.add_comm]; exact hk)
  refine ⟨A', c', ?_, ?_, ?_, ?_, q5⟩
  · rw [show off + 4 + i * 4 = off + (i + 1) * 4 by omega]; exact q0
  · rw [show off + 4 + i * 4 + 1 = off + (i + 1) * 4 + 1 by omega]; exact q1
  · rw [show off + 4 + i * 4 + 2 = off + (i + 1) * 4 + 2 by omega]; exact q2
  · rw [show off + 4 + i * 4 + 3 = off + (i + 1) * 4 + 3 by omega]; exact q3

set_option maxRecDepth 100000 in
set_option maxHeartbeats 1000000 in
theorem expr21_any (g : Q → Nd → Bool) (F : Nat) (v : Value) (n : Nd) (W : World) (AS : SaysF W F 36 #[] (g .expr)) (hk : n.kind = 21) (hft : Fits n) (hv : NdV W (F + 1) v n) :
    Calls Try.prog 36 #[v] W fun e w' => e = .returned (.bool (n.text.toList == [] && (decide (0 < n.kids.length) && n.kids.all (g .expr)))) ∧ Below W.heap.size W w' := by
  obtain ⟨A, c, rfl, hm⟩ := hv.val
  have hb : Below W.heap.size W (W.alloc (.cells #[.int .i64 n.kind, .string n.text, .slice A n.kids.length c, .int .i64 n.place] 24)) := (Below.refl _ W).alloc (Nat.le_refl _) _
  have AL := Lib.hid (all_f F 36 #[] (g .expr) n.kids A c _ (AS.below hb) (hv.lst.below hb) (fun k hk => hft.kid hk) hm)
  have HB := Lib.hid hb
  have eg := AS.1
  clear hb hv AS hft
  unfold Nd.val
  generalize n.kids.all (g .expr) = r at AL ⊢
  have l1 : decide ((0 : Int) < (n.kids.length : Int)) = decide (0 < n.kids.length) := by simp only [decide_eq_decide]; omega
  have LL := Lib.hid l1
  clear l1
  rw [hk] at AL HB ⊢
  cases h2 : (n.text.toList == []) <;> cases h3 : decide (0 < n.kids.length) <;>
    (have h4 := LL.out
     rw [h3] at h4
     go_enter Try.func36, Try.ntmps36
     go_wp2_with fail)
  all_goals first
    | (go_ret; exact ⟨rfl, HB.out⟩)
    | (refine AL.out.mono ?_
       rintro e w2 ⟨rfl, b2⟩
       have HB2 := Lib.hid (HB.out.trans (b2.mono HB.out.size))
       clear b2
       go_wp2_with fail
       go_ret
       exact ⟨rfl, HB2.out⟩)

set_option maxRecDepth 100000 in
set_option maxHeartbeats 1000000 in
theorem expro_any (g : Q → Nd → Bool) (F : Nat) (v : Value) (n : Nd) (W : World) (SI : SaysF W F 38 #[] (isSigB g)) (BL : SaysF W F 45 #[] (blockB g)) (h16 : n.kind ≠ 16) (h17 : n.kind ≠ 17) (h18 : n.kind ≠ 18) (h19 : n.kind ≠ 19) (h20 : n.kind ≠ 20) (h21 : n.kind ≠ 21) (h22 : n.kind ≠ 22) (h23 : n.kind ≠ 23) (h24 : n.kind ≠ 24) (hft : Fits n) (hv : NdV W (F + 1) v n) :
    Calls Try.prog 36 #[v] W fun e w' => e = .returned (.bool (ofN n 25 [isSigB g, blockB g])) ∧ Below W.heap.size W w' := by
  obtain ⟨A, c, rfl, hm⟩ := hv.val
  have hmf : ∀ fn first cap w, (Instr.makeFunc fn first cap).run Try.prog w = .ok (.func fn first cap) w := fun _ _ _ _ => rfl
  have hb : Below W.heap.size W (W.alloc (.cells #[.int .i64 n.kind, .string n.text, .slice A n.kids.length c, .int .i64 n.place] 24)) := (Below.refl _ W).alloc (Nat.le_refl _) _
  have HB0 := Lib.hid hb
  have SI := Lib.hid SI
  have BL := Lib.hid BL
  have b2 := hb.alloc (by simp) (.cells #[.func (.func 38) #[] #[], .func (.func 45) #[] #[]] 30)
  have HBX := Lib.hid b2
  have OF := Lib.hid (of_f F _ n 25 [(38, #[]), (45, #[])] [(isSigB g), (blockB g)] _ (hv.below b2) hft (by simp) (W.heap.size + 1) 30 (fun _ => by have := Whole.new (W.alloc (.cells #[.int .i64 n.kind, .string n.text, .slice A n.kids.length c, .int .i64 n.place] 24)) 30 #[.func (.func 38) #[] #[], .func (.func 45) #[] #[]]; rw [World.size_alloc] at this; exact this) (some ⟨W.heap.size + 1, 0, none⟩) (fun _ => rfl) 2 ⟨SI.out.below b2, BL.out.below b2, trivial⟩)
  clear b2
  simp only [List.length_cons, List.length_nil, Nat.zero_add, List.map_cons, List.map_nil, fnVal] at OF
  clear hb hv hft HB0
  unfold Nd.val at OF ⊢
  have d16 : decide (n.kind = 16) = false := decide_eq_false h16
  have e16 : (n.kind == 16) = false := by simpa using h16
  have d17 : decide (n.kind = 17) = false := decide_eq_false h17
  have e17 : (n.kind == 17) = false := by simpa using h17
  have d18 : decide (n.kind = 18) = false := decide_eq_false h18
  have e18 : (n.kind == 18) = false := by simpa using h18
  have d19 : decide (n.kind = 19) = false := decide_eq_false h19
  have e19 : (n.kind == 19) = false := by simpa using h19
  have d20 : decide (n.kind = 20) = false := decide_eq_false h20
  have e20 : (n.kind == 20) = false := by simpa using h20
  have d21 : decide (n.kind = 21) = false := decide_eq_false h21
  have e21 : (n.kind == 21) = false := by simpa using h21
  have d22 : decide (n.kind = 22) = false := decide_eq_false h22
  have e22 : (n.kind == 22) = false := by simpa using h22
  have d23 : decide (n.kind = 23) = false := decide_eq_false h23
  have e23 : (n.kind == 23) = false := by simpa using h23
  have d24 : decide (n.kind = 24) = false := decide_eq_false h24
  have e24 : (n.kind == 24) = false := by simpa using h24
  go_enter Try.func36, Try.ntmps36
  go_wp2_with fail
  refine OF.out.mono ?_
  rintro e wl ⟨rfl, bl⟩
  have HBL := Lib.hid (HBX.out.trans (bl.mono HBX.out.size))
  clear bl OF
  go_wp2_with fail
  go_ret
  exact ⟨rfl, HBL.out⟩

set_option maxRecDepth 100000 in
set_option maxHeartbeats 1000000 in
theorem expr22_any (g : Q → Nd → Bool) (F : Nat) (v : Value) (n : Nd) (W : World) (E : SaysF W F 36 #[] (g .expr)) (P : SaysF W F 56 #[] (partB g)) (hk : n.kind = 22) (hft : Fits n) (hv : NdV W (F + 1) v n) :
    Calls Try.prog 36 #[v] W fun e w' => e = .returned (.bool (n.text.toList == [] && (decide (1 < n.kids.length) && ((n.kids.take 1).all (g .expr) && (n.kids.drop 1).all (partB g))))) ∧ Below W.heap.size W w' := by
  obtain ⟨A, c, rfl, hm⟩ := hv.val
  have hb : Below W.heap.size W (W.alloc (.cells #[.int .i64 n.kind, .string n.text, .slice A n.kids.length c, .int .i64 n.place] 24)) := (Below.refl _ W).alloc (Nat.le_refl _) _
  have HB := Lib.hid hb
  have LK := Lib.hid fun w' (h : Below W.heap.size W w') => hv.lst.below h
  have hcap := hv.cap
  have KW := Lib.hid (Whole.new W 24 #[.int .i64 n.kind, .string n.text, .slice A n.kids.length c, .int .i64 n.place])
  have HE := Lib.hid E
  have HP := Lib.hid P
  have HF := Lib.hid fun k hk => hft.kid (k := k) hk
  have e36 := E.1
  have e56 := P.1
  clear hb hv E P hft
  unfold Nd.val
  rw [hk] at HB KW ⊢
  have l1 : decide ((1 : Int) < (n.kids.length : Int)) = decide (1 < n.kids.length) := by simp only [decide_eq_decide]; omega
  have LL := Lib.hid l1
  clear l1
  cases h2 : (n.text.toList == []) with
  | false =>
    go_enter Try.func36, Try.ntmps36
    go_wp2_with fail
    go_ret
    exact ⟨rfl, HB.out⟩
  | true =>
  by_cases hl : 1 < n.kids.length
  · have h3 : decide (1 < n.kids.length) = true := decide_eq_true hl
    have h4 := LL.out
    rw [h3] at h4
    have hl0 : 0 < n.kids.length := by omega
    obtain ⟨b, off, k, A', c', rfl, hk0, hbl, q0, q1, q2, q3, q5⟩ := (LK.out _ HB.out).kid (p := 0) hl0
    have EL := Lib.hid (HE.out.2 _ _ k HB.out (HF.out k (List.mem_of_getElem? hk0)) q5)
    have et : (n.kids.take 1).all (g .expr) = g .expr k := by
      cases hL : n.kids with
      | nil => rw [hL] at hl0; simp at hl0
      | cons x l =>
        rw [hL] at hk0
        have e1 : x = k := by simpa using hk0
        simp [e1]
    rw [et, h3]
    simp only [Nat.zero_mul, Nat.add_zero] at q0 q1 q2 q3
    generalize g .expr k = r at EL ⊢
    clear et hk0 q5
    unfold Nd.val at EL
    go_enter Try.func36, Try.ntmps36
    go_wp2_with fail
    refine EL.out.mono ?_
    rintro e w2 ⟨rfl, b2⟩
    have HB2 := Lib.hid (HB.out.trans (b2.mono HB.out.size))
    have KW := Lib.hid (KW.out.below b2 KW.out.lt)
    clear b2 EL HB q0 q1 q2 q3
    cases r with
    | false =>
      go_wp2_with fail
      go_ret
      exact ⟨rfl, HB2.out⟩
    | true =>
      have hd : (n.kids.drop 1).length = n.kids.length - 1 := by simp
      have y0 : w2.cell? ⟨W.heap.size, 0, none⟩ = some (.int .i64 22) := KW.out.cell 0
      have y1 : w2.cell? ⟨W.heap.size, 1, none⟩ = some (.string n.text) := KW.out.cell 1
      have y2 : w2.cell? ⟨W.heap.size, 2, none⟩ = some (.slice (some ⟨b, off, none⟩) n.kids.length c) := KW.out.cell 2
      have y3 : w2.cell? ⟨W.heap.size, 3, none⟩ = some (.int .i64 n.place) := KW.out.cell 3
      have hc1 : ¬ c = 1 := by omega
      have AL := Lib.hid (all_f F 56 #[] (partB g) (n.kids.drop 1) (some ⟨b, off + 4, none⟩) (c - 1) w2 (HP.out.below HB2.out) (LK.out w2 HB2.out).drop1 (fun k hk => HF.out k (List.mem_of_mem_drop hk)) (by rw [hd]; omega))
      rw [hd] at AL
      have hs1 : (1 : Int) ≤ (n.kids.length : Int) := by omega
      obtain ⟨r, hr⟩ : ∃ r, r = (n.kids.drop 1).all (partB g) := ⟨_, rfl⟩
      rw [← hr] at AL
      have HR := Lib.hid hr
      clear hr
      clear hd
      go_wp2_with fail
      refine AL.out.mono ?_
      rintro e w3 ⟨rfl, b3⟩
      have HB3 := Lib.hid (HB2.out.trans (b3.mono HB2.out.size))
      clear b3 AL
      go_wp2_with fail
      go_ret
      exact ⟨by rw [← HR.out]; rfl, HB3.out⟩
  · have h3 : decide (1 < n.kids.length) = false := decide_eq_false hl
    have h4 := LL.out
    rw [h3] at h4
    rw [h3]
    go_enter Try.func36, Try.ntmps36
    go_wp2_with fail
    go_ret
    exact ⟨rfl, HB.out⟩

set_option maxRecDepth 100000 in
set_option maxHeartbeats 1000000 in
theorem expr24_any (g : Q → Nd → Bool) (F : Nat) (v : Value) (n : Nd) (W : World) (E : SaysF W F 35 #[] (g .typ)) (P : SaysF W F 36 #[] (g .expr)) (hk : n.kind = 24) (hft : Fits n) (hv : NdV W (F + 1) v n) :
    Calls Try.prog 36 #[v] W fun e w' => e = .returned (.bool (n.text.toList == [] && (decide (0 < n.kids.length) && ((n.kids.take 1).all (fun k => !(k.kind == 12) && g .typ k) && (n.kids.drop 1).all (g .expr))))) ∧ Below W.heap.size W w' := by
  obtain ⟨A, c, rfl, hm⟩ := hv.val
  have hb : Below W.heap.size W (W.alloc (.cells #[.int .i64 n.kind, .string n.text, .slice A n.kids.length c, .int .i64 n.place] 24)) := (Below.refl _ W).alloc (Nat.le_refl _) _
  have HB := Lib.hid hb
  have LK := Lib.hid fun w' (h : Below W.heap.size W w') => hv.lst.below h
  have hcap := hv.cap
  have KW := Lib.hid (Whole.new W 24 #[.int .i64 n.kind, .string n.text, .slice A n.kids.length c, .int .i64 n.place])
  have HE := Lib.hid E
  have HP := Lib.hid P
  have HF := Lib.hid fun k hk => hft.kid (k := k) hk
  have e35 := E.1
  have e36 := P.1
  clear hb hv E P hft
  unfold Nd.val
  rw [hk] at HB KW ⊢
  have l1 : decide ((0 : Int) < (n.kids.length : Int)) = decide (0 < n.kids.length) := by simp only [decide_eq_decide]; omega
  have LL := Lib.hid l1
  clear l1
  cases h2 : (n.text.toList == []) with
  | false =>
    go_enter Try.func36, Try.ntmps36
    go_wp2_with fail
    go_ret
    exact ⟨rfl, HB.out⟩
  | true =>
  by_cases hl : 0 < n.kids.length
  · have h3 : decide (0 < n.kids.length) = true := decide_eq_true hl
    have h4 := LL.out
    rw [h3] at h4
    have hl0 : 0 < n.kids.length := by omega
    obtain ⟨b, off, k, A', c', rfl, hk0, hbl, q0, q1, q2, q3, q5⟩ := (LK.out _ HB.out).kid (p := 0) hl0
    have EL := Lib.hid (HE.out.2 _ _ k HB.out (HF.out k (List.mem_of_getElem? hk0)) q5)
    have et : (n.kids.take 1).all (fun k => !(k.kind == 12) && g .typ k) = (!(k.kind == 12) && g .typ k) := by
      cases hL : n.kids with
      | nil => rw [hL] at hl0; simp at hl0
      | cons x l =>
        rw [hL] at hk0
        have e1 : x = k := by simpa using hk0
        simp [e1]
    rw [et, h3]
    simp only [Nat.zero_mul, Nat.add_zero] at q0 q1 q2 q3
    generalize g .typ k = r at EL ⊢
    clear et hk0 q5
    unfold Nd.val at EL
    cases hkk : (k.kind == 12) with
    | true =>
      have hk2 : (k.kind != 12) = false := by simp only [bne, hkk]; rfl
      go_enter Try.func36, Try.ntmps36
      go_wp2_with fail
      go_ret
      exact ⟨rfl, HB.out⟩
    | false =>
    have hk2 : (k.kind != 12) = true := by simp only [bne, hkk]; rfl
    go_enter Try.func36, Try.ntmps36
    go_wp2_with fail
    refine EL.out.mono ?_
    rintro e w2 ⟨rfl, b2⟩
    have HB2 := Lib.hid (HB.out.trans (b2.mono HB.out.size))
    have KW := Lib.hid (KW.out.below b2 KW.out.lt)
    clear b2 EL HB q0 q1 q2 q3
    cases r with
    | false =>
      go_wp2_with fail
      go_ret
      exact ⟨rfl, HB2.out⟩
    | true =>
      have hd : (n.kids.drop 1).length = n.kids.length - 1 := by simp
      have y0 : w2.cell? ⟨W.heap.size, 0, none⟩ = some (.int .i64 24) := KW.out.cell 0
      have y1 : w2.cell? ⟨W.heap.size, 1, none⟩ = some (.string n.text) := KW.out.cell 1
      have y2 : w2.cell? ⟨W.heap.size, 2, none⟩ = some (.slice (some ⟨b, off, none⟩) n.kids.length c) := KW.out.cell 2
      have y3 : w2.cell? ⟨W.heap.size, 3, none⟩ = some (.int .i64 n.place) := KW.out.cell 3
      by_cases hc1 : c = 1
      · have hnil : n.kids.drop 1 = [] := List.drop_of_length_le (by omega)
        have hd0 : n.kids.length - 1 = 0 := by omega
        have AL := Lib.hid (all_f F 36 #[] (g .expr) [] (some ⟨b, off, none⟩) 0 w2 (HP.out.below HB2.out) (fun h => absurd h (by simp)) (fun k hk => by simp at hk) (by simp))
        have hs1 : (1 : Int) ≤ (n.kids.length : Int) := by omega
        have HN := Lib.hid hnil
        rw [List.length_nil] at AL
        clear hd hnil
        go_wp2_with fail
        first | rw [hd0] | skip
        refine AL.out.mono ?_
        rintro e w3 ⟨rfl, b3⟩
        have HB3 := Lib.hid (HB2.out.trans (b3.mono HB2.out.size))
        clear b3 AL
        go_wp2_with fail
        go_ret
        exact ⟨by rw [HN.out]; rfl, HB3.out⟩
      have AL := Lib.hid (all_f F 36 #[] (g .expr) (n.kids.drop 1) (some ⟨b, off + 4, none⟩) (c - 1) w2 (HP.out.below HB2.out) (LK.out w2 HB2.out).drop1 (fun k hk => HF.out k (List.mem_of_mem_drop hk)) (by rw [hd]; omega))
      rw [hd] at AL
      have hs1 : (1 : Int) ≤ (n.kids.length : Int) := by omega
      obtain ⟨r, hr⟩ : ∃ r, r = (n.kids.drop 1).all (g .expr) := ⟨_, rfl⟩
      rw [← hr] at AL
      have HR := Lib.hid hr
      clear hr
      clear hd
      go_wp2_with fail
      refine AL.out.mono ?_
      rintro e w3 ⟨rfl, b3⟩
      have HB3 := Lib.hid (HB2.out.trans (b3.mono HB2.out.size))
      clear b3 AL
      go_wp2_with fail
      go_ret
      exact ⟨by rw [← HR.out]; rfl, HB3.out⟩
  · have h3 : decide (0 < n.kids.length) = false := decide_eq_false hl
    have h4 := LL.out
    rw [h3] at h4
    rw [h3]
    go_enter Try.func36, Try.ntmps36
    go_wp2_with fail
    go_ret
    exact ⟨rfl, HB.out⟩

end Go.Proofs.Ytkmhijkpbmcgbaa
