/-
  The reference's variables.
-/
import Derived.Test.YtkmhijkpbmcgbaaGreatRefSig
namespace Go.Proofs.YtkmhijkpbmcgbaaGreat
set_option linter.all false
open Go.RowKit Go.Shelf

theorem wp_via {P : Program} {Q : Exit → Act → World → Prop} {c : Code} {a : Act} {w : World} (R : Act → Exit → Act → World → Prop) (h : c.wp P (R a) a w) (hq : ∀ e b W, R a e b W → Q e b W) : c.wp P Q a w := Code.wp_mono hq h

set_option maxRecDepth 100000 in
set_option maxHeartbeats 8000000 in
theorem rvar_any (g : Q → Nd → Bool) (F : Nat) (v : Value) (n : Nd) (w : World) (T : SaysF w F 19 #[] (g .typ)) (E : SaysF w F 20 #[] (g .expr)) (hft : Fits n) (hv : NdV w (F + 1) v n) :
    Calls Tryz.prog 37 #[v] w fun e w' => e = .returned (.bool (varB g n)) ∧ Below w.heap.size w w' := by
  obtain ⟨A, c, rfl, hm⟩ := hv.val
  have hb : Below w.heap.size w (w.alloc (.cells (cellsOf n A c) 24)) := (Below.refl _ w).alloc (Nat.le_refl _) _
  have hw := Whole.new w 24 (cellsOf n A c)
  have LK := Lib.hid hv.lst
  have HS := Lib.hid T
  have HX := Lib.hid E
  have HF := Lib.hid fun k hk => hft.kid (k := k) hk
  have BX := Lib.hid fun W (h : Below (w.alloc (.cells (cellsOf n A c) 24)).heap.size (w.alloc (.cells (cellsOf n A c) 24)) W) => box_cells hw h
  have HB := Lib.hid hb
  clear T E hft hv hb hw
  unfold varB
  rw [named_eq (by omega)]
  unfold Nd.val
  obtain ⟨W1, hW1⟩ : ∃ W1, W1 = w.alloc (.cells (cellsOf n A c) 24) := ⟨_, rfl⟩
  rw [← hW1] at BX HB
  have hW2 : w.alloc (.cells #[.int .i64 n.kind, .string n.text, .slice A n.kids.length c, .int .i64 n.place] 24) = W1 := hW1.symm
  have HW := Lib.hid hW2
  clear hW1 hW2
  have NQ := Lib.hid fun w => rname_any n.text w
  cases h1 : (n.kind == 5)
  case false =>
    have h1n : (n.kind != 5) = true := by simp only [bne, h1]; rfl
    go_enter Tryz.func37, Tryz.ntmps37
    go_wp2_with fail
    go_ret
    exact ⟨by simp, by rw [HW.out]; exact HB.out⟩
  case true =>
  have h1n : (n.kind != 5) = false := by simp only [bne, h1]; rfl
  cases en : nameB n.text
  case false =>
    rw [en] at NQ
    go_enter Tryz.func37, Tryz.ntmps37
    go_wp2_with fail
    rw [HW.out]
    refine (NQ.out _).mono ?_
    rintro e W2 ⟨rfl, b2⟩
    have B2 := Lib.hid (HB.out.trans (b2.mono HB.out.size))
    clear b2
    go_wp2_with fail
    go_ret
    exact ⟨by simp, B2.out⟩
  case true =>
  rw [en] at NQ
  by_cases hl : n.kids.length = 2
  case neg =>
    have a0 : (n.kids.length == [fun k => emptyB k || g .typ k, fun k => emptyB k || g .expr k].length) = false := by
      simp only [List.length_cons, List.length_nil]
      simpa using hl
    have a1 : ((n.kids.length : Int) == 2) = false := by rw [beq_eq_false_iff_ne]; omega
    have a2 : ((n.kids.length : Int) != 2) = true := by simp only [bne, a1]; rfl
    rw [a0]
    clear a0
    go_enter Tryz.func37, Tryz.ntmps37
    go_wp2_with fail
    rw [HW.out]
    refine (NQ.out _).mono ?_
    rintro e W2 ⟨rfl, b2⟩
    have B2 := Lib.hid (HB.out.trans (b2.mono HB.out.size))
    obtain ⟨x0, x1, x2, x3, x4⟩ := BX.out _ b2
    clear b2
    go_wp2_with fail
    go_ret
    exact ⟨by simp, B2.out⟩
  case pos =>
  obtain ⟨b, off, k0, A0, c0, hA, hk0, hq0⟩ := LK.out.kidP (p := 0) (by omega)
  obtain ⟨b', off', k1, A1, c1, hA1, hk1, hq1⟩ := LK.out.kidP (p := 1) (by omega)
  rw [hA] at hA1
  injection hA1 with hA1
  injection hA1 with e1 e2
  subst e1 e2 hA
  have hE : ((true && (true && (n.kids.length == [fun k => emptyB k || g .typ k, fun k => emptyB k || g .expr k].length && (n.kids.zip [fun k => emptyB k || g .typ k, fun k => emptyB k || g .expr k]).all (fun x => x.2 x.1)))) && !((n.kids.take 2).all emptyB)) = ((emptyB k0 || g .typ k0) && (emptyB k1 || g .expr k1) && (!emptyB k0 || !emptyB k1)) := by
    rw [kids2 hl hk0 hk1]
    simp
  have f0 := HF.out k0 (List.mem_of_getElem? hk0)
  have f1 := HF.out k1 (List.mem_of_getElem? hk1)
  simp only [Nat.zero_mul, Nat.add_zero, Nat.one_mul] at hq0 hq1
  have Q0 := Lib.hid hq0
  have Q1 := Lib.hid hq1
  have NO0 := Lib.hid fun W h => nothing_any F _ k0 W ((hq0 W h).2.2.2.2.2)
  have NO1 := Lib.hid fun W h => nothing_any F _ k1 W ((hq1 W h).2.2.2.2.2)
  have TY := Lib.hid fun W h => HS.out.2 W _ k0 h f0 ((hq0 W h).2.2.2.2.2)
  have EX := Lib.hid fun W h => HX.out.2 W _ k1 h f1 ((hq1 W h).2.2.2.2.2)
  unfold Nd.val at NO0 NO1 TY EX
  rw [hE]
  rw [hl] at BX HW ⊢
  have l0 : (0 : Nat) < 2 := by omega
  have l1 : (1 : Nat) < 2 := by omega
  clear hE f0 f1 hq0 hq1 hk0 hk1 hl LK HF
  generalize emptyB k0 = r0 at NO0 ⊢
  generalize emptyB k1 = r1 at NO1 ⊢
  generalize g .typ k0 = r2 at TY ⊢
  generalize g .expr k1 = r3 at EX ⊢
  go_enter Tryz.func37, Tryz.ntmps37
  go_wp2_with fail
  rw [HW.out]
  refine (NQ.out _).mono ?_
  rintro e W2 ⟨rfl, b2⟩
  have B2 := Lib.hid (HB.out.trans (b2.mono HB.out.size))
  have B1 := Lib.hid b2
  obtain ⟨x0, x1, x2, x3, x4⟩ := BX.out _ b2
  obtain ⟨hbl, q00, q01, q02, q03, _⟩ := Q0.out _ B2.out
  obtain ⟨_, q10, q11, q12, q13, _⟩ := Q1.out _ B2.out
  clear b2
  go_wp2_with fail
  have kp : ∀ w', Below W2.heap.size W2 w' → w'.cell? ⟨w.heap.size, 2, none⟩ = some (.slice (some ⟨b, off, none⟩) 2 c) ∧ w'.cell? ⟨b, off, none⟩ = some (.int .i64 k0.kind) ∧ w'.cell? ⟨b, off + 1, none⟩ = some (.string k0.text) ∧ w'.cell? ⟨b, off + 2, none⟩ = some (.slice A0 k0.kids.length c0) ∧ w'.cell? ⟨b, off + 3, none⟩ = some (.int .i64 k0.place) ∧ w'.cell? ⟨b, off + 4, none⟩ = some (.int .i64 k1.kind) ∧ w'.cell? ⟨b, off + 4 + 1, none⟩ = some (.string k1.text) ∧ w'.cell? ⟨b, off + 4 + 2, none⟩ = some (.slice A1 k1.kids.length c1) ∧ w'.cell? ⟨b, off + 4 + 3, none⟩ = some (.int .i64 k1.place) := fun w' hW => by
    obtain ⟨_, _, y2, _, _⟩ := BX.out _ (B1.out.trans (hW.mono B1.out.size))
    obtain ⟨_, p0, p1, p2, p3, _⟩ := Q0.out _ (B2.out.trans (hW.mono B2.out.size))
    obtain ⟨_, r0, r1, r2, r3, _⟩ := Q1.out _ (B2.out.trans (hW.mono B2.out.size))
    exact ⟨y2, p0, p1, p2, p3, r0, r1, r2, r3⟩
  have KP := Lib.hid kp
  clear kp
  refine wp_via (fun a e a' W => e = Exit.normal ∧ ∃ Bt Bx, a' = ((((((((((a.put (some 20) (.pointer (some ⟨w.heap.size, 2, none⟩))).put (some 21) (.slice (some ⟨b, off, none⟩) 2 c)).put (some 22) (.pointer (some ⟨b, off, none⟩))).put (some 23) (.agg #[.int .i64 k0.kind, .string k0.text, .slice A0 k0.kids.length c0, .int .i64 k0.place])).put (some 24) (.pointer (some ⟨w.heap.size, 2, none⟩))).put (some 25) (.slice (some ⟨b, off, none⟩) 2 c)).put (some 26) (.pointer (some ⟨b, off + 4, none⟩))).put (some 27) (.agg #[.int .i64 k1.kind, .string k1.text, .slice A1 k1.kids.length c1, .int .i64 k1.place])).put (some 3) (.pointer (some ⟨Bt, 0, none⟩))).put (some 4) (.pointer (some ⟨Bx, 0, none⟩))) ∧ Below w.heap.size w W ∧ Whole W Bt 24 #[.int .i64 k0.kind, .string k0.text, .slice A0 k0.kids.length c0, .int .i64 k0.place] ∧ Whole W Bx 24 #[.int .i64 k1.kind, .string k1.text, .slice A1 k1.kids.length c1, .int .i64 k1.place]) ?_ ?_
  rotate_left
  · rintro e a3 W3 ⟨rfl, Bt, Bx, rfl, b3, wt, wx⟩
    try simp only [Act.put, List.setIfInBounds_toArray, List.set_cons_zero, List.set_cons_succ]
    clear x0 x1 x2 x3 x4 hbl q00 q01 q02 q03 q10 q11 q12 q13 KP B2 NQ
    have HH := Lib.hid (show Below w.heap.size w W3 ∧ Whole W3 Bt 24 #[.int .i64 k0.kind, .string k0.text, .slice A0 k0.kids.length c0, .int .i64 k0.place] ∧ Whole W3 Bx 24 #[.int .i64 k1.kind, .string k1.text, .slice A1 k1.kids.length c1, .int .i64 k1.place] from ⟨b3, wt, wx⟩)
    have t0 : W3.cell? ⟨Bt, 0, none⟩ = some (.int .i64 k0.kind) := (HH.out.2.1).cell 0
    have t1 : W3.cell? ⟨Bt, 1, none⟩ = some (.string k0.text) := (HH.out.2.1).cell 1
    have t2 : W3.cell? ⟨Bt, 2, none⟩ = some (.slice A0 k0.kids.length c0) := (HH.out.2.1).cell 2
    have t3 : W3.cell? ⟨Bt, 3, none⟩ = some (.int .i64 k0.place) := (HH.out.2.1).cell 3
    have u0 : W3.cell? ⟨Bx, 0, none⟩ = some (.int .i64 k1.kind) := (HH.out.2.2).cell 0
    have u1 : W3.cell? ⟨Bx, 1, none⟩ = some (.string k1.text) := (HH.out.2.2).cell 1
    have u2 : W3.cell? ⟨Bx, 2, none⟩ = some (.slice A1 k1.kids.length c1) := (HH.out.2.2).cell 2
    have u3 : W3.cell? ⟨Bx, 3, none⟩ = some (.int .i64 k1.place) := (HH.out.2.2).cell 3
    clear b3 wt wx Q0 Q1 BX HW HB HS HX
    cases r0
    case true =>
      cases r1
      case true =>
        go_wp2_with fail
        refine (NO0.out _ HH.out.1).mono ?_
        rintro e W4 ⟨rfl, b4⟩
        have HH := Lib.hid (show Below w.heap.size w W4 ∧ Whole W4 Bt 24 #[.int .i64 k0.kind, .string k0.text, .slice A0 k0.kids.length c0, .int .i64 k0.place] ∧ Whole W4 Bx 24 #[.int .i64 k1.kind, .string k1.text, .slice A1 k1.kids.length c1, .int .i64 k1.place] from ⟨HH.out.1.trans (b4.mono HH.out.1.size), HH.out.2.1.below b4 HH.out.2.1.lt, HH.out.2.2.below b4 HH.out.2.2.lt⟩)
        clear t0 t1 t2 t3 u0 u1 u2 u3 b4
        have t0 : W4.cell? ⟨Bt, 0, none⟩ = some (.int .i64 k0.kind) := (HH.out.2.1).cell 0
        have t1 : W4.cell? ⟨Bt, 1, none⟩ = some (.string k0.text) := (HH.out.2.1).cell 1
        have t2 : W4.cell? ⟨Bt, 2, none⟩ = some (.slice A0 k0.kids.length c0) := (HH.out.2.1).cell 2
        have t3 : W4.cell? ⟨Bt, 3, none⟩ = some (.int .i64 k0.place) := (HH.out.2.1).cell 3
        have u0 : W4.cell? ⟨Bx, 0, none⟩ = some (.int .i64 k1.kind) := (HH.out.2.2).cell 0
        have u1 : W4.cell? ⟨Bx, 1, none⟩ = some (.string k1.text) := (HH.out.2.2).cell 1
        have u2 : W4.cell? ⟨Bx, 2, none⟩ = some (.slice A1 k1.kids.length c1) := (HH.out.2.2).cell 2
        have u3 : W4.cell? ⟨Bx, 3, none⟩ = some (.int .i64 k1.place) := (HH.out.2.2).cell 3
        go_wp2_with fail
        refine (NO1.out _ HH.out.1).mono ?_
        rintro e W5 ⟨rfl, b4⟩
        have HH := Lib.hid (show Below w.heap.size w W5 ∧ Whole W5 Bt 24 #[.int .i64 k0.kind, .string k0.text, .slice A0 k0.kids.length c0, .int .i64 k0.place] ∧ Whole W5 Bx 24 #[.int .i64 k1.kind, .string k1.text, .slice A1 k1.kids.length c1, .int .i64 k1.place] from ⟨HH.out.1.trans (b4.mono HH.out.1.size), HH.out.2.1.below b4 HH.out.2.1.lt, HH.out.2.2.below b4 HH.out.2.2.lt⟩)
        clear t0 t1 t2 t3 u0 u1 u2 u3 b4
        have t0 : W5.cell? ⟨Bt, 0, none⟩ = some (.int .i64 k0.kind) := (HH.out.2.1).cell 0
        have t1 : W5.cell? ⟨Bt, 1, none⟩ = some (.string k0.text) := (HH.out.2.1).cell 1
        have t2 : W5.cell? ⟨Bt, 2, none⟩ = some (.slice A0 k0.kids.length c0) := (HH.out.2.1).cell 2
        have t3 : W5.cell? ⟨Bt, 3, none⟩ = some (.int .i64 k0.place) := (HH.out.2.1).cell 3
        have u0 : W5.cell? ⟨Bx, 0, none⟩ = some (.int .i64 k1.kind) := (HH.out.2.2).cell 0
        have u1 : W5.cell? ⟨Bx, 1, none⟩ = some (.string k1.text) := (HH.out.2.2).cell 1
        have u2 : W5.cell? ⟨Bx, 2, none⟩ = some (.slice A1 k1.kids.length c1) := (HH.out.2.2).cell 2
        have u3 : W5.cell? ⟨Bx, 3, none⟩ = some (.int .i64 k1.place) := (HH.out.2.2).cell 3
        go_wp2_with fail
        refine (NO0.out _ HH.out.1).mono ?_
        rintro e W6 ⟨rfl, b4⟩
        have HH := Lib.hid (show Below w.heap.size w W6 ∧ Whole W6 Bt 24 #[.int .i64 k0.kind, .string k0.text, .slice A0 k0.kids.length c0, .int .i64 k0.place] ∧ Whole W6 Bx 24 #[.int .i64 k1.kind, .string k1.text, .slice A1 k1.kids.length c1, .int .i64 k1.place] from ⟨HH.out.1.trans (b4.mono HH.out.1.size), HH.out.2.1.below b4 HH.out.2.1.lt, HH.out.2.2.below b4 HH.out.2.2.lt⟩)
        clear t0 t1 t2 t3 u0 u1 u2 u3 b4
        have t0 : W6.cell? ⟨Bt, 0, none⟩ = some (.int .i64 k0.kind) := (HH.out.2.1).cell 0
        have t1 : W6.cell? ⟨Bt, 1, none⟩ = some (.string k0.text) := (HH.out.2.1).cell 1
        have t2 : W6.cell? ⟨Bt, 2, none⟩ = some (.slice A0 k0.kids.length c0) := (HH.out.2.1).cell 2
        have t3 : W6.cell? ⟨Bt, 3, none⟩ = some (.int .i64 k0.place) := (HH.out.2.1).cell 3
        have u0 : W6.cell? ⟨Bx, 0, none⟩ = some (.int .i64 k1.kind) := (HH.out.2.2).cell 0
        have u1 : W6.cell? ⟨Bx, 1, none⟩ = some (.string k1.text) := (HH.out.2.2).cell 1
        have u2 : W6.cell? ⟨Bx, 2, none⟩ = some (.slice A1 k1.kids.length c1) := (HH.out.2.2).cell 2
        have u3 : W6.cell? ⟨Bx, 3, none⟩ = some (.int .i64 k1.place) := (HH.out.2.2).cell 3
        go_wp2_with fail
        refine (NO1.out _ HH.out.1).mono ?_
        rintro e W7 ⟨rfl, b4⟩
        have HH := Lib.hid (show Below w.heap.size w W7 ∧ Whole W7 Bt 24 #[.int .i64 k0.kind, .string k0.text, .slice A0 k0.kids.length c0, .int .i64 k0.place] ∧ Whole W7 Bx 24 #[.int .i64 k1.kind, .string k1.text, .slice A1 k1.kids.length c1, .int .i64 k1.place] from ⟨HH.out.1.trans (b4.mono HH.out.1.size), HH.out.2.1.below b4 HH.out.2.1.lt, HH.out.2.2.below b4 HH.out.2.2.lt⟩)
        clear t0 t1 t2 t3 u0 u1 u2 u3 b4
        have t0 : W7.cell? ⟨Bt, 0, none⟩ = some (.int .i64 k0.kind) := (HH.out.2.1).cell 0
        have t1 : W7.cell? ⟨Bt, 1, none⟩ = some (.string k0.text) := (HH.out.2.1).cell 1
        have t2 : W7.cell? ⟨Bt, 2, none⟩ = some (.slice A0 k0.kids.length c0) := (HH.out.2.1).cell 2
        have t3 : W7.cell? ⟨Bt, 3, none⟩ = some (.int .i64 k0.place) := (HH.out.2.1).cell 3
        have u0 : W7.cell? ⟨Bx, 0, none⟩ = some (.int .i64 k1.kind) := (HH.out.2.2).cell 0
        have u1 : W7.cell? ⟨Bx, 1, none⟩ = some (.string k1.text) := (HH.out.2.2).cell 1
        have u2 : W7.cell? ⟨Bx, 2, none⟩ = some (.slice A1 k1.kids.length c1) := (HH.out.2.2).cell 2
        have u3 : W7.cell? ⟨Bx, 3, none⟩ = some (.int .i64 k1.place) := (HH.out.2.2).cell 3
        go_wp2_with fail
        go_ret
        exact ⟨rfl, HH.out.1⟩
      case false =>
        cases r3
        case true =>
          go_wp2_with fail
          refine (NO0.out _ HH.out.1).mono ?_
          rintro e W8 ⟨rfl, b4⟩
          have HH := Lib.hid (show Below w.heap.size w W8 ∧ Whole W8 Bt 24 #[.int .i64 k0.kind, .string k0.text, .slice A0 k0.kids.length c0, .int .i64 k0.place] ∧ Whole W8 Bx 24 #[.int .i64 k1.kind, .string k1.text, .slice A1 k1.kids.length c1, .int .i64 k1.place] from ⟨HH.out.1.trans (b4.mono HH.out.1.size), HH.out.2.1.below b4 HH.out.2.1.lt, HH.out.2.2.below b4 HH.out.2.2.lt⟩)
          clear t0 t1 t2 t3 u0 u1 u2 u3 b4
          have t0 : W8.cell? ⟨Bt, 0, none⟩ = some (.int .i64 k0.kind) := (HH.out.2.1).cell 0
          have t1 : W8.cell? ⟨Bt, 1, none⟩ = some (.string k0.text) := (HH.out.2.1).cell 1
          have t2 : W8.cell? ⟨Bt, 2, none⟩ = some (.slice A0 k0.kids.length c0) := (HH.out.2.1).cell 2
          have t3 : W8.cell? ⟨Bt, 3, none⟩ = some (.int .i64 k0.place) := (HH.out.2.1).cell 3
          have u0 : W8.cell? ⟨Bx, 0, none⟩ = some (.int .i64 k1.kind) := (HH.out.2.2).cell 0
          have u1 : W8.cell? ⟨Bx, 1, none⟩ = some (.string k1.text) := (HH.out.2.2).cell 1
          have u2 : W8.cell? ⟨Bx, 2, none⟩ = some (.slice A1 k1.kids.length c1) := (HH.out.2.2).cell 2
          have u3 : W8.cell? ⟨Bx, 3, none⟩ = some (.int .i64 k1.place) := (HH.out.2.2).cell 3
          go_wp2_with fail
          refine (NO1.out _ HH.out.1).mono ?_
          rintro e W9 ⟨rfl, b4⟩
          have HH := Lib.hid (show Below w.heap.size w W9 ∧ Whole W9 Bt 24 #[.int .i64 k0.kind, .string k0.text, .slice A0 k0.kids.length c0, .int .i64 k0.place] ∧ Whole W9 Bx 24 #[.int .i64 k1.kind, .string k1.text, .slice A1 k1.kids.length c1, .int .i64 k1.place] from ⟨HH.out.1.trans (b4.mono HH.out.1.size), HH.out.2.1.below b4 HH.out.2.1.lt, HH.out.2.2.below b4 HH.out.2.2.lt⟩)
          clear t0 t1 t2 t3 u0 u1 u2 u3 b4
          have t0 : W9.cell? ⟨Bt, 0, none⟩ = some (.int .i64 k0.kind) := (HH.out.2.1).cell 0
          have t1 : W9.cell? ⟨Bt, 1, none⟩ = some (.string k0.text) := (HH.out.2.1).cell 1
          have t2 : W9.cell? ⟨Bt, 2, none⟩ = some (.slice A0 k0.kids.length c0) := (HH.out.2.1).cell 2
          have t3 : W9.cell? ⟨Bt, 3, none⟩ = some (.int .i64 k0.place) := (HH.out.2.1).cell 3
          have u0 : W9.cell? ⟨Bx, 0, none⟩ = some (.int .i64 k1.kind) := (HH.out.2.2).cell 0
          have u1 : W9.cell? ⟨Bx, 1, none⟩ = some (.string k1.text) := (HH.out.2.2).cell 1
          have u2 : W9.cell? ⟨Bx, 2, none⟩ = some (.slice A1 k1.kids.length c1) := (HH.out.2.2).cell 2
          have u3 : W9.cell? ⟨Bx, 3, none⟩ = some (.int .i64 k1.place) := (HH.out.2.2).cell 3
          go_wp2_with fail
          refine (EX.out _ HH.out.1).mono ?_
          rintro e W10 ⟨rfl, b4⟩
          have HH := Lib.hid (show Below w.heap.size w W10 ∧ Whole W10 Bt 24 #[.int .i64 k0.kind, .string k0.text, .slice A0 k0.kids.length c0, .int .i64 k0.place] ∧ Whole W10 Bx 24 #[.int .i64 k1.kind, .string k1.text, .slice A1 k1.kids.length c1, .int .i64 k1.place] from ⟨HH.out.1.trans (b4.mono HH.out.1.size), HH.out.2.1.below b4 HH.out.2.1.lt, HH.out.2.2.below b4 HH.out.2.2.lt⟩)
          clear t0 t1 t2 t3 u0 u1 u2 u3 b4
          have t0 : W10.cell? ⟨Bt, 0, none⟩ = some (.int .i64 k0.kind) := (HH.out.2.1).cell 0
          have t1 : W10.cell? ⟨Bt, 1, none⟩ = some (.string k0.text) := (HH.out.2.1).cell 1
          have t2 : W10.cell? ⟨Bt, 2, none⟩ = some (.slice A0 k0.kids.length c0) := (HH.out.2.1).cell 2
          have t3 : W10.cell? ⟨Bt, 3, none⟩ = some (.int .i64 k0.place) := (HH.out.2.1).cell 3
          have u0 : W10.cell? ⟨Bx, 0, none⟩ = some (.int .i64 k1.kind) := (HH.out.2.2).cell 0
          have u1 : W10.cell? ⟨Bx, 1, none⟩ = some (.string k1.text) := (HH.out.2.2).cell 1
          have u2 : W10.cell? ⟨Bx, 2, none⟩ = some (.slice A1 k1.kids.length c1) := (HH.out.2.2).cell 2
          have u3 : W10.cell? ⟨Bx, 3, none⟩ = some (.int .i64 k1.place) := (HH.out.2.2).cell 3
          go_wp2_with fail
          refine (NO0.out _ HH.out.1).mono ?_
          rintro e W11 ⟨rfl, b4⟩
          have HH := Lib.hid (show Below w.heap.size w W11 ∧ Whole W11 Bt 24 #[.int .i64 k0.kind, .string k0.text, .slice A0 k0.kids.length c0, .int .i64 k0.place] ∧ Whole W11 Bx 24 #[.int .i64 k1.kind, .string k1.text, .slice A1 k1.kids.length c1, .int .i64 k1.place] from ⟨HH.out.1.trans (b4.mono HH.out.1.size), HH.out.2.1.below b4 HH.out.2.1.lt, HH.out.2.2.below b4 HH.out.2.2.lt⟩)
          clear t0 t1 t2 t3 u0 u1 u2 u3 b4
          have t0 : W11.cell? ⟨Bt, 0, none⟩ = some (.int .i64 k0.kind) := (HH.out.2.1).cell 0
          have t1 : W11.cell? ⟨Bt, 1, none⟩ = some (.string k0.text) := (HH.out.2.1).cell 1
          have t2 : W11.cell? ⟨Bt, 2, none⟩ = some (.slice A0 k0.kids.length c0) := (HH.out.2.1).cell 2
          have t3 : W11.cell? ⟨Bt, 3, none⟩ = some (.int .i64 k0.place) := (HH.out.2.1).cell 3
          have u0 : W11.cell? ⟨Bx, 0, none⟩ = some (.int .i64 k1.kind) := (HH.out.2.2).cell 0
          have u1 : W11.cell? ⟨Bx, 1, none⟩ = some (.string k1.text) := (HH.out.2.2).cell 1
          have u2 : W11.cell? ⟨Bx, 2, none⟩ = some (.slice A1 k1.kids.length c1) := (HH.out.2.2).cell 2
          have u3 : W11.cell? ⟨Bx, 3, none⟩ = some (.int .i64 k1.place) := (HH.out.2.2).cell 3
          go_wp2_with fail
          refine (NO1.out _ HH.out.1).mono ?_
          rintro e W12 ⟨rfl, b4⟩
          have HH := Lib.hid (show Below w.heap.size w W12 ∧ Whole W12 Bt 24 #[.int .i64 k0.kind, .string k0.text, .slice A0 k0.kids.length c0, .int .i64 k0.place] ∧ Whole W12 Bx 24 #[.int .i64 k1.kind, .string k1.text, .slice A1 k1.kids.length c1, .int .i64 k1.place] from ⟨HH.out.1.trans (b4.mono HH.out.1.size), HH.out.2.1.below b4 HH.out.2.1.lt, HH.out.2.2.below b4 HH.out.2.2.lt⟩)
          clear t0 t1 t2 t3 u0 u1 u2 u3 b4
          have t0 : W12.cell? ⟨Bt, 0, none⟩ = some (.int .i64 k0.kind) := (HH.out.2.1).cell 0
          have t1 : W12.cell? ⟨Bt, 1, none⟩ = some (.string k0.text) := (HH.out.2.1).cell 1
          have t2 : W12.cell? ⟨Bt, 2, none⟩ = some (.slice A0 k0.kids.length c0) := (HH.out.2.1).cell 2
          have t3 : W12.cell? ⟨Bt, 3, none⟩ = some (.int .i64 k0.place) := (HH.out.2.1).cell 3
          have u0 : W12.cell? ⟨Bx, 0, none⟩ = some (.int .i64 k1.kind) := (HH.out.2.2).cell 0
          have u1 : W12.cell? ⟨Bx, 1, none⟩ = some (.string k1.text) := (HH.out.2.2).cell 1
          have u2 : W12.cell? ⟨Bx, 2, none⟩ = some (.slice A1 k1.kids.length c1) := (HH.out.2.2).cell 2
          have u3 : W12.cell? ⟨Bx, 3, none⟩ = some (.int .i64 k1.place) := (HH.out.2.2).cell 3
          go_wp2_with fail
          go_ret
          exact ⟨rfl, HH.out.1⟩
        case false =>
          go_wp2_with fail
          refine (NO0.out _ HH.out.1).mono ?_
          rintro e W13 ⟨rfl, b4⟩
          have HH := Lib.hid (show Below w.heap.size w W13 ∧ Whole W13 Bt 24 #[.int .i64 k0.kind, .string k0.text, .slice A0 k0.kids.length c0, .int .i64 k0.place] ∧ Whole W13 Bx 24 #[.int .i64 k1.kind, .string k1.text, .slice A1 k1.kids.length c1, .int .i64 k1.place] from ⟨HH.out.1.trans (b4.mono HH.out.1.size), HH.out.2.1.below b4 HH.out.2.1.lt, HH.out.2.2.below b4 HH.out.2.2.lt⟩)
          clear t0 t1 t2 t3 u0 u1 u2 u3 b4
          have t0 : W13.cell? ⟨Bt, 0, none⟩ = some (.int .i64 k0.kind) := (HH.out.2.1).cell 0
          have t1 : W13.cell? ⟨Bt, 1, none⟩ = some (.string k0.text) := (HH.out.2.1).cell 1
          have t2 : W13.cell? ⟨Bt, 2, none⟩ = some (.slice A0 k0.kids.length c0) := (HH.out.2.1).cell 2
          have t3 : W13.cell? ⟨Bt, 3, none⟩ = some (.int .i64 k0.place) := (HH.out.2.1).cell 3
          have u0 : W13.cell? ⟨Bx, 0, none⟩ = some (.int .i64 k1.kind) := (HH.out.2.2).cell 0
          have u1 : W13.cell? ⟨Bx, 1, none⟩ = some (.string k1.text) := (HH.out.2.2).cell 1
          have u2 : W13.cell? ⟨Bx, 2, none⟩ = some (.slice A1 k1.kids.length c1) := (HH.out.2.2).cell 2
          have u3 : W13.cell? ⟨Bx, 3, none⟩ = some (.int .i64 k1.place) := (HH.out.2.2).cell 3
          go_wp2_with fail
          refine (NO1.out _ HH.out.1).mono ?_
          rintro e W14 ⟨rfl, b4⟩
          have HH := Lib.hid (show Below w.heap.size w W14 ∧ Whole W14 Bt 24 #[.int .i64 k0.kind, .string k0.text, .slice A0 k0.kids.length c0, .int .i64 k0.place] ∧ Whole W14 Bx 24 #[.int .i64 k1.kind, .string k1.text, .slice A1 k1.kids.length c1, .int .i64 k1.place] from ⟨HH.out.1.trans (b4.mono HH.out.1.size), HH.out.2.1.below b4 HH.out.2.1.lt, HH.out.2.2.below b4 HH.out.2.2.lt⟩)
          clear t0 t1 t2 t3 u0 u1 u2 u3 b4
          have t0 : W14.cell? ⟨Bt, 0, none⟩ = some (.int .i64 k0.kind) := (HH.out.2.1).cell 0
          have t1 : W14.cell? ⟨Bt, 1, none⟩ = some (.string k0.text) := (HH.out.2.1).cell 1
          have t2 : W14.cell? ⟨Bt, 2, none⟩ = some (.slice A0 k0.kids.length c0) := (HH.out.2.1).cell 2
          have t3 : W14.cell? ⟨Bt, 3, none⟩ = some (.int .i64 k0.place) := (HH.out.2.1).cell 3
          have u0 : W14.cell? ⟨Bx, 0, none⟩ = some (.int .i64 k1.kind) := (HH.out.2.2).cell 0
          have u1 : W14.cell? ⟨Bx, 1, none⟩ = some (.string k1.text) := (HH.out.2.2).cell 1
          have u2 : W14.cell? ⟨Bx, 2, none⟩ = some (.slice A1 k1.kids.length c1) := (HH.out.2.2).cell 2
          have u3 : W14.cell? ⟨Bx, 3, none⟩ = some (.int .i64 k1.place) := (HH.out.2.2).cell 3
          go_wp2_with fail
          refine (EX.out _ HH.out.1).mono ?_
          rintro e W15 ⟨rfl, b4⟩
          have HH := Lib.hid (show Below w.heap.size w W15 ∧ Whole W15 Bt 24 #[.int .i64 k0.kind, .string k0.text, .slice A0 k0.kids.length c0, .int .i64 k0.place] ∧ Whole W15 Bx 24 #[.int .i64 k1.kind, .string k1.text, .slice A1 k1.kids.length c1, .int .i64 k1.place] from ⟨HH.out.1.trans (b4.mono HH.out.1.size), HH.out.2.1.below b4 HH.out.2.1.lt, HH.out.2.2.below b4 HH.out.2.2.lt⟩)
          clear t0 t1 t2 t3 u0 u1 u2 u3 b4
          have t0 : W15.cell? ⟨Bt, 0, none⟩ = some (.int .i64 k0.kind) := (HH.out.2.1).cell 0
          have t1 : W15.cell? ⟨Bt, 1, none⟩ = some (.string k0.text) := (HH.out.2.1).cell 1
          have t2 : W15.cell? ⟨Bt, 2, none⟩ = some (.slice A0 k0.kids.length c0) := (HH.out.2.1).cell 2
          have t3 : W15.cell? ⟨Bt, 3, none⟩ = some (.int .i64 k0.place) := (HH.out.2.1).cell 3
          have u0 : W15.cell? ⟨Bx, 0, none⟩ = some (.int .i64 k1.kind) := (HH.out.2.2).cell 0
          have u1 : W15.cell? ⟨Bx, 1, none⟩ = some (.string k1.text) := (HH.out.2.2).cell 1
          have u2 : W15.cell? ⟨Bx, 2, none⟩ = some (.slice A1 k1.kids.length c1) := (HH.out.2.2).cell 2
          have u3 : W15.cell? ⟨Bx, 3, none⟩ = some (.int .i64 k1.place) := (HH.out.2.2).cell 3
          go_wp2_with fail
          go_ret
          exact ⟨rfl, HH.out.1⟩
    case false =>
      cases r2
      case false =>
        go_wp2_with fail
        refine (NO0.out _ HH.out.1).mono ?_
        rintro e W16 ⟨rfl, b4⟩
        have HH := Lib.hid (show Below w.heap.size w W16 ∧ Whole W16 Bt 24 #[.int .i64 k0.kind, .string k0.text, .slice A0 k0.kids.length c0, .int .i64 k0.place] ∧ Whole W16 Bx 24 #[.int .i64 k1.kind, .string k1.text, .slice A1 k1.kids.length c1, .int .i64 k1.place] from ⟨HH.out.1.trans (b4.mono HH.out.1.size), HH.out.2.1.below b4 HH.out.2.1.lt, HH.out.2.2.below b4 HH.out.2.2.lt⟩)
        clear t0 t1 t2 t3 u0 u1 u2 u3 b4
        have t0 : W16.cell? ⟨Bt, 0, none⟩ = some (.int .i64 k0.kind) := (HH.out.2.1).cell 0
        have t1 : W16.cell? ⟨Bt, 1, none⟩ = some (.string k0.text) := (HH.out.2.1).cell 1
        have t2 : W16.cell? ⟨Bt, 2, none⟩ = some (.slice A0 k0.kids.length c0) := (HH.out.2.1).cell 2
        have t3 : W16.cell? ⟨Bt, 3, none⟩ = some (.int .i64 k0.place) := (HH.out.2.1).cell 3
        have u0 : W16.cell? ⟨Bx, 0, none⟩ = some (.int .i64 k1.kind) := (HH.out.2.2).cell 0
        have u1 : W16.cell? ⟨Bx, 1, none⟩ = some (.string k1.text) := (HH.out.2.2).cell 1
        have u2 : W16.cell? ⟨Bx, 2, none⟩ = some (.slice A1 k1.kids.length c1) := (HH.out.2.2).cell 2
        have u3 : W16.cell? ⟨Bx, 3, none⟩ = some (.int .i64 k1.place) := (HH.out.2.2).cell 3
        go_wp2_with fail
        refine (TY.out _ HH.out.1).mono ?_
        rintro e W17 ⟨rfl, b4⟩
        have HH := Lib.hid (show Below w.heap.size w W17 ∧ Whole W17 Bt 24 #[.int .i64 k0.kind, .string k0.text, .slice A0 k0.kids.length c0, .int .i64 k0.place] ∧ Whole W17 Bx 24 #[.int .i64 k1.kind, .string k1.text, .slice A1 k1.kids.length c1, .int .i64 k1.place] from ⟨HH.out.1.trans (b4.mono HH.out.1.size), HH.out.2.1.below b4 HH.out.2.1.lt, HH.out.2.2.below b4 HH.out.2.2.lt⟩)
        clear t0 t1 t2 t3 u0 u1 u2 u3 b4
        have t0 : W17.cell? ⟨Bt, 0, none⟩ = some (.int .i64 k0.kind) := (HH.out.2.1).cell 0
        have t1 : W17.cell? ⟨Bt, 1, none⟩ = some (.string k0.text) := (HH.out.2.1).cell 1
        have t2 : W17.cell? ⟨Bt, 2, none⟩ = some (.slice A0 k0.kids.length c0) := (HH.out.2.1).cell 2
        have t3 : W17.cell? ⟨Bt, 3, none⟩ = some (.int .i64 k0.place) := (HH.out.2.1).cell 3
        have u0 : W17.cell? ⟨Bx, 0, none⟩ = some (.int .i64 k1.kind) := (HH.out.2.2).cell 0
        have u1 : W17.cell? ⟨Bx, 1, none⟩ = some (.string k1.text) := (HH.out.2.2).cell 1
        have u2 : W17.cell? ⟨Bx, 2, none⟩ = some (.slice A1 k1.kids.length c1) := (HH.out.2.2).cell 2
        have u3 : W17.cell? ⟨Bx, 3, none⟩ = some (.int .i64 k1.place) := (HH.out.2.2).cell 3
        go_wp2_with fail
        go_ret
        exact ⟨rfl, HH.out.1⟩
      case true =>
        cases r1
        case true =>
          go_wp2_with fail
          refine (NO0.out _ HH.out.1).mono ?_
          rintro e W18 ⟨rfl, b4⟩
          have HH := Lib.hid (show Below w.heap.size w W18 ∧ Whole W18 Bt 24 #[.int .i64 k0.kind, .string k0.text, .slice A0 k0.kids.length c0, .int .i64 k0.place] ∧ Whole W18 Bx 24 #[.int .i64 k1.kind, .string k1.text, .slice A1 k1.kids.length c1, .int .i64 k1.place] from ⟨HH.out.1.trans (b4.mono HH.out.1.size), HH.out.2.1.below b4 HH.out.2.1.lt, HH.out.2.2.below b4 HH.out.2.2.lt⟩)
          clear t0 t1 t2 t3 u0 u1 u2 u3 b4
          have t0 : W18.cell? ⟨Bt, 0, none⟩ = some (.int .i64 k0.kind) := (HH.out.2.1).cell 0
          have t1 : W18.cell? ⟨Bt, 1, none⟩ = some (.string k0.text) := (HH.out.2.1).cell 1
          have t2 : W18.cell? ⟨Bt, 2, none⟩ = some (.slice A0 k0.kids.length c0) := (HH.out.2.1).cell 2
          have t3 : W18.cell? ⟨Bt, 3, none⟩ = some (.int .i64 k0.place) := (HH.out.2.1).cell 3
          have u0 : W18.cell? ⟨Bx, 0, none⟩ = some (.int .i64 k1.kind) := (HH.out.2.2).cell 0
          have u1 : W18.cell? ⟨Bx, 1, none⟩ = some (.string k1.text) := (HH.out.2.2).cell 1
          have u2 : W18.cell? ⟨Bx, 2, none⟩ = some (.slice A1 k1.kids.length c1) := (HH.out.2.2).cell 2
          have u3 : W18.cell? ⟨Bx, 3, none⟩ = some (.int .i64 k1.place) := (HH.out.2.2).cell 3
          go_wp2_with fail
          refine (TY.out _ HH.out.1).mono ?_
          rintro e W19 ⟨rfl, b4⟩
          have HH := Lib.hid (show Below w.heap.size w W19 ∧ Whole W19 Bt 24 #[.int .i64 k0.kind, .string k0.text, .slice A0 k0.kids.length c0, .int .i64 k0.place] ∧ Whole W19 Bx 24 #[.int .i64 k1.kind, .string k1.text, .slice A1 k1.kids.length c1, .int .i64 k1.place] from ⟨HH.out.1.trans (b4.mono HH.out.1.size), HH.out.2.1.below b4 HH.out.2.1.lt, HH.out.2.2.below b4 HH.out.2.2.lt⟩)
          clear t0 t1 t2 t3 u0 u1 u2 u3 b4
          have t0 : W19.cell? ⟨Bt, 0, none⟩ = some (.int .i64 k0.kind) := (HH.out.2.1).cell 0
          have t1 : W19.cell? ⟨Bt, 1, none⟩ = some (.string k0.text) := (HH.out.2.1).cell 1
          have t2 : W19.cell? ⟨Bt, 2, none⟩ = some (.slice A0 k0.kids.length c0) := (HH.out.2.1).cell 2
          have t3 : W19.cell? ⟨Bt, 3, none⟩ = some (.int .i64 k0.place) := (HH.out.2.1).cell 3
          have u0 : W19.cell? ⟨Bx, 0, none⟩ = some (.int .i64 k1.kind) := (HH.out.2.2).cell 0
          have u1 : W19.cell? ⟨Bx, 1, none⟩ = some (.string k1.text) := (HH.out.2.2).cell 1
          have u2 : W19.cell? ⟨Bx, 2, none⟩ = some (.slice A1 k1.kids.length c1) := (HH.out.2.2).cell 2
          have u3 : W19.cell? ⟨Bx, 3, none⟩ = some (.int .i64 k1.place) := (HH.out.2.2).cell 3
          go_wp2_with fail
          refine (NO1.out _ HH.out.1).mono ?_
          rintro e W20 ⟨rfl, b4⟩
          have HH := Lib.hid (show Below w.heap.size w W20 ∧ Whole W20 Bt 24 #[.int .i64 k0.kind, .string k0.text, .slice A0 k0.kids.length c0, .int .i64 k0.place] ∧ Whole W20 Bx 24 #[.int .i64 k1.kind, .string k1.text, .slice A1 k1.kids.length c1, .int .i64 k1.place] from ⟨HH.out.1.trans (b4.mono HH.out.1.size), HH.out.2.1.below b4 HH.out.2.1.lt, HH.out.2.2.below b4 HH.out.2.2.lt⟩)
          clear t0 t1 t2 t3 u0 u1 u2 u3 b4
          have t0 : W20.cell? ⟨Bt, 0, none⟩ = some (.int .i64 k0.kind) := (HH.out.2.1).cell 0
          have t1 : W20.cell? ⟨Bt, 1, none⟩ = some (.string k0.text) := (HH.out.2.1).cell 1
          have t2 : W20.cell? ⟨Bt, 2, none⟩ = some (.slice A0 k0.kids.length c0) := (HH.out.2.1).cell 2
          have t3 : W20.cell? ⟨Bt, 3, none⟩ = some (.int .i64 k0.place) := (HH.out.2.1).cell 3
          have u0 : W20.cell? ⟨Bx, 0, none⟩ = some (.int .i64 k1.kind) := (HH.out.2.2).cell 0
          have u1 : W20.cell? ⟨Bx, 1, none⟩ = some (.string k1.text) := (HH.out.2.2).cell 1
          have u2 : W20.cell? ⟨Bx, 2, none⟩ = some (.slice A1 k1.kids.length c1) := (HH.out.2.2).cell 2
          have u3 : W20.cell? ⟨Bx, 3, none⟩ = some (.int .i64 k1.place) := (HH.out.2.2).cell 3
          go_wp2_with fail
          refine (NO0.out _ HH.out.1).mono ?_
          rintro e W21 ⟨rfl, b4⟩
          have HH := Lib.hid (show Below w.heap.size w W21 ∧ Whole W21 Bt 24 #[.int .i64 k0.kind, .string k0.text, .slice A0 k0.kids.length c0, .int .i64 k0.place] ∧ Whole W21 Bx 24 #[.int .i64 k1.kind, .string k1.text, .slice A1 k1.kids.length c1, .int .i64 k1.place] from ⟨HH.out.1.trans (b4.mono HH.out.1.size), HH.out.2.1.below b4 HH.out.2.1.lt, HH.out.2.2.below b4 HH.out.2.2.lt⟩)
          clear t0 t1 t2 t3 u0 u1 u2 u3 b4
          have t0 : W21.cell? ⟨Bt, 0, none⟩ = some (.int .i64 k0.kind) := (HH.out.2.1).cell 0
          have t1 : W21.cell? ⟨Bt, 1, none⟩ = some (.string k0.text) := (HH.out.2.1).cell 1
          have t2 : W21.cell? ⟨Bt, 2, none⟩ = some (.slice A0 k0.kids.length c0) := (HH.out.2.1).cell 2
          have t3 : W21.cell? ⟨Bt, 3, none⟩ = some (.int .i64 k0.place) := (HH.out.2.1).cell 3
          have u0 : W21.cell? ⟨Bx, 0, none⟩ = some (.int .i64 k1.kind) := (HH.out.2.2).cell 0
          have u1 : W21.cell? ⟨Bx, 1, none⟩ = some (.string k1.text) := (HH.out.2.2).cell 1
          have u2 : W21.cell? ⟨Bx, 2, none⟩ = some (.slice A1 k1.kids.length c1) := (HH.out.2.2).cell 2
          have u3 : W21.cell? ⟨Bx, 3, none⟩ = some (.int .i64 k1.place) := (HH.out.2.2).cell 3
          go_wp2_with fail
          go_ret
          exact ⟨rfl, HH.out.1⟩
        case false =>
          cases r3
          case true =>
            go_wp2_with fail
            refine (NO0.out _ HH.out.1).mono ?_
            rintro e W22 ⟨rfl, b4⟩
            have HH := Lib.hid (show Below w.heap.size w W22 ∧ Whole W22 Bt 24 #[.int .i64 k0.kind, .string k0.text, .slice A0 k0.kids.length c0, .int .i64 k0.place] ∧ Whole W22 Bx 24 #[.int .i64 k1.kind, .string k1.text, .slice A1 k1.kids.length c1, .int .i64 k1.place] from ⟨HH.out.1.trans (b4.mono HH.out.1.size), HH.out.2.1.below b4 HH.out.2.1.lt, HH.out.2.2.below b4 HH.out.2.2.lt⟩)
            clear t0 t1 t2 t3 u0 u1 u2 u3 b4
            have t0 : W22.cell? ⟨Bt, 0, none⟩ = some (.int .i64 k0.kind) := (HH.out.2.1).cell 0
            have t1 : W22.cell? ⟨Bt, 1, none⟩ = some (.string k0.text) := (HH.out.2.1).cell 1
            have t2 : W22.cell? ⟨Bt, 2, none⟩ = some (.slice A0 k0.kids.length c0) := (HH.out.2.1).cell 2
            have t3 : W22.cell? ⟨Bt, 3, none⟩ = some (.int .i64 k0.place) := (HH.out.2.1).cell 3
            have u0 : W22.cell? ⟨Bx, 0, none⟩ = some (.int .i64 k1.kind) := (HH.out.2.2).cell 0
            have u1 : W22.cell? ⟨Bx, 1, none⟩ = some (.string k1.text) := (HH.out.2.2).cell 1
            have u2 : W22.cell? ⟨Bx, 2, none⟩ = some (.slice A1 k1.kids.length c1) := (HH.out.2.2).cell 2
            have u3 : W22.cell? ⟨Bx, 3, none⟩ = some (.int .i64 k1.place) := (HH.out.2.2).cell 3
            go_wp2_with fail
            refine (TY.out _ HH.out.1).mono ?_
            rintro e W23 ⟨rfl, b4⟩
            have HH := Lib.hid (show Below w.heap.size w W23 ∧ Whole W23 Bt 24 #[.int .i64 k0.kind, .string k0.text, .slice A0 k0.kids.length c0, .int .i64 k0.place] ∧ Whole W23 Bx 24 #[.int .i64 k1.kind, .string k1.text, .slice A1 k1.kids.length c1, .int .i64 k1.place] from ⟨HH.out.1.trans (b4.mono HH.out.1.size), HH.out.2.1.below b4 HH.out.2.1.lt, HH.out.2.2.below b4 HH.out.2.2.lt⟩)
            clear t0 t1 t2 t3 u0 u1 u2 u3 b4
            have t0 : W23.cell? ⟨Bt, 0, none⟩ = some (.int .i64 k0.kind) := (HH.out.2.1).cell 0
            have t1 : W23.cell? ⟨Bt, 1, none⟩ = some (.string k0.text) := (HH.out.2.1).cell 1
            have t2 : W23.cell? ⟨Bt, 2, none⟩ = some (.slice A0 k0.kids.length c0) := (HH.out.2.1).cell 2
            have t3 : W23.cell? ⟨Bt, 3, none⟩ = some (.int .i64 k0.place) := (HH.out.2.1).cell 3
            have u0 : W23.cell? ⟨Bx, 0, none⟩ = some (.int .i64 k1.kind) := (HH.out.2.2).cell 0
            have u1 : W23.cell? ⟨Bx, 1, none⟩ = some (.string k1.text) := (HH.out.2.2).cell 1
            have u2 : W23.cell? ⟨Bx, 2, none⟩ = some (.slice A1 k1.kids.length c1) := (HH.out.2.2).cell 2
            have u3 : W23.cell? ⟨Bx, 3, none⟩ = some (.int .i64 k1.place) := (HH.out.2.2).cell 3
            go_wp2_with fail
            refine (NO1.out _ HH.out.1).mono ?_
            rintro e W24 ⟨rfl, b4⟩
            have HH := Lib.hid (show Below w.heap.size w W24 ∧ Whole W24 Bt 24 #[.int .i64 k0.kind, .string k0.text, .slice A0 k0.kids.length c0, .int .i64 k0.place] ∧ Whole W24 Bx 24 #[.int .i64 k1.kind, .string k1.text, .slice A1 k1.kids.length c1, .int .i64 k1.place] from ⟨HH.out.1.trans (b4.mono HH.out.1.size), HH.out.2.1.below b4 HH.out.2.1.lt, HH.out.2.2.below b4 HH.out.2.2.lt⟩)
            clear t0 t1 t2 t3 u0 u1 u2 u3 b4
            have t0 : W24.cell? ⟨Bt, 0, none⟩ = some (.int .i64 k0.kind) := (HH.out.2.1).cell 0
            have t1 : W24.cell? ⟨Bt, 1, none⟩ = some (.string k0.text) := (HH.out.2.1).cell 1
            have t2 : W24.cell? ⟨Bt, 2, none⟩ = some (.slice A0 k0.kids.length c0) := (HH.out.2.1).cell 2
            have t3 : W24.cell? ⟨Bt, 3, none⟩ = some (.int .i64 k0.place) := (HH.out.2.1).cell 3
            have u0 : W24.cell? ⟨Bx, 0, none⟩ = some (.int .i64 k1.kind) := (HH.out.2.2).cell 0
            have u1 : W24.cell? ⟨Bx, 1, none⟩ = some (.string k1.text) := (HH.out.2.2).cell 1
            have u2 : W24.cell? ⟨Bx, 2, none⟩ = some (.slice A1 k1.kids.length c1) := (HH.out.2.2).cell 2
            have u3 : W24.cell? ⟨Bx, 3, none⟩ = some (.int .i64 k1.place) := (HH.out.2.2).cell 3
            go_wp2_with fail
            refine (EX.out _ HH.out.1).mono ?_
            rintro e W25 ⟨rfl, b4⟩
            have HH := Lib.hid (show Below w.heap.size w W25 ∧ Whole W25 Bt 24 #[.int .i64 k0.kind, .string k0.text, .slice A0 k0.kids.length c0, .int .i64 k0.place] ∧ Whole W25 Bx 24 #[.int .i64 k1.kind, .string k1.text, .slice A1 k1.kids.length c1, .int .i64 k1.place] from ⟨HH.out.1.trans (b4.mono HH.out.1.size), HH.out.2.1.below b4 HH.out.2.1.lt, HH.out.2.2.below b4 HH.out.2.2.lt⟩)
            clear t0 t1 t2 t3 u0 u1 u2 u3 b4
            have t0 : W25.cell? ⟨Bt, 0, none⟩ = some (.int .i64 k0.kind) := (HH.out.2.1).cell 0
            have t1 : W25.cell? ⟨Bt, 1, none⟩ = some (.string k0.text) := (HH.out.2.1).cell 1
            have t2 : W25.cell? ⟨Bt, 2, none⟩ = some (.slice A0 k0.kids.length c0) := (HH.out.2.1).cell 2
            have t3 : W25.cell? ⟨Bt, 3, none⟩ = some (.int .i64 k0.place) := (HH.out.2.1).cell 3
            have u0 : W25.cell? ⟨Bx, 0, none⟩ = some (.int .i64 k1.kind) := (HH.out.2.2).cell 0
            have u1 : W25.cell? ⟨Bx, 1, none⟩ = some (.string k1.text) := (HH.out.2.2).cell 1
            have u2 : W25.cell? ⟨Bx, 2, none⟩ = some (.slice A1 k1.kids.length c1) := (HH.out.2.2).cell 2
            have u3 : W25.cell? ⟨Bx, 3, none⟩ = some (.int .i64 k1.place) := (HH.out.2.2).cell 3
            go_wp2_with fail
            refine (NO0.out _ HH.out.1).mono ?_
            rintro e W26 ⟨rfl, b4⟩
            have HH := Lib.hid (show Below w.heap.size w W26 ∧ Whole W26 Bt 24 #[.int .i64 k0.kind, .string k0.text, .slice A0 k0.kids.length c0, .int .i64 k0.place] ∧ Whole W26 Bx 24 #[.int .i64 k1.kind, .string k1.text, .slice A1 k1.kids.length c1, .int .i64 k1.place] from ⟨HH.out.1.trans (b4.mono HH.out.1.size), HH.out.2.1.below b4 HH.out.2.1.lt, HH.out.2.2.below b4 HH.out.2.2.lt⟩)
            clear t0 t1 t2 t3 u0 u1 u2 u3 b4
            have t0 : W26.cell? ⟨Bt, 0, none⟩ = some (.int .i64 k0.kind) := (HH.out.2.1).cell 0
            have t1 : W26.cell? ⟨Bt, 1, none⟩ = some (.string k0.text) := (HH.out.2.1).cell 1
            have t2 : W26.cell? ⟨Bt, 2, none⟩ = some (.slice A0 k0.kids.length c0) := (HH.out.2.1).cell 2
            have t3 : W26.cell? ⟨Bt, 3, none⟩ = some (.int .i64 k0.place) := (HH.out.2.1).cell 3
            have u0 : W26.cell? ⟨Bx, 0, none⟩ = some (.int .i64 k1.kind) := (HH.out.2.2).cell 0
            have u1 : W26.cell? ⟨Bx, 1, none⟩ = some (.string k1.text) := (HH.out.2.2).cell 1
            have u2 : W26.cell? ⟨Bx, 2, none⟩ = some (.slice A1 k1.kids.length c1) := (HH.out.2.2).cell 2
            have u3 : W26.cell? ⟨Bx, 3, none⟩ = some (.int .i64 k1.place) := (HH.out.2.2).cell 3
            go_wp2_with fail
            go_ret
            exact ⟨rfl, HH.out.1⟩
          case false =>
            go_wp2_with fail
            refine (NO0.out _ HH.out.1).mono ?_
            rintro e W27 ⟨rfl, b4⟩
            have HH := Lib.hid (show Below w.heap.size w W27 ∧ Whole W27 Bt 24 #[.int .i64 k0.kind, .string k0.text, .slice A0 k0.kids.length c0, .int .i64 k0.place] ∧ Whole W27 Bx 24 #[.int .i64 k1.kind, .string k1.text, .slice A1 k1.kids.length c1, .int .i64 k1.place] from ⟨HH.out.1.trans (b4.mono HH.out.1.size), HH.out.2.1.below b4 HH.out.2.1.lt, HH.out.2.2.below b4 HH.out.2.2.lt⟩)
            clear t0 t1 t2 t3 u0 u1 u2 u3 b4
            have t0 : W27.cell? ⟨Bt, 0, none⟩ = some (.int .i64 k0.kind) := (HH.out.2.1).cell 0
            have t1 : W27.cell? ⟨Bt, 1, none⟩ = some (.string k0.text) := (HH.out.2.1).cell 1
            have t2 : W27.cell? ⟨Bt, 2, none⟩ = some (.slice A0 k0.kids.length c0) := (HH.out.2.1).cell 2
            have t3 : W27.cell? ⟨Bt, 3, none⟩ = some (.int .i64 k0.place) := (HH.out.2.1).cell 3
            have u0 : W27.cell? ⟨Bx, 0, none⟩ = some (.int .i64 k1.kind) := (HH.out.2.2).cell 0
            have u1 : W27.cell? ⟨Bx, 1, none⟩ = some (.string k1.text) := (HH.out.2.2).cell 1
            have u2 : W27.cell? ⟨Bx, 2, none⟩ = some (.slice A1 k1.kids.length c1) := (HH.out.2.2).cell 2
            have u3 : W27.cell? ⟨Bx, 3, none⟩ = some (.int .i64 k1.place) := (HH.out.2.2).cell 3
            go_wp2_with fail
            refine (TY.out _ HH.out.1).mono ?_
            rintro e W28 ⟨rfl, b4⟩
            have HH := Lib.hid (show Below w.heap.size w W28 ∧ Whole W28 Bt 24 #[.int .i64 k0.kind, .string k0.text, .slice A0 k0.kids.length c0, .int .i64 k0.place] ∧ Whole W28 Bx 24 #[.int .i64 k1.kind, .string k1.text, .slice A1 k1.kids.length c1, .int .i64 k1.place] from ⟨HH.out.1.trans (b4.mono HH.out.1.size), HH.out.2.1.below b4 HH.out.2.1.lt, HH.out.2.2.below b4 HH.out.2.2.lt⟩)
            clear t0 t1 t2 t3 u0 u1 u2 u3 b4
            have t0 : W28.cell? ⟨Bt, 0, none⟩ = some (.int .i64 k0.kind) := (HH.out.2.1).cell 0
            have t1 : W28.cell? ⟨Bt, 1, none⟩ = some (.string k0.text) := (HH.out.2.1).cell 1
            have t2 : W28.cell? ⟨Bt, 2, none⟩ = some (.slice A0 k0.kids.length c0) := (HH.out.2.1).cell 2
            have t3 : W28.cell? ⟨Bt, 3, none⟩ = some (.int .i64 k0.place) := (HH.out.2.1).cell 3
            have u0 : W28.cell? ⟨Bx, 0, none⟩ = some (.int .i64 k1.kind) := (HH.out.2.2).cell 0
            have u1 : W28.cell? ⟨Bx, 1, none⟩ = some (.string k1.text) := (HH.out.2.2).cell 1
            have u2 : W28.cell? ⟨Bx, 2, none⟩ = some (.slice A1 k1.kids.length c1) := (HH.out.2.2).cell 2
            have u3 : W28.cell? ⟨Bx, 3, none⟩ = some (.int .i64 k1.place) := (HH.out.2.2).cell 3
            go_wp2_with fail
            refine (NO1.out _ HH.out.1).mono ?_
            rintro e W29 ⟨rfl, b4⟩
            have HH := Lib.hid (show Below w.heap.size w W29 ∧ Whole W29 Bt 24 #[.int .i64 k0.kind, .string k0.text, .slice A0 k0.kids.length c0, .int .i64 k0.place] ∧ Whole W29 Bx 24 #[.int .i64 k1.kind, .string k1.text, .slice A1 k1.kids.length c1, .int .i64 k1.place] from ⟨HH.out.1.trans (b4.mono HH.out.1.size), HH.out.2.1.below b4 HH.out.2.1.lt, HH.out.2.2.below b4 HH.out.2.2.lt⟩)
            clear t0 t1 t2 t3 u0 u1 u2 u3 b4
            have t0 : W29.cell? ⟨Bt, 0, none⟩ = some (.int .i64 k0.kind) := (HH.out.2.1).cell 0
            have t1 : W29.cell? ⟨Bt, 1, none⟩ = some (.string k0.text) := (HH.out.2.1).cell 1
            have t2 : W29.cell? ⟨Bt, 2, none⟩ = some (.slice A0 k0.kids.length c0) := (HH.out.2.1).cell 2
            have t3 : W29.cell? ⟨Bt, 3, none⟩ = some (.int .i64 k0.place) := (HH.out.2.1).cell 3
            have u0 : W29.cell? ⟨Bx, 0, none⟩ = some (.int .i64 k1.kind) := (HH.out.2.2).cell 0
            have u1 : W29.cell? ⟨Bx, 1, none⟩ = some (.string k1.text) := (HH.out.2.2).cell 1
            have u2 : W29.cell? ⟨Bx, 2, none⟩ = some (.slice A1 k1.kids.length c1) := (HH.out.2.2).cell 2
            have u3 : W29.cell? ⟨Bx, 3, none⟩ = some (.int .i64 k1.place) := (HH.out.2.2).cell 3
            go_wp2_with fail
            refine (EX.out _ HH.out.1).mono ?_
            rintro e W30 ⟨rfl, b4⟩
            have HH := Lib.hid (show Below w.heap.size w W30 ∧ Whole W30 Bt 24 #[.int .i64 k0.kind, .string k0.text, .slice A0 k0.kids.length c0, .int .i64 k0.place] ∧ Whole W30 Bx 24 #[.int .i64 k1.kind, .string k1.text, .slice A1 k1.kids.length c1, .int .i64 k1.place] from ⟨HH.out.1.trans (b4.mono HH.out.1.size), HH.out.2.1.below b4 HH.out.2.1.lt, HH.out.2.2.below b4 HH.out.2.2.lt⟩)
            clear t0 t1 t2 t3 u0 u1 u2 u3 b4
            have t0 : W30.cell? ⟨Bt, 0, none⟩ = some (.int .i64 k0.kind) := (HH.out.2.1).cell 0
            have t1 : W30.cell? ⟨Bt, 1, none⟩ = some (.string k0.text) := (HH.out.2.1).cell 1
            have t2 : W30.cell? ⟨Bt, 2, none⟩ = some (.slice A0 k0.kids.length c0) := (HH.out.2.1).cell 2
            have t3 : W30.cell? ⟨Bt, 3, none⟩ = some (.int .i64 k0.place) := (HH.out.2.1).cell 3
            have u0 : W30.cell? ⟨Bx, 0, none⟩ = some (.int .i64 k1.kind) := (HH.out.2.2).cell 0
            have u1 : W30.cell? ⟨Bx, 1, none⟩ = some (.string k1.text) := (HH.out.2.2).cell 1
            have u2 : W30.cell? ⟨Bx, 2, none⟩ = some (.slice A1 k1.kids.length c1) := (HH.out.2.2).cell 2
            have u3 : W30.cell? ⟨Bx, 3, none⟩ = some (.int .i64 k1.place) := (HH.out.2.2).cell 3
            go_wp2_with fail
            go_ret
            exact ⟨rfl, HH.out.1⟩
  refine Held.begin_ (fun w' => w'.cell? ⟨w.heap.size, 2, none⟩ = some (.slice (some ⟨b, off, none⟩) 2 c) ∧ w'.cell? ⟨b, off, none⟩ = some (.int .i64 k0.kind) ∧ w'.cell? ⟨b, off + 1, none⟩ = some (.string k0.text) ∧ w'.cell? ⟨b, off + 2, none⟩ = some (.slice A0 k0.kids.length c0) ∧ w'.cell? ⟨b, off + 3, none⟩ = some (.int .i64 k0.place) ∧ w'.cell? ⟨b, off + 4, none⟩ = some (.int .i64 k1.kind) ∧ w'.cell? ⟨b, off + 4 + 1, none⟩ = some (.string k1.text) ∧ w'.cell? ⟨b, off + 4 + 2, none⟩ = some (.slice A1 k1.kids.length c1) ∧ w'.cell? ⟨b, off + 4 + 3, none⟩ = some (.int .i64 k1.place)) (fun _ => True) 99 (by kernel_rfl) (KP.out _ (Below.refl _ W2).drew) (trivial) ?_
  refine Held.take (i := 0) (oi := { dst := some 20, op := Op.fieldAddr 24 (Operand.tmp 1) 2, type := 0, pos := "ref.go:102", after := #[], guard := none }) (v := ?_) false [] rfl (by decide) (by kernel_rfl) (by kernel_rfl) (by kernel_rfl) (by kernel_rfl) (fun _ _ _ h => nomatch h.1) (Or.inl ⟨by rfl, ?_⟩) ?_
  rotate_left
  · rintro w ⟨hS0, hS1⟩
    clear hS1
    (try dsimp only at hS0)
    go_simp
    (try with_reducible rfl)
  try simp only [Act.put, List.setIfInBounds_toArray, List.set_cons_zero, List.set_cons_succ]
  refine Held.take (i := 1) (oi := { dst := some 21, op := Op.load 22 (Operand.tmp 20), type := 22, pos := "ref.go:102", after := #[{ on := 0, ground := Ground.data }], guard := none }) (v := ?_) false [] rfl (by decide) (by kernel_rfl) (by kernel_rfl) (by kernel_rfl) (by kernel_rfl) (fun _ _ _ h => nomatch h.1) (Or.inl ⟨by rfl, ?_⟩) ?_
  rotate_left
  · rintro w ⟨hS0, hS1⟩
    clear hS1
    (try dsimp only at hS0)
    go_simp
    (try with_reducible rfl)
  try simp only [Act.put, List.setIfInBounds_toArray, List.set_cons_zero, List.set_cons_succ]
  refine Held.take (i := 2) (oi := { dst := some 22, op := Op.indexAddr 22 (Operand.tmp 21) (Operand.const (Value.int IntKind.i64 0)), type := 0, pos := "ref.go:102", after := #[{ on := 1, ground := Ground.data }], guard := none }) (v := ?_) false [] rfl (by decide) (by kernel_rfl) (by kernel_rfl) (by kernel_rfl) (by kernel_rfl) (fun _ _ _ h => nomatch h.1) (Or.inl ⟨by rfl, ?_⟩) ?_
  rotate_left
  · rintro w ⟨hS0, hS1⟩
    clear hS1
    (try dsimp only at hS0)
    go_simp
    (try with_reducible rfl)
  try simp only [Act.put, List.setIfInBounds_toArray, List.set_cons_zero, List.set_cons_succ]
  refine Held.take (i := 3) (oi := { dst := some 23, op := Op.load 24 (Operand.tmp 22), type := 24, pos := "ref.go:102", after := #[{ on := 2, ground := Ground.data }], guard := none }) (v := ?_) false [] rfl (by decide) (by kernel_rfl) (by kernel_rfl) (by kernel_rfl) (by kernel_rfl) (fun _ _ _ h => nomatch h.1) (Or.inl ⟨by rfl, ?_⟩) ?_
  rotate_left
  · rintro w ⟨hS0, hS1⟩
    clear hS1
    (try dsimp only at hS0)
    go_simp
    (try with_reducible rfl)
  try simp only [Act.put, List.setIfInBounds_toArray, List.set_cons_zero, List.set_cons_succ]
  refine Held.take (i := 4) (oi := { dst := some 24, op := Op.fieldAddr 24 (Operand.tmp 1) 2, type := 0, pos := "ref.go:102", after := #[{ on := 10, ground := Ground.gcOnly Departure.lateStores }], guard := none }) (v := ?_) false [] rfl (by decide) (by kernel_rfl) (by kernel_rfl) (by kernel_rfl) (by kernel_rfl) (fun _ _ _ h => nomatch h.1) (Or.inl ⟨by rfl, ?_⟩) ?_
  rotate_left
  · rintro w ⟨hS0, hS1⟩
    clear hS1
    (try dsimp only at hS0)
    go_simp
    (try with_reducible rfl)
  try simp only [Act.put, List.setIfInBounds_toArray, List.set_cons_zero, List.set_cons_succ]
  refine Held.take (i := 5) (oi := { dst := some 25, op := Op.load 22 (Operand.tmp 24), type := 22, pos := "ref.go:102", after := #[{ on := 4, ground := Ground.data }, { on := 10, ground := Ground.gcOnly Departure.lateStores }], guard := none }) (v := ?_) false [] rfl (by decide) (by kernel_rfl) (by kernel_rfl) (by kernel_rfl) (by kernel_rfl) (fun _ _ _ h => nomatch h.1) (Or.inl ⟨by rfl, ?_⟩) ?_
  rotate_left
  · rintro w ⟨hS0, hS1⟩
    clear hS1
    (try dsimp only at hS0)
    go_simp
    (try with_reducible rfl)
  try simp only [Act.put, List.setIfInBounds_toArray, List.set_cons_zero, List.set_cons_succ]
  refine Held.take (i := 6) (oi := { dst := some 26, op := Op.indexAddr 22 (Operand.tmp 25) (Operand.const (Value.int IntKind.i64 1)), type := 0, pos := "ref.go:102", after := #[{ on := 5, ground := Ground.data }, { on := 10, ground := Ground.gcOnly Departure.lateStores }], guard := none }) (v := ?_) false [] rfl (by decide) (by kernel_rfl) (by kernel_rfl) (by kernel_rfl) (by kernel_rfl) (fun _ _ _ h => nomatch h.1) (Or.inl ⟨by rfl, ?_⟩) ?_
  rotate_left
  · rintro w ⟨hS0, hS1⟩
    clear hS1
    (try dsimp only at hS0)
    go_simp
    (try with_reducible rfl)
  try simp only [Act.put, List.setIfInBounds_toArray, List.set_cons_zero, List.set_cons_succ]
  refine Held.take (i := 7) (oi := { dst := some 27, op := Op.load 24 (Operand.tmp 26), type := 24, pos := "ref.go:102", after := #[{ on := 6, ground := Ground.data }, { on := 10, ground := Ground.gcOnly Departure.lateStores }], guard := none }) (v := ?_) false [] rfl (by decide) (by kernel_rfl) (by kernel_rfl) (by kernel_rfl) (by kernel_rfl) (fun _ _ _ h => nomatch h.1) (Or.inl ⟨by rfl, ?_⟩) ?_
  rotate_left
  · rintro w ⟨hS0, hS1⟩
    clear hS1
    (try dsimp only at hS0)
    go_simp
    (try with_reducible rfl)
  try simp only [Act.put, List.setIfInBounds_toArray, List.set_cons_zero, List.set_cons_succ]
  refine Held.step2 (i := 8) (j := 9) (o := { dst := some 3, op := Op.alloc 24, type := 0, pos := "ref.go:102", after := #[], guard := none }) (o' := { dst := some 4, op := Op.alloc 24, type := 0, pos := "ref.go:102", after := #[], guard := none }) rfl rfl (by kernel_rfl) (fun K hK => ?_) (fun K hK => ?_)
  go_simp
  refine hK.out _ _ ⟨KP.out _ (((Below.refl _ W2).drew).alloc (Nat.le_refl _) _), fun _ => trivial⟩ ?_
  clear hK K
  try simp only [Act.put, List.setIfInBounds_toArray, List.set_cons_zero, List.set_cons_succ]
  refine Held.step (i := 9) (o := { dst := some 4, op := Op.alloc 24, type := 0, pos := "ref.go:102", after := #[], guard := none }) rfl (by kernel_rfl) (fun K hK => ?_)
  go_simp
  refine hK.out _ _ ⟨KP.out _ ((((Below.refl _ W2).drew).alloc (Nat.le_refl _) _).alloc (by simp) _), fun _ => trivial⟩ ?_
  clear hK K
  try simp only [Act.put, List.setIfInBounds_toArray, List.set_cons_zero, List.set_cons_succ]
  refine Held.step (i := 10) (o := { dst := none, op := Op.store 24 (Operand.tmp 3) (Operand.tmp 23), type := 0, pos := "ref.go:102", after := #[{ on := 8, ground := Ground.data }, { on := 3, ground := Ground.data }, { on := 0, ground := Ground.phase }, { on := 1, ground := Ground.phase }, { on := 2, ground := Ground.phase }, { on := 3, ground := Ground.phase }, { on := 4, ground := Ground.textOnly Departure.lateStores }, { on := 5, ground := Ground.textOnly Departure.lateStores }, { on := 6, ground := Ground.textOnly Departure.lateStores }, { on := 7, ground := Ground.textOnly Departure.lateStores }, { on := 8, ground := Ground.phase }, { on := 9, ground := Ground.phase }], guard := none }) rfl (by kernel_rfl) (fun K hK => ?_)
  go_simp
  refine hK.out _ _ ⟨KP.out _ ((((Below.refl _ W2).drew).alloc (Nat.le_refl _) _).alloc (by simp) _), fun _ => trivial⟩ ?_
  clear hK K
  try simp only [Act.put, List.setIfInBounds_toArray, List.set_cons_zero, List.set_cons_succ]
  refine Held.step (i := 11) (o := { dst := none, op := Op.store 24 (Operand.tmp 4) (Operand.tmp 27), type := 0, pos := "ref.go:102", after := #[{ on := 9, ground := Ground.data }, { on := 7, ground := Ground.data }, { on := 10, ground := Ground.chain }, { on := 0, ground := Ground.phase }, { on := 1, ground := Ground.phase }, { on := 2, ground := Ground.phase }, { on := 3, ground := Ground.phase }, { on := 4, ground := Ground.phase }, { on := 5, ground := Ground.phase }, { on := 6, ground := Ground.phase }, { on := 7, ground := Ground.phase }, { on := 8, ground := Ground.phase }, { on := 9, ground := Ground.phase }, { on := 10, ground := Ground.phase }], guard := none }) rfl (by kernel_rfl) (fun K hK => ?_)
  go_simp
  refine hK.out _ _ ⟨KP.out _ ((((Below.refl _ W2).drew).alloc (Nat.le_refl _) _).alloc (by simp) _), fun _ => trivial⟩ ?_
  clear hK K
  try simp only [Act.put, List.setIfInBounds_toArray, List.set_cons_zero, List.set_cons_succ]
  refine Held.done (by kernel_rfl) ?_ _
  exact ⟨rfl, W2.heap.size, (W2.heap.size + 1), rfl, B2.out.trans (((((Below.refl _ W2).alloc (Nat.le_refl _) _).alloc (by simp) _).drew).mono B2.out.size), ((Whole.new W2 24 #[.int .i64 k0.kind, .string k0.text, .slice A0 k0.kids.length c0, .int .i64 k0.place]).alloc (.cells #[.int .i64 k1.kind, .string k1.text, .slice A1 k1.kids.length c1, .int .i64 k1.place] 24)).drew, (by have := Whole.new (W2.alloc (.cells #[.int .i64 k0.kind, .string k0.text, .slice A0 k0.kids.length c0, .int .i64 k0.place] 24)) 24 #[.int .i64 k1.kind, .string k1.text, .slice A1 k1.kids.length c1, .int .i64 k1.place]; rw [World.size_alloc] at this; exact this.drew)⟩
  go_simp
  refine hK.out _ _ ⟨KP.out _ (((Below.refl _ W2).drew).alloc (Nat.le_refl _) _), fun _ => trivial⟩ ?_
  clear hK K
  try simp only [Act.put, List.setIfInBounds_toArray, List.set_cons_zero, List.set_cons_succ]
  refine Held.step (i := 8) (o := { dst := some 3, op := Op.alloc 24, type := 0, pos := "ref.go:102", after := #[], guard := none }) rfl (by kernel_rfl) (fun K hK => ?_)
  go_simp
  refine hK.out _ _ ⟨KP.out _ ((((Below.refl _ W2).drew).alloc (Nat.le_refl _) _).alloc (by simp) _), fun _ => trivial⟩ ?_
  clear hK K
  try simp only [Act.put, List.setIfInBounds_toArray, List.set_cons_zero, List.set_cons_succ]
  refine Held.step (i := 10) (o := { dst := none, op := Op.store 24 (Operand.tmp 3) (Operand.tmp 23), type := 0, pos := "ref.go:102", after := #[{ on := 8, ground := Ground.data }, { on := 3, ground := Ground.data }, { on := 0, ground := Ground.phase }, { on := 1, ground := Ground.phase }, { on := 2, ground := Ground.phase }, { on := 3, ground := Ground.phase }, { on := 4, ground := Ground.textOnly Departure.lateStores }, { on := 5, ground := Ground.textOnly Departure.lateStores }, { on := 6, ground := Ground.textOnly Departure.lateStores }, { on := 7, ground := Ground.textOnly Departure.lateStores }, { on := 8, ground := Ground.phase }, { on := 9, ground := Ground.phase }], guard := none }) rfl (by kernel_rfl) (fun K hK => ?_)
  go_simp
  refine hK.out _ _ ⟨KP.out _ ((((Below.refl _ W2).drew).alloc (Nat.le_refl _) _).alloc (by simp) _), fun _ => trivial⟩ ?_
  clear hK K
  try simp only [Act.put, List.setIfInBounds_toArray, List.set_cons_zero, List.set_cons_succ]
  refine Held.step (i := 11) (o := { dst := none, op := Op.store 24 (Operand.tmp 4) (Operand.tmp 27), type := 0, pos := "ref.go:102", after := #[{ on := 9, ground := Ground.data }, { on := 7, ground := Ground.data }, { on := 10, ground := Ground.chain }, { on := 0, ground := Ground.phase }, { on := 1, ground := Ground.phase }, { on := 2, ground := Ground.phase }, { on := 3, ground := Ground.phase }, { on := 4, ground := Ground.phase }, { on := 5, ground := Ground.phase }, { on := 6, ground := Ground.phase }, { on := 7, ground := Ground.phase }, { on := 8, ground := Ground.phase }, { on := 9, ground := Ground.phase }, { on := 10, ground := Ground.phase }], guard := none }) rfl (by kernel_rfl) (fun K hK => ?_)
  go_simp
  refine hK.out _ _ ⟨KP.out _ ((((Below.refl _ W2).drew).alloc (Nat.le_refl _) _).alloc (by simp) _), fun _ => trivial⟩ ?_
  clear hK K
  try simp only [Act.put, List.setIfInBounds_toArray, List.set_cons_zero, List.set_cons_succ]
  refine Held.done (by kernel_rfl) ?_ _
  exact ⟨rfl, (W2.heap.size + 1), W2.heap.size, rfl, B2.out.trans (((((Below.refl _ W2).alloc (Nat.le_refl _) _).alloc (by simp) _).drew).mono B2.out.size), (by have := Whole.new (W2.alloc (.cells #[.int .i64 k1.kind, .string k1.text, .slice A1 k1.kids.length c1, .int .i64 k1.place] 24)) 24 #[.int .i64 k0.kind, .string k0.text, .slice A0 k0.kids.length c0, .int .i64 k0.place]; rw [World.size_alloc] at this; exact this.drew), ((Whole.new W2 24 #[.int .i64 k1.kind, .string k1.text, .slice A1 k1.kids.length c1, .int .i64 k1.place]).alloc (.cells #[.int .i64 k0.kind, .string k0.text, .slice A0 k0.kids.length c0, .int .i64 k0.place] 24)).drew⟩

end Go.Proofs.YtkmhijkpbmcgbaaGreat
