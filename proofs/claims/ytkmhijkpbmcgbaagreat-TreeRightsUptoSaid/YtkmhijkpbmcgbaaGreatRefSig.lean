/-
  The reference's Sig.
-/
import Derived.Test.YtkmhijkpbmcgbaaGreatRefA
import Derived.Test.YtkmhijkpbmcgbaaGreatWake
namespace Go.Proofs.YtkmhijkpbmcgbaaGreat
set_option linter.all false
open Go.RowKit Go.Shelf

theorem NdV.lst0 {w : World} {f : Nat} {n : Nd} {A : Option Addr} {c : Nat} (h : NdV w f (n.val A c) n) : LstAt w f n.kids A := by
  cases f with
  | zero => exact h.elim
  | succ f =>
    intro h0
    obtain ⟨b, off, hA, hi⟩ := h.lst h0
    refine ⟨b, off, hA, fun i k hk => ?_⟩
    obtain ⟨A', c', q0, q1, q2, q3, q5⟩ := hi i k hk
    exact ⟨A', c', q0, q1, q2, q3, q5.up⟩
theorem named_eq {n : Nd} {r : Bool} {K : Int} {qs : List (Nd → Bool)} (hK : K ≠ 37) : ofN (namedN n r) K qs = (r && (n.kind == K && (n.kids.length == qs.length && (n.kids.zip qs).all (fun x => x.2 x.1)))) := by
  cases r with
  | true =>
    have e : (namedN n true).text.toList.isEmpty = true := by
      show (⟨#[]⟩ : ByteArray).toList.isEmpty = true
      rw [no_text]; rfl
    unfold ofN
    rw [e]
    show (n.kind == K && true && (n.kids.length == qs.length) && (n.kids.zip qs).all (fun x => x.2 x.1)) = _
    cases (n.kind == K) <;> cases (n.kids.length == qs.length) <;> rfl
  | false =>
    unfold ofN
    have e : ((namedN n false).kind == K) = false := by
      show ((37 : Int) == K) = false
      rw [beq_eq_false_iff_ne]
      exact fun e => hK e.symm
    rw [e]
    rfl
theorem empty_beq (s : ByteArray) : s.toList.isEmpty = (s.toList == []) := by cases s.toList <;> rfl
theorem of_eq {n : Nd} {K : Int} {qs : List (Nd → Bool)} : ofN n K qs = (n.kind == K && (n.text.toList == [] && (n.kids.length == qs.length && (n.kids.zip qs).all (fun x => x.2 x.1)))) := by
  unfold ofN
  rw [empty_beq]
  cases (n.kind == K) <;> cases (n.text.toList == []) <;> cases (n.kids.length == qs.length) <;> rfl
theorem kids1 {n : Nd} {k : Nd} (h : n.kids.length = 1) (hk : n.kids[0]? = some k) : n.kids = [k] := by
  cases hL : n.kids with
  | nil => rw [hL] at h; simp at h
  | cons x l =>
    rw [hL] at h hk
    have : l = [] := List.length_eq_zero_iff.1 (by simpa using h)
    have e : x = k := by simpa using hk
    rw [this, e]
theorem kids2 {n : Nd} {k0 k1 : Nd} (h : n.kids.length = 2) (h0 : n.kids[0]? = some k0) (h1 : n.kids[1]? = some k1) : n.kids = [k0, k1] := by
  cases hL : n.kids with
  | nil => rw [hL] at h; simp at h
  | cons x l =>
    cases l with
    | nil => rw [hL] at h; simp at h
    | cons y l2 =>
      rw [hL] at h h0 h1
      have : l2 = [] := List.length_eq_zero_iff.1 (by simpa using h)
      have e0 : x = k0 := by simpa using h0
      have e1 : y = k1 := by simpa using h1
      rw [this, e0, e1]

set_option maxRecDepth 100000 in
set_option maxHeartbeats 2000000 in
theorem rsig_any (g : Q → Nd → Bool) (F : Nat) (names : Bool) (so : ByteArray → Bool) (hso : so = if names then nameB else noneB) (v : Value) (n : Nd) (w : World) (T : SaysF w F 19 #[] (g .typ)) (hft : Fits n) (hv : NdV w (F + 1) v n) :
    Calls Tryz.prog 22 #[v, .bool names] w fun e w' => e = .returned (.bool (sigB g so n)) ∧ Below w.heap.size w w' := by
  obtain ⟨A, c, rfl, hm⟩ := hv.val
  have hb : Below w.heap.size w (w.alloc (.cells (cellsOf n A c) 24)) := (Below.refl _ w).alloc (Nat.le_refl _) _
  have hw := Whole.new w 24 (cellsOf n A c)
  have LK := Lib.hid hv.lst
  have HS := Lib.hid T
  have HF := Lib.hid fun k hk => hft.kid (k := k) hk
  have BX := Lib.hid fun W (h : Below (w.alloc (.cells (cellsOf n A c) 24)).heap.size (w.alloc (.cells (cellsOf n A c) 24)) W) => box_cells hw h
  have HB := Lib.hid hb
  have HSO := Lib.hid hso
  clear T hft hv hb hw hso
  unfold sigB
  rw [of_eq]
  unfold Nd.val
  obtain ⟨W1, hW1⟩ : ∃ W1, W1 = w.alloc (.cells (cellsOf n A c) 24) := ⟨_, rfl⟩
  rw [← hW1] at BX HB
  have hW2 : w.alloc (.cells #[.int .i64 n.kind, .string n.text, .slice A n.kids.length c, .int .i64 n.place] 24) = W1 := hW1.symm
  have HW := Lib.hid hW2
  clear hW1 hW2
  cases h1 : (n.kind == 12) with
  | false =>
    have h1n : (n.kind != 12) = true := by simp only [bne, h1]; rfl
    go_enter Tryz.func22, Tryz.ntmps22
    go_wp2_with fail
    go_ret
    exact ⟨rfl, by rw [HW.out]; exact HB.out⟩
  | true =>
  have h1n : (n.kind != 12) = false := by simp only [bne, h1]; rfl
  cases h2 : (n.text.toList == []) with
  | false =>
    go_enter Tryz.func22, Tryz.ntmps22
    go_wp2_with fail
    go_ret
    exact ⟨rfl, by rw [HW.out]; exact HB.out⟩
  | true =>
  by_cases hl : n.kids.length = 2
  · obtain ⟨b, off, k0, A0, c0, hA, hk0, hq0⟩ := LK.out.kidP (p := 0) (by omega)
    obtain ⟨b', off', k1, A1, c1, hA1, hk1, hq1⟩ := LK.out.kidP (p := 1) (by omega)
    rw [hA] at hA1
    injection hA1 with hA1
    injection hA1 with e1 e2
    subst e1 e2 hA
    have hE : (n.kids.length == [listB (paramB g so), fun k => emptyB k || g .typ k].length && (n.kids.zip [listB (paramB g so), fun k => emptyB k || g .typ k]).all (fun x => x.2 x.1)) = (listB (paramB g so) k0 && (emptyB k1 || g .typ k1)) := by
      rw [kids2 hl hk0 hk1]
      simp
    have f0 := HF.out k0 (List.mem_of_getElem? hk0)
    have f1 := HF.out k1 (List.mem_of_getElem? hk1)
    have hS0 := fun W h => (hq0 W h).2.2.2.2.2
    have L0 := Lib.hid ((hS0 w (Below.refl _ _)).lst0)
    have hm0 : k0.kids.length ≤ 9223372036854775807 := by
      obtain ⟨_, _, _, h⟩ := (hS0 w (Below.refl _ _)).val
      exact h
    simp only [Nat.zero_mul, Nat.add_zero, Nat.one_mul] at hq0 hq1
    have Q0 := Lib.hid hq0
    have Q1 := Lib.hid hq1
    have F0 := Lib.hid f0
    have F1 := Lib.hid f1
    rw [hE]
    rw [hl] at BX HW ⊢
    have l0 : (0 : Nat) < 2 := by omega
    have l1 : (1 : Nat) < 2 := by omega
    clear hE f0 f1 hq0 hq1 hk0 hk1 hS0
    obtain ⟨hbl, q00, q01, q02, q03, _⟩ := Q0.out _ (Below.refl _ _)
    obtain ⟨_, q10, q11, q12, q13, _⟩ := Q1.out _ (Below.refl _ _)
    unfold listB
    cases h3 : (k0.kind == 6) with
    | false =>
      have h3n : (k0.kind != 6) = true := by simp only [bne, h3]; rfl
      go_enter Tryz.func22, Tryz.ntmps22
      go_wp2_with fail
      go_ret
      exact ⟨rfl, by rw [HW.out]; exact HB.out⟩
    | true =>
    have h3n : (k0.kind != 6) = false := by simp only [bne, h3]; rfl
    cases h4 : (k0.text.toList == []) with
    | false =>
      go_enter Tryz.func22, Tryz.ntmps22
      go_wp2_with fail
      go_ret
      exact ⟨rfl, by rw [HW.out]; exact HB.out⟩
    | true =>
    go_enter Tryz.func22, Tryz.ntmps22
    go_wp2_with fail
    rw [HW.out]
    clear hbl q00 q01 q02 q03 q10 q11 q12 q13
    have NO := Lib.hid fun W h => nothing_any F _ k1 W ((Q1.out W h).2.2.2.2.2)
    have TY := Lib.hid fun W h => HS.out.2 W _ k1 h F1.out ((Q1.out W h).2.2.2.2.2)
    unfold Nd.val at NO TY
    refine (NO.out _ HB.out).mono ?_
    rintro e W2 ⟨rfl, b2⟩
    have B2 := Lib.hid b2
    have HC := Lib.hid (HB.out.trans (b2.mono HB.out.size))
    clear b2 NO
    obtain ⟨x0, x1, x2, x3, x4⟩ := BX.out _ B2.out
    obtain ⟨hbl, q00, q01, q02, q03, _⟩ := Q0.out _ HC.out
    obtain ⟨_, q10, q11, q12, q13, _⟩ := Q1.out _ HC.out
    cases hem : emptyB k1
    case false =>
      go_wp2_with fail
      refine (TY.out _ HC.out).mono ?_
      rintro e W3 ⟨rfl, b3⟩
      have B3 := Lib.hid (B2.out.trans (b3.mono B2.out.size))
      have HD := Lib.hid (HC.out.trans (b3.mono HC.out.size))
      clear b3 TY x0 x1 x2 x3 x4 q00 q01 q02 q03 q10 q11 q12 q13 hbl
      obtain ⟨x0, x1, x2, x3, x4⟩ := BX.out _ B3.out
      obtain ⟨hbl, q00, q01, q02, q03, _⟩ := Q0.out _ HD.out
      cases hty : g .typ k1
      case false =>
        go_wp2_with fail
        go_ret
        exact ⟨by rw [hem, hty]; simp, HD.out⟩
      case true =>
        go_wp2_with fail
        go_loopw [6] (fun i W => LoopRel W3 k0.kids (paramB g so) i W) (fun i _ => k0.kids.length - (intOf i).toNat)
        case atStart => exact ⟨0, Nat.zero_le _, rfl, Below.refl _ _, by simp⟩
        case round =>
          obtain ⟨p, hp, rfl, hb, ha⟩ := hrel
          have HA := Lib.hid ha
          have HE := Lib.hid (HD.out.trans (hb.mono HD.out.size))
          have HG := Lib.hid hb
          clear hb ha
          by_cases hpl : p < k0.kids.length
          · obtain ⟨bx, ox, x, Ax, cx, rfl, hk, hq⟩ := L0.out.kidP hpl
            have HK := Lib.hid hk
            have QX := Lib.hid hq
            have FX := Lib.hid (F0.out.kid (List.mem_of_getElem? hk))
            have hp2 : p < 9223372036854775807 := by omega
            obtain ⟨hbx, p0, p1, p2, p3, _⟩ := hq _ HE.out
            have hpar : paramB g so x = (so x.text && (x.kind == 8 && (x.kids.length == 1 && (x.kids.zip [g .typ]).all (fun x => x.2 x.1)))) := named_eq (by omega)
            have HPR := Lib.hid hpar
            clear hq hk hpar
            cases e1 : (x.kind == 8)
            case false =>
              have e1n : (x.kind != 8) = true := by simp only [bne, e1]; rfl
              have HR := Lib.hid (all_no (q := paramB g so) HK.out (by rw [HPR.out, e1]; simp))
              go_wp2_with fail
              go_ret
              exact ⟨by rw [hem, hty]; rw [HR.out]; rfl, HE.out⟩
            case true =>
            have e1n : (x.kind != 8) = false := by simp only [bne, e1]; rfl
            by_cases e2 : x.kids.length = 1
            case neg =>
              have e2b : (x.kids.length == 1) = false := by simpa using e2
              have e2i : ((x.kids.length : Int) == 1) = false := by rw [beq_eq_false_iff_ne]; omega
              have e2n : ((x.kids.length : Int) != 1) = true := by simp only [bne, e2i]; rfl
              have HR := Lib.hid (all_no (q := paramB g so) HK.out (by rw [HPR.out, e2b]; simp))
              go_wp2_with fail
              go_ret
              exact ⟨by rw [hem, hty]; rw [HR.out]; rfl, HE.out⟩
            case pos =>
            have hzip : (x.kids.length == 1) = true := by rw [e2]; rfl
            obtain ⟨by_, oy, y, Ay, cy, hAx, hky, hqy⟩ := (QX.out _ HE.out).2.2.2.2.2.lst0.kidP (p := 0) (by omega)
            have hz : (x.kids.zip [g .typ]).all (fun x => x.2 x.1) = g .typ y := by rw [kids1 e2 hky]; simp
            have hp4 : paramB g so x = (so x.text && g .typ y) := by rw [HPR.out, e1, hzip, hz]; simp
            have HP4 := Lib.hid hp4
            obtain ⟨hby, r0, r1, r2, r3, r5⟩ := hqy _ (Below.refl _ _)
            have TQ := Lib.hid (HS.out.2 _ _ y HE.out (FX.out.kid (List.mem_of_getElem? hky)) r5)
            rw [e2, hAx] at p2
            simp only [Nat.zero_mul, Nat.add_zero] at r0 r1 r2 r3
            have l9 : (0 : Nat) < 1 := by omega
            clear hz hzip hp4 hqy r5 hky HPR
            unfold Nd.val at TQ
            go_wp2_with fail
            refine TQ.out.mono ?_
            rintro e W5 ⟨rfl, b5⟩
            have G5 := Lib.hid (HG.out.trans (b5.mono HG.out.size))
            have H5 := Lib.hid (HE.out.trans (b5.mono HE.out.size))
            clear b5 TQ p0 p1 p2 p3 r0 r1 r2 r3 hby hbx
            obtain ⟨hbx, p0, p1, p2, p3, _⟩ := QX.out _ H5.out
            cases ety : g .typ y
            case false =>
              have HR := Lib.hid (all_no (q := paramB g so) HK.out (by rw [HP4.out, ety]; simp))
              go_wp2_with fail
              go_ret
              exact ⟨by rw [hem, hty]; rw [HR.out]; rfl, H5.out⟩
            case true =>
            cases names
            case false =>
              have hs : so x.text = (x.text.toList == []) := by rw [HSO.out]; rfl
              cases et : (x.text.toList == [])
              case false =>
                have HR := Lib.hid (all_no (q := paramB g so) HK.out (by rw [HP4.out, hs, et]; rfl))
                clear hs
                go_wp2_with fail
                go_ret
                exact ⟨by rw [hem, hty]; rw [HR.out]; rfl, H5.out⟩
              case true =>
                have HR := Lib.hid (all_yes (q := paramB g so) HK.out HA.out (by rw [HP4.out, hs, et, ety]; rfl))
                clear hs
                go_wp2_with fail
                go_roundw
                case rel => exact ⟨p + 1, hpl, rfl, G5.out, HR.out⟩
                case measure => simp [intOf]; omega
            case true =>
              have hs : so x.text = nameB x.text := by rw [HSO.out]; rfl
              have NQ := Lib.hid (rname_any x.text W5)
              cases en : nameB x.text
              case false =>
                rw [en] at NQ
                have HR := Lib.hid (all_no (q := paramB g so) HK.out (by rw [HP4.out, hs, en]; rfl))
                clear hs
                go_wp2_with fail
                refine NQ.out.mono ?_
                rintro e W6 ⟨rfl, b6⟩
                have H6 := Lib.hid (H5.out.trans (b6.mono H5.out.size))
                clear b6
                go_wp2_with fail
                go_ret
                exact ⟨by rw [hem, hty]; rw [HR.out]; rfl, H6.out⟩
              case true =>
                rw [en] at NQ
                have HR := Lib.hid (all_yes (q := paramB g so) HK.out HA.out (by rw [HP4.out, hs, en, ety]; rfl))
                clear hs
                go_wp2_with fail
                refine NQ.out.mono ?_
                rintro e W6 ⟨rfl, b6⟩
                have G6 := Lib.hid (G5.out.trans (b6.mono G5.out.size))
                clear b6
                go_wp2_with fail
                go_roundw
                case rel => exact ⟨p + 1, hpl, rfl, G6.out, HR.out⟩
                case measure => simp [intOf]; omega
          · have HR := Lib.hid (all_end hpl HA.out)
            go_wp2_with fail
            go_ret
            exact ⟨by rw [hem, hty]; rw [HR.out]; rfl, HE.out⟩
    case true =>
      go_wp2_with fail
      go_loopw [6] (fun i W => LoopRel W2 k0.kids (paramB g so) i W) (fun i _ => k0.kids.length - (intOf i).toNat)
      case atStart => exact ⟨0, Nat.zero_le _, rfl, Below.refl _ _, by simp⟩
      case round =>
        obtain ⟨p, hp, rfl, hb, ha⟩ := hrel
        have HA := Lib.hid ha
        have HE := Lib.hid (HC.out.trans (hb.mono HC.out.size))
        have HG := Lib.hid hb
        clear hb ha
        by_cases hpl : p < k0.kids.length
        · obtain ⟨bx, ox, x, Ax, cx, rfl, hk, hq⟩ := L0.out.kidP hpl
          have HK := Lib.hid hk
          have QX := Lib.hid hq
          have FX := Lib.hid (F0.out.kid (List.mem_of_getElem? hk))
          have hp2 : p < 9223372036854775807 := by omega
          obtain ⟨hbx, p0, p1, p2, p3, _⟩ := hq _ HE.out
          have hpar : paramB g so x = (so x.text && (x.kind == 8 && (x.kids.length == 1 && (x.kids.zip [g .typ]).all (fun x => x.2 x.1)))) := named_eq (by omega)
          have HPR := Lib.hid hpar
          clear hq hk hpar
          cases e1 : (x.kind == 8)
          case false =>
            have e1n : (x.kind != 8) = true := by simp only [bne, e1]; rfl
            have HR := Lib.hid (all_no (q := paramB g so) HK.out (by rw [HPR.out, e1]; simp))
            go_wp2_with fail
            go_ret
            exact ⟨by rw [hem]; rw [HR.out]; rfl, HE.out⟩
          case true =>
          have e1n : (x.kind != 8) = false := by simp only [bne, e1]; rfl
          by_cases e2 : x.kids.length = 1
          case neg =>
            have e2b : (x.kids.length == 1) = false := by simpa using e2
            have e2i : ((x.kids.length : Int) == 1) = false := by rw [beq_eq_false_iff_ne]; omega
            have e2n : ((x.kids.length : Int) != 1) = true := by simp only [bne, e2i]; rfl
            have HR := Lib.hid (all_no (q := paramB g so) HK.out (by rw [HPR.out, e2b]; simp))
            go_wp2_with fail
            go_ret
            exact ⟨by rw [hem]; rw [HR.out]; rfl, HE.out⟩
          case pos =>
          have hzip : (x.kids.length == 1) = true := by rw [e2]; rfl
          obtain ⟨by_, oy, y, Ay, cy, hAx, hky, hqy⟩ := (QX.out _ HE.out).2.2.2.2.2.lst0.kidP (p := 0) (by omega)
          have hz : (x.kids.zip [g .typ]).all (fun x => x.2 x.1) = g .typ y := by rw [kids1 e2 hky]; simp
          have hp4 : paramB g so x = (so x.text && g .typ y) := by rw [HPR.out, e1, hzip, hz]; simp
          have HP4 := Lib.hid hp4
          obtain ⟨hby, r0, r1, r2, r3, r5⟩ := hqy _ (Below.refl _ _)
          have TQ := Lib.hid (HS.out.2 _ _ y HE.out (FX.out.kid (List.mem_of_getElem? hky)) r5)
          rw [e2, hAx] at p2
          simp only [Nat.zero_mul, Nat.add_zero] at r0 r1 r2 r3
          have l9 : (0 : Nat) < 1 := by omega
          clear hz hzip hp4 hqy r5 hky HPR
          unfold Nd.val at TQ
          go_wp2_with fail
          refine TQ.out.mono ?_
          rintro e W5 ⟨rfl, b5⟩
          have G5 := Lib.hid (HG.out.trans (b5.mono HG.out.size))
          have H5 := Lib.hid (HE.out.trans (b5.mono HE.out.size))
          clear b5 TQ p0 p1 p2 p3 r0 r1 r2 r3 hby hbx
          obtain ⟨hbx, p0, p1, p2, p3, _⟩ := QX.out _ H5.out
          cases ety : g .typ y
          case false =>
            have HR := Lib.hid (all_no (q := paramB g so) HK.out (by rw [HP4.out, ety]; simp))
            go_wp2_with fail
            go_ret
            exact ⟨by rw [hem]; rw [HR.out]; rfl, H5.out⟩
          case true =>
          cases names
          case false =>
            have hs : so x.text = (x.text.toList == []) := by rw [HSO.out]; rfl
            cases et : (x.text.toList == [])
            case false =>
              have HR := Lib.hid (all_no (q := paramB g so) HK.out (by rw [HP4.out, hs, et]; rfl))
              clear hs
              go_wp2_with fail
              go_ret
              exact ⟨by rw [hem]; rw [HR.out]; rfl, H5.out⟩
            case true =>
              have HR := Lib.hid (all_yes (q := paramB g so) HK.out HA.out (by rw [HP4.out, hs, et, ety]; rfl))
              clear hs
              go_wp2_with fail
              go_roundw
              case rel => exact ⟨p + 1, hpl, rfl, G5.out, HR.out⟩
              case measure => simp [intOf]; omega
          case true =>
            have hs : so x.text = nameB x.text := by rw [HSO.out]; rfl
            have NQ := Lib.hid (rname_any x.text W5)
            cases en : nameB x.text
            case false =>
              rw [en] at NQ
              have HR := Lib.hid (all_no (q := paramB g so) HK.out (by rw [HP4.out, hs, en]; rfl))
              clear hs
              go_wp2_with fail
              refine NQ.out.mono ?_
              rintro e W6 ⟨rfl, b6⟩
              have H6 := Lib.hid (H5.out.trans (b6.mono H5.out.size))
              clear b6
              go_wp2_with fail
              go_ret
              exact ⟨by rw [hem]; rw [HR.out]; rfl, H6.out⟩
            case true =>
              rw [en] at NQ
              have HR := Lib.hid (all_yes (q := paramB g so) HK.out HA.out (by rw [HP4.out, hs, en, ety]; rfl))
              clear hs
              go_wp2_with fail
              refine NQ.out.mono ?_
              rintro e W6 ⟨rfl, b6⟩
              have G6 := Lib.hid (G5.out.trans (b6.mono G5.out.size))
              clear b6
              go_wp2_with fail
              go_roundw
              case rel => exact ⟨p + 1, hpl, rfl, G6.out, HR.out⟩
              case measure => simp [intOf]; omega
        · have HR := Lib.hid (all_end hpl HA.out)
          go_wp2_with fail
          go_ret
          exact ⟨by rw [hem]; rw [HR.out]; rfl, HE.out⟩
  · have hl1 : (n.kids.length == [listB (paramB g so), fun k => emptyB k || g .typ k].length) = false := by
      simp only [List.length_cons, List.length_nil]
      simpa using hl
    have a1 : ((n.kids.length : Int) == 2) = false := by
      rw [beq_eq_false_iff_ne]; omega
    have a2 : ((n.kids.length : Int) != 2) = true := by simp only [bne, a1]; rfl
    rw [hl1]
    clear hl1
    go_enter Tryz.func22, Tryz.ntmps22
    go_wp2_with fail
    go_ret
    exact ⟨rfl, by rw [HW.out]; exact HB.out⟩

end Go.Proofs.YtkmhijkpbmcgbaaGreat
