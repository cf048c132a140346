/-
  The reference's constraints.
  The reference's structs.
  The reference's parameters of types.
-/
import Derived.Test.YtkmhijkpbmcgbaaGreatRefSig
namespace Go.Proofs.YtkmhijkpbmcgbaaGreat
set_option linter.all false
open Go.RowKit Go.Shelf

set_option maxRecDepth 100000 in
set_option maxHeartbeats 2000000 in
theorem rinter_any (g : Q → Nd → Bool) (F : Nat) (v : Value) (n : Nd) (w : World) (T : SaysF w F 19 #[] (g .typ)) (hft : Fits n) (hv : NdV w (F + 1) v n) :
    Calls Tryz.prog 41 #[v] w fun e w' => e = .returned (.bool (interB g n)) ∧ Below w.heap.size w w' := by
  obtain ⟨A, c, rfl, hm⟩ := hv.val
  have hb : Below w.heap.size w (w.alloc (.cells (cellsOf n A c) 24)) := (Below.refl _ w).alloc (Nat.le_refl _) _
  have hw := Whole.new w 24 (cellsOf n A c)
  have LK := Lib.hid hv.lst
  have HS := Lib.hid T
  have HF := Lib.hid fun k hk => hft.kid (k := k) hk
  have hm2 : n.kids.length ≤ 9223372036854775807 := hm
  have BX := Lib.hid fun W (h : Below (w.alloc (.cells (cellsOf n A c) 24)).heap.size (w.alloc (.cells (cellsOf n A c) 24)) W) => box_cells hw h
  have HB := Lib.hid hb
  clear T hft hv hb hw
  unfold interB
  unfold Nd.val
  obtain ⟨W1, hW1⟩ : ∃ W1, W1 = w.alloc (.cells (cellsOf n A c) 24) := ⟨_, rfl⟩
  rw [← hW1] at BX HB
  have hW2 : w.alloc (.cells #[.int .i64 n.kind, .string n.text, .slice A n.kids.length c, .int .i64 n.place] 24) = W1 := hW1.symm
  have HW := Lib.hid hW2
  clear hW1 hW2
  cases h1 : (n.kind == 14)
  case false =>
    have h1n : (n.kind != 14) = true := by simp only [bne, h1]; rfl
    go_enter Tryz.func41, Tryz.ntmps41
    go_wp2_with fail
    go_ret
    exact ⟨rfl, by rw [HW.out]; exact HB.out⟩
  case true =>
  have h1n : (n.kind != 14) = false := by simp only [bne, h1]; rfl
  cases h2 : (n.text.toList == [])
  case false =>
    go_enter Tryz.func41, Tryz.ntmps41
    go_wp2_with fail
    go_ret
    exact ⟨rfl, by rw [HW.out]; exact HB.out⟩
  case true =>
  by_cases h3 : n.kids.length = 0
  case pos =>
    have a1 : decide (0 < n.kids.length) = false := decide_eq_false (by omega)
    have a2 : ((n.kids.length : Int) == 0) = true := by rw [h3]; rfl
    rw [a1]
    clear h3
    go_enter Tryz.func41, Tryz.ntmps41
    go_wp2_with fail
    go_ret
    exact ⟨rfl, by rw [HW.out]; exact HB.out⟩
  case neg =>
  have a1 : decide (0 < n.kids.length) = true := decide_eq_true (by omega)
  have a2 : ((n.kids.length : Int) == 0) = false := by rw [beq_eq_false_iff_ne]; omega
  have a3 : ¬ n.kids = [] := fun e => h3 (by rw [e]; rfl)
  rw [a1]
  go_enter Tryz.func41, Tryz.ntmps41
  go_wp2_with fail
  rw [HW.out]
  go_loopw [3] (fun i W => LoopRel W1 n.kids (termB g) i W) (fun i _ => n.kids.length - (intOf i).toNat)
  case atStart => exact ⟨0, Nat.zero_le _, rfl, Below.refl _ _, by simp⟩
  case round =>
    obtain ⟨p, hp, rfl, hb, ha⟩ := hrel
    have HA := Lib.hid ha
    have HE := Lib.hid (HB.out.trans (hb.mono HB.out.size))
    have HG := Lib.hid hb
    obtain ⟨x0, x1, x2, x3, x4⟩ := BX.out _ hb
    clear hb ha
    by_cases hpl : p < n.kids.length
    · obtain ⟨bx, ox, x, Ax, cx, rfl, hk, hq⟩ := LK.out.kidP hpl
      have HK := Lib.hid hk
      have QX := Lib.hid hq
      have FX := Lib.hid (HF.out x (List.mem_of_getElem? hk))
      have hp2 : p < 9223372036854775807 := by omega
      obtain ⟨hbx, p0, p1, p2, p3, _⟩ := hq _ HE.out
      have hpar : termB g x = (twoB [] [126] x.text && (x.kind == 15 && (x.kids.length == 1 && (x.kids.zip [g .typ]).all (fun x => x.2 x.1)))) := named_eq (by omega)
      have HPR := Lib.hid hpar
      have ba : Below wr.heap.size wr (wr.alloc (.cells #[.int .i64 x.kind, .string x.text, .slice Ax x.kids.length cx, .int .i64 x.place] 24)) := (Below.refl _ _).alloc (Nat.le_refl _) _
      have xw := Whole.new wr 24 #[.int .i64 x.kind, .string x.text, .slice Ax x.kids.length cx, .int .i64 x.place]
      have BA := Lib.hid ba
      have XW := Lib.hid xw
      clear hq hk hpar ba xw
      cases e1 : (x.kind == 15)
      case false =>
        have e1n : (x.kind != 15) = true := by simp only [bne, e1]; rfl
        have HR := Lib.hid (all_no (q := termB g) HK.out (by rw [HPR.out, e1]; simp))
        go_wp2_with fail
        go_ret
        exact ⟨by rw [HR.out]; rfl, HE.out.trans (BA.out.mono HE.out.size)⟩
      case true =>
      have e1n : (x.kind != 15) = false := by simp only [bne, e1]; rfl
      have HY := Lib.hid (HE.out.trans (BA.out.mono HE.out.size))
      have BW := BA
      cases esx : twoB [] [126] x.text
      case false =>
        have HR := Lib.hid (all_no (q := termB g) HK.out (by rw [HPR.out, esx]; rfl))
        have eso : (x.text.toList == []) = false ∧ (x.text.toList == [126]) = false := by
          unfold twoB at esx
          cases ha : (x.text.toList == []) <;> cases hb : (x.text.toList == [126]) <;> rw [ha, hb] at esx <;> first | exact ⟨rfl, rfl⟩ | cases esx
        obtain ⟨t1, t2⟩ := eso
        clear esx
        go_wp2_with fail
        go_ret
        exact ⟨by rw [HR.out]; rfl, HY.out⟩
      case true =>
      have eso : (x.text.toList == []) = true ∨ ((x.text.toList == []) = false ∧ (x.text.toList == [126]) = true) := by
        have h := esx
        unfold twoB at h
        cases ha : (x.text.toList == []) <;> cases hb : (x.text.toList == [126]) <;> rw [ha, hb] at h <;> first | exact .inl rfl | exact .inr ⟨rfl, rfl⟩ | cases h
      have ESX := Lib.hid esx
      rcases eso with t1 | ⟨t1, t2⟩
      all_goals
        by_cases e2 : x.kids.length = 1
        case neg =>
          have e2b : (x.kids.length == 1) = false := by simpa using e2
          have e2i : ((x.kids.length : Int) == 1) = false := by rw [beq_eq_false_iff_ne]; omega
          have e2n : ((x.kids.length : Int) != 1) = true := by simp only [bne, e2i]; rfl
          have HR := Lib.hid (all_no (q := termB g) HK.out (by rw [HPR.out, e2b]; simp))
          go_wp2_with fail
          go_ret
          exact ⟨by rw [HR.out]; rfl, HY.out⟩
        case pos =>
        have hzip : (x.kids.length == 1) = true := by rw [e2]; rfl
        obtain ⟨by_, oy, y, Ay, cy, hAx, hky, hqy⟩ := (QX.out _ HE.out).2.2.2.2.2.lst0.kidP (p := 0) (by omega)
        have hz : (x.kids.zip [g .typ]).all (fun x => x.2 x.1) = g .typ y := by rw [kids1 e2 hky]; simp
        have hp4 : termB g x = g .typ y := by rw [HPR.out, e1, hzip, hz, ESX.out]; simp
        have HP4 := Lib.hid hp4
        obtain ⟨hby, r0, r1, r2, r3, r5⟩ := hqy _ BW.out
        have TQ := Lib.hid (HS.out.2 _ _ y HY.out (FX.out.kid (List.mem_of_getElem? hky)) r5)
        have YQ := Lib.hid (hqy _ (Below.refl _ _))
        simp only [Nat.zero_mul, Nat.add_zero] at r0 r1 r2 r3
        have l9 : (0 : Nat) < 1 := by omega
        obtain ⟨hby2, s0, s1, s2, s3, _⟩ := YQ.out
        simp only [Nat.zero_mul, Nat.add_zero] at s0 s1 s2 s3
        have HAX := Lib.hid hAx
        rw [e2, hAx] at p2
        rw [e2, hAx] at HY BW XW BA TQ
        clear hz hzip hp4 hqy r5 hky HPR
        unfold Nd.val at TQ
        go_wp2_with fail
        skip
        refine TQ.out.mono ?_
        rintro e W5 ⟨rfl, b5⟩
        have G5 := Lib.hid ((HG.out.trans (BA.out.mono HG.out.size)).trans (b5.mono (HG.out.trans (BA.out.mono HG.out.size)).size))
        have H5 := Lib.hid (HY.out.trans (b5.mono HY.out.size))
        clear b5 TQ
        cases ety : g .typ y
        case false =>
          have HR := Lib.hid (all_no (q := termB g) HK.out (by rw [HP4.out, ety]))
          go_wp2_with fail
          go_ret
          exact ⟨by rw [HR.out]; rfl, H5.out⟩
        case true =>
          have HR := Lib.hid (all_yes (q := termB g) HK.out HA.out (by rw [HP4.out, ety]))
          go_wp2_with fail
          go_roundw
          case rel => exact ⟨p + 1, hpl, rfl, G5.out, HR.out⟩
          case measure => simp [intOf]; omega
    · have HR := Lib.hid (all_end hpl HA.out)
      go_wp2_with fail
      go_ret
      exact ⟨by rw [HR.out]; rfl, HE.out⟩

end Go.Proofs.YtkmhijkpbmcgbaaGreat

namespace Go.Proofs.YtkmhijkpbmcgbaaGreat
set_option linter.all false
open Go.RowKit Go.Shelf

set_option maxRecDepth 100000 in
set_option maxHeartbeats 2000000 in
theorem rfields_any (g : Q → Nd → Bool) (F : Nat) (v : Value) (n : Nd) (w : World) (T : SaysF w F 19 #[] (g .typ)) (hft : Fits n) (hv : NdV w (F + 1) v n) :
    Calls Tryz.prog 40 #[v] w fun e w' => e = .returned (.bool (structB g n)) ∧ Below w.heap.size w w' := by
  obtain ⟨A, c, rfl, hm⟩ := hv.val
  have hb : Below w.heap.size w (w.alloc (.cells (cellsOf n A c) 24)) := (Below.refl _ w).alloc (Nat.le_refl _) _
  have hw := Whole.new w 24 (cellsOf n A c)
  have LK := Lib.hid hv.lst
  have HS := Lib.hid T
  have HF := Lib.hid fun k hk => hft.kid (k := k) hk
  have hm2 : n.kids.length ≤ 9223372036854775807 := hm
  have BX := Lib.hid fun W (h : Below (w.alloc (.cells (cellsOf n A c) 24)).heap.size (w.alloc (.cells (cellsOf n A c) 24)) W) => box_cells hw h
  have HB := Lib.hid hb
  clear T hft hv hb hw
  unfold structB
  unfold Nd.val
  obtain ⟨W1, hW1⟩ : ∃ W1, W1 = w.alloc (.cells (cellsOf n A c) 24) := ⟨_, rfl⟩
  rw [← hW1] at BX HB
  have hW2 : w.alloc (.cells #[.int .i64 n.kind, .string n.text, .slice A n.kids.length c, .int .i64 n.place] 24) = W1 := hW1.symm
  have HW := Lib.hid hW2
  clear hW1 hW2
  cases h1 : (n.kind == 13)
  case false =>
    have h1n : (n.kind != 13) = true := by simp only [bne, h1]; rfl
    go_enter Tryz.func40, Tryz.ntmps40
    go_wp2_with fail
    go_ret
    exact ⟨rfl, by rw [HW.out]; exact HB.out⟩
  case true =>
  have h1n : (n.kind != 13) = false := by simp only [bne, h1]; rfl
  cases h2 : (n.text.toList == [])
  case false =>
    go_enter Tryz.func40, Tryz.ntmps40
    go_wp2_with fail
    go_ret
    exact ⟨rfl, by rw [HW.out]; exact HB.out⟩
  case true =>
  go_enter Tryz.func40, Tryz.ntmps40
  go_wp2_with fail
  rw [HW.out]
  go_loopw [3] (fun i W => LoopRel W1 n.kids (fieldB g) i W) (fun i _ => n.kids.length - (intOf i).toNat)
  case atStart => exact ⟨0, Nat.zero_le _, rfl, Below.refl _ _, by simp⟩
  case round =>
    obtain ⟨p, hp, rfl, hb, ha⟩ := hrel
    have HA := Lib.hid ha
    have HE := Lib.hid (HB.out.trans (hb.mono HB.out.size))
    have HG := Lib.hid hb
    obtain ⟨x0, x1, x2, x3, x4⟩ := BX.out _ hb
    clear hb ha
    by_cases hpl : p < n.kids.length
    · obtain ⟨bx, ox, x, Ax, cx, rfl, hk, hq⟩ := LK.out.kidP hpl
      have HK := Lib.hid hk
      have QX := Lib.hid hq
      have FX := Lib.hid (HF.out x (List.mem_of_getElem? hk))
      have hp2 : p < 9223372036854775807 := by omega
      obtain ⟨hbx, p0, p1, p2, p3, _⟩ := hq _ HE.out
      have hpar : fieldB g x = (nameB x.text && (x.kind == 9 && (x.kids.length == 1 && (x.kids.zip [g .typ]).all (fun x => x.2 x.1)))) := named_eq (by omega)
      have HPR := Lib.hid hpar
      have ba : Below wr.heap.size wr (wr.alloc (.cells #[.int .i64 x.kind, .string x.text, .slice Ax x.kids.length cx, .int .i64 x.place] 24)) := (Below.refl _ _).alloc (Nat.le_refl _) _
      have xw := Whole.new wr 24 #[.int .i64 x.kind, .string x.text, .slice Ax x.kids.length cx, .int .i64 x.place]
      have BA := Lib.hid ba
      have XW := Lib.hid xw
      clear hq hk hpar ba xw
      cases e1 : (x.kind == 9)
      case false =>
        have e1n : (x.kind != 9) = true := by simp only [bne, e1]; rfl
        have HR := Lib.hid (all_no (q := fieldB g) HK.out (by rw [HPR.out, e1]; simp))
        go_wp2_with fail
        go_ret
        exact ⟨by rw [HR.out]; rfl, HE.out.trans (BA.out.mono HE.out.size)⟩
      case true =>
      have e1n : (x.kind != 9) = false := by simp only [bne, e1]; rfl
      have NQ := Lib.hid (rname_any x.text (wr.alloc (.cells #[.int .i64 x.kind, .string x.text, .slice Ax x.kids.length cx, .int .i64 x.place] 24)))
      cases en : nameB x.text
      case false =>
        rw [en] at NQ
        have HR := Lib.hid (all_no (q := fieldB g) HK.out (by rw [HPR.out, en]; rfl))
        go_wp2_with fail
        refine NQ.out.mono ?_
        rintro e W4 ⟨rfl, b4⟩
        have BW := Lib.hid (BA.out.trans (b4.mono BA.out.size))
        clear b4
        go_wp2_with fail
        go_ret
        exact ⟨by rw [HR.out]; rfl, HE.out.trans (BW.out.mono HE.out.size)⟩
      case true =>
      rw [en] at NQ
      have EN := Lib.hid en
      clear en
      go_wp2_with fail
      refine NQ.out.mono ?_
      rintro e W4 ⟨rfl, b4⟩
      have BW := Lib.hid (BA.out.trans (b4.mono BA.out.size))
      have xv := XW.out.below b4 XW.out.lt
      have HY := Lib.hid (HE.out.trans (BW.out.mono HE.out.size))
      have v0 : W4.cell? ⟨wr.heap.size, 0, none⟩ = some (.int .i64 x.kind) := xv.cell 0
      have v1 : W4.cell? ⟨wr.heap.size, 1, none⟩ = some (.string x.text) := xv.cell 1
      have v2 : W4.cell? ⟨wr.heap.size, 2, none⟩ = some (.slice Ax x.kids.length cx) := xv.cell 2
      have v3 : W4.cell? ⟨wr.heap.size, 3, none⟩ = some (.int .i64 x.place) := xv.cell 3
      clear b4 xv NQ x0 x1 x2 x3 x4 p0 p1 p2 p3 hbx
      by_cases e2 : x.kids.length = 1
      case neg =>
        have e2b : (x.kids.length == 1) = false := by simpa using e2
        have e2i : ((x.kids.length : Int) == 1) = false := by rw [beq_eq_false_iff_ne]; omega
        have e2n : ((x.kids.length : Int) != 1) = true := by simp only [bne, e2i]; rfl
        have HR := Lib.hid (all_no (q := fieldB g) HK.out (by rw [HPR.out, e2b]; simp))
        go_wp2_with fail
        go_ret
        exact ⟨by rw [HR.out]; rfl, HY.out⟩
      case pos =>
      have hzip : (x.kids.length == 1) = true := by rw [e2]; rfl
      obtain ⟨by_, oy, y, Ay, cy, hAx, hky, hqy⟩ := (QX.out _ HE.out).2.2.2.2.2.lst0.kidP (p := 0) (by omega)
      have hz : (x.kids.zip [g .typ]).all (fun x => x.2 x.1) = g .typ y := by rw [kids1 e2 hky]; simp
      have hp4 : fieldB g x = g .typ y := by rw [HPR.out, e1, hzip, hz, EN.out]; simp
      have HP4 := Lib.hid hp4
      obtain ⟨hby, r0, r1, r2, r3, r5⟩ := hqy _ BW.out
      have TQ := Lib.hid (HS.out.2 _ _ y HY.out (FX.out.kid (List.mem_of_getElem? hky)) r5)
      have YQ := Lib.hid (hqy _ (Below.refl _ _))
      simp only [Nat.zero_mul, Nat.add_zero] at r0 r1 r2 r3
      have l9 : (0 : Nat) < 1 := by omega
      have HAX := Lib.hid hAx
      rw [e2, hAx] at v2
      clear hz hzip hp4 hqy r5 hky HPR
      unfold Nd.val at TQ
      go_wp2_with fail
      skip
      refine TQ.out.mono ?_
      rintro e W5 ⟨rfl, b5⟩
      have G5 := Lib.hid ((HG.out.trans (BW.out.mono HG.out.size)).trans (b5.mono (HG.out.trans (BW.out.mono HG.out.size)).size))
      have H5 := Lib.hid (HY.out.trans (b5.mono HY.out.size))
      clear b5 TQ
      cases ety : g .typ y
      case false =>
        have HR := Lib.hid (all_no (q := fieldB g) HK.out (by rw [HP4.out, ety]))
        go_wp2_with fail
        go_ret
        exact ⟨by rw [HR.out]; rfl, H5.out⟩
      case true =>
        have HR := Lib.hid (all_yes (q := fieldB g) HK.out HA.out (by rw [HP4.out, ety]))
        go_wp2_with fail
        go_roundw
        case rel => exact ⟨p + 1, hpl, rfl, G5.out, HR.out⟩
        case measure => simp [intOf]; omega
    · have HR := Lib.hid (all_end hpl HA.out)
      go_wp2_with fail
      go_ret
      exact ⟨by rw [HR.out]; rfl, HE.out⟩

end Go.Proofs.YtkmhijkpbmcgbaaGreat

namespace Go.Proofs.YtkmhijkpbmcgbaaGreat
set_option linter.all false
open Go.RowKit Go.Shelf

set_option maxRecDepth 100000 in
set_option maxHeartbeats 2000000 in
theorem rparams_any (g : Q → Nd → Bool) (F : Nat) (v : Value) (n : Nd) (w : World) (T : SaysF w F 19 #[] (g .typ)) (IR : SaysF w F 41 #[] (interB g)) (hft : Fits n) (hv : NdV w (F + 1) v n) :
    Calls Tryz.prog 38 #[v] w fun e w' => e = .returned (.bool (paramsB g n)) ∧ Below w.heap.size w w' := by
  obtain ⟨A, c, rfl, hm⟩ := hv.val
  have hb : Below w.heap.size w (w.alloc (.cells (cellsOf n A c) 24)) := (Below.refl _ w).alloc (Nat.le_refl _) _
  have hw := Whole.new w 24 (cellsOf n A c)
  have LK := Lib.hid hv.lst
  have HS := Lib.hid T
  have HI := Lib.hid IR
  have HF := Lib.hid fun k hk => hft.kid (k := k) hk
  have hm2 : n.kids.length ≤ 9223372036854775807 := hm
  have BX := Lib.hid fun W (h : Below (w.alloc (.cells (cellsOf n A c) 24)).heap.size (w.alloc (.cells (cellsOf n A c) 24)) W) => box_cells hw h
  have HB := Lib.hid hb
  clear T IR hft hv hb hw
  unfold paramsB listB
  unfold Nd.val
  obtain ⟨W1, hW1⟩ : ∃ W1, W1 = w.alloc (.cells (cellsOf n A c) 24) := ⟨_, rfl⟩
  rw [← hW1] at BX HB
  have hW2 : w.alloc (.cells #[.int .i64 n.kind, .string n.text, .slice A n.kids.length c, .int .i64 n.place] 24) = W1 := hW1.symm
  have HW := Lib.hid hW2
  clear hW1 hW2
  cases h1 : (n.kind == 6)
  case false =>
    have h1n : (n.kind != 6) = true := by simp only [bne, h1]; rfl
    go_enter Tryz.func38, Tryz.ntmps38
    go_wp2_with fail
    go_ret
    exact ⟨rfl, by rw [HW.out]; exact HB.out⟩
  case true =>
  have h1n : (n.kind != 6) = false := by simp only [bne, h1]; rfl
  cases h2 : (n.text.toList == [])
  case false =>
    go_enter Tryz.func38, Tryz.ntmps38
    go_wp2_with fail
    go_ret
    exact ⟨rfl, by rw [HW.out]; exact HB.out⟩
  case true =>
  go_enter Tryz.func38, Tryz.ntmps38
  go_wp2_with fail
  rw [HW.out]
  go_loopw [3] (fun i W => LoopRel W1 n.kids (tparamB g) i W) (fun i _ => n.kids.length - (intOf i).toNat)
  case atStart => exact ⟨0, Nat.zero_le _, rfl, Below.refl _ _, by simp⟩
  case round =>
    obtain ⟨p, hp, rfl, hb, ha⟩ := hrel
    have HA := Lib.hid ha
    have HE := Lib.hid (HB.out.trans (hb.mono HB.out.size))
    have HG := Lib.hid hb
    obtain ⟨x0, x1, x2, x3, x4⟩ := BX.out _ hb
    clear hb ha
    by_cases hpl : p < n.kids.length
    · obtain ⟨bx, ox, x, Ax, cx, rfl, hk, hq⟩ := LK.out.kidP hpl
      have HK := Lib.hid hk
      have QX := Lib.hid hq
      have FX := Lib.hid (HF.out x (List.mem_of_getElem? hk))
      have hp2 : p < 9223372036854775807 := by omega
      obtain ⟨hbx, p0, p1, p2, p3, _⟩ := hq _ HE.out
      have hpar : tparamB g x = (nameB x.text && (x.kind == 7 && (x.kids.length == 1 && (x.kids.zip [fun c => named1B g c || interB g c]).all (fun x => x.2 x.1)))) := named_eq (by omega)
      have HPR := Lib.hid hpar
      have ba : Below wr.heap.size wr (wr.alloc (.cells #[.int .i64 x.kind, .string x.text, .slice Ax x.kids.length cx, .int .i64 x.place] 24)) := (Below.refl _ _).alloc (Nat.le_refl _) _
      have xw := Whole.new wr 24 #[.int .i64 x.kind, .string x.text, .slice Ax x.kids.length cx, .int .i64 x.place]
      have BA := Lib.hid ba
      have XW := Lib.hid xw
      clear hq hk hpar ba xw
      cases e1 : (x.kind == 7)
      case false =>
        have e1n : (x.kind != 7) = true := by simp only [bne, e1]; rfl
        have HR := Lib.hid (all_no (q := tparamB g) HK.out (by rw [HPR.out, e1]; simp))
        go_wp2_with fail
        go_ret
        exact ⟨by rw [HR.out]; rfl, HE.out.trans (BA.out.mono HE.out.size)⟩
      case true =>
      have e1n : (x.kind != 7) = false := by simp only [bne, e1]; rfl
      have NQ := Lib.hid (rname_any x.text (wr.alloc (.cells #[.int .i64 x.kind, .string x.text, .slice Ax x.kids.length cx, .int .i64 x.place] 24)))
      cases en : nameB x.text
      case false =>
        rw [en] at NQ
        have HR := Lib.hid (all_no (q := tparamB g) HK.out (by rw [HPR.out, en]; rfl))
        go_wp2_with fail
        refine NQ.out.mono ?_
        rintro e W4 ⟨rfl, b4⟩
        have BW := Lib.hid (BA.out.trans (b4.mono BA.out.size))
        clear b4
        go_wp2_with fail
        go_ret
        exact ⟨by rw [HR.out]; rfl, HE.out.trans (BW.out.mono HE.out.size)⟩
      case true =>
      rw [en] at NQ
      have EN := Lib.hid en
      clear en
      go_wp2_with fail
      refine NQ.out.mono ?_
      rintro e W4 ⟨rfl, b4⟩
      have BW := Lib.hid (BA.out.trans (b4.mono BA.out.size))
      have xv := XW.out.below b4 XW.out.lt
      have HY := Lib.hid (HE.out.trans (BW.out.mono HE.out.size))
      have v0 : W4.cell? ⟨wr.heap.size, 0, none⟩ = some (.int .i64 x.kind) := xv.cell 0
      have v1 : W4.cell? ⟨wr.heap.size, 1, none⟩ = some (.string x.text) := xv.cell 1
      have v2 : W4.cell? ⟨wr.heap.size, 2, none⟩ = some (.slice Ax x.kids.length cx) := xv.cell 2
      have v3 : W4.cell? ⟨wr.heap.size, 3, none⟩ = some (.int .i64 x.place) := xv.cell 3
      clear b4 xv NQ x0 x1 x2 x3 x4 p0 p1 p2 p3 hbx
      by_cases e2 : x.kids.length = 1
      case neg =>
        have e2b : (x.kids.length == 1) = false := by simpa using e2
        have e2i : ((x.kids.length : Int) == 1) = false := by rw [beq_eq_false_iff_ne]; omega
        have e2n : ((x.kids.length : Int) != 1) = true := by simp only [bne, e2i]; rfl
        have HR := Lib.hid (all_no (q := tparamB g) HK.out (by rw [HPR.out, e2b]; simp))
        go_wp2_with fail
        go_ret
        exact ⟨by rw [HR.out]; rfl, HY.out⟩
      case pos =>
      have hzip : (x.kids.length == 1) = true := by rw [e2]; rfl
      obtain ⟨by_, oy, y, Ay, cy, hAx, hky, hqy⟩ := (QX.out _ HE.out).2.2.2.2.2.lst0.kidP (p := 0) (by omega)
      have hz : (x.kids.zip [fun c => named1B g c || interB g c]).all (fun x => x.2 x.1) = (named1B g y || interB g y) := by rw [kids1 e2 hky]; simp
      have hp4 : tparamB g x = (named1B g y || interB g y) := by rw [HPR.out, e1, hzip, hz, EN.out]; simp
      have HP4 := Lib.hid hp4
      obtain ⟨hby, r0, r1, r2, r3, r5⟩ := hqy _ BW.out
      have FY := Lib.hid (FX.out.kid (List.mem_of_getElem? hky))
      have yb : Below W4.heap.size W4 (W4.alloc (.cells #[.int .i64 y.kind, .string y.text, .slice Ay y.kids.length cy, .int .i64 y.place] 24)) := (Below.refl _ _).alloc (Nat.le_refl _) _
      have yw := Whole.new W4 24 #[.int .i64 y.kind, .string y.text, .slice Ay y.kids.length cy, .int .i64 y.place]
      have YB := Lib.hid yb
      have YW := Lib.hid yw
      have IQ := Lib.hid (HI.out.2 _ _ y (HY.out.trans (yb.mono HY.out.size)) FY.out (r5.below yb))
      have QY := Lib.hid hqy
      simp only [Nat.zero_mul, Nat.add_zero] at r0 r1 r2 r3
      have l9 : (0 : Nat) < 1 := by omega
      rw [e2, hAx] at v2
      clear hz hzip hp4 hqy r5 hky HPR yb yw
      unfold Nd.val at IQ
      go_wp2_with fail
      refine IQ.out.mono ?_
      rintro e W5 ⟨rfl, b5⟩
      have BV := Lib.hid (BW.out.trans ((YB.out.trans (b5.mono YB.out.size)).mono BW.out.size))
      have H5 := Lib.hid (HE.out.trans (BV.out.mono HE.out.size))
      have yv := YW.out.below b5 YW.out.lt
      have u0 : W5.cell? ⟨W4.heap.size, 0, none⟩ = some (.int .i64 y.kind) := yv.cell 0
      have u1 : W5.cell? ⟨W4.heap.size, 1, none⟩ = some (.string y.text) := yv.cell 1
      have u2 : W5.cell? ⟨W4.heap.size, 2, none⟩ = some (.slice Ay y.kids.length cy) := yv.cell 2
      have u3 : W5.cell? ⟨W4.heap.size, 3, none⟩ = some (.int .i64 y.place) := yv.cell 3
      clear b5 IQ yv r0 r1 r2 r3 hby v0 v1 v2 v3
      cases ei : interB g y
      case true =>
        have HR := Lib.hid (all_yes (q := tparamB g) HK.out HA.out (by rw [HP4.out, ei]; simp))
        have G5 := Lib.hid (HG.out.trans (BV.out.mono HG.out.size))
        go_wp2_with fail
        go_roundw
        case rel => exact ⟨p + 1, hpl, rfl, G5.out, HR.out⟩
        case measure => simp [intOf]; omega
      case false =>
      cases ek : (y.kind == 10)
      case false =>
        have ekn : (y.kind != 10) = true := by simp only [bne, ek]; rfl
        have HR := Lib.hid (all_no (q := tparamB g) HK.out (by rw [HP4.out, ei]; unfold named1B; rw [ek]; rfl))
        go_wp2_with fail
        go_ret
        exact ⟨by rw [HR.out]; rfl, H5.out⟩
      case true =>
        have ekn : (y.kind != 10) = false := by simp only [bne, ek]; rfl
        have TQ := Lib.hid (HS.out.2 _ _ y H5.out FY.out (QY.out _ BV.out).2.2.2.2.2)
        unfold Nd.val at TQ
        go_wp2_with fail
        refine TQ.out.mono ?_
        rintro e W6 ⟨rfl, b6⟩
        have BU := Lib.hid (BV.out.trans (b6.mono BV.out.size))
        have H6 := Lib.hid (HE.out.trans (BU.out.mono HE.out.size))
        clear b6 TQ
        cases ety : g .typ y
        case false =>
          have HR := Lib.hid (all_no (q := tparamB g) HK.out (by rw [HP4.out, ei]; unfold named1B; rw [ek, ety]; rfl))
          go_wp2_with fail
          go_ret
          exact ⟨by rw [HR.out]; rfl, H6.out⟩
        case true =>
          have HR := Lib.hid (all_yes (q := tparamB g) HK.out HA.out (by rw [HP4.out, ei]; unfold named1B; rw [ek, ety]; rfl))
          have G6 := Lib.hid (HG.out.trans (BU.out.mono HG.out.size))
          go_wp2_with fail
          go_roundw
          case rel => exact ⟨p + 1, hpl, rfl, G6.out, HR.out⟩
          case measure => simp [intOf]; omega
    · have HR := Lib.hid (all_end hpl HA.out)
      go_wp2_with fail
      go_ret
      exact ⟨by rw [HR.out]; rfl, HE.out⟩

end Go.Proofs.YtkmhijkpbmcgbaaGreat
