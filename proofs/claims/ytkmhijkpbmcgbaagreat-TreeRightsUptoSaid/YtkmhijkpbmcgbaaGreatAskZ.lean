/-
  The questions' contracts: parameters of types, variables, parts.
  The questions' contracts: calls, indices, literals, functions.
  The questions answer as the plain functions say, at whatever depth.
-/
import Derived.Test.YtkmhijkpbmcgbaaGreatAskY
namespace Go.Proofs.YtkmhijkpbmcgbaaGreat
set_option linter.all false
open Go.RowKit Go.Shelf

set_option maxRecDepth 100000 in
set_option maxHeartbeats 1000000 in
theorem params_any (g : Q → Nd → Bool) (F : Nat) (v : Value) (n : Nd) (W : World) (N9 : SaysF W F 93 #[] (named1B g)) (IR : SaysF W F 65 #[] (interB g)) (hft : Fits n) (hv : NdV W (F + 1) v n) :
    Calls Tryz.prog 61 #[v] W fun e w' => e = .returned (.bool (paramsB g n)) ∧ Below W.heap.size W w' := by
  obtain ⟨A, c, rfl, hm⟩ := hv.val
  have hmf : ∀ fn first cap w, (Instr.makeFunc fn first cap).run Tryz.prog w = .ok (.func fn first cap) w := fun _ _ _ _ => rfl
  have hb : Below W.heap.size W ((W.alloc (.cells #[.int .i64 n.kind, .string n.text, .slice A n.kids.length c, .int .i64 n.place] 24)).alloc (.cells #[.func (.func 93) #[] #[]] 33)) := ((Below.refl _ W).alloc (Nat.le_refl _) _).alloc (by simp) _
  have k1 : Whole ((W.alloc (.cells #[.int .i64 n.kind, .string n.text, .slice A n.kids.length c, .int .i64 n.place] 24)).alloc (.cells #[.func (.func 93) #[] #[]] 33)) (W.heap.size + 1) 33 #[.func (.func 93) #[] #[]] := by
    have := Whole.new (W.alloc (.cells #[.int .i64 n.kind, .string n.text, .slice A n.kids.length c, .int .i64 n.place] 24)) 33 #[.func (.func 93) #[] #[]]
    simpa using this
  have LI := Lib.hid (list_any F 95 #[.pointer (some ⟨W.heap.size + 1, 0, none⟩)] (tparamB g) _ n _ ⟨enters_of Tryz.func95 (by kernel_rfl) rfl, fun w' v' n' hW' hft' hv' =>
    tparam_any g F v' n' w' (IR.below (hb.trans (hW'.mono hb.size))) (named1B g) (N9.below (hb.trans (hW'.mono hb.size))) _ ((hW'.cell (p := ⟨W.heap.size + 1, 0, none⟩) k1.lt).trans (k1.cell 0)) hft' (hv'.le (Nat.le_succ _))⟩ hft (hv.below hb))
  have HB := Lib.hid hb
  clear hb hv k1 N9 IR hft
  unfold paramsB
  unfold Nd.val at LI ⊢
  go_enter Tryz.func61, Tryz.ntmps61
  go_wp2_with fail
  refine LI.out.mono ?_
  rintro e w2 ⟨rfl, b2⟩
  have HB2 := Lib.hid (HB.out.trans (b2.mono HB.out.size))
  clear b2
  go_wp2_with fail
  go_ret
  exact ⟨rfl, HB2.out⟩

set_option maxRecDepth 100000 in
set_option maxHeartbeats 1000000 in
theorem part_any (g : Q → Nd → Bool) (F : Nat) (v : Value) (n : Nd) (W : World) (T : SaysF W F 32 #[] (g .typ)) (E : SaysF W F 33 #[] (g .expr)) (hft : Fits n) (hv : NdV W F v n) :
    Calls Tryz.prog 73 #[v] W fun e w' => e = .returned (.bool (partB g n)) ∧ Below W.heap.size W w' := by
  obtain ⟨A, c, rfl, hm⟩ := hv.val
  have hb : Below W.heap.size W (W.alloc (.cells #[.int .i64 n.kind, .string n.text, .slice A n.kids.length c, .int .i64 n.place] 24)) := (Below.refl _ W).alloc (Nat.le_refl _) _
  have EL := Lib.hid (E.2 _ _ n hb hft (hv.below hb))
  have TL := Lib.hid fun w' (h : Below (W.alloc (.cells #[.int .i64 n.kind, .string n.text, .slice A n.kids.length c, .int .i64 n.place] 24)).heap.size (W.alloc (.cells #[.int .i64 n.kind, .string n.text, .slice A n.kids.length c, .int .i64 n.place] 24)) w') => T.2 w' _ n (hb.trans (h.mono hb.size)) hft ((hv.below hb).below h)
  have KW := Lib.hid (Whole.new W 24 #[.int .i64 n.kind, .string n.text, .slice A n.kids.length c, .int .i64 n.place])
  have HB := Lib.hid hb
  have e35 := T.1
  have e36 := E.1
  clear hb hv hft T E
  unfold partB
  unfold Nd.val at EL TL ⊢
  generalize g .expr n = r at EL ⊢
  generalize g .typ n = r2 at TL ⊢
  go_enter Tryz.func73, Tryz.ntmps73
  go_wp2_with fail
  refine EL.out.mono ?_
  rintro e w2 ⟨rfl, b2⟩
  have HB2 := Lib.hid (HB.out.trans (b2.mono HB.out.size))
  have AL2 := Lib.hid (TL.out _ b2)
  have k2 := KW.out.below b2 KW.out.lt
  have c0 : w2.cell? ⟨W.heap.size, 0, none⟩ = some (.int .i64 n.kind) := k2.cell 0
  have c1 : w2.cell? ⟨W.heap.size, 1, none⟩ = some (.string n.text) := k2.cell 1
  have c2 : w2.cell? ⟨W.heap.size, 2, none⟩ = some (.slice A n.kids.length c) := k2.cell 2
  have c3 : w2.cell? ⟨W.heap.size, 3, none⟩ = some (.int .i64 n.place) := k2.cell 3
  clear b2 k2 TL KW EL HB
  cases r with
  | true =>
    go_wp2_with fail
    go_ret
    exact ⟨rfl, HB2.out⟩
  | false =>
    cases hk : (n.kind == 10) with
    | true =>
      have hk2 : (n.kind != 10) = false := by simp only [bne, hk]; rfl
      go_wp2_with fail
      go_ret
      exact ⟨by rw [hk]; rfl, HB2.out⟩
    | false =>
      have hk2 : (n.kind != 10) = true := by simp only [bne, hk]; rfl
      go_wp2_with fail
      refine AL2.out.mono ?_
      rintro e w3 ⟨rfl, b3⟩
      have HB3 := Lib.hid (HB2.out.trans (b3.mono HB2.out.size))
      clear b3
      go_wp2_with fail
      go_ret
      exact ⟨by rw [hk]; rfl, HB3.out⟩

theorem of_len {n : Nd} {b : Bool} {K : Int} {qs : List (Nd → Bool)} (h : ofN (namedN n b) K qs = true) (hK : K ≠ 37) : n.kids.length = qs.length := by
  cases b with
  | true =>
    unfold ofN at h
    simp only [Bool.and_eq_true, beq_iff_eq] at h
    exact h.1.2
  | false =>
    unfold ofN at h
    simp only [Bool.and_eq_true, beq_iff_eq] at h
    exact absurd h.1.1.1.symm hK

set_option maxRecDepth 100000 in
set_option maxHeartbeats 1000000 in
theorem var_any (g : Q → Nd → Bool) (F : Nat) (v : Value) (n : Nd) (W : World) (T : SaysF W F 32 #[] (g .typ)) (E : SaysF W F 33 #[] (g .expr)) (hft : Fits n) (hv : NdV W (F + 1) v n) :
    Calls Tryz.prog 66 #[v] W fun e w' => e = .returned (.bool (varB g n)) ∧ Below W.heap.size W w' := by
  obtain ⟨A, c, rfl, hm⟩ := hv.val
  have hmf : ∀ fn first cap w, (Instr.makeFunc fn first cap).run Tryz.prog w = .ok (.func fn first cap) w := fun _ _ _ _ => rfl
  have hb : Below W.heap.size W (W.alloc (.cells #[.int .i64 n.kind, .string n.text, .slice A n.kids.length c, .int .i64 n.place] 24)) := (Below.refl _ W).alloc (Nat.le_refl _) _
  have HB0 := Lib.hid hb
  have EMP : Hid (SaysF W F 79 #[] emptyB) := Lib.hid (empty_f W F)
  have T := Lib.hid T
  have E := Lib.hid E
  have NM := Lib.hid (named_c F 29 #[] _ n (nameB n.text) _ ((name_s n.text W).below hb) (hv.below hb))
  have hftm := hft.named (nameB n.text)
  have hlen : ofN (namedN n (nameB n.text)) 5 [fun k => emptyB k || g .typ k, fun k => emptyB k || g .expr k] = true → n.kids.length = 2 := fun h => of_len h (by omega)
  have LK := Lib.hid fun w' (h : Below W.heap.size W w') => hv.lst.below h
  have KW := Lib.hid (Whole.new W 24 #[.int .i64 n.kind, .string n.text, .slice A n.kids.length c, .int .i64 n.place])
  have HLEN := Lib.hid hlen
  clear hlen
  unfold varB
  generalize namedN n (nameB n.text) = m at NM hftm HLEN ⊢
  clear hb hv hft
  unfold Nd.val at NM ⊢
  obtain ⟨r, hr⟩ : ∃ r, r = ofN m 5 [fun k => emptyB k || g .typ k, fun k => emptyB k || g .expr k] := ⟨_, rfl⟩
  rw [← hr] at HLEN ⊢
  have HR := Lib.hid hr
  clear hr
  go_enter Tryz.func66, Tryz.ntmps66
  go_wp2_with fail
  refine NM.out.mono ?_
  rintro e w1 ⟨A1, c1, rfl, n1, b1⟩
  have HB1 := Lib.hid (HB0.out.trans (b1.mono HB0.out.size))
  have N1 := Lib.hid n1
  have KW := Lib.hid (KW.out.below b1 KW.out.lt)
  clear b1 n1 NM
  go_wp2_with fail
  refine (or_f F 79 32 #[] #[] emptyB (g .typ) w1 (EMP.out.below HB1.out) (T.out.below HB1.out)).mono ?_
  rintro e w2 ⟨rfl, s, b⟩
  have N1 := Lib.hid (N1.out.below b)
  have KW := Lib.hid (KW.out.below b KW.out.lt)
  have HB2 := Lib.hid (HB1.out.trans (b.mono HB1.out.size))
  have S2 := Lib.hid s
  clear s b
  go_wp2_with fail
  refine (or_f F 79 33 #[] #[] emptyB (g .expr) w2 (EMP.out.below HB2.out) (E.out.below HB2.out)).mono ?_
  rintro e w3 ⟨rfl, s, b⟩
  have S2 := Lib.hid (S2.out.below b)
  have N1 := Lib.hid (N1.out.below b)
  have KW := Lib.hid (KW.out.below b KW.out.lt)
  have HB3 := Lib.hid (HB2.out.trans (b.mono HB2.out.size))
  have S3 := Lib.hid s
  clear s b
  have b2 : Below w3.heap.size w3 (w3.alloc (.cells #[.func (.func 96) #[] #[.pointer (some ⟨w1.heap.size, 0, none⟩), .pointer (some ⟨w1.heap.size + 1, 0, none⟩)], .func (.func 96) #[] #[.pointer (some ⟨w2.heap.size, 0, none⟩), .pointer (some ⟨w2.heap.size + 1, 0, none⟩)]] 33)) := (Below.refl _ w3).alloc (Nat.le_refl _) _
  have HBX := Lib.hid (HB3.out.trans (b2.mono HB3.out.size))
  have OF := Lib.hid (of_f F _ m 5 [(96, #[.pointer (some ⟨w1.heap.size, 0, none⟩), .pointer (some ⟨w1.heap.size + 1, 0, none⟩)]), (96, #[.pointer (some ⟨w2.heap.size, 0, none⟩), .pointer (some ⟨w2.heap.size + 1, 0, none⟩)])] [(fun k => (emptyB k || (g .typ) k)), (fun k => (emptyB k || (g .expr) k))] _ (N1.out.below b2) hftm (by simp) w3.heap.size 33 (fun _ => Whole.new w3 33 _) (some ⟨w3.heap.size, 0, none⟩) (fun _ => rfl) 2 ⟨S2.out.below b2, S3.out.below b2, trivial⟩)
  have KW := Lib.hid (KW.out.below b2 KW.out.lt)
  clear b2
  simp only [List.length_cons, List.length_nil, Nat.zero_add, List.map_cons, List.map_nil, fnVal] at OF
  clear hftm N1
  rw [← HR.out] at OF
  go_wp2_with fail
  refine OF.out.mono ?_
  rintro e wl ⟨rfl, bl⟩
  have HBL := Lib.hid (HBX.out.trans (bl.mono HBX.out.size))
  have KW := Lib.hid (KW.out.below bl KW.out.lt)
  clear bl OF HBX HB3 HB2 HB1 HB0 S2 S3 EMP T E
  have y0 : wl.cell? ⟨W.heap.size, 0, none⟩ = some (.int .i64 n.kind) := KW.out.cell 0
  have y1 : wl.cell? ⟨W.heap.size, 1, none⟩ = some (.string n.text) := KW.out.cell 1
  have y2 : wl.cell? ⟨W.heap.size, 2, none⟩ = some (.slice A n.kids.length c) := KW.out.cell 2
  have y3 : wl.cell? ⟨W.heap.size, 3, none⟩ = some (.int .i64 n.place) := KW.out.cell 3
  clear HR
  cases r with
  | false =>
    go_wp2_with fail
    go_ret
    exact ⟨rfl, HBL.out⟩
  | true =>
    have hl2 : n.kids.length = 2 := HLEN.out rfl
    obtain ⟨b, off, k, A', c', rfl, hk, hbl, q0, q1, q2, q3, q5⟩ := (LK.out wl HBL.out).kid (p := 0) (by omega)
    obtain ⟨b', off', k', A2, c2, hA2, hk', hbl', _, _, _, _, _⟩ := (LK.out wl HBL.out).kid (p := 1) (by omega)
    injection hA2 with hA2
    injection hA2 with h1 h2
    subst h1 h2
    have EM := Lib.hid (empty_any F _ k wl q5)
    have hres : (n.kids.take 2).all emptyB = (emptyB k && emptyB k') := by
      have e : n.kids.take 2 = [k, k'] := by
        cases hL : n.kids with
        | nil => rw [hL] at hl2; simp at hl2
        | cons x l =>
          cases l with
          | nil => rw [hL] at hl2; simp at hl2
          | cons y l2 =>
            rw [hL] at hk hk'
            have e1 : x = k := by simpa using hk
            have e2 : y = k' := by simpa using hk'
            simp [e1, e2]
      rw [e]
      simp
    have HRES := Lib.hid hres
    have HK' := Lib.hid hk'
    have l0 : (0 : Nat) < 2 := by omega
    simp only [Nat.zero_mul, Nat.add_zero] at q0 q1 q2 q3
    rw [hl2] at y2
    have KW2 := Lib.hid KW.out
    clear hres hk hk' hbl' q5 HLEN
    unfold Nd.val at EM
    go_wp2_with fail
    refine EM.out.mono ?_
    rintro e w5 ⟨rfl, b5⟩
    have HB5 := Lib.hid (HBL.out.trans (b5.mono HBL.out.size))
    obtain ⟨b', off', k2', A2, c2, hA2, hk2, hbl', p0, p1, p2, p3, p5⟩ := (LK.out w5 HB5.out).kid (p := 1) (by omega)
    injection hA2 with hA2
    injection hA2 with h1 h2
    subst h1 h2
    obtain rfl : k' = k2' := by
      have := HK'.out
      rw [hk2] at this
      injection this with this
      exact this.symm
    have kw5 := KW2.out.below b5 KW2.out.lt
    have z0 : w5.cell? ⟨W.heap.size, 0, none⟩ = some (.int .i64 n.kind) := kw5.cell 0
    have z1 : w5.cell? ⟨W.heap.size, 1, none⟩ = some (.string n.text) := kw5.cell 1
    have z2 : w5.cell? ⟨W.heap.size, 2, none⟩ = some (.slice (some ⟨b, off, none⟩) n.kids.length c) := kw5.cell 2
    have z3 : w5.cell? ⟨W.heap.size, 3, none⟩ = some (.int .i64 n.place) := kw5.cell 3
    rw [hl2] at z2
    have EM2 := Lib.hid (empty_any F _ k' w5 p5)
    simp only [Nat.one_mul] at p0 p1 p2 p3
    unfold Nd.val at EM2
    clear b5 kw5 hk2 p5 EM KW KW2 HBL y0 y1 y2 y3 q0 q1 q2 q3
    cases he : emptyB k with
    | false =>
      go_wp2_with fail
      go_ret
      exact ⟨by rw [HRES.out, he]; rfl, HB5.out⟩
    | true =>
      go_wp2_with fail
      refine EM2.out.mono ?_
      rintro e w6 ⟨rfl, b6⟩
      have HB6 := Lib.hid (HB5.out.trans (b6.mono HB5.out.size))
      clear b6
      go_wp2_with fail
      go_ret
      exact ⟨by rw [HRES.out, he]; rfl, HB6.out⟩

end Go.Proofs.YtkmhijkpbmcgbaaGreat

namespace Go.Proofs.YtkmhijkpbmcgbaaGreat
set_option linter.all false
open Go.RowKit Go.Shelf

theorem LstAt.drop1 {w : World} {f : Nat} {l : List Nd} {b off : Nat} (h : LstAt w f l (some ⟨b, off, none⟩)) : LstAt w f (l.drop 1) (some ⟨b, off + 4, none⟩) := fun h0 => by
  obtain ⟨b', off', hA, hi⟩ := h (by simp at h0; omega)
  injection hA with hA
  injection hA with h1 h2
  subst h1 h2
  refine ⟨b, off + 4, rfl, fun i k hk => ?_⟩
  obtain ⟨A', c', q0, q1, q2, q3, q5⟩ := hi (i + 1) k (by rw [List.getElem?_drop] at hk; rw [Nat.add_comm]; exact hk)
  refine ⟨A', c', ?_, ?_, ?_, ?_, q5⟩
  · rw [show off + 4 + i * 4 = off + (i + 1) * 4 by omega]; exact q0
  · rw [show off + 4 + i * 4 + 1 = off + (i + 1) * 4 + 1 by omega]; exact q1
  · rw [show off + 4 + i * 4 + 2 = off + (i + 1) * 4 + 2 by omega]; exact q2
  · rw [show off + 4 + i * 4 + 3 = off + (i + 1) * 4 + 3 by omega]; exact q3

set_option maxRecDepth 100000 in
set_option maxHeartbeats 1000000 in
theorem expr21_any (g : Q → Nd → Bool) (F : Nat) (v : Value) (n : Nd) (W : World) (AS : SaysF W F 33 #[] (g .expr)) (hk : n.kind = 21) (hft : Fits n) (hv : NdV W (F + 1) v n) :
    Calls Tryz.prog 33 #[v] W fun e w' => e = .returned (.bool (n.text.toList == [] && (decide (0 < n.kids.length) && n.kids.all (g .expr)))) ∧ Below W.heap.size W w' := by
  obtain ⟨A, c, rfl, hm⟩ := hv.val
  have hb : Below W.heap.size W (W.alloc (.cells #[.int .i64 n.kind, .string n.text, .slice A n.kids.length c, .int .i64 n.place] 24)) := (Below.refl _ W).alloc (Nat.le_refl _) _
  have AL := Lib.hid (all_f F 33 #[] (g .expr) n.kids A c _ (AS.below hb) (hv.lst.below hb) (fun k hk => hft.kid hk) hm)
  have HB := Lib.hid hb
  have eg := AS.1
  clear hb hv AS hft
  unfold Nd.val
  generalize n.kids.all (g .expr) = r at AL ⊢
  have l1 : decide ((0 : Int) < (n.kids.length : Int)) = decide (0 < n.kids.length) := by simp only [decide_eq_decide]; omega
  have LL := Lib.hid l1
  clear l1
  rw [hk] at AL HB ⊢
  cases h2 : (n.text.toList == []) <;> cases h3 : decide (0 < n.kids.length) <;>
    (have h4 := LL.out
     rw [h3] at h4
     go_enter Tryz.func33, Tryz.ntmps33
     go_wp2_with fail)
  all_goals first
    | (go_ret; exact ⟨rfl, HB.out⟩)
    | (refine AL.out.mono ?_
       rintro e w2 ⟨rfl, b2⟩
       have HB2 := Lib.hid (HB.out.trans (b2.mono HB.out.size))
       clear b2
       go_wp2_with fail
       go_ret
       exact ⟨rfl, HB2.out⟩)

set_option maxRecDepth 100000 in
set_option maxHeartbeats 1000000 in
theorem expro_any (g : Q → Nd → Bool) (F : Nat) (v : Value) (n : Nd) (W : World) (SI : SaysF W F 35 #[] (isSigB g)) (BL : SaysF W F 62 #[] (blockB g)) (h16 : n.kind ≠ 16) (h17 : n.kind ≠ 17) (h18 : n.kind ≠ 18) (h19 : n.kind ≠ 19) (h20 : n.kind ≠ 20) (h21 : n.kind ≠ 21) (h22 : n.kind ≠ 22) (h23 : n.kind ≠ 23) (h24 : n.kind ≠ 24) (hft : Fits n) (hv : NdV W (F + 1) v n) :
    Calls Tryz.prog 33 #[v] W fun e w' => e = .returned (.bool (ofN n 25 [isSigB g, blockB g])) ∧ Below W.heap.size W w' := by
  obtain ⟨A, c, rfl, hm⟩ := hv.val
  have hmf : ∀ fn first cap w, (Instr.makeFunc fn first cap).run Tryz.prog w = .ok (.func fn first cap) w := fun _ _ _ _ => rfl
  have hb : Below W.heap.size W (W.alloc (.cells #[.int .i64 n.kind, .string n.text, .slice A n.kids.length c, .int .i64 n.place] 24)) := (Below.refl _ W).alloc (Nat.le_refl _) _
  have HB0 := Lib.hid hb
  have SI := Lib.hid SI
  have BL := Lib.hid BL
  have b2 := hb.alloc (by simp) (.cells #[.func (.func 35) #[] #[], .func (.func 62) #[] #[]] 33)
  have HBX := Lib.hid b2
  have OF := Lib.hid (of_f F _ n 25 [(35, #[]), (62, #[])] [(isSigB g), (blockB g)] _ (hv.below b2) hft (by simp) (W.heap.size + 1) 33 (fun _ => by have := Whole.new (W.alloc (.cells #[.int .i64 n.kind, .string n.text, .slice A n.kids.length c, .int .i64 n.place] 24)) 33 #[.func (.func 35) #[] #[], .func (.func 62) #[] #[]]; rw [World.size_alloc] at this; exact this) (some ⟨W.heap.size + 1, 0, none⟩) (fun _ => rfl) 2 ⟨SI.out.below b2, BL.out.below b2, trivial⟩)
  clear b2
  simp only [List.length_cons, List.length_nil, Nat.zero_add, List.map_cons, List.map_nil, fnVal] at OF
  clear hb hv hft HB0
  unfold Nd.val at OF ⊢
  have d16 : decide (n.kind = 16) = false := decide_eq_false h16
  have e16 : (n.kind == 16) = false := by simpa using h16
  have d17 : decide (n.kind = 17) = false := decide_eq_false h17
  have e17 : (n.kind == 17) = false := by simpa using h17
  have d18 : decide (n.kind = 18) = false := decide_eq_false h18
  have e18 : (n.kind == 18) = false := by simpa using h18
  have d19 : decide (n.kind = 19) = false := decide_eq_false h19
  have e19 : (n.kind == 19) = false := by simpa using h19
  have d20 : decide (n.kind = 20) = false := decide_eq_false h20
  have e20 : (n.kind == 20) = false := by simpa using h20
  have d21 : decide (n.kind = 21) = false := decide_eq_false h21
  have e21 : (n.kind == 21) = false := by simpa using h21
  have d22 : decide (n.kind = 22) = false := decide_eq_false h22
  have e22 : (n.kind == 22) = false := by simpa using h22
  have d23 : decide (n.kind = 23) = false := decide_eq_false h23
  have e23 : (n.kind == 23) = false := by simpa using h23
  have d24 : decide (n.kind = 24) = false := decide_eq_false h24
  have e24 : (n.kind == 24) = false := by simpa using h24
  go_enter Tryz.func33, Tryz.ntmps33
  go_wp2_with fail
  refine OF.out.mono ?_
  rintro e wl ⟨rfl, bl⟩
  have HBL := Lib.hid (HBX.out.trans (bl.mono HBX.out.size))
  clear bl OF
  go_wp2_with fail
  go_ret
  exact ⟨rfl, HBL.out⟩

set_option maxRecDepth 100000 in
set_option maxHeartbeats 1000000 in
theorem expr22_any (g : Q → Nd → Bool) (F : Nat) (v : Value) (n : Nd) (W : World) (E : SaysF W F 33 #[] (g .expr)) (P : SaysF W F 73 #[] (partB g)) (hk : n.kind = 22) (hft : Fits n) (hv : NdV W (F + 1) v n) :
    Calls Tryz.prog 33 #[v] W fun e w' => e = .returned (.bool (n.text.toList == [] && (decide (1 < n.kids.length) && ((n.kids.take 1).all (g .expr) && (n.kids.drop 1).all (partB g))))) ∧ Below W.heap.size W w' := by
  obtain ⟨A, c, rfl, hm⟩ := hv.val
  have hb : Below W.heap.size W (W.alloc (.cells #[.int .i64 n.kind, .string n.text, .slice A n.kids.length c, .int .i64 n.place] 24)) := (Below.refl _ W).alloc (Nat.le_refl _) _
  have HB := Lib.hid hb
  have LK := Lib.hid fun w' (h : Below W.heap.size W w') => hv.lst.below h
  have hcap := hv.cap
  have KW := Lib.hid (Whole.new W 24 #[.int .i64 n.kind, .string n.text, .slice A n.kids.length c, .int .i64 n.place])
  have HE := Lib.hid E
  have HP := Lib.hid P
  have HF := Lib.hid fun k hk => hft.kid (k := k) hk
  have e36 := E.1
  have e56 := P.1
  clear hb hv E P hft
  unfold Nd.val
  rw [hk] at HB KW ⊢
  have l1 : decide ((1 : Int) < (n.kids.length : Int)) = decide (1 < n.kids.length) := by simp only [decide_eq_decide]; omega
  have LL := Lib.hid l1
  clear l1
  cases h2 : (n.text.toList == []) with
  | false =>
    go_enter Tryz.func33, Tryz.ntmps33
    go_wp2_with fail
    go_ret
    exact ⟨rfl, HB.out⟩
  | true =>
  by_cases hl : 1 < n.kids.length
  · have h3 : decide (1 < n.kids.length) = true := decide_eq_true hl
    have h4 := LL.out
    rw [h3] at h4
    have hl0 : 0 < n.kids.length := by omega
    obtain ⟨b, off, k, A', c', rfl, hk0, hbl, q0, q1, q2, q3, q5⟩ := (LK.out _ HB.out).kid (p := 0) hl0
    have EL := Lib.hid (HE.out.2 _ _ k HB.out (HF.out k (List.mem_of_getElem? hk0)) q5)
    have et : (n.kids.take 1).all (g .expr) = g .expr k := by
      cases hL : n.kids with
      | nil => rw [hL] at hl0; simp at hl0
      | cons x l =>
        rw [hL] at hk0
        have e1 : x = k := by simpa using hk0
        simp [e1]
    rw [et, h3]
    simp only [Nat.zero_mul, Nat.add_zero] at q0 q1 q2 q3
    generalize g .expr k = r at EL ⊢
    clear et hk0 q5
    unfold Nd.val at EL
    go_enter Tryz.func33, Tryz.ntmps33
    go_wp2_with fail
    refine EL.out.mono ?_
    rintro e w2 ⟨rfl, b2⟩
    have HB2 := Lib.hid (HB.out.trans (b2.mono HB.out.size))
    have KW := Lib.hid (KW.out.below b2 KW.out.lt)
    clear b2 EL HB q0 q1 q2 q3
    cases r with
    | false =>
      go_wp2_with fail
      go_ret
      exact ⟨rfl, HB2.out⟩
    | true =>
      have hd : (n.kids.drop 1).length = n.kids.length - 1 := by simp
      have y0 : w2.cell? ⟨W.heap.size, 0, none⟩ = some (.int .i64 22) := KW.out.cell 0
      have y1 : w2.cell? ⟨W.heap.size, 1, none⟩ = some (.string n.text) := KW.out.cell 1
      have y2 : w2.cell? ⟨W.heap.size, 2, none⟩ = some (.slice (some ⟨b, off, none⟩) n.kids.length c) := KW.out.cell 2
      have y3 : w2.cell? ⟨W.heap.size, 3, none⟩ = some (.int .i64 n.place) := KW.out.cell 3
      have hc1 : ¬ c = 1 := by omega
      have AL := Lib.hid (all_f F 73 #[] (partB g) (n.kids.drop 1) (some ⟨b, off + 4, none⟩) (c - 1) w2 (HP.out.below HB2.out) (LK.out w2 HB2.out).drop1 (fun k hk => HF.out k (List.mem_of_mem_drop hk)) (by rw [hd]; omega))
      rw [hd] at AL
      have hs1 : (1 : Int) ≤ (n.kids.length : Int) := by omega
      obtain ⟨r, hr⟩ : ∃ r, r = (n.kids.drop 1).all (partB g) := ⟨_, rfl⟩
      rw [← hr] at AL
      have HR := Lib.hid hr
      clear hr
      clear hd
      go_wp2_with fail
      refine AL.out.mono ?_
      rintro e w3 ⟨rfl, b3⟩
      have HB3 := Lib.hid (HB2.out.trans (b3.mono HB2.out.size))
      clear b3 AL
      go_wp2_with fail
      go_ret
      exact ⟨by rw [← HR.out]; rfl, HB3.out⟩
  · have h3 : decide (1 < n.kids.length) = false := decide_eq_false hl
    have h4 := LL.out
    rw [h3] at h4
    rw [h3]
    go_enter Tryz.func33, Tryz.ntmps33
    go_wp2_with fail
    go_ret
    exact ⟨rfl, HB.out⟩

set_option maxRecDepth 100000 in
set_option maxHeartbeats 1000000 in
theorem expr24_any (g : Q → Nd → Bool) (F : Nat) (v : Value) (n : Nd) (W : World) (E : SaysF W F 32 #[] (g .typ)) (P : SaysF W F 33 #[] (g .expr)) (hk : n.kind = 24) (hft : Fits n) (hv : NdV W (F + 1) v n) :
    Calls Tryz.prog 33 #[v] W fun e w' => e = .returned (.bool (n.text.toList == [] && (decide (0 < n.kids.length) && ((n.kids.take 1).all (fun k => !(k.kind == 12) && g .typ k) && (n.kids.drop 1).all (g .expr))))) ∧ Below W.heap.size W w' := by
  obtain ⟨A, c, rfl, hm⟩ := hv.val
  have hb : Below W.heap.size W (W.alloc (.cells #[.int .i64 n.kind, .string n.text, .slice A n.kids.length c, .int .i64 n.place] 24)) := (Below.refl _ W).alloc (Nat.le_refl _) _
  have HB := Lib.hid hb
  have LK := Lib.hid fun w' (h : Below W.heap.size W w') => hv.lst.below h
  have hcap := hv.cap
  have KW := Lib.hid (Whole.new W 24 #[.int .i64 n.kind, .string n.text, .slice A n.kids.length c, .int .i64 n.place])
  have HE := Lib.hid E
  have HP := Lib.hid P
  have HF := Lib.hid fun k hk => hft.kid (k := k) hk
  have e35 := E.1
  have e36 := P.1
  clear hb hv E P hft
  unfold Nd.val
  rw [hk] at HB KW ⊢
  have l1 : decide ((0 : Int) < (n.kids.length : Int)) = decide (0 < n.kids.length) := by simp only [decide_eq_decide]; omega
  have LL := Lib.hid l1
  clear l1
  cases h2 : (n.text.toList == []) with
  | false =>
    go_enter Tryz.func33, Tryz.ntmps33
    go_wp2_with fail
    go_ret
    exact ⟨rfl, HB.out⟩
  | true =>
  by_cases hl : 0 < n.kids.length
  · have h3 : decide (0 < n.kids.length) = true := decide_eq_true hl
    have h4 := LL.out
    rw [h3] at h4
    have hl0 : 0 < n.kids.length := by omega
    obtain ⟨b, off, k, A', c', rfl, hk0, hbl, q0, q1, q2, q3, q5⟩ := (LK.out _ HB.out).kid (p := 0) hl0
    have EL := Lib.hid (HE.out.2 _ _ k HB.out (HF.out k (List.mem_of_getElem? hk0)) q5)
    have et : (n.kids.take 1).all (fun k => !(k.kind == 12) && g .typ k) = (!(k.kind == 12) && g .typ k) := by
      cases hL : n.kids with
      | nil => rw [hL] at hl0; simp at hl0
      | cons x l =>
        rw [hL] at hk0
        have e1 : x = k := by simpa using hk0
        simp [e1]
    rw [et, h3]
    simp only [Nat.zero_mul, Nat.add_zero] at q0 q1 q2 q3
    generalize g .typ k = r at EL ⊢
    clear et hk0 q5
    unfold Nd.val at EL
    cases hkk : (k.kind == 12) with
    | true =>
      have hk2 : (k.kind != 12) = false := by simp only [bne, hkk]; rfl
      go_enter Tryz.func33, Tryz.ntmps33
      go_wp2_with fail
      go_ret
      exact ⟨rfl, HB.out⟩
    | false =>
    have hk2 : (k.kind != 12) = true := by simp only [bne, hkk]; rfl
    go_enter Tryz.func33, Tryz.ntmps33
    go_wp2_with fail
    refine EL.out.mono ?_
    rintro e w2 ⟨rfl, b2⟩
    have HB2 := Lib.hid (HB.out.trans (b2.mono HB.out.size))
    have KW := Lib.hid (KW.out.below b2 KW.out.lt)
    clear b2 EL HB q0 q1 q2 q3
    cases r with
    | false =>
      go_wp2_with fail
      go_ret
      exact ⟨rfl, HB2.out⟩
    | true =>
      have hd : (n.kids.drop 1).length = n.kids.length - 1 := by simp
      have y0 : w2.cell? ⟨W.heap.size, 0, none⟩ = some (.int .i64 24) := KW.out.cell 0
      have y1 : w2.cell? ⟨W.heap.size, 1, none⟩ = some (.string n.text) := KW.out.cell 1
      have y2 : w2.cell? ⟨W.heap.size, 2, none⟩ = some (.slice (some ⟨b, off, none⟩) n.kids.length c) := KW.out.cell 2
      have y3 : w2.cell? ⟨W.heap.size, 3, none⟩ = some (.int .i64 n.place) := KW.out.cell 3
      by_cases hc1 : c = 1
      · have hnil : n.kids.drop 1 = [] := List.drop_of_length_le (by omega)
        have hd0 : n.kids.length - 1 = 0 := by omega
        have AL := Lib.hid (all_f F 33 #[] (g .expr) [] (some ⟨b, off, none⟩) 0 w2 (HP.out.below HB2.out) (fun h => absurd h (by simp)) (fun k hk => by simp at hk) (by simp))
        have hs1 : (1 : Int) ≤ (n.kids.length : Int) := by omega
        have HN := Lib.hid hnil
        rw [List.length_nil] at AL
        clear hd hnil
        go_wp2_with fail
        first | rw [hd0] | skip
        refine AL.out.mono ?_
        rintro e w3 ⟨rfl, b3⟩
        have HB3 := Lib.hid (HB2.out.trans (b3.mono HB2.out.size))
        clear b3 AL
        go_wp2_with fail
        go_ret
        exact ⟨by rw [HN.out]; rfl, HB3.out⟩
      have AL := Lib.hid (all_f F 33 #[] (g .expr) (n.kids.drop 1) (some ⟨b, off + 4, none⟩) (c - 1) w2 (HP.out.below HB2.out) (LK.out w2 HB2.out).drop1 (fun k hk => HF.out k (List.mem_of_mem_drop hk)) (by rw [hd]; omega))
      rw [hd] at AL
      have hs1 : (1 : Int) ≤ (n.kids.length : Int) := by omega
      obtain ⟨r, hr⟩ : ∃ r, r = (n.kids.drop 1).all (g .expr) := ⟨_, rfl⟩
      rw [← hr] at AL
      have HR := Lib.hid hr
      clear hr
      clear hd
      go_wp2_with fail
      refine AL.out.mono ?_
      rintro e w3 ⟨rfl, b3⟩
      have HB3 := Lib.hid (HB2.out.trans (b3.mono HB2.out.size))
      clear b3 AL
      go_wp2_with fail
      go_ret
      exact ⟨by rw [← HR.out]; rfl, HB3.out⟩
  · have h3 : decide (0 < n.kids.length) = false := decide_eq_false hl
    have h4 := LL.out
    rw [h3] at h4
    rw [h3]
    go_enter Tryz.func33, Tryz.ntmps33
    go_wp2_with fail
    go_ret
    exact ⟨rfl, HB.out⟩

end Go.Proofs.YtkmhijkpbmcgbaaGreat

namespace Go.Proofs.YtkmhijkpbmcgbaaGreat
set_option linter.all false
open Go.RowKit Go.Shelf

/-- The four questions that come back, at a depth. -/
structure Know (w : World) (F : Nat) (g : Q → Nd → Bool) : Prop where
  mx : Mx w
  typ : SaysF w F 32 #[] (g .typ)
  expr : SaysF w F 33 #[] (g .expr)
  stmt : SaysF w F 34 #[] (g .stmt)
  iff : SaysF w F 78 #[] (g .iff)
theorem Know.below {w w' : World} {F : Nat} {g : Q → Nd → Bool} (h : Know w F g) (hb : Below w.heap.size w w') : Know w' F g :=
  ⟨h.mx.below hb, h.typ.below hb, h.expr.below hb, h.stmt.below hb, h.iff.below hb⟩
section
variable {w : World} {F : Nat} {g : Q → Nd → Bool}
theorem Know.sig (k : Know w F g) : SaysF w (F + 1) 35 #[] (isSigB g) := ⟨enters_of Tryz.func35 (by kernel_rfl) rfl, fun W v n hW hft hv => issig_any g F v n W (k.typ.below hW) hft hv⟩
theorem Know.term (k : Know w F g) : SaysF w (F + 1) 98 #[] (termB g) := ⟨enters_of Tryz.func98 (by kernel_rfl) rfl, fun W v n hW hft hv => term_any g F v n W (k.typ.below hW) hft hv⟩
theorem Know.field (k : Know w F g) : SaysF w (F + 1) 97 #[] (fieldB g) := ⟨enters_of Tryz.func97 (by kernel_rfl) rfl, fun W v n hW hft hv => field_any g F v n W (k.typ.below hW) hft hv⟩
theorem Know.str (k : Know w F g) : SaysF w (F + 1) 64 #[] (structB g) := ⟨enters_of Tryz.func64 (by kernel_rfl) rfl, fun W v n hW hft hv => struct_any g F v n W ((k.field.le (Nat.le_succ _)).below hW) hft hv⟩
theorem Know.inter (k : Know w F g) : SaysF w (F + 1) 65 #[] (interB g) := ⟨enters_of Tryz.func65 (by kernel_rfl) rfl, fun W v n hW hft hv => inter_any g F v n W ((k.term.le (Nat.le_succ _)).below hW) hft hv⟩
theorem Know.named1 (k : Know w F g) : SaysF w F 93 #[] (named1B g) := ⟨enters_of Tryz.func93 (by kernel_rfl) rfl, fun W v n hW hft hv => named1_any g F v n W (k.typ.below hW) hft hv⟩
theorem Know.params (k : Know w F g) : SaysF w (F + 1) 61 #[] (paramsB g) := ⟨enters_of Tryz.func61 (by kernel_rfl) rfl, fun W v n hW hft hv => params_any g F v n W (k.named1.below hW) ((k.inter.le (Nat.le_succ _)).below hW) hft hv⟩
theorem Know.var (k : Know w F g) : SaysF w (F + 1) 66 #[] (varB g) := ⟨enters_of Tryz.func66 (by kernel_rfl) rfl, fun W v n hW hft hv => var_any g F v n W (k.typ.below hW) (k.expr.below hW) hft hv⟩
theorem Know.block (k : Know w F g) : SaysF w (F + 1) 62 #[] (blockB g) := ⟨enters_of Tryz.func62 (by kernel_rfl) rfl, fun W v n hW hft hv => block_any g F v n W (k.stmt.below hW) hft hv⟩
theorem Know.call1 (k : Know w F g) : SaysF w F 105 #[] (call1B g) := ⟨enters_of Tryz.func105 (by kernel_rfl) rfl, fun W v n hW hft hv => call1_any g F v n W (k.expr.below hW) hft hv⟩
theorem Know.short (k : Know w F g) : SaysF w (F + 1) 74 #[] (shortB g) := ⟨enters_of Tryz.func74 (by kernel_rfl) rfl, fun W v n hW hft hv => short_any g F v n W (k.expr.below hW) hft hv⟩
theorem Know.set (k : Know w F g) : SaysF w (F + 1) 75 #[] (setB g) := ⟨enters_of Tryz.func75 (by kernel_rfl) rfl, fun W v n hW hft hv => set_any g F v n W (k.expr.below hW) hft hv⟩
theorem Know.inc (k : Know w F g) : SaysF w (F + 1) 76 #[] (incB g) := ⟨enters_of Tryz.func76 (by kernel_rfl) rfl, fun W v n hW hft hv => inc_any g F v n W (k.expr.below hW) hft hv⟩
theorem Know.call (k : Know w F g) : SaysF w (F + 1) 77 #[] (callB g) := ⟨enters_of Tryz.func77 (by kernel_rfl) rfl, fun W v n hW hft hv => call_any g F v n W (k.call1.below hW) hft hv⟩
theorem Know.part (k : Know w F g) : SaysF w F 73 #[] (partB g) := ⟨enters_of Tryz.func73 (by kernel_rfl) rfl, fun W v n hW hft hv => part_any g F v n W (k.typ.below hW) (k.expr.below hW) hft hv⟩
theorem Know.ifs (k : Know w F g) : SaysF w (F + 1) 78 #[] (ifB g) := ⟨enters_of Tryz.func78 (by kernel_rfl) rfl, fun W v n hW hft hv => if_any g F v n W (k.expr.below hW) ((k.block.le (Nat.le_succ _)).below hW) (k.iff.below hW) hft hv⟩
theorem Know.decl (k : Know w F g) : SaysF w (F + 1) 31 #[] (declB g) := ⟨enters_of Tryz.func31 (by kernel_rfl) rfl, fun W v n hW hft hv => by
  have b := k.below hW
  have le := Nat.le_succ F
  unfold declB
  by_cases h2 : n.kind = 2
  · rw [if_pos h2]
    exact decl2_any g F v n W (b.params.le le) (b.sig.le le) (b.block.le le) h2 hft hv
  rw [if_neg h2]
  by_cases h3 : n.kind = 3
  · rw [if_pos h3]
    exact decl3_any g F v n W (b.params.le le) b.typ (b.str.le le) (b.inter.le le) h3 hft hv
  rw [if_neg h3]
  by_cases h4 : n.kind = 4
  · rw [if_pos h4]
    exact decl4_any g F v n W (b.params.le le) b.typ h4 hft hv
  rw [if_neg h4]
  exact declo_any g F v n W b.var h2 h3 h4 hft hv⟩
theorem Know.typs (k : Know w F g) : SaysF w (F + 1) 32 #[] (typB g) := ⟨enters_of Tryz.func32 (by kernel_rfl) rfl, fun W v n hW hft hv => by
  have b := k.below hW
  unfold typB
  by_cases h10 : n.kind = 10
  · rw [if_pos h10]
    exact type10_any g F v n W b.typ h10 hft hv
  rw [if_neg h10]
  by_cases h11 : n.kind = 11
  · rw [if_pos h11]
    exact type11_any g F v n W b.typ h11 hft hv
  rw [if_neg h11]
  by_cases h12 : n.kind = 12
  · rw [if_pos h12]
    exact type12_any g F v n W b.typ h12 hft hv
  rw [if_neg h12]
  exact typeo_any g F v n W h10 h11 h12 hft hv⟩
theorem Know.exprs (k : Know w F g) : SaysF w (F + 1) 33 #[] (exprB g) := ⟨enters_of Tryz.func33 (by kernel_rfl) rfl, fun W v n hW hft hv => by
  have b := k.below hW
  have le := Nat.le_succ F
  have ht := Nat.le_of_lt hft.text
  unfold exprB
  by_cases h16 : n.kind = 16
  · rw [if_pos h16]; exact expr16_any g F v n W h16 hft hv
  rw [if_neg h16]
  by_cases h17 : n.kind = 17
  · rw [if_pos h17]; exact expr17_any g F v n W h17 hft hv
  rw [if_neg h17]
  by_cases h18 : n.kind = 18
  · rw [if_pos h18]; exact expr18_any g F v n W h18 hft hv
  rw [if_neg h18]
  by_cases h19 : n.kind = 19
  · rw [if_pos h19]; exact expr19_any g F v n W b.expr h19 hft hv
  rw [if_neg h19]
  by_cases h20 : n.kind = 20
  · rw [if_pos h20]; exact expr20_any g F v n W b.expr (binary_s n.text W b.mx ht) h20 hft hv
  rw [if_neg h20]
  by_cases h21 : n.kind = 21
  · rw [if_pos h21]; exact expr21_any g F v n W b.expr h21 hft hv
  rw [if_neg h21]
  by_cases h22 : n.kind = 22
  · rw [if_pos h22]; exact expr22_any g F v n W b.expr b.part h22 hft hv
  rw [if_neg h22]
  by_cases h23 : n.kind = 23
  · rw [if_pos h23]; exact expr23_any g F v n W b.expr h23 hft hv
  rw [if_neg h23]
  by_cases h24 : n.kind = 24
  · rw [if_pos h24]; exact expr24_any g F v n W b.typ b.expr h24 hft hv
  rw [if_neg h24]
  exact expro_any g F v n W (b.sig.le le) (b.block.le le) h16 h17 h18 h19 h20 h21 h22 h23 h24 hft hv⟩
theorem Know.stmts (k : Know w F g) : SaysF w (F + 1) 34 #[] (stmtB g) := ⟨enters_of Tryz.func34 (by kernel_rfl) rfl, fun W v n hW hft hv => by
  have b := k.below hW
  have le := Nat.le_succ F
  have ht := Nat.le_of_lt hft.text
  unfold stmtB
  by_cases h5 : n.kind = 5
  · rw [if_pos h5]; exact stmt5_any g F v n W b.var h5 hft hv
  rw [if_neg h5]
  by_cases h26 : n.kind = 26
  · rw [if_pos h26]; exact stmt26_any g F v n W b.short h26 hft hv
  rw [if_neg h26]
  by_cases h27 : n.kind = 27
  · rw [if_pos h27]; exact stmt27_any g F v n W b.set h27 hft hv
  rw [if_neg h27]
  by_cases h28 : n.kind = 28
  · rw [if_pos h28]; exact stmt28_any g F v n W b.inc h28 hft hv
  rw [if_neg h28]
  by_cases h29 : n.kind = 29
  · rw [if_pos h29]; exact stmt29_any g F v n W b.call h29 hft hv
  rw [if_neg h29]
  by_cases h30 : n.kind = 30
  · rw [if_pos h30]; exact stmt30_any g F v n W b.ifs h30 hft hv
  rw [if_neg h30]
  by_cases h31 : n.kind = 31
  · rw [if_pos h31]; exact stmt31_any g F v n W b.expr (b.block.le le) (b.short.le le) (b.set.le le) (b.inc.le le) (b.call.le le) h31 hft hv
  rw [if_neg h31]
  by_cases h32 : n.kind = 32
  · rw [if_pos h32]; exact stmt32_any g F v n W b.expr (b.block.le le) (ranged_s n.text W b.mx ht) h32 hft hv
  rw [if_neg h32]
  by_cases h33 : n.kind = 33
  · rw [if_pos h33]; exact stmt33_any g F v n W b.expr h33 hft hv
  rw [if_neg h33]
  by_cases h34 : n.kind = 34
  · rw [if_pos (.inl h34), h34]; exact stmt34_any g F v n W h34 hft hv
  by_cases h35 : n.kind = 35
  · rw [if_pos (.inr h35), h35]; exact stmt35_any g F v n W h35 hft hv
  rw [if_neg (by rintro (h | h); exact h34 h; exact h35 h)]
  exact stmto_any g F v n W b.block h5 h26 h27 h28 h29 h30 h31 h32 h33 h34 h35 hft hv⟩
end
theorem know : ∀ (F : Nat) (w : World), Mx w → Know w F (isN F)
  | 0, w, hx => ⟨hx, ⟨enters_of Tryz.func32 (by kernel_rfl) rfl, fun W v n hW hft hv => hv.elim⟩, ⟨enters_of Tryz.func33 (by kernel_rfl) rfl, fun W v n hW hft hv => hv.elim⟩, ⟨enters_of Tryz.func34 (by kernel_rfl) rfl, fun W v n hW hft hv => hv.elim⟩, ⟨enters_of Tryz.func78 (by kernel_rfl) rfl, fun W v n hW hft hv => hv.elim⟩⟩
  | F + 1, w, hx => ⟨hx, (know F w hx).typs, (know F w hx).exprs, (know F w hx).stmts, (know F w hx).ifs⟩

end Go.Proofs.YtkmhijkpbmcgbaaGreat
