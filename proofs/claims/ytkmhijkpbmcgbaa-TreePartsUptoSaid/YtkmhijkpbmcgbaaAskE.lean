/-
  The questions' contracts: parameters of types, variables, parts.
-/
import Derived.Test.YtkmhijkpbmcgbaaAskD
namespace Go.Proofs.Ytkmhijkpbmcgbaa
set_option linter.all false
open Go.RowKit Go.Shelf

set_option maxRecDepth 100000 in
set_option maxHeartbeats 1000000 in
theorem params_any (g : Q → Nd → Bool) (F : Nat) (v : Value) (n : Nd) (W : World) (N9 : SaysF W F 68 #[] (named1B g)) (IR : SaysF W F 48 #[] (interB g)) (hft : Fits n) (hv : NdV W (F + 1) v n) :
    Calls Try.prog 44 #[v] W fun e w' => e = .returned (.bool (paramsB g n)) ∧ Below W.heap.size W w' := by
  obtain ⟨A, c, rfl, hm⟩ := hv.val
  have hmf : ∀ fn first cap w, (Instr.makeFunc fn first cap).run Try.prog w = .ok (.func fn first cap) w := fun _ _ _ _ => rfl
  have hb : Below W.heap.size W ((W.alloc (.cells #[.int .i64 n.kind, .string n.text, .slice A n.kids.length c, .int .i64 n.place] 24)).alloc (.cells #[.func (.func 68) #[] #[]] 30)) := ((Below.refl _ W).alloc (Nat.le_refl _) _).alloc (by simp) _
  have k1 : Whole ((W.alloc (.cells #[.int .i64 n.kind, .string n.text, .slice A n.kids.length c, .int .i64 n.place] 24)).alloc (.cells #[.func (.func 68) #[] #[]] 30)) (W.heap.size + 1) 30 #[.func (.func 68) #[] #[]] := by
    have := Whole.new (W.alloc (.cells #[.int .i64 n.kind, .string n.text, .slice A n.kids.length c, .int .i64 n.place] 24)) 30 #[.func (.func 68) #[] #[]]
    simpa using this
  have LI := Lib.hid (list_any F 70 #[.pointer (some ⟨W.heap.size + 1, 0, none⟩)] (tparamB g) _ n _ ⟨enters_of Try.func70 (by kernel_rfl) rfl, fun w' v' n' hW' hft' hv' =>
    tparam_any g F v' n' w' (IR.below (hb.trans (hW'.mono hb.size))) (named1B g) (N9.below (hb.trans (hW'.mono hb.size))) _ ((hW'.cell (p := ⟨W.heap.size + 1, 0, none⟩) k1.lt).trans (k1.cell 0)) hft' (hv'.le (Nat.le_succ _))⟩ hft (hv.below hb))
  have HB := Lib.hid hb
  clear hb hv k1 N9 IR hft
  unfold paramsB
  unfold Nd.val at LI ⊢
  go_enter Try.func44, Try.ntmps44
  go_wp2_with fail
  refine LI.out.mono ?_
  rintro e w2 ⟨rfl, b2⟩
  have HB2 := Lib.hid (HB.out.trans (b2.mono HB.out.size))
  clear b2
  go_wp2_with fail
  go_ret
  exact ⟨rfl, HB2.out⟩

set_option maxRecDepth 100000 in
set_option maxHeartbeats 1000000 in
theorem part_any (g : Q → Nd → Bool) (F : Nat) (v : Value) (n : Nd) (W : World) (T : SaysF W F 35 #[] (g .typ)) (E : SaysF W F 36 #[] (g .expr)) (hft : Fits n) (hv : NdV W F v n) :
    Calls Try.prog 56 #[v] W fun e w' => e = .returned (.bool (partB g n)) ∧ Below W.heap.size W w' := by
  obtain ⟨A, c, rfl, hm⟩ := hv.val
  have hb : Below W.heap.size W (W.alloc (.cells #[.int .i64 n.kind, .string n.text, .slice A n.kids.length c, .int .i64 n.place] 24)) := (Below.refl _ W).alloc (Nat.le_refl _) _
  have EL := Lib.hid (E.2 _ _ n hb hft (hv.below hb))
  have TL := Lib.hid fun w' (h : Below (W.alloc (.cells #[.int .i64 n.kind, .string n.text, .slice A n.kids.length c, .int .i64 n.place] 24)).heap.size (W.alloc (.cells #[.int .i64 n.kind, .string n.text, .slice A n.kids.length c, .int .i64 n.place] 24)) w') => T.2 w' _ n (hb.trans (h.mono hb.size)) hft ((hv.below hb).below h)
  have KW := Lib.hid (Whole.new W 24 #[.int .i64 n.kind, .string n.text, .slice A n.kids.length c, .int .i64 n.place])
  have HB := Lib.hid hb
  have e35 := T.1
  have e36 := E.1
  clear hb hv hft T E
  unfold partB
  unfold Nd.val at EL TL ⊢
  generalize g .expr n = r at EL ⊢
  generalize g .typ n = r2 at TL ⊢
  go_enter Try.func56, Try.ntmps56
  go_wp2_with fail
  refine EL.out.mono ?_
  rintro e w2 ⟨rfl, b2⟩
  have HB2 := Lib.hid (HB.out.trans (b2.mono HB.out.size))
  have AL2 := Lib.hid (TL.out _ b2)
  have k2 := KW.out.below b2 KW.out.lt
  have c0 : w2.cell? ⟨W.heap.size, 0, none⟩ = some (.int .i64 n.kind) := k2.cell 0
  have c1 : w2.cell? ⟨W.heap.size, 1, none⟩ = some (.string n.text) := k2.cell 1
  have c2 : w2.cell? ⟨W.heap.size, 2, none⟩ = some (.slice A n.kids.length c) := k2.cell 2
  have c3 : w2.cell? ⟨W.heap.size, 3, none⟩ = some (.int .i64 n.place) := k2.cell 3
  clear b2 k2 TL KW EL HB
  cases r with
  | true =>
    go_wp2_with fail
    go_ret
    exact ⟨rfl, HB2.out⟩
  | false =>
    cases hk : (n.kind == 10) with
    | true =>
      have hk2 : (n.kind != 10) = false := by simp only [bne, hk]; rfl
      go_wp2_with fail
      go_ret
      exact ⟨by rw [hk]; rfl, HB2.out⟩
    | false =>
      have hk2 : (n.kind != 10) = true := by simp only [bne, hk]; rfl
      go_wp2_with fail
      refine AL2.out.mono ?_
      rintro e w3 ⟨rfl, b3⟩
      have HB3 := Lib.hid (HB2.out.trans (b3.mono HB2.out.size))
      clear b3
      go_wp2_with fail
      go_ret
      exact ⟨by rw [hk]; rfl, HB3.out⟩

theorem of_len {n : Nd} {b : Bool} {K : Int} {qs : List (Nd → Bool)} (h : ofN (namedN n b) K qs = true) (hK : K ≠ 37) : n.kids.length = qs.length := by
  cases b with
  | true =>
    unfold ofN at h
    simp only [Bool.and_eq_true, beq_iff_eq] at h
    exact h.1.2
  | false =>
    unfold ofN at h
    simp only [Bool.and_eq_true, beq_iff_eq] at h
    exact absurd h.1.1.1.symm hK

set_option maxRecDepth 100000 in
set_option maxHeartbeats 1000000 in
theorem var_any (g : Q → Nd → Bool) (F : Nat) (v : Value) (n : Nd) (W : World) (T : SaysF W F 35 #[] (g .typ)) (E : SaysF W F 36 #[] (g .expr)) (hft : Fits n) (hv : NdV W (F + 1) v n) :
    Calls Try.prog 49 #[v] W fun e w' => e = .returned (.bool (varB g n)) ∧ Below W.heap.size W w' := by
  obtain ⟨A, c, rfl, hm⟩ := hv.val
  have hmf : ∀ fn first cap w, (Instr.makeFunc fn first cap).run Try.prog w = .ok (.func fn first cap) w := fun _ _ _ _ => rfl
  have hb : Below W.heap.size W (W.alloc (.cells #[.int .i64 n.kind, .string n.text, .slice A n.kids.length c, .int .i64 n.place] 24)) := (Below.refl _ W).alloc (Nat.le_refl _) _
  have HB0 := Lib.hid hb
  have EMP : Hid (SaysF W F 62 #[] emptyB) := Lib.hid (empty_f W F)
  have T := Lib.hid T
  have E := Lib.hid E
  have NM := Lib.hid (named_c F 32 #[] _ n (nameB n.text) _ ((name_s n.text W).below hb) (hv.below hb))
  have hftm := hft.named (nameB n.text)
  have hlen : ofN (namedN n (nameB n.text)) 5 [fun k => emptyB k || g .typ k, fun k => emptyB k || g .expr k] = true → n.kids.length = 2 := fun h => of_len h (by omega)
  have LK := Lib.hid fun w' (h : Below W.heap.size W w') => hv.lst.below h
  have KW := Lib.hid (Whole.new W 24 #[.int .i64 n.kind, .string n.text, .slice A n.kids.length c, .int .i64 n.place])
  have HLEN := Lib.hid hlen
  clear hlen
  unfold varB
  generalize namedN n (nameB n.text) = m at NM hftm HLEN ⊢
  clear hb hv hft
  unfold Nd.val at NM ⊢
  obtain ⟨r, hr⟩ : ∃ r, r = ofN m 5 [fun k => emptyB k || g .typ k, fun k => emptyB k || g .expr k] := ⟨_, rfl⟩
  rw [← hr] at HLEN ⊢
  have HR := Lib.hid hr
  clear hr
  go_enter Try.func49, Try.ntmps49
  go_wp2_with fail
  refine NM.out.mono ?_
  rintro e w1 ⟨A1, c1, rfl, n1, b1⟩
  have HB1 := Lib.hid (HB0.out.trans (b1.mono HB0.out.size))
  have N1 := Lib.hid n1
  have KW := Lib.hid (KW.out.below b1 KW.out.lt)
  clear b1 n1 NM
  go_wp2_with fail
  refine (or_f F 62 35 #[] #[] emptyB (g .typ) w1 (EMP.out.below HB1.out) (T.out.below HB1.out)).mono ?_
  rintro e w2 ⟨rfl, s, b⟩
  have N1 := Lib.hid (N1.out.below b)
  have KW := Lib.hid (KW.out.below b KW.out.lt)
  have HB2 := Lib.hid (HB1.out.trans (b.mono HB1.out.size))
  have S2 := Lib.hid s
  clear s b
  go_wp2_with fail
  refine (or_f F 62 36 #[] #[] emptyB (g .expr) w2 (EMP.out.below HB2.out) (E.out.below HB2.out)).mono ?_
  rintro e w3 ⟨rfl, s, b⟩
  have S2 := Lib.hid (S2.out.below b)
  have N1 := Lib.hid (N1.out.below b)
  have KW := Lib.hid (KW.out.below b KW.out.lt)
  have HB3 := Lib.hid (HB2.out.trans (b.mono HB2.out.size))
  have S3 := Lib.hid s
  clear s b
  have b2 : Below w3.heap.size w3 (w3.alloc (.cells #[.func (.func 71) #[] #[.pointer (some ⟨w1.heap.size, 0, none⟩), .pointer (some ⟨w1.heap.size + 1, 0, none⟩)], .func (.func 71) #[] #[.pointer (some ⟨w2.heap.size, 0, none⟩), .pointer (some ⟨w2.heap.size + 1, 0, none⟩)]] 30)) := (Below.refl _ w3).alloc (Nat.le_refl _) _
  have HBX := Lib.hid (HB3.out.trans (b2.mono HB3.out.size))
  have OF := Lib.hid (of_f F _ m 5 [(71, #[.pointer (some ⟨w1.heap.size, 0, none⟩), .pointer (some ⟨w1.heap.size + 1, 0, none⟩)]), (71, #[.pointer (some ⟨w2.heap.size, 0, none⟩), .pointer (some ⟨w2.heap.size + 1, 0, none⟩)])] [(fun k => (emptyB k || (g .typ) k)), (fun k => (emptyB k || (g .expr) k))] _ (N1.out.below b2) hftm (by simp) w3.heap.size 30 (fun _ => Whole.new w3 30 _) (some ⟨w3.heap.size, 0, none⟩) (fun _ => rfl) 2 ⟨S2.out.below b2, S3.out.below b2, trivial⟩)
  have KW := Lib.hid (KW.out.below b2 KW.out.lt)
  clear b2
  simp only [List.length_cons, List.length_nil, Nat.zero_add, List.map_cons, List.map_nil, fnVal] at OF
  clear hftm N1
  rw [← HR.out] at OF
  go_wp2_with fail
  refine OF.out.mono ?_
  rintro e wl ⟨rfl, bl⟩
  have HBL := Lib.hid (HBX.out.trans (bl.mono HBX.out.size))
  have KW := Lib.hid (KW.out.below bl KW.out.lt)
  clear bl OF HBX HB3 HB2 HB1 HB0 S2 S3 EMP T E
  have y0 : wl.cell? ⟨W.heap.size, 0, none⟩ = some (.int .i64 n.kind) := KW.out.cell 0
  have y1 : wl.cell? ⟨W.heap.size, 1, none⟩ = some (.string n.text) := KW.out.cell 1
  have y2 : wl.cell? ⟨W.heap.size, 2, none⟩ = some (.slice A n.kids.length c) := KW.out.cell 2
  have y3 : wl.cell? ⟨W.heap.size, 3, none⟩ = some (.int .i64 n.place) := KW.out.cell 3
  clear HR
  cases r with
  | false =>
    go_wp2_with fail
    go_ret
    exact ⟨rfl, HBL.out⟩
  | true =>
    have hl2 : n.kids.length = 2 := HLEN.out rfl
    obtain ⟨b, off, k, A', c', rfl, hk, hbl, q0, q1, q2, q3, q5⟩ := (LK.out wl HBL.out).kid (p := 0) (by omega)
    obtain ⟨b', off', k', A2, c2, hA2, hk', hbl', _, _, _, _, _⟩ := (LK.out wl HBL.out).kid (p := 1) (by omega)
    injection hA2 with hA2
    injection hA2 with h1 h2
    subst h1 h2
    have EM := Lib.hid (empty_any F _ k wl q5)
    have hres : (n.kids.take 2).all emptyB = (emptyB k && emptyB k') := by
      have e : n.kids.take 2 = [k, k'] := by
        cases hL : n.kids with
        | nil => rw [hL] at hl2; simp at hl2
        | cons x l =>
          cases l with
          | nil => rw [hL] at hl2; simp at hl2
          | cons y l2 =>
            rw [hL] at hk hk'
            have e1 : x = k := by simpa using hk
            have e2 : y = k' := by simpa using hk'
            simp [e1, e2]
      rw [e]
      simp
    have HRES := Lib.hid hres
    have HK' := Lib.hid hk'
    have l0 : (0 : Nat) < 2 := by omega
    simp only [Nat.zero_mul, Nat.add_zero] at q0 q1 q2 q3
    rw [hl2] at y2
    have KW2 := Lib.hid KW.out
    clear hres hk hk' hbl' q5 HLEN
    unfold Nd.val at EM
    go_wp2_with fail
    refine EM.out.mono ?_
    rintro e w5 ⟨rfl, b5⟩
    have HB5 := Lib.hid (HBL.out.trans (b5.mono HBL.out.size))
    obtain ⟨b', off', k2', A2, c2, hA2, hk2, hbl', p0, p1, p2, p3, p5⟩ := (LK.out w5 HB5.out).kid (p := 1) (by omega)
    injection hA2 with hA2
    injection hA2 with h1 h2
    subst h1 h2
    obtain rfl : k' = k2' := by
      have := HK'.out
      rw [hk2] at this
      injection this with this
      exact this.symm
    have kw5 := KW2.out.below b5 KW2.out.lt
    have z0 : w5.cell? ⟨W.heap.size, 0, none⟩ = some (.int .i64 n.kind) := kw5.cell 0
    have z1 : w5.cell? ⟨W.heap.size, 1, none⟩ = some (.string n.text) := kw5.cell 1
    have z2 : w5.cell? ⟨W.heap.size, 2, none⟩ = some (.slice (some ⟨b, off, none⟩) n.kids.length c) := kw5.cell 2
    have z3 : w5.cell? ⟨W.heap.size, 3, none⟩ = some (.int .i64 n.place) := kw5.cell 3
    rw [hl2] at z2
    have EM2 := Lib.hid (empty_any F _ k' w5 p5)
    simp only [Nat.one_mul] at p0 p1 p2 p3
    unfold Nd.val at EM2
    clear b5 kw5 hk2 p5 EM KW KW2 HBL y0 y1 y2 y3 q0 q1 q2 q3
    cases he : emptyB k with
    | false =>
      go_wp2_with fail
      go_ret
      exact ⟨by rw [HRES.out, he]; rfl, HB5.out⟩
    | true =>
      go_wp2_with fail
      refine EM2.out.mono ?_
      rintro e w6 ⟨rfl, b6⟩
      have HB6 := Lib.hid (HB5.out.trans (b6.mono HB5.out.size))
      clear b6
      go_wp2_with fail
      go_ret
      exact ⟨by rw [HRES.out, he]; rfl, HB6.out⟩

end Go.Proofs.Ytkmhijkpbmcgbaa
