/-
  The plain questions in the order in which the reference asks.
  The reference's types.
  The reference's declarations.
  The reference's declarations: functions, types.
-/
import Derived.Test.YtkmhijkpbmcgbaaGreatRefSig
import Derived.Test.YtkmhijkpbmcgbaaGreatRefLists
import Derived.Test.YtkmhijkpbmcgbaaGreatRefVar
namespace Go.Proofs.YtkmhijkpbmcgbaaGreat
set_option linter.all false
open Go.RowKit Go.Shelf

theorem kids0 {n : Nd} (h : n.kids.length = 0) : n.kids = [] := List.length_eq_zero_iff.1 h
theorem kidsGet {n : Nd} {i : Nat} {k : Nd} (h : n.kids[i]? = some k) (hl : i < n.kids.length) : n.kids[i] = k := by
  rw [List.getElem?_eq_getElem hl] at h
  injection h
theorem kids3 {n : Nd} {k0 k1 k2 : Nd} (h : n.kids.length = 3) (h0 : n.kids[0]? = some k0) (h1 : n.kids[1]? = some k1) (h2 : n.kids[2]? = some k2) : n.kids = [k0, k1, k2] := by
  match hL : n.kids, h with
  | [a, b, c], _ =>
    rw [hL] at h0 h1 h2
    have e0 : a = k0 := by simpa using h0
    have e1 : b = k1 := by simpa using h1
    have e2 : c = k2 := by simpa using h2
    rw [e0, e1, e2]
theorem kids4 {n : Nd} {k0 k1 k2 k3 : Nd} (h : n.kids.length = 4) (h0 : n.kids[0]? = some k0) (h1 : n.kids[1]? = some k1) (h2 : n.kids[2]? = some k2) (h3 : n.kids[3]? = some k3) : n.kids = [k0, k1, k2, k3] := by
  match hL : n.kids, h with
  | [a, b, c, d], _ =>
    rw [hL] at h0 h1 h2 h3
    have e0 : a = k0 := by simpa using h0
    have e1 : b = k1 := by simpa using h1
    have e2 : c = k2 := by simpa using h2
    have e3 : d = k3 := by simpa using h3
    rw [e0, e1, e2, e3]
section
variable {n : Nd} {K : Int} {r : Bool}
theorem ofK {qs : List (Nd → Bool)} (hk : n.kind = K) : ofN n K qs = (n.text.toList == [] && (n.kids.length == qs.length && (n.kids.zip qs).all (fun x => x.2 x.1))) := by
  rw [of_eq, hk, beq_self_eq_true, Bool.true_and]
theorem nmK {qs : List (Nd → Bool)} (hK : K ≠ 37) (hk : n.kind = K) : ofN (namedN n r) K qs = (r && (n.kids.length == qs.length && (n.kids.zip qs).all (fun x => x.2 x.1))) := by
  rw [named_eq hK, hk, beq_self_eq_true, Bool.true_and]
theorem ofNo {qs : List (Nd → Bool)} (h : n.kids.length ≠ qs.length) : ofN n K qs = false := by
  rw [of_eq]
  have : (n.kids.length == qs.length) = false := by simpa using h
  rw [this]; simp
theorem nmNo {qs : List (Nd → Bool)} (hK : K ≠ 37) (h : n.kids.length ≠ qs.length) : ofN (namedN n r) K qs = false := by
  rw [named_eq hK]
  have : (n.kids.length == qs.length) = false := by simpa using h
  rw [this]; simp
theorem of0 (hk : n.kind = K) (hl : n.kids.length = 0) : ofN n K [] = (n.text.toList == []) := by
  rw [ofK hk, hl]; simp
theorem nm0 (hK : K ≠ 37) (hk : n.kind = K) (hl : n.kids.length = 0) : ofN (namedN n r) K [] = r := by
  rw [nmK hK hk, hl]; simp
variable {k0 k1 k2 k3 : Nd} {q0 q1 q2 q3 : Nd → Bool}
theorem of1 (hk : n.kind = K) (hl : n.kids.length = 1) (h0 : n.kids[0]? = some k0) : ofN n K [q0] = (n.text.toList == [] && q0 k0) := by
  rw [ofK hk, kids1 hl h0]; simp
theorem nm1 (hK : K ≠ 37) (hk : n.kind = K) (hl : n.kids.length = 1) (h0 : n.kids[0]? = some k0) : ofN (namedN n r) K [q0] = (r && q0 k0) := by
  rw [nmK hK hk, kids1 hl h0]; simp
theorem of2 (hk : n.kind = K) (hl : n.kids.length = 2) (h0 : n.kids[0]? = some k0) (h1 : n.kids[1]? = some k1) : ofN n K [q0, q1] = (n.text.toList == [] && (q0 k0 && q1 k1)) := by
  rw [ofK hk, kids2 hl h0 h1]; simp
theorem nm2 (hK : K ≠ 37) (hk : n.kind = K) (hl : n.kids.length = 2) (h0 : n.kids[0]? = some k0) (h1 : n.kids[1]? = some k1) : ofN (namedN n r) K [q0, q1] = (r && (q0 k0 && q1 k1)) := by
  rw [nmK hK hk, kids2 hl h0 h1]; simp
theorem of2all (hk : n.kind = K) (hl : n.kids.length = 2) (h0 : n.kids[0]? = some k0) (h1 : n.kids[1]? = some k1) : ofN n K [q0, q0] = (n.text.toList == [] && n.kids.all q0) := by
  rw [of2 hk hl h0 h1, kids2 hl h0 h1]; simp
theorem nm2all (hK : K ≠ 37) (hk : n.kind = K) (hl : n.kids.length = 2) (h0 : n.kids[0]? = some k0) (h1 : n.kids[1]? = some k1) : ofN (namedN n r) K [q0, q0] = (r && n.kids.all q0) := by
  rw [nm2 hK hk hl h0 h1, kids2 hl h0 h1]; simp
theorem of3 (hk : n.kind = K) (hl : n.kids.length = 3) (h0 : n.kids[0]? = some k0) (h1 : n.kids[1]? = some k1) (h2 : n.kids[2]? = some k2) : ofN n K [q0, q1, q2] = (n.text.toList == [] && (q0 k0 && (q1 k1 && q2 k2))) := by
  rw [ofK hk, kids3 hl h0 h1 h2]; simp
theorem nm3 (hK : K ≠ 37) (hk : n.kind = K) (hl : n.kids.length = 3) (h0 : n.kids[0]? = some k0) (h1 : n.kids[1]? = some k1) (h2 : n.kids[2]? = some k2) : ofN (namedN n r) K [q0, q1, q2] = (r && (q0 k0 && (q1 k1 && q2 k2))) := by
  rw [nmK hK hk, kids3 hl h0 h1 h2]; simp
theorem of4 (hk : n.kind = K) (hl : n.kids.length = 4) (h0 : n.kids[0]? = some k0) (h1 : n.kids[1]? = some k1) (h2 : n.kids[2]? = some k2) (h3 : n.kids[3]? = some k3) : ofN n K [q0, q1, q2, q3] = (n.text.toList == [] && (q0 k0 && (q1 k1 && (q2 k2 && q3 k3)))) := by
  rw [ofK hk, kids4 hl h0 h1 h2 h3]; simp
end

end Go.Proofs.YtkmhijkpbmcgbaaGreat

namespace Go.Proofs.YtkmhijkpbmcgbaaGreat
set_option linter.all false
open Go.RowKit Go.Shelf

set_option maxRecDepth 100000 in
set_option maxHeartbeats 2000000 in
theorem rtype10_any (g : Q → Nd → Bool) (F : Nat) (v : Value) (n : Nd) (w : World) (T : SaysF w F 19 #[] (g .typ)) (hk : n.kind = 10) (hft : Fits n) (hv : NdV w (F + 1) v n) :
    Calls Tryz.prog 19 #[v] w fun e w' => e = .returned (.bool (nameB n.text && n.kids.all (g .typ))) ∧ Below w.heap.size w w' := by
  obtain ⟨A, c, rfl, hm⟩ := hv.val
  have hb : Below w.heap.size w (w.alloc (.cells (cellsOf n A c) 24)) := (Below.refl _ w).alloc (Nat.le_refl _) _
  have hw := Whole.new w 24 (cellsOf n A c)
  have LK := Lib.hid hv.lst
  have HS := Lib.hid T
  have HF := Lib.hid fun k hk => hft.kid (k := k) hk
  have hm2 : n.kids.length ≤ 9223372036854775807 := hm
  have BX := Lib.hid fun W (h : Below (w.alloc (.cells (cellsOf n A c) 24)).heap.size (w.alloc (.cells (cellsOf n A c) 24)) W) => box_cells hw h
  have HB := Lib.hid hb
  clear T hft hv hb hw
  unfold Nd.val
  obtain ⟨W1, hW1⟩ : ∃ W1, W1 = w.alloc (.cells (cellsOf n A c) 24) := ⟨_, rfl⟩
  rw [← hW1] at BX HB
  have hW2 : w.alloc (.cells #[.int .i64 n.kind, .string n.text, .slice A n.kids.length c, .int .i64 n.place] 24) = W1 := hW1.symm
  have HW := Lib.hid hW2
  clear hW1 hW2
  rw [hk] at BX HW ⊢
  have NQ := Lib.hid (rname_any n.text W1)
  cases en : nameB n.text
  case false =>
    rw [en] at NQ
    go_enter Tryz.func19, Tryz.ntmps19
    go_wp2_with fail
    rw [HW.out]
    refine NQ.out.mono ?_
    rintro e W2 ⟨rfl, b2⟩
    have B2 := Lib.hid (HB.out.trans (b2.mono HB.out.size))
    clear b2
    go_wp2_with fail
    go_ret
    exact ⟨rfl, B2.out⟩
  case true =>
  rw [en] at NQ
  go_enter Tryz.func19, Tryz.ntmps19
  go_wp2_with fail
  rw [HW.out]
  refine NQ.out.mono ?_
  rintro e W2 ⟨rfl, b2⟩
  have B2 := Lib.hid b2
  clear b2
  go_wp2_with fail
  go_loopw [3] (fun i W => LoopRel W1 n.kids (g .typ) i W) (fun i _ => n.kids.length - (intOf i).toNat)
  case atStart => exact ⟨0, Nat.zero_le _, rfl, B2.out, by simp⟩
  case round =>
    obtain ⟨p, hp, rfl, hb, ha⟩ := hrel
    have HA := Lib.hid ha
    have HC := Lib.hid (HB.out.trans (hb.mono HB.out.size))
    have HB1 := Lib.hid hb
    obtain ⟨x0, x1, x2, x3, x4⟩ := BX.out _ hb
    clear hb ha
    by_cases hpl : p < n.kids.length
    · obtain ⟨b, off, k, A', c', rfl, hk, hq⟩ := LK.out.kidP hpl
      obtain ⟨hbl, q0, q1, q2, q3, q5⟩ := hq _ HC.out
      have QA := Lib.hid (HS.out.2 _ _ k HC.out (HF.out k (List.mem_of_getElem? hk)) q5)
      have HK := Lib.hid hk
      have hp2 : p < 9223372036854775807 := by omega
      clear hq q5 hk
      unfold Nd.val at QA
      go_wp2_with fail
      refine QA.out.mono ?_
      rintro e w2 ⟨rfl, b2⟩
      have B3 := Lib.hid (HB1.out.trans (b2.mono HB1.out.size))
      clear b2 QA
      cases hq : g .typ k with
      | false =>
        have HR := Lib.hid (all_no HK.out hq)
        go_wp2_with fail
        go_ret
        exact ⟨by rw [HR.out]; rfl, HB.out.trans (B3.out.mono HB.out.size)⟩
      | true =>
        have HR := Lib.hid (all_yes HK.out HA.out hq)
        go_wp2_with fail
        go_roundw
        case rel => exact ⟨p + 1, hpl, rfl, B3.out, HR.out⟩
        case measure => simp [intOf]; omega
    · have HR := Lib.hid (all_end hpl HA.out)
      go_wp2_with fail
      go_ret
      exact ⟨by rw [HR.out]; rfl, HC.out⟩

set_option maxRecDepth 100000 in
set_option maxHeartbeats 2000000 in
theorem rtype12_any (g : Q → Nd → Bool) (F : Nat) (v : Value) (n : Nd) (w : World) (T : SaysF w F 19 #[] (g .typ)) (hk : n.kind = 12) (hft : Fits n) (hv : NdV w (F + 1) v n) :
    Calls Tryz.prog 19 #[v] w fun e w' => e = .returned (.bool (sigB g noneB n)) ∧ Below w.heap.size w w' := by
  obtain ⟨A, c, rfl, hm⟩ := hv.val
  have hb : Below w.heap.size w (w.alloc (.cells #[.int .i64 n.kind, .string n.text, .slice A n.kids.length c, .int .i64 n.place] 24)) := (Below.refl _ w).alloc (Nat.le_refl _) _
  have AL := Lib.hid (rsig_any g F false noneB rfl _ n _ (T.below hb) hft (hv.below hb))
  have HB := Lib.hid hb
  clear hb hv T hft
  unfold Nd.val at AL ⊢
  generalize sigB g noneB n = r at AL ⊢
  rw [hk] at AL HB ⊢
  go_enter Tryz.func19, Tryz.ntmps19
  go_wp2_with fail
  refine AL.out.mono ?_
  rintro e w2 ⟨rfl, b2⟩
  have HB2 := Lib.hid (HB.out.trans (b2.mono HB.out.size))
  clear b2
  go_wp2_with fail
  go_ret
  exact ⟨rfl, HB2.out⟩
theorem rtypeo_any (F : Nat) (v : Value) (n : Nd) (w : World) (h10 : n.kind ≠ 10) (h11 : n.kind ≠ 11) (h12 : n.kind ≠ 12) (hv : NdV w (F + 1) v n) :
    Calls Tryz.prog 19 #[v] w fun e w' => e = .returned (.bool false) ∧ Below w.heap.size w w' := by
  obtain ⟨A, c, rfl, hm⟩ := hv.val
  have hb : Below w.heap.size w (w.alloc (.cells #[.int .i64 n.kind, .string n.text, .slice A n.kids.length c, .int .i64 n.place] 24)) := (Below.refl _ w).alloc (Nat.le_refl _) _
  have HB := Lib.hid hb
  have e10 : (n.kind == 10) = false := by simpa using h10
  have e11 : (n.kind == 11) = false := by simpa using h11
  have e12 : (n.kind == 12) = false := by simpa using h12
  clear hb hv
  unfold Nd.val
  go_enter Tryz.func19, Tryz.ntmps19
  go_wp2_with fail
  go_ret
  exact ⟨rfl, HB.out⟩

set_option maxRecDepth 100000 in
set_option maxHeartbeats 2000000 in
theorem rtype11_any (g : Q → Nd → Bool) (F : Nat) (v : Value) (n : Nd) (w : World) (T : SaysF w F 19 #[] (g .typ)) (hk : n.kind = 11) (hft : Fits n) (hv : NdV w (F + 1) v n) :
    Calls Tryz.prog 19 #[v] w fun e w' => e = .returned (.bool (ofN n 11 [g .typ])) ∧ Below w.heap.size w w' := by
  obtain ⟨A, c, rfl, hm⟩ := hv.val
  have hb : Below w.heap.size w (w.alloc (.cells #[.int .i64 n.kind, .string n.text, .slice A n.kids.length c, .int .i64 n.place] 24)) := (Below.refl _ w).alloc (Nat.le_refl _) _
  have LK := Lib.hid hv.lst
  have HB := Lib.hid hb
  rw [of_eq, hk]
  cases h2 : (n.text.toList == [])
  case false =>
    clear hb hv T hft
    unfold Nd.val
    rw [hk] at HB ⊢
    go_enter Tryz.func19, Tryz.ntmps19
    go_wp2_with fail
    go_ret
    exact ⟨rfl, HB.out⟩
  case true =>
  by_cases hl : n.kids.length = 1
  case neg =>
    have a0 : (n.kids.length == [g .typ].length) = false := by
      simp only [List.length_cons, List.length_nil]
      simpa using hl
    have a1 : ((n.kids.length : Int) == 1) = false := by rw [beq_eq_false_iff_ne]; omega
    rw [a0]
    clear hb hv T hft a0
    unfold Nd.val
    rw [hk] at HB ⊢
    go_enter Tryz.func19, Tryz.ntmps19
    go_wp2_with fail
    go_ret
    exact ⟨rfl, HB.out⟩
  case pos =>
    obtain ⟨b, off, k, A', c', rfl, hk0, hq⟩ := LK.out.kidP (p := 0) (by omega)
    have hE : (n.kids.length == [g .typ].length && (n.kids.zip [g .typ]).all (fun x => x.2 x.1)) = g .typ k := by rw [kids1 hl hk0]; simp
    have QA := Lib.hid (T.2 _ _ k hb (hft.kid (List.mem_of_getElem? hk0)) (hq _ hb).2.2.2.2.2)
    obtain ⟨hbl, q0, q1, q2, q3, _⟩ := hq _ (Below.refl _ _)
    rw [hE]
    simp only [Nat.zero_mul, Nat.add_zero] at q0 q1 q2 q3
    have l9 : (0 : Nat) < 1 := by omega
    clear hb hv T hft hE hq hk0
    unfold Nd.val at QA ⊢
    generalize g .typ k = r at QA ⊢
    rw [hk, hl] at HB QA ⊢
    go_enter Tryz.func19, Tryz.ntmps19
    go_wp2_with fail
    refine QA.out.mono ?_
    rintro e w2 ⟨rfl, b2⟩
    have HB2 := Lib.hid (HB.out.trans (b2.mono HB.out.size))
    clear b2
    go_wp2_with fail
    go_ret
    exact ⟨rfl, HB2.out⟩

end Go.Proofs.YtkmhijkpbmcgbaaGreat

namespace Go.Proofs.YtkmhijkpbmcgbaaGreat
set_option linter.all false
open Go.RowKit Go.Shelf

set_option maxRecDepth 100000 in
set_option maxHeartbeats 2000000 in
theorem rdecl5_any (g : Q → Nd → Bool) (F : Nat) (v : Value) (n : Nd) (w : World) (V : SaysF w (F + 1) 37 #[] (varB g)) (hk : n.kind = 5) (hft : Fits n) (hv : NdV w (F + 1) v n) :
    Calls Tryz.prog 18 #[v] w fun e w' => e = .returned (.bool (varB g n)) ∧ Below w.heap.size w w' := by
  obtain ⟨A, c, rfl, hm⟩ := hv.val
  have hb : Below w.heap.size w (w.alloc (.cells #[.int .i64 n.kind, .string n.text, .slice A n.kids.length c, .int .i64 n.place] 24)) := (Below.refl _ w).alloc (Nat.le_refl _) _
  have AL := Lib.hid (V.2 _ _ n hb hft (hv.below hb))
  have HB := Lib.hid hb
  clear hb hv V hft
  unfold Nd.val at AL ⊢
  generalize varB g n = r at AL ⊢
  rw [hk] at AL HB ⊢
  go_enter Tryz.func18, Tryz.ntmps18
  go_wp2_with fail
  refine AL.out.mono ?_
  rintro e w2 ⟨rfl, b2⟩
  have HB2 := Lib.hid (HB.out.trans (b2.mono HB.out.size))
  clear b2
  go_wp2_with fail
  go_ret
  exact ⟨rfl, HB2.out⟩

/-- What a declaration that is no variable asks first: the name, two kids, the parameters. -/
theorem decl_no {n : Nd} (h : nameB n.text = false) (K : Int) (hK : K ≠ 37) (qs : List (Nd → Bool)) : ofN (namedN n (nameB n.text)) K qs = false := by
  rw [named_eq hK, h]; rfl
theorem first_no {n k : Nd} {r : Bool} {K : Int} (hK : K ≠ 37) {q : Nd → Bool} {qs : List (Nd → Bool)} (h0 : n.kids[0]? = some k) (h : q k = false) : ofN (namedN n r) K (q :: qs) = false := by
  rw [named_eq hK]
  cases hL : n.kids with
  | nil => rw [hL] at h0; simp at h0
  | cons x l =>
    rw [hL] at h0
    have e : x = k := by simpa using h0
    rw [e, List.zip_cons_cons, List.all_cons]
    simp [h]
theorem two_of {n k0 k1 : Nd} {K : Int} (hK : K ≠ 37) {q0 q1 : Nd → Bool} (hn : nameB n.text = true) (hk : n.kind = K) (hl : n.kids.length = 2) (h0 : n.kids[0]? = some k0) (h1 : n.kids[1]? = some k1) (hq : q0 k0 = true) : ofN (namedN n (nameB n.text)) K [q0, q1] = q1 k1 := by
  rw [named_eq hK, hn, hk, kids2 hl h0 h1]
  simp [hq]
theorem len_no {n : Nd} (K : Int) (hK : K ≠ 37) (qs : List (Nd → Bool)) (h : n.kids.length ≠ qs.length) : ofN (namedN n (nameB n.text)) K qs = false := by
  rw [named_eq hK]
  have : (n.kids.length == qs.length) = false := by simpa using h
  rw [this]; simp

set_option maxRecDepth 100000 in
set_option maxHeartbeats 4000000 in
theorem rdecl4_any (g : Q → Nd → Bool) (F : Nat) (v : Value) (n : Nd) (w : World) (T : SaysF w F 19 #[] (g .typ)) (PA : SaysF w F 38 #[] (paramsB g)) (hk : n.kind = 4) (hft : Fits n) (hv : NdV w (F + 1) v n) :
    Calls Tryz.prog 18 #[v] w fun e w' => e = .returned (.bool (ofN (namedN n (nameB n.text)) 4 [paramsB g, g .typ])) ∧ Below w.heap.size w w' := by
  obtain ⟨A, c, rfl, hm⟩ := hv.val
  have hb : Below w.heap.size w (w.alloc (.cells (cellsOf n A c) 24)) := (Below.refl _ w).alloc (Nat.le_refl _) _
  have hw := Whole.new w 24 (cellsOf n A c)
  have LK := Lib.hid hv.lst
  have HS := Lib.hid T
  have HP := Lib.hid PA
  have HF := Lib.hid fun k hk => hft.kid (k := k) hk
  have BX := Lib.hid fun W (h : Below (w.alloc (.cells (cellsOf n A c) 24)).heap.size (w.alloc (.cells (cellsOf n A c) 24)) W) => box_cells hw h
  have HB := Lib.hid hb
  clear T PA hft hv hb hw
  unfold Nd.val
  obtain ⟨W1, hW1⟩ : ∃ W1, W1 = w.alloc (.cells (cellsOf n A c) 24) := ⟨_, rfl⟩
  rw [← hW1] at BX HB
  have hW2 : w.alloc (.cells #[.int .i64 n.kind, .string n.text, .slice A n.kids.length c, .int .i64 n.place] 24) = W1 := hW1.symm
  have HW := Lib.hid hW2
  clear hW1 hW2
  have NQ := Lib.hid (rname_any n.text W1)
  rw [hk] at BX HW
  cases en : nameB n.text
  case false =>
    rw [en] at NQ
    have HR := Lib.hid (decl_no en 4 (by omega) [paramsB g, g .typ])
    rw [en] at HR
    rw [hk]
    go_enter Tryz.func18, Tryz.ntmps18
    go_wp2_with fail
    rw [HW.out]
    refine NQ.out.mono ?_
    rintro e W2 ⟨rfl, b2⟩
    have B2 := Lib.hid (HB.out.trans (b2.mono HB.out.size))
    clear b2
    go_wp2_with fail
    go_ret
    exact ⟨by rw [HR.out]; rfl, B2.out⟩
  case true =>
  rw [en] at NQ
  by_cases hlt : n.kids.length < 2
  case pos =>
    have a1 : decide (n.kids.length < 2) = true := decide_eq_true hlt
    have a2 : decide ((n.kids.length : Int) < 2) = true := decide_eq_true (by omega)
    have HR := Lib.hid (len_no (n := n) 4 (by omega) [paramsB g, g .typ] (by simp; omega))
    rw [en] at HR
    rw [hk]
    go_enter Tryz.func18, Tryz.ntmps18
    go_wp2_with fail
    rw [HW.out]
    refine NQ.out.mono ?_
    rintro e W2 ⟨rfl, b2⟩
    have B2 := Lib.hid (HB.out.trans (b2.mono HB.out.size))
    obtain ⟨x0, x1, x2, x3, x4⟩ := BX.out _ b2
    clear b2
    go_wp2_with fail
    go_ret
    exact ⟨by rw [HR.out]; rfl, B2.out⟩
  case neg =>
  have a1 : decide (n.kids.length < 2) = false := decide_eq_false hlt
  have a2 : decide ((n.kids.length : Int) < 2) = false := decide_eq_false (by omega)
  obtain ⟨b, off, k0, A0, c0, rfl, hk0, hq0⟩ := LK.out.kidP (p := 0) (by omega)
  have f0 := HF.out k0 (List.mem_of_getElem? hk0)
  have PQ := Lib.hid fun W h => HP.out.2 W _ k0 h f0 ((hq0 W h).2.2.2.2.2)
  simp only [Nat.zero_mul, Nat.add_zero] at hq0
  have Q0 := Lib.hid hq0
  have HK0 := Lib.hid hk0
  have l0 : 0 < n.kids.length := by omega
  clear hq0 hk0 f0
  unfold Nd.val at PQ
  rw [hk]
  go_enter Tryz.func18, Tryz.ntmps18
  go_wp2_with fail
  rw [HW.out]
  refine NQ.out.mono ?_
  rintro e W2 ⟨rfl, b2⟩
  have B2 := Lib.hid (HB.out.trans (b2.mono HB.out.size))
  have G2 := Lib.hid b2
  obtain ⟨x0, x1, x2, x3, x4⟩ := BX.out _ b2
  obtain ⟨hbl, q00, q01, q02, q03, _⟩ := Q0.out _ B2.out
  clear b2
  go_wp2_with fail
  refine (PQ.out _ B2.out).mono ?_
  rintro e W3 ⟨rfl, b3⟩
  have B3 := Lib.hid (B2.out.trans (b3.mono B2.out.size))
  have G3 := Lib.hid (G2.out.trans (b3.mono G2.out.size))
  clear b3 PQ x0 x1 x2 x3 x4 hbl q00 q01 q02 q03
  obtain ⟨x0, x1, x2, x3, x4⟩ := BX.out _ G3.out
  cases ep : paramsB g k0
  case false =>
    have HR := Lib.hid (first_no (n := n) (r := nameB n.text) (K := 4) (by omega) (q := paramsB g) (qs := [g .typ]) HK0.out ep)
    rw [en] at HR
    go_wp2_with fail
    go_ret
    exact ⟨by rw [HR.out]; rfl, B3.out⟩
  case true =>
  by_cases hl : n.kids.length = 2
  case neg =>
    have a3 : ((n.kids.length : Int) == 2) = false := by rw [beq_eq_false_iff_ne]; omega
    have HR := Lib.hid (len_no (n := n) 4 (by omega) [paramsB g, g .typ] (by simpa using hl))
    rw [en] at HR
    go_wp2_with fail
    go_ret
    exact ⟨by rw [HR.out]; rfl, B3.out⟩
  case pos =>
    obtain ⟨b', off', k1, A1, c1, hA1, hk1, hq1⟩ := LK.out.kidP (p := 1) (by omega)
    injection hA1 with hA1
    injection hA1 with e1 e2
    subst e1 e2
    have HR := Lib.hid (two_of (K := 4) (by omega) (q0 := paramsB g) (q1 := g .typ) en hk hl HK0.out hk1 ep)
    rw [en] at HR
    have TQ := Lib.hid (HS.out.2 _ _ k1 B3.out (HF.out k1 (List.mem_of_getElem? hk1)) (hq1 _ B3.out).2.2.2.2.2)
    obtain ⟨hbl, q10, q11, q12, q13, _⟩ := hq1 _ B3.out
    simp only [Nat.one_mul] at q10 q11 q12 q13
    have l1 : (1 : Nat) < 2 := by omega
    rw [hl] at x2
    clear hq1 hk1 hl a1 a2 hlt l0
    unfold Nd.val at TQ
    have a3 : ((2 : Int) == 2) = true := rfl
    go_wp2_with fail
    refine TQ.out.mono ?_
    rintro e W5 ⟨rfl, b5⟩
    have B5 := Lib.hid (B3.out.trans (b5.mono B3.out.size))
    clear b5
    go_wp2_with fail
    go_ret
    exact ⟨by rw [HR.out]; rfl, B5.out⟩

end Go.Proofs.YtkmhijkpbmcgbaaGreat

namespace Go.Proofs.YtkmhijkpbmcgbaaGreat
set_option linter.all false
open Go.RowKit Go.Shelf

set_option maxRecDepth 100000 in
set_option maxHeartbeats 4000000 in
theorem rdecl2_any (g : Q → Nd → Bool) (F : Nat) (v : Value) (n : Nd) (w : World) (PA : SaysF w F 38 #[] (paramsB g)) (SG : ∀ W v n, Below w.heap.size w W → Fits n → NdV W F v n → Calls Tryz.prog 22 #[v, .bool true] W fun e w' => e = .returned (.bool (isSigB g n)) ∧ Below W.heap.size W w') (BL : SaysF w F 39 #[] (blockB g)) (hk : n.kind = 2) (hft : Fits n) (hv : NdV w (F + 1) v n) :
    Calls Tryz.prog 18 #[v] w fun e w' => e = .returned (.bool (ofN (namedN n (nameB n.text)) 2 [paramsB g, isSigB g, blockB g])) ∧ Below w.heap.size w w' := by
  obtain ⟨A, c, rfl, hm⟩ := hv.val
  have hb : Below w.heap.size w (w.alloc (.cells (cellsOf n A c) 24)) := (Below.refl _ w).alloc (Nat.le_refl _) _
  have hw := Whole.new w 24 (cellsOf n A c)
  have LK := Lib.hid hv.lst
  have HF := Lib.hid fun k hk => hft.kid (k := k) hk
  have BX := Lib.hid fun W (h : Below (w.alloc (.cells (cellsOf n A c) 24)).heap.size (w.alloc (.cells (cellsOf n A c) 24)) W) => box_cells hw h
  have HB := Lib.hid hb
  have HPA := Lib.hid PA
  have HSG := Lib.hid SG
  have HBL := Lib.hid BL
  clear PA SG BL hft hv hb hw
  unfold Nd.val
  obtain ⟨W1, hW1⟩ : ∃ W1, W1 = w.alloc (.cells (cellsOf n A c) 24) := ⟨_, rfl⟩
  rw [← hW1] at BX HB
  have hW2 : w.alloc (.cells #[.int .i64 n.kind, .string n.text, .slice A n.kids.length c, .int .i64 n.place] 24) = W1 := hW1.symm
  have HW := Lib.hid hW2
  clear hW1 hW2
  rw [hk] at BX HW ⊢
  by_cases hl : n.kids.length = 3
  case neg =>
    have a1 : ((n.kids.length : Int) == 3) = false := by rw [beq_eq_false_iff_ne]; omega
    have a2 : ((n.kids.length : Int) != 3) = true := by simp only [bne, a1]; rfl
    rw [nmNo (by omega) (by simpa using hl)]
    have NQ := Lib.hid (rname_any n.text W1)
    cases en : nameB n.text
    case false =>
      rw [en] at NQ
      go_enter Tryz.func18, Tryz.ntmps18
      go_wp2_with fail
      rw [HW.out]
      refine NQ.out.mono ?_
      rintro e W2 ⟨rfl, b2⟩
      have B2 := Lib.hid (HB.out.trans (b2.mono HB.out.size))
      clear b2
      go_wp2_with fail
      go_ret
      exact ⟨rfl, B2.out⟩
    case true =>
    rw [en] at NQ
    by_cases hlt : n.kids.length < 2
    case pos =>
      have a3 : decide (n.kids.length < 2) = true := decide_eq_true hlt
      have a4 : decide ((n.kids.length : Int) < 2) = true := decide_eq_true (by omega)
      go_enter Tryz.func18, Tryz.ntmps18
      go_wp2_with fail
      rw [HW.out]
      refine NQ.out.mono ?_
      rintro e W2 ⟨rfl, b2⟩
      have B2 := Lib.hid (HB.out.trans (b2.mono HB.out.size))
      obtain ⟨x0, x1, x2, x3, x4⟩ := BX.out _ b2
      clear b2
      go_wp2_with fail
      go_ret
      exact ⟨rfl, B2.out⟩
    case neg =>
    have a3 : decide (n.kids.length < 2) = false := decide_eq_false hlt
    have a4 : decide ((n.kids.length : Int) < 2) = false := decide_eq_false (by omega)
    obtain ⟨b, off, k0, A0, c0, rfl, hk0, hq0⟩ := LK.out.kidP (p := 0) (by omega)
    have f0 := HF.out k0 (List.mem_of_getElem? hk0)
    have PQ := Lib.hid fun W h => HPA.out.2 W _ k0 h f0 ((hq0 W h).2.2.2.2.2)
    simp only [Nat.zero_mul, Nat.add_zero] at hq0
    have Q0 := Lib.hid hq0
    have l0 : 0 < n.kids.length := by omega
    clear hq0 hk0 f0
    unfold Nd.val at PQ
    go_enter Tryz.func18, Tryz.ntmps18
    go_wp2_with fail
    rw [HW.out]
    refine NQ.out.mono ?_
    rintro e W2 ⟨rfl, b2⟩
    have B2 := Lib.hid (HB.out.trans (b2.mono HB.out.size))
    have G2 := Lib.hid b2
    obtain ⟨x0, x1, x2, x3, x4⟩ := BX.out _ b2
    obtain ⟨hbl, q00, q01, q02, q03, _⟩ := Q0.out _ B2.out
    clear b2
    go_wp2_with fail
    refine (PQ.out _ B2.out).mono ?_
    rintro e W3 ⟨rfl, b3⟩
    have B3 := Lib.hid (B2.out.trans (b3.mono B2.out.size))
    have G3 := Lib.hid (G2.out.trans (b3.mono G2.out.size))
    clear b3 PQ x0 x1 x2 x3 x4 hbl q00 q01 q02 q03
    obtain ⟨x0, x1, x2, x3, x4⟩ := BX.out _ G3.out
    cases paramsB g k0 <;>
    (go_wp2_with fail
     go_ret
     exact ⟨rfl, B3.out⟩)
  case pos =>
    obtain ⟨b, off, k0, A0, c0, rfl, hk0, hq0⟩ := LK.out.kidP (p := 0) (by omega)
    obtain ⟨b', off', k1, A1, c1, hA, hk1, hq1⟩ := LK.out.kidP (p := 1) (by omega)
    injection hA with hA
    injection hA with e1 e2
    subst e1 e2
    obtain ⟨b', off', k2, A2, c2, hA, hk2, hq2⟩ := LK.out.kidP (p := 2) (by omega)
    injection hA with hA
    injection hA with e1 e2
    subst e1 e2
    have f0 := HF.out k0 (List.mem_of_getElem? hk0)
    have f1 := HF.out k1 (List.mem_of_getElem? hk1)
    have f2 := HF.out k2 (List.mem_of_getElem? hk2)
    rw [nm3 (by omega) hk hl hk0 hk1 hk2]
    simp only [Nat.zero_mul, Nat.add_zero, Nat.one_mul, Nat.reduceMul] at hq0 hq1 hq2
    have C0 := Lib.hid fun W (h : Below w.heap.size w W) => rname_any n.text W
    have C1 := Lib.hid fun W (h : Below w.heap.size w W) => HPA.out.2 W _ k0 h f0 ((hq0 W h).2.2.2.2.2)
    have C2 := Lib.hid fun W (h : Below w.heap.size w W) => HSG.out W _ k1 h f1 ((hq1 W h).2.2.2.2.2)
    have C3 := Lib.hid fun W (h : Below w.heap.size w W) => HBL.out.2 W _ k2 h f2 ((hq2 W h).2.2.2.2.2)
    have Q0 := Lib.hid hq0
    obtain ⟨hbl0, q00, q01, q02, q03, _⟩ := hq0 _ (Below.refl _ _)
    have l0 : (0 : Nat) < 3 := by omega
    have Q1 := Lib.hid hq1
    obtain ⟨hbl1, q10, q11, q12, q13, _⟩ := hq1 _ (Below.refl _ _)
    have l1 : (1 : Nat) < 3 := by omega
    have Q2 := Lib.hid hq2
    obtain ⟨hbl2, q20, q21, q22, q23, _⟩ := hq2 _ (Below.refl _ _)
    have l2 : (2 : Nat) < 3 := by omega
    clear LK HF f0 hq0 hk0 f1 hq1 hk1 f2 hq2 hk2
    unfold Nd.val at C1 C2 C3
    generalize nameB n.text = r0 at C0 ⊢
    generalize paramsB g k0 = r1 at C1 ⊢
    generalize isSigB g k1 = r2 at C2 ⊢
    generalize blockB g k2 = r3 at C3 ⊢
    rw [hl] at BX HW  ⊢
    clear hl
    go_enter Tryz.func18, Tryz.ntmps18
    go_wp2_with fail
    rw [HW.out]
    refine (C0.out _ HB.out).mono ?_
    rintro e W2 ⟨rfl, b2⟩
    have B2 := Lib.hid (HB.out.trans (b2.mono HB.out.size))
    have G2 := Lib.hid b2
    clear b2 hbl0 q00 q01 q02 q03 hbl1 q10 q11 q12 q13 hbl2 q20 q21 q22 q23
    obtain ⟨x0, x1, x2, x3, x4⟩ := BX.out _ G2.out
    obtain ⟨hbl0, q00, q01, q02, q03, _⟩ := Q0.out _ B2.out
    obtain ⟨hbl1, q10, q11, q12, q13, _⟩ := Q1.out _ B2.out
    obtain ⟨hbl2, q20, q21, q22, q23, _⟩ := Q2.out _ B2.out
    cases r0
    case false =>
      go_wp2_with fail
      go_ret
      exact ⟨by first | rfl | simp, B2.out⟩
    case true =>
      go_wp2_with fail
      refine (C1.out _ B2.out).mono ?_
      rintro e W3 ⟨rfl, b2⟩
      have B3 := Lib.hid (B2.out.trans (b2.mono B2.out.size))
      have G3 := Lib.hid (G2.out.trans (b2.mono G2.out.size))
      clear b2 x0 x1 x2 x3 x4 hbl0 q00 q01 q02 q03 hbl1 q10 q11 q12 q13 hbl2 q20 q21 q22 q23
      obtain ⟨x0, x1, x2, x3, x4⟩ := BX.out _ G3.out
      obtain ⟨hbl0, q00, q01, q02, q03, _⟩ := Q0.out _ B3.out
      obtain ⟨hbl1, q10, q11, q12, q13, _⟩ := Q1.out _ B3.out
      obtain ⟨hbl2, q20, q21, q22, q23, _⟩ := Q2.out _ B3.out
      cases r1
      case false =>
        go_wp2_with fail
        go_ret
        exact ⟨by first | rfl | simp, B3.out⟩
      case true =>
        go_wp2_with fail
        refine (C2.out _ B3.out).mono ?_
        rintro e W4 ⟨rfl, b2⟩
        have B4 := Lib.hid (B3.out.trans (b2.mono B3.out.size))
        have G4 := Lib.hid (G3.out.trans (b2.mono G3.out.size))
        clear b2 x0 x1 x2 x3 x4 hbl0 q00 q01 q02 q03 hbl1 q10 q11 q12 q13 hbl2 q20 q21 q22 q23
        obtain ⟨x0, x1, x2, x3, x4⟩ := BX.out _ G4.out
        obtain ⟨hbl0, q00, q01, q02, q03, _⟩ := Q0.out _ B4.out
        obtain ⟨hbl1, q10, q11, q12, q13, _⟩ := Q1.out _ B4.out
        obtain ⟨hbl2, q20, q21, q22, q23, _⟩ := Q2.out _ B4.out
        cases r2
        case false =>
          go_wp2_with fail
          go_ret
          exact ⟨by first | rfl | simp, B4.out⟩
        case true =>
          go_wp2_with fail
          refine (C3.out _ B4.out).mono ?_
          rintro e W5 ⟨rfl, b2⟩
          have B5 := Lib.hid (B4.out.trans (b2.mono B4.out.size))
          have G5 := Lib.hid (G4.out.trans (b2.mono G4.out.size))
          clear b2 x0 x1 x2 x3 x4 hbl0 q00 q01 q02 q03 hbl1 q10 q11 q12 q13 hbl2 q20 q21 q22 q23
          obtain ⟨x0, x1, x2, x3, x4⟩ := BX.out _ G5.out
          obtain ⟨hbl0, q00, q01, q02, q03, _⟩ := Q0.out _ B5.out
          obtain ⟨hbl1, q10, q11, q12, q13, _⟩ := Q1.out _ B5.out
          obtain ⟨hbl2, q20, q21, q22, q23, _⟩ := Q2.out _ B5.out
          cases r3
          case false =>
            go_wp2_with fail
            go_ret
            exact ⟨by first | rfl | simp, B5.out⟩
          case true =>
            go_wp2_with fail
            go_ret
            exact ⟨by first | rfl | simp, B5.out⟩

set_option maxRecDepth 100000 in
set_option maxHeartbeats 4000000 in
theorem rdecl3_any (g : Q → Nd → Bool) (F : Nat) (v : Value) (n : Nd) (w : World) (PA : SaysF w F 38 #[] (paramsB g)) (T : SaysF w F 19 #[] (g .typ)) (FI : SaysF w F 40 #[] (structB g)) (IR : SaysF w F 41 #[] (interB g)) (hk : n.kind = 3) (hft : Fits n) (hv : NdV w (F + 1) v n) :
    Calls Tryz.prog 18 #[v] w fun e w' => e = .returned (.bool (ofN (namedN n (nameB n.text)) 3 [paramsB g, fun k => (g .typ k || structB g k) || interB g k])) ∧ Below w.heap.size w w' := by
  obtain ⟨A, c, rfl, hm⟩ := hv.val
  have hb : Below w.heap.size w (w.alloc (.cells (cellsOf n A c) 24)) := (Below.refl _ w).alloc (Nat.le_refl _) _
  have hw := Whole.new w 24 (cellsOf n A c)
  have LK := Lib.hid hv.lst
  have HF := Lib.hid fun k hk => hft.kid (k := k) hk
  have BX := Lib.hid fun W (h : Below (w.alloc (.cells (cellsOf n A c) 24)).heap.size (w.alloc (.cells (cellsOf n A c) 24)) W) => box_cells hw h
  have HB := Lib.hid hb
  have HPA := Lib.hid PA
  have HT := Lib.hid T
  have HFI := Lib.hid FI
  have HIR := Lib.hid IR
  clear PA T FI IR hft hv hb hw
  unfold Nd.val
  obtain ⟨W1, hW1⟩ : ∃ W1, W1 = w.alloc (.cells (cellsOf n A c) 24) := ⟨_, rfl⟩
  rw [← hW1] at BX HB
  have hW2 : w.alloc (.cells #[.int .i64 n.kind, .string n.text, .slice A n.kids.length c, .int .i64 n.place] 24) = W1 := hW1.symm
  have HW := Lib.hid hW2
  clear hW1 hW2
  rw [hk] at BX HW ⊢
  by_cases hl : n.kids.length = 2
  case neg =>
    have a1 : ((n.kids.length : Int) == 2) = false := by rw [beq_eq_false_iff_ne]; omega
    have a2 : ((n.kids.length : Int) != 2) = true := by simp only [bne, a1]; rfl
    rw [nmNo (by omega) (by simpa using hl)]
    have NQ := Lib.hid (rname_any n.text W1)
    cases en : nameB n.text
    case false =>
      rw [en] at NQ
      go_enter Tryz.func18, Tryz.ntmps18
      go_wp2_with fail
      rw [HW.out]
      refine NQ.out.mono ?_
      rintro e W2 ⟨rfl, b2⟩
      have B2 := Lib.hid (HB.out.trans (b2.mono HB.out.size))
      clear b2
      go_wp2_with fail
      go_ret
      exact ⟨rfl, B2.out⟩
    case true =>
    rw [en] at NQ
    by_cases hlt : n.kids.length < 2
    case pos =>
      have a3 : decide (n.kids.length < 2) = true := decide_eq_true hlt
      have a4 : decide ((n.kids.length : Int) < 2) = true := decide_eq_true (by omega)
      go_enter Tryz.func18, Tryz.ntmps18
      go_wp2_with fail
      rw [HW.out]
      refine NQ.out.mono ?_
      rintro e W2 ⟨rfl, b2⟩
      have B2 := Lib.hid (HB.out.trans (b2.mono HB.out.size))
      obtain ⟨x0, x1, x2, x3, x4⟩ := BX.out _ b2
      clear b2
      go_wp2_with fail
      go_ret
      exact ⟨rfl, B2.out⟩
    case neg =>
    have a3 : decide (n.kids.length < 2) = false := decide_eq_false hlt
    have a4 : decide ((n.kids.length : Int) < 2) = false := decide_eq_false (by omega)
    obtain ⟨b, off, k0, A0, c0, rfl, hk0, hq0⟩ := LK.out.kidP (p := 0) (by omega)
    have f0 := HF.out k0 (List.mem_of_getElem? hk0)
    have PQ := Lib.hid fun W h => HPA.out.2 W _ k0 h f0 ((hq0 W h).2.2.2.2.2)
    simp only [Nat.zero_mul, Nat.add_zero] at hq0
    have Q0 := Lib.hid hq0
    have l0 : 0 < n.kids.length := by omega
    clear hq0 hk0 f0
    unfold Nd.val at PQ
    go_enter Tryz.func18, Tryz.ntmps18
    go_wp2_with fail
    rw [HW.out]
    refine NQ.out.mono ?_
    rintro e W2 ⟨rfl, b2⟩
    have B2 := Lib.hid (HB.out.trans (b2.mono HB.out.size))
    have G2 := Lib.hid b2
    obtain ⟨x0, x1, x2, x3, x4⟩ := BX.out _ b2
    obtain ⟨hbl, q00, q01, q02, q03, _⟩ := Q0.out _ B2.out
    clear b2
    go_wp2_with fail
    refine (PQ.out _ B2.out).mono ?_
    rintro e W3 ⟨rfl, b3⟩
    have B3 := Lib.hid (B2.out.trans (b3.mono B2.out.size))
    have G3 := Lib.hid (G2.out.trans (b3.mono G2.out.size))
    clear b3 PQ x0 x1 x2 x3 x4 hbl q00 q01 q02 q03
    obtain ⟨x0, x1, x2, x3, x4⟩ := BX.out _ G3.out
    cases paramsB g k0 <;>
    (go_wp2_with fail
     go_ret
     exact ⟨rfl, B3.out⟩)
  case pos =>
    obtain ⟨b, off, k0, A0, c0, rfl, hk0, hq0⟩ := LK.out.kidP (p := 0) (by omega)
    obtain ⟨b', off', k1, A1, c1, hA, hk1, hq1⟩ := LK.out.kidP (p := 1) (by omega)
    injection hA with hA
    injection hA with e1 e2
    subst e1 e2
    have f0 := HF.out k0 (List.mem_of_getElem? hk0)
    have f1 := HF.out k1 (List.mem_of_getElem? hk1)
    rw [nm2 (by omega) hk hl hk0 hk1]
    simp only [Nat.zero_mul, Nat.add_zero, Nat.one_mul, Nat.reduceMul] at hq0 hq1
    have C0 := Lib.hid fun W (h : Below w.heap.size w W) => rname_any n.text W
    have C1 := Lib.hid fun W (h : Below w.heap.size w W) => HPA.out.2 W _ k0 h f0 ((hq0 W h).2.2.2.2.2)
    have C2 := Lib.hid fun W (h : Below w.heap.size w W) => HT.out.2 W _ k1 h f1 ((hq1 W h).2.2.2.2.2)
    have C3 := Lib.hid fun W (h : Below w.heap.size w W) => HFI.out.2 W _ k1 h f1 ((hq1 W h).2.2.2.2.2)
    have C4 := Lib.hid fun W (h : Below w.heap.size w W) => HIR.out.2 W _ k1 h f1 ((hq1 W h).2.2.2.2.2)
    have Q0 := Lib.hid hq0
    obtain ⟨hbl0, q00, q01, q02, q03, _⟩ := hq0 _ (Below.refl _ _)
    have l0 : (0 : Nat) < 2 := by omega
    have Q1 := Lib.hid hq1
    obtain ⟨hbl1, q10, q11, q12, q13, _⟩ := hq1 _ (Below.refl _ _)
    have l1 : (1 : Nat) < 2 := by omega
    clear LK HF f0 hq0 hk0 f1 hq1 hk1
    unfold Nd.val at C1 C2 C3 C4
    generalize nameB n.text = r0 at C0 ⊢
    generalize paramsB g k0 = r1 at C1 ⊢
    generalize g .typ k1 = r2 at C2 ⊢
    generalize structB g k1 = r3 at C3 ⊢
    generalize interB g k1 = r4 at C4 ⊢
    rw [hl] at BX HW  ⊢
    clear hl
    go_enter Tryz.func18, Tryz.ntmps18
    go_wp2_with fail
    rw [HW.out]
    refine (C0.out _ HB.out).mono ?_
    rintro e W2 ⟨rfl, b2⟩
    have B2 := Lib.hid (HB.out.trans (b2.mono HB.out.size))
    have G2 := Lib.hid b2
    clear b2 hbl0 q00 q01 q02 q03 hbl1 q10 q11 q12 q13
    obtain ⟨x0, x1, x2, x3, x4⟩ := BX.out _ G2.out
    obtain ⟨hbl0, q00, q01, q02, q03, _⟩ := Q0.out _ B2.out
    obtain ⟨hbl1, q10, q11, q12, q13, _⟩ := Q1.out _ B2.out
    cases r0
    case false =>
      go_wp2_with fail
      go_ret
      exact ⟨by first | rfl | simp, B2.out⟩
    case true =>
      go_wp2_with fail
      refine (C1.out _ B2.out).mono ?_
      rintro e W3 ⟨rfl, b2⟩
      have B3 := Lib.hid (B2.out.trans (b2.mono B2.out.size))
      have G3 := Lib.hid (G2.out.trans (b2.mono G2.out.size))
      clear b2 x0 x1 x2 x3 x4 hbl0 q00 q01 q02 q03 hbl1 q10 q11 q12 q13
      obtain ⟨x0, x1, x2, x3, x4⟩ := BX.out _ G3.out
      obtain ⟨hbl0, q00, q01, q02, q03, _⟩ := Q0.out _ B3.out
      obtain ⟨hbl1, q10, q11, q12, q13, _⟩ := Q1.out _ B3.out
      cases r1
      case false =>
        go_wp2_with fail
        go_ret
        exact ⟨by first | rfl | simp, B3.out⟩
      case true =>
        go_wp2_with fail
        refine (C2.out _ B3.out).mono ?_
        rintro e W4 ⟨rfl, b2⟩
        have B4 := Lib.hid (B3.out.trans (b2.mono B3.out.size))
        have G4 := Lib.hid (G3.out.trans (b2.mono G3.out.size))
        clear b2 x0 x1 x2 x3 x4 hbl0 q00 q01 q02 q03 hbl1 q10 q11 q12 q13
        obtain ⟨x0, x1, x2, x3, x4⟩ := BX.out _ G4.out
        obtain ⟨hbl0, q00, q01, q02, q03, _⟩ := Q0.out _ B4.out
        obtain ⟨hbl1, q10, q11, q12, q13, _⟩ := Q1.out _ B4.out
        cases r2
        case false =>
          go_wp2_with fail
          refine (C3.out _ B4.out).mono ?_
          rintro e W5 ⟨rfl, b2⟩
          have B5 := Lib.hid (B4.out.trans (b2.mono B4.out.size))
          have G5 := Lib.hid (G4.out.trans (b2.mono G4.out.size))
          clear b2 x0 x1 x2 x3 x4 hbl0 q00 q01 q02 q03 hbl1 q10 q11 q12 q13
          obtain ⟨x0, x1, x2, x3, x4⟩ := BX.out _ G5.out
          obtain ⟨hbl0, q00, q01, q02, q03, _⟩ := Q0.out _ B5.out
          obtain ⟨hbl1, q10, q11, q12, q13, _⟩ := Q1.out _ B5.out
          cases r3
          case false =>
            go_wp2_with fail
            refine (C4.out _ B5.out).mono ?_
            rintro e W6 ⟨rfl, b2⟩
            have B6 := Lib.hid (B5.out.trans (b2.mono B5.out.size))
            have G6 := Lib.hid (G5.out.trans (b2.mono G5.out.size))
            clear b2 x0 x1 x2 x3 x4 hbl0 q00 q01 q02 q03 hbl1 q10 q11 q12 q13
            obtain ⟨x0, x1, x2, x3, x4⟩ := BX.out _ G6.out
            obtain ⟨hbl0, q00, q01, q02, q03, _⟩ := Q0.out _ B6.out
            obtain ⟨hbl1, q10, q11, q12, q13, _⟩ := Q1.out _ B6.out
            cases r4
            case false =>
              go_wp2_with fail
              go_ret
              exact ⟨by first | rfl | simp, B6.out⟩
            case true =>
              go_wp2_with fail
              go_ret
              exact ⟨by first | rfl | simp, B6.out⟩
          case true =>
            go_wp2_with fail
            go_ret
            exact ⟨by first | rfl | simp, B5.out⟩
        case true =>
          go_wp2_with fail
          go_ret
          exact ⟨by first | rfl | simp, B4.out⟩

set_option maxRecDepth 100000 in
set_option maxHeartbeats 4000000 in
theorem rdeclo_any (g : Q → Nd → Bool) (F : Nat) (v : Value) (n : Nd) (w : World) (PA : SaysF w F 38 #[] (paramsB g)) (h5 : n.kind ≠ 5) (h2 : n.kind ≠ 2) (h3 : n.kind ≠ 3) (h4 : n.kind ≠ 4) (hft : Fits n) (hv : NdV w (F + 1) v n) :
    Calls Tryz.prog 18 #[v] w fun e w' => e = .returned (.bool false) ∧ Below w.heap.size w w' := by
  obtain ⟨A, c, rfl, hm⟩ := hv.val
  have hb : Below w.heap.size w (w.alloc (.cells (cellsOf n A c) 24)) := (Below.refl _ w).alloc (Nat.le_refl _) _
  have hw := Whole.new w 24 (cellsOf n A c)
  have LK := Lib.hid hv.lst
  have HF := Lib.hid fun k hk => hft.kid (k := k) hk
  have BX := Lib.hid fun W (h : Below (w.alloc (.cells (cellsOf n A c) 24)).heap.size (w.alloc (.cells (cellsOf n A c) 24)) W) => box_cells hw h
  have HB := Lib.hid hb
  have HPA := Lib.hid PA
  clear PA hft hv hb hw
  unfold Nd.val
  obtain ⟨W1, hW1⟩ : ∃ W1, W1 = w.alloc (.cells (cellsOf n A c) 24) := ⟨_, rfl⟩
  rw [← hW1] at BX HB
  have hW2 : w.alloc (.cells #[.int .i64 n.kind, .string n.text, .slice A n.kids.length c, .int .i64 n.place] 24) = W1 := hW1.symm
  have HW := Lib.hid hW2
  clear hW1 hW2
  have z2 : (n.kind == 2) = false := by simpa using h2
  have z3 : (n.kind == 3) = false := by simpa using h3
  have z4 : (n.kind == 4) = false := by simpa using h4
  have z5 : (n.kind == 5) = false := by simpa using h5
  have NQ := Lib.hid (rname_any n.text W1)
  cases en : nameB n.text
  case false =>
    rw [en] at NQ
    go_enter Tryz.func18, Tryz.ntmps18
    go_wp2_with fail
    rw [HW.out]
    refine NQ.out.mono ?_
    rintro e W2 ⟨rfl, b2⟩
    have B2 := Lib.hid (HB.out.trans (b2.mono HB.out.size))
    clear b2
    go_wp2_with fail
    go_ret
    exact ⟨rfl, B2.out⟩
  case true =>
  rw [en] at NQ
  by_cases hlt : n.kids.length < 2
  case pos =>
    have a3 : decide (n.kids.length < 2) = true := decide_eq_true hlt
    have a4 : decide ((n.kids.length : Int) < 2) = true := decide_eq_true (by omega)
    go_enter Tryz.func18, Tryz.ntmps18
    go_wp2_with fail
    rw [HW.out]
    refine NQ.out.mono ?_
    rintro e W2 ⟨rfl, b2⟩
    have B2 := Lib.hid (HB.out.trans (b2.mono HB.out.size))
    obtain ⟨x0, x1, x2, x3, x4⟩ := BX.out _ b2
    clear b2
    go_wp2_with fail
    go_ret
    exact ⟨rfl, B2.out⟩
  case neg =>
  have a3 : decide (n.kids.length < 2) = false := decide_eq_false hlt
  have a4 : decide ((n.kids.length : Int) < 2) = false := decide_eq_false (by omega)
  obtain ⟨b, off, k0, A0, c0, rfl, hk0, hq0⟩ := LK.out.kidP (p := 0) (by omega)
  have f0 := HF.out k0 (List.mem_of_getElem? hk0)
  have PQ := Lib.hid fun W h => HPA.out.2 W _ k0 h f0 ((hq0 W h).2.2.2.2.2)
  simp only [Nat.zero_mul, Nat.add_zero] at hq0
  have Q0 := Lib.hid hq0
  have l0 : 0 < n.kids.length := by omega
  clear hq0 hk0 f0
  unfold Nd.val at PQ
  go_enter Tryz.func18, Tryz.ntmps18
  go_wp2_with fail
  rw [HW.out]
  refine NQ.out.mono ?_
  rintro e W2 ⟨rfl, b2⟩
  have B2 := Lib.hid (HB.out.trans (b2.mono HB.out.size))
  have G2 := Lib.hid b2
  obtain ⟨x0, x1, x2, x3, x4⟩ := BX.out _ b2
  obtain ⟨hbl, q00, q01, q02, q03, _⟩ := Q0.out _ B2.out
  clear b2
  go_wp2_with fail
  refine (PQ.out _ B2.out).mono ?_
  rintro e W3 ⟨rfl, b3⟩
  have B3 := Lib.hid (B2.out.trans (b3.mono B2.out.size))
  have G3 := Lib.hid (G2.out.trans (b3.mono G2.out.size))
  clear b3 PQ x0 x1 x2 x3 x4 hbl q00 q01 q02 q03
  obtain ⟨x0, x1, x2, x3, x4⟩ := BX.out _ G3.out
  cases paramsB g k0 <;>
  (go_wp2_with fail
   go_ret
   exact ⟨rfl, B3.out⟩)

end Go.Proofs.YtkmhijkpbmcgbaaGreat
