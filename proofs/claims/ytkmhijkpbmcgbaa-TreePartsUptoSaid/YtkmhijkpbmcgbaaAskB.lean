/-
  The questions' contracts: fields, terms, statements of one call.
-/
import Derived.Test.YtkmhijkpbmcgbaaAskA
namespace Go.Proofs.Ytkmhijkpbmcgbaa
set_option linter.all false
open Go.RowKit Go.Shelf

theorem plain_s (s : ByteArray) (w : World) : AnsS w 52 #[] s (plainB s.data.toList) := ⟨enters_of Try.func52 (by kernel_rfl) rfl, fun W hW => plain_any s W⟩
theorem binary_s (s : ByteArray) (w : World) (hx : Mx w) (hs : s.size ≤ 1048576) : AnsS w 55 #[] s (binB s) := ⟨enters_of Try.func55 (by kernel_rfl) rfl, fun W hW => (binary_any s W (hx.below hW) hs).mono fun e w' h => ⟨h.1, h.2 ▸ Below.refl _ _⟩⟩
theorem ranged_s (s : ByteArray) (w : World) (hx : Mx w) (hs : s.size ≤ 1048576) : AnsS w 63 #[] s (rangedB s) := ⟨enters_of Try.func63 (by kernel_rfl) rfl, fun W hW => ranged_any s W (hx.below hW) hs⟩

set_option maxRecDepth 100000 in
set_option maxHeartbeats 1000000 in
theorem term_any (g : Q → Nd → Bool) (F : Nat) (v : Value) (n : Nd) (W : World) (T : SaysF W F 35 #[] (g .typ)) (hft : Fits n) (hv : NdV W (F + 1) v n) :
    Calls Try.prog 73 #[v] W fun e w' => e = .returned (.bool (ofN (namedN n (twoB [] [126] n.text)) 15 [g .typ])) ∧ Below W.heap.size W w' := by
  obtain ⟨A, c, rfl, hm⟩ := hv.val
  have hmf : ∀ fn first cap w, (Instr.makeFunc fn first cap).run Try.prog w = .ok (.func fn first cap) w := fun _ _ _ _ => rfl
  have hb : Below W.heap.size W (W.alloc (.cells #[.int .i64 n.kind, .string n.text, .slice A n.kids.length c, .int .i64 n.place] 24)) := (Below.refl _ W).alloc (Nat.le_refl _) _
  have HB0 := Lib.hid hb
  have T := Lib.hid T
  have NM := Lib.hid (named_c F 74 #[] _ n (twoB [] [126] n.text) _ ((tilde_s n.text W).below hb) (hv.below hb))
  have hftm := hft.named (twoB [] [126] n.text)
  generalize namedN n (twoB [] [126] n.text) = m at NM hftm ⊢
  clear hb hv hft
  unfold Nd.val at NM ⊢
  go_enter Try.func73, Try.ntmps73
  go_wp2_with fail
  refine NM.out.mono ?_
  rintro e w1 ⟨A1, c1, rfl, n1, b1⟩
  have HB1 := Lib.hid (HB0.out.trans (b1.mono HB0.out.size))
  have N1 := Lib.hid n1
  clear b1 n1 NM
  have b2 : Below w1.heap.size w1 (w1.alloc (.cells #[.func (.func 35) #[] #[]] 30)) := (Below.refl _ w1).alloc (Nat.le_refl _) _
  have HBX := Lib.hid (HB1.out.trans (b2.mono HB1.out.size))
  have OF := Lib.hid (of_f F _ m 15 [(35, #[])] [(g .typ)] _ (N1.out.below b2) hftm (by simp) w1.heap.size 30 (fun _ => Whole.new w1 30 _) (some ⟨w1.heap.size, 0, none⟩) (fun _ => rfl) 1 ⟨T.out.below HBX.out, trivial⟩)
  clear b2
  simp only [List.length_cons, List.length_nil, Nat.zero_add, List.map_cons, List.map_nil, fnVal] at OF
  clear hftm N1
  go_wp2_with fail
  refine OF.out.mono ?_
  rintro e wl ⟨rfl, bl⟩
  have HBL := Lib.hid (HBX.out.trans (bl.mono HBX.out.size))
  clear bl OF
  go_wp2_with fail
  go_ret
  exact ⟨rfl, HBL.out⟩

set_option maxRecDepth 100000 in
set_option maxHeartbeats 1000000 in
theorem field_any (g : Q → Nd → Bool) (F : Nat) (v : Value) (n : Nd) (W : World) (T : SaysF W F 35 #[] (g .typ)) (hft : Fits n) (hv : NdV W (F + 1) v n) :
    Calls Try.prog 72 #[v] W fun e w' => e = .returned (.bool (ofN (namedN n (nameB n.text)) 9 [g .typ])) ∧ Below W.heap.size W w' := by
  obtain ⟨A, c, rfl, hm⟩ := hv.val
  have hmf : ∀ fn first cap w, (Instr.makeFunc fn first cap).run Try.prog w = .ok (.func fn first cap) w := fun _ _ _ _ => rfl
  have hb : Below W.heap.size W (W.alloc (.cells #[.int .i64 n.kind, .string n.text, .slice A n.kids.length c, .int .i64 n.place] 24)) := (Below.refl _ W).alloc (Nat.le_refl _) _
  have HB0 := Lib.hid hb
  have T := Lib.hid T
  have NM := Lib.hid (named_c F 32 #[] _ n (nameB n.text) _ ((name_s n.text W).below hb) (hv.below hb))
  have hftm := hft.named (nameB n.text)
  generalize namedN n (nameB n.text) = m at NM hftm ⊢
  clear hb hv hft
  unfold Nd.val at NM ⊢
  go_enter Try.func72, Try.ntmps72
  go_wp2_with fail
  refine NM.out.mono ?_
  rintro e w1 ⟨A1, c1, rfl, n1, b1⟩
  have HB1 := Lib.hid (HB0.out.trans (b1.mono HB0.out.size))
  have N1 := Lib.hid n1
  clear b1 n1 NM
  have b2 : Below w1.heap.size w1 (w1.alloc (.cells #[.func (.func 35) #[] #[]] 30)) := (Below.refl _ w1).alloc (Nat.le_refl _) _
  have HBX := Lib.hid (HB1.out.trans (b2.mono HB1.out.size))
  have OF := Lib.hid (of_f F _ m 9 [(35, #[])] [(g .typ)] _ (N1.out.below b2) hftm (by simp) w1.heap.size 30 (fun _ => Whole.new w1 30 _) (some ⟨w1.heap.size, 0, none⟩) (fun _ => rfl) 1 ⟨T.out.below HBX.out, trivial⟩)
  clear b2
  simp only [List.length_cons, List.length_nil, Nat.zero_add, List.map_cons, List.map_nil, fnVal] at OF
  clear hftm N1
  go_wp2_with fail
  refine OF.out.mono ?_
  rintro e wl ⟨rfl, bl⟩
  have HBL := Lib.hid (HBX.out.trans (bl.mono HBX.out.size))
  clear bl OF
  go_wp2_with fail
  go_ret
  exact ⟨rfl, HBL.out⟩

set_option maxRecDepth 100000 in
set_option maxHeartbeats 1000000 in
theorem short_any (g : Q → Nd → Bool) (F : Nat) (v : Value) (n : Nd) (W : World) (E : SaysF W F 36 #[] (g .expr)) (hft : Fits n) (hv : NdV W (F + 1) v n) :
    Calls Try.prog 57 #[v] W fun e w' => e = .returned (.bool (ofN (namedN n (boundB n.text)) 26 [g .expr])) ∧ Below W.heap.size W w' := by
  obtain ⟨A, c, rfl, hm⟩ := hv.val
  have hmf : ∀ fn first cap w, (Instr.makeFunc fn first cap).run Try.prog w = .ok (.func fn first cap) w := fun _ _ _ _ => rfl
  have hb : Below W.heap.size W (W.alloc (.cells #[.int .i64 n.kind, .string n.text, .slice A n.kids.length c, .int .i64 n.place] 24)) := (Below.refl _ W).alloc (Nat.le_refl _) _
  have HB0 := Lib.hid hb
  have E := Lib.hid E
  have NM := Lib.hid (named_c F 78 #[] _ n (boundB n.text) _ ((bound_s n.text W).below hb) (hv.below hb))
  have hftm := hft.named (boundB n.text)
  generalize namedN n (boundB n.text) = m at NM hftm ⊢
  clear hb hv hft
  unfold Nd.val at NM ⊢
  go_enter Try.func57, Try.ntmps57
  go_wp2_with fail
  refine NM.out.mono ?_
  rintro e w1 ⟨A1, c1, rfl, n1, b1⟩
  have HB1 := Lib.hid (HB0.out.trans (b1.mono HB0.out.size))
  have N1 := Lib.hid n1
  clear b1 n1 NM
  have b2 : Below w1.heap.size w1 (w1.alloc (.cells #[.func (.func 36) #[] #[]] 30)) := (Below.refl _ w1).alloc (Nat.le_refl _) _
  have HBX := Lib.hid (HB1.out.trans (b2.mono HB1.out.size))
  have OF := Lib.hid (of_f F _ m 26 [(36, #[])] [(g .expr)] _ (N1.out.below b2) hftm (by simp) w1.heap.size 30 (fun _ => Whole.new w1 30 _) (some ⟨w1.heap.size, 0, none⟩) (fun _ => rfl) 1 ⟨E.out.below HBX.out, trivial⟩)
  clear b2
  simp only [List.length_cons, List.length_nil, Nat.zero_add, List.map_cons, List.map_nil, fnVal] at OF
  clear hftm N1
  go_wp2_with fail
  refine OF.out.mono ?_
  rintro e wl ⟨rfl, bl⟩
  have HBL := Lib.hid (HBX.out.trans (bl.mono HBX.out.size))
  clear bl OF
  go_wp2_with fail
  go_ret
  exact ⟨rfl, HBL.out⟩

set_option maxRecDepth 100000 in
set_option maxHeartbeats 1000000 in
theorem inc_any (g : Q → Nd → Bool) (F : Nat) (v : Value) (n : Nd) (W : World) (E : SaysF W F 36 #[] (g .expr)) (hft : Fits n) (hv : NdV W (F + 1) v n) :
    Calls Try.prog 59 #[v] W fun e w' => e = .returned (.bool (ofN (namedN n (twoB [43, 43] [45, 45] n.text)) 28 [g .expr])) ∧ Below W.heap.size W w' := by
  obtain ⟨A, c, rfl, hm⟩ := hv.val
  have hmf : ∀ fn first cap w, (Instr.makeFunc fn first cap).run Try.prog w = .ok (.func fn first cap) w := fun _ _ _ _ => rfl
  have hb : Below W.heap.size W (W.alloc (.cells #[.int .i64 n.kind, .string n.text, .slice A n.kids.length c, .int .i64 n.place] 24)) := (Below.refl _ W).alloc (Nat.le_refl _) _
  have HB0 := Lib.hid hb
  have E := Lib.hid E
  have NM := Lib.hid (named_c F 79 #[] _ n (twoB [43, 43] [45, 45] n.text) _ ((step_s n.text W).below hb) (hv.below hb))
  have hftm := hft.named (twoB [43, 43] [45, 45] n.text)
  generalize namedN n (twoB [43, 43] [45, 45] n.text) = m at NM hftm ⊢
  clear hb hv hft
  unfold Nd.val at NM ⊢
  go_enter Try.func59, Try.ntmps59
  go_wp2_with fail
  refine NM.out.mono ?_
  rintro e w1 ⟨A1, c1, rfl, n1, b1⟩
  have HB1 := Lib.hid (HB0.out.trans (b1.mono HB0.out.size))
  have N1 := Lib.hid n1
  clear b1 n1 NM
  have b2 : Below w1.heap.size w1 (w1.alloc (.cells #[.func (.func 36) #[] #[]] 30)) := (Below.refl _ w1).alloc (Nat.le_refl _) _
  have HBX := Lib.hid (HB1.out.trans (b2.mono HB1.out.size))
  have OF := Lib.hid (of_f F _ m 28 [(36, #[])] [(g .expr)] _ (N1.out.below b2) hftm (by simp) w1.heap.size 30 (fun _ => Whole.new w1 30 _) (some ⟨w1.heap.size, 0, none⟩) (fun _ => rfl) 1 ⟨E.out.below HBX.out, trivial⟩)
  clear b2
  simp only [List.length_cons, List.length_nil, Nat.zero_add, List.map_cons, List.map_nil, fnVal] at OF
  clear hftm N1
  go_wp2_with fail
  refine OF.out.mono ?_
  rintro e wl ⟨rfl, bl⟩
  have HBL := Lib.hid (HBX.out.trans (bl.mono HBX.out.size))
  clear bl OF
  go_wp2_with fail
  go_ret
  exact ⟨rfl, HBL.out⟩

set_option maxRecDepth 100000 in
set_option maxHeartbeats 1000000 in
theorem set_any (g : Q → Nd → Bool) (F : Nat) (v : Value) (n : Nd) (W : World) (E : SaysF W F 36 #[] (g .expr)) (hft : Fits n) (hv : NdV W (F + 1) v n) :
    Calls Try.prog 58 #[v] W fun e w' => e = .returned (.bool (ofN n 27 [g .expr, g .expr])) ∧ Below W.heap.size W w' := by
  obtain ⟨A, c, rfl, hm⟩ := hv.val
  have hmf : ∀ fn first cap w, (Instr.makeFunc fn first cap).run Try.prog w = .ok (.func fn first cap) w := fun _ _ _ _ => rfl
  have hb : Below W.heap.size W (W.alloc (.cells #[.int .i64 n.kind, .string n.text, .slice A n.kids.length c, .int .i64 n.place] 24)) := (Below.refl _ W).alloc (Nat.le_refl _) _
  have HB0 := Lib.hid hb
  have E := Lib.hid E
  have b2 := hb.alloc (by simp) (.cells #[.func (.func 36) #[] #[], .func (.func 36) #[] #[]] 30)
  have HBX := Lib.hid b2
  have OF := Lib.hid (of_f F _ n 27 [(36, #[]), (36, #[])] [(g .expr), (g .expr)] _ (hv.below b2) hft (by simp) (W.heap.size + 1) 30 (fun _ => by have := Whole.new (W.alloc (.cells #[.int .i64 n.kind, .string n.text, .slice A n.kids.length c, .int .i64 n.place] 24)) 30 #[.func (.func 36) #[] #[], .func (.func 36) #[] #[]]; rw [World.size_alloc] at this; exact this) (some ⟨W.heap.size + 1, 0, none⟩) (fun _ => rfl) 2 ⟨E.out.below b2, E.out.below b2, trivial⟩)
  clear b2
  simp only [List.length_cons, List.length_nil, Nat.zero_add, List.map_cons, List.map_nil, fnVal] at OF
  clear hb hv hft HB0
  unfold Nd.val at OF ⊢
  go_enter Try.func58, Try.ntmps58
  go_wp2_with fail
  refine OF.out.mono ?_
  rintro e wl ⟨rfl, bl⟩
  have HBL := Lib.hid (HBX.out.trans (bl.mono HBX.out.size))
  clear bl OF
  go_wp2_with fail
  go_ret
  exact ⟨rfl, HBL.out⟩

set_option maxRecDepth 100000 in
set_option maxHeartbeats 1000000 in
theorem call_any (g : Q → Nd → Bool) (F : Nat) (v : Value) (n : Nd) (W : World) (CL : SaysF W F 80 #[] (call1B g)) (hft : Fits n) (hv : NdV W (F + 1) v n) :
    Calls Try.prog 60 #[v] W fun e w' => e = .returned (.bool (ofN n 29 [call1B g])) ∧ Below W.heap.size W w' := by
  obtain ⟨A, c, rfl, hm⟩ := hv.val
  have hmf : ∀ fn first cap w, (Instr.makeFunc fn first cap).run Try.prog w = .ok (.func fn first cap) w := fun _ _ _ _ => rfl
  have hb : Below W.heap.size W (W.alloc (.cells #[.int .i64 n.kind, .string n.text, .slice A n.kids.length c, .int .i64 n.place] 24)) := (Below.refl _ W).alloc (Nat.le_refl _) _
  have HB0 := Lib.hid hb
  have CL := Lib.hid CL
  have b2 := hb.alloc (by simp) (.cells #[.func (.func 80) #[] #[]] 30)
  have HBX := Lib.hid b2
  have OF := Lib.hid (of_f F _ n 29 [(80, #[])] [(call1B g)] _ (hv.below b2) hft (by simp) (W.heap.size + 1) 30 (fun _ => by have := Whole.new (W.alloc (.cells #[.int .i64 n.kind, .string n.text, .slice A n.kids.length c, .int .i64 n.place] 24)) 30 #[.func (.func 80) #[] #[]]; rw [World.size_alloc] at this; exact this) (some ⟨W.heap.size + 1, 0, none⟩) (fun _ => rfl) 1 ⟨CL.out.below b2, trivial⟩)
  clear b2
  simp only [List.length_cons, List.length_nil, Nat.zero_add, List.map_cons, List.map_nil, fnVal] at OF
  clear hb hv hft HB0
  unfold Nd.val at OF ⊢
  go_enter Try.func60, Try.ntmps60
  go_wp2_with fail
  refine OF.out.mono ?_
  rintro e wl ⟨rfl, bl⟩
  have HBL := Lib.hid (HBX.out.trans (bl.mono HBX.out.size))
  clear bl OF
  go_wp2_with fail
  go_ret
  exact ⟨rfl, HBL.out⟩

set_option maxRecDepth 100000 in
set_option maxHeartbeats 1000000 in
theorem expr16_any (g : Q → Nd → Bool) (F : Nat) (v : Value) (n : Nd) (W : World)  (hk : n.kind = 16) (hft : Fits n) (hv : NdV W (F + 1) v n) :
    Calls Try.prog 36 #[v] W fun e w' => e = .returned (.bool (ofN (namedN n (plainB n.text.data.toList)) 16 [])) ∧ Below W.heap.size W w' := by
  obtain ⟨A, c, rfl, hm⟩ := hv.val
  have hmf : ∀ fn first cap w, (Instr.makeFunc fn first cap).run Try.prog w = .ok (.func fn first cap) w := fun _ _ _ _ => rfl
  have hb : Below W.heap.size W (W.alloc (.cells #[.int .i64 n.kind, .string n.text, .slice A n.kids.length c, .int .i64 n.place] 24)) := (Below.refl _ W).alloc (Nat.le_refl _) _
  have HB0 := Lib.hid hb
  have NM := Lib.hid (named_c F 52 #[] _ n (plainB n.text.data.toList) _ ((plain_s n.text W).below hb) (hv.below hb))
  have hftm := hft.named (plainB n.text.data.toList)
  generalize namedN n (plainB n.text.data.toList) = m at NM hftm ⊢
  clear hb hv hft
  unfold Nd.val at NM ⊢
  rw [hk] at NM HB0 ⊢
  go_enter Try.func36, Try.ntmps36
  go_wp2_with fail
  refine NM.out.mono ?_
  rintro e w1 ⟨A1, c1, rfl, n1, b1⟩
  have HB1 := Lib.hid (HB0.out.trans (b1.mono HB0.out.size))
  have N1 := Lib.hid n1
  clear b1 n1 NM
  have HBX := HB1
  have OF := Lib.hid (of_f F _ m 16 [] [] _ N1.out hftm (by simp) 0 30 (fun h => absurd rfl h) none (fun h => absurd rfl h) 0 trivial)
  simp only [List.length_cons, List.length_nil, Nat.zero_add, List.map_cons, List.map_nil, fnVal] at OF
  clear hftm N1
  go_wp2_with fail
  refine OF.out.mono ?_
  rintro e wl ⟨rfl, bl⟩
  have HBL := Lib.hid (HBX.out.trans (bl.mono HBX.out.size))
  clear bl OF
  go_wp2_with fail
  go_ret
  exact ⟨rfl, HBL.out⟩

set_option maxRecDepth 100000 in
set_option maxHeartbeats 1000000 in
theorem expr17_any (g : Q → Nd → Bool) (F : Nat) (v : Value) (n : Nd) (W : World)  (hk : n.kind = 17) (hft : Fits n) (hv : NdV W (F + 1) v n) :
    Calls Try.prog 36 #[v] W fun e w' => e = .returned (.bool (ofN (namedN n (decide (n.text.size ≤ 1000))) 17 [])) ∧ Below W.heap.size W w' := by
  obtain ⟨A, c, rfl, hm⟩ := hv.val
  have hmf : ∀ fn first cap w, (Instr.makeFunc fn first cap).run Try.prog w = .ok (.func fn first cap) w := fun _ _ _ _ => rfl
  have hb : Below W.heap.size W (W.alloc (.cells #[.int .i64 n.kind, .string n.text, .slice A n.kids.length c, .int .i64 n.place] 24)) := (Below.refl _ W).alloc (Nat.le_refl _) _
  have HB0 := Lib.hid hb
  have NM := Lib.hid (named_c F 53 #[] _ n (decide (n.text.size ≤ 1000)) _ ((texts_s n.text W).below hb) (hv.below hb))
  have hftm := hft.named (decide (n.text.size ≤ 1000))
  generalize namedN n (decide (n.text.size ≤ 1000)) = m at NM hftm ⊢
  clear hb hv hft
  unfold Nd.val at NM ⊢
  rw [hk] at NM HB0 ⊢
  go_enter Try.func36, Try.ntmps36
  go_wp2_with fail
  refine NM.out.mono ?_
  rintro e w1 ⟨A1, c1, rfl, n1, b1⟩
  have HB1 := Lib.hid (HB0.out.trans (b1.mono HB0.out.size))
  have N1 := Lib.hid n1
  clear b1 n1 NM
  have HBX := HB1
  have OF := Lib.hid (of_f F _ m 17 [] [] _ N1.out hftm (by simp) 0 30 (fun h => absurd rfl h) none (fun h => absurd rfl h) 0 trivial)
  simp only [List.length_cons, List.length_nil, Nat.zero_add, List.map_cons, List.map_nil, fnVal] at OF
  clear hftm N1
  go_wp2_with fail
  refine OF.out.mono ?_
  rintro e wl ⟨rfl, bl⟩
  have HBL := Lib.hid (HBX.out.trans (bl.mono HBX.out.size))
  clear bl OF
  go_wp2_with fail
  go_ret
  exact ⟨rfl, HBL.out⟩

set_option maxRecDepth 100000 in
set_option maxHeartbeats 1000000 in
theorem expr18_any (g : Q → Nd → Bool) (F : Nat) (v : Value) (n : Nd) (W : World)  (hk : n.kind = 18) (hft : Fits n) (hv : NdV W (F + 1) v n) :
    Calls Try.prog 36 #[v] W fun e w' => e = .returned (.bool (ofN (namedN n (nameB n.text)) 18 [])) ∧ Below W.heap.size W w' := by
  obtain ⟨A, c, rfl, hm⟩ := hv.val
  have hmf : ∀ fn first cap w, (Instr.makeFunc fn first cap).run Try.prog w = .ok (.func fn first cap) w := fun _ _ _ _ => rfl
  have hb : Below W.heap.size W (W.alloc (.cells #[.int .i64 n.kind, .string n.text, .slice A n.kids.length c, .int .i64 n.place] 24)) := (Below.refl _ W).alloc (Nat.le_refl _) _
  have HB0 := Lib.hid hb
  have NM := Lib.hid (named_c F 32 #[] _ n (nameB n.text) _ ((name_s n.text W).below hb) (hv.below hb))
  have hftm := hft.named (nameB n.text)
  generalize namedN n (nameB n.text) = m at NM hftm ⊢
  clear hb hv hft
  unfold Nd.val at NM ⊢
  rw [hk] at NM HB0 ⊢
  go_enter Try.func36, Try.ntmps36
  go_wp2_with fail
  refine NM.out.mono ?_
  rintro e w1 ⟨A1, c1, rfl, n1, b1⟩
  have HB1 := Lib.hid (HB0.out.trans (b1.mono HB0.out.size))
  have N1 := Lib.hid n1
  clear b1 n1 NM
  have HBX := HB1
  have OF := Lib.hid (of_f F _ m 18 [] [] _ N1.out hftm (by simp) 0 30 (fun h => absurd rfl h) none (fun h => absurd rfl h) 0 trivial)
  simp only [List.length_cons, List.length_nil, Nat.zero_add, List.map_cons, List.map_nil, fnVal] at OF
  clear hftm N1
  go_wp2_with fail
  refine OF.out.mono ?_
  rintro e wl ⟨rfl, bl⟩
  have HBL := Lib.hid (HBX.out.trans (bl.mono HBX.out.size))
  clear bl OF
  go_wp2_with fail
  go_ret
  exact ⟨rfl, HBL.out⟩

set_option maxRecDepth 100000 in
set_option maxHeartbeats 1000000 in
theorem expr19_any (g : Q → Nd → Bool) (F : Nat) (v : Value) (n : Nd) (W : World) (E : SaysF W F 36 #[] (g .expr)) (hk : n.kind = 19) (hft : Fits n) (hv : NdV W (F + 1) v n) :
    Calls Try.prog 36 #[v] W fun e w' => e = .returned (.bool (ofN (namedN n (twoB [45] [33] n.text)) 19 [g .expr])) ∧ Below W.heap.size W w' := by
  obtain ⟨A, c, rfl, hm⟩ := hv.val
  have hmf : ∀ fn first cap w, (Instr.makeFunc fn first cap).run Try.prog w = .ok (.func fn first cap) w := fun _ _ _ _ => rfl
  have hb : Below W.heap.size W (W.alloc (.cells #[.int .i64 n.kind, .string n.text, .slice A n.kids.length c, .int .i64 n.place] 24)) := (Below.refl _ W).alloc (Nat.le_refl _) _
  have HB0 := Lib.hid hb
  have E := Lib.hid E
  have NM := Lib.hid (named_c F 54 #[] _ n (twoB [45] [33] n.text) _ ((unary_s n.text W).below hb) (hv.below hb))
  have hftm := hft.named (twoB [45] [33] n.text)
  generalize namedN n (twoB [45] [33] n.text) = m at NM hftm ⊢
  clear hb hv hft
  unfold Nd.val at NM ⊢
  rw [hk] at NM HB0 ⊢
  go_enter Try.func36, Try.ntmps36
  go_wp2_with fail
  refine NM.out.mono ?_
  rintro e w1 ⟨A1, c1, rfl, n1, b1⟩
  have HB1 := Lib.hid (HB0.out.trans (b1.mono HB0.out.size))
  have N1 := Lib.hid n1
  clear b1 n1 NM
  have b2 : Below w1.heap.size w1 (w1.alloc (.cells #[.func (.func 36) #[] #[]] 30)) := (Below.refl _ w1).alloc (Nat.le_refl _) _
  have HBX := Lib.hid (HB1.out.trans (b2.mono HB1.out.size))
  have OF := Lib.hid (of_f F _ m 19 [(36, #[])] [(g .expr)] _ (N1.out.below b2) hftm (by simp) w1.heap.size 30 (fun _ => Whole.new w1 30 _) (some ⟨w1.heap.size, 0, none⟩) (fun _ => rfl) 1 ⟨E.out.below HBX.out, trivial⟩)
  clear b2
  simp only [List.length_cons, List.length_nil, Nat.zero_add, List.map_cons, List.map_nil, fnVal] at OF
  clear hftm N1
  go_wp2_with fail
  refine OF.out.mono ?_
  rintro e wl ⟨rfl, bl⟩
  have HBL := Lib.hid (HBX.out.trans (bl.mono HBX.out.size))
  clear bl OF
  go_wp2_with fail
  go_ret
  exact ⟨rfl, HBL.out⟩

set_option maxRecDepth 100000 in
set_option maxHeartbeats 1000000 in
theorem expr20_any (g : Q → Nd → Bool) (F : Nat) (v : Value) (n : Nd) (W : World) (E : SaysF W F 36 #[] (g .expr)) (hbin : AnsS W 55 #[] n.text (binB n.text)) (hk : n.kind = 20) (hft : Fits n) (hv : NdV W (F + 1) v n) :
    Calls Try.prog 36 #[v] W fun e w' => e = .returned (.bool (ofN (namedN n (binB n.text)) 20 [g .expr, g .expr])) ∧ Below W.heap.size W w' := by
  obtain ⟨A, c, rfl, hm⟩ := hv.val
  have hmf : ∀ fn first cap w, (Instr.makeFunc fn first cap).run Try.prog w = .ok (.func fn first cap) w := fun _ _ _ _ => rfl
  have hb : Below W.heap.size W (W.alloc (.cells #[.int .i64 n.kind, .string n.text, .slice A n.kids.length c, .int .i64 n.place] 24)) := (Below.refl _ W).alloc (Nat.le_refl _) _
  have HB0 := Lib.hid hb
  have E := Lib.hid E
  have NM := Lib.hid (named_c F 55 #[] _ n (binB n.text) _ ((hbin).below hb) (hv.below hb))
  have hftm := hft.named (binB n.text)
  generalize namedN n (binB n.text) = m at NM hftm ⊢
  clear hb hv hft
  unfold Nd.val at NM ⊢
  rw [hk] at NM HB0 ⊢
  go_enter Try.func36, Try.ntmps36
  go_wp2_with fail
  refine NM.out.mono ?_
  rintro e w1 ⟨A1, c1, rfl, n1, b1⟩
  have HB1 := Lib.hid (HB0.out.trans (b1.mono HB0.out.size))
  have N1 := Lib.hid n1
  clear b1 n1 NM
  have b2 : Below w1.heap.size w1 (w1.alloc (.cells #[.func (.func 36) #[] #[], .func (.func 36) #[] #[]] 30)) := (Below.refl _ w1).alloc (Nat.le_refl _) _
  have HBX := Lib.hid (HB1.out.trans (b2.mono HB1.out.size))
  have OF := Lib.hid (of_f F _ m 20 [(36, #[]), (36, #[])] [(g .expr), (g .expr)] _ (N1.out.below b2) hftm (by simp) w1.heap.size 30 (fun _ => Whole.new w1 30 _) (some ⟨w1.heap.size, 0, none⟩) (fun _ => rfl) 2 ⟨E.out.below HBX.out, E.out.below HBX.out, trivial⟩)
  clear b2
  simp only [List.length_cons, List.length_nil, Nat.zero_add, List.map_cons, List.map_nil, fnVal] at OF
  clear hftm N1
  go_wp2_with fail
  refine OF.out.mono ?_
  rintro e wl ⟨rfl, bl⟩
  have HBL := Lib.hid (HBX.out.trans (bl.mono HBX.out.size))
  clear bl OF
  go_wp2_with fail
  go_ret
  exact ⟨rfl, HBL.out⟩

set_option maxRecDepth 100000 in
set_option maxHeartbeats 1000000 in
theorem expr23_any (g : Q → Nd → Bool) (F : Nat) (v : Value) (n : Nd) (W : World) (E : SaysF W F 36 #[] (g .expr)) (hk : n.kind = 23) (hft : Fits n) (hv : NdV W (F + 1) v n) :
    Calls Try.prog 36 #[v] W fun e w' => e = .returned (.bool (ofN (namedN n (nameB n.text)) 23 [g .expr])) ∧ Below W.heap.size W w' := by
  obtain ⟨A, c, rfl, hm⟩ := hv.val
  have hmf : ∀ fn first cap w, (Instr.makeFunc fn first cap).run Try.prog w = .ok (.func fn first cap) w := fun _ _ _ _ => rfl
  have hb : Below W.heap.size W (W.alloc (.cells #[.int .i64 n.kind, .string n.text, .slice A n.kids.length c, .int .i64 n.place] 24)) := (Below.refl _ W).alloc (Nat.le_refl _) _
  have HB0 := Lib.hid hb
  have E := Lib.hid E
  have NM := Lib.hid (named_c F 32 #[] _ n (nameB n.text) _ ((name_s n.text W).below hb) (hv.below hb))
  have hftm := hft.named (nameB n.text)
  generalize namedN n (nameB n.text) = m at NM hftm ⊢
  clear hb hv hft
  unfold Nd.val at NM ⊢
  rw [hk] at NM HB0 ⊢
  go_enter Try.func36, Try.ntmps36
  go_wp2_with fail
  refine NM.out.mono ?_
  rintro e w1 ⟨A1, c1, rfl, n1, b1⟩
  have HB1 := Lib.hid (HB0.out.trans (b1.mono HB0.out.size))
  have N1 := Lib.hid n1
  clear b1 n1 NM
  have b2 : Below w1.heap.size w1 (w1.alloc (.cells #[.func (.func 36) #[] #[]] 30)) := (Below.refl _ w1).alloc (Nat.le_refl _) _
  have HBX := Lib.hid (HB1.out.trans (b2.mono HB1.out.size))
  have OF := Lib.hid (of_f F _ m 23 [(36, #[])] [(g .expr)] _ (N1.out.below b2) hftm (by simp) w1.heap.size 30 (fun _ => Whole.new w1 30 _) (some ⟨w1.heap.size, 0, none⟩) (fun _ => rfl) 1 ⟨E.out.below HBX.out, trivial⟩)
  clear b2
  simp only [List.length_cons, List.length_nil, Nat.zero_add, List.map_cons, List.map_nil, fnVal] at OF
  clear hftm N1
  go_wp2_with fail
  refine OF.out.mono ?_
  rintro e wl ⟨rfl, bl⟩
  have HBL := Lib.hid (HBX.out.trans (bl.mono HBX.out.size))
  clear bl OF
  go_wp2_with fail
  go_ret
  exact ⟨rfl, HBL.out⟩

set_option maxRecDepth 100000 in
set_option maxHeartbeats 1000000 in
theorem type11_any (g : Q → Nd → Bool) (F : Nat) (v : Value) (n : Nd) (W : World) (T : SaysF W F 35 #[] (g .typ)) (hk : n.kind = 11) (hft : Fits n) (hv : NdV W (F + 1) v n) :
    Calls Try.prog 35 #[v] W fun e w' => e = .returned (.bool (ofN n 11 [g .typ])) ∧ Below W.heap.size W w' := by
  obtain ⟨A, c, rfl, hm⟩ := hv.val
  have hmf : ∀ fn first cap w, (Instr.makeFunc fn first cap).run Try.prog w = .ok (.func fn first cap) w := fun _ _ _ _ => rfl
  have hb : Below W.heap.size W (W.alloc (.cells #[.int .i64 n.kind, .string n.text, .slice A n.kids.length c, .int .i64 n.place] 24)) := (Below.refl _ W).alloc (Nat.le_refl _) _
  have HB0 := Lib.hid hb
  have T := Lib.hid T
  have b2 := hb.alloc (by simp) (.cells #[.func (.func 35) #[] #[]] 30)
  have HBX := Lib.hid b2
  have OF := Lib.hid (of_f F _ n 11 [(35, #[])] [(g .typ)] _ (hv.below b2) hft (by simp) (W.heap.size + 1) 30 (fun _ => by have := Whole.new (W.alloc (.cells #[.int .i64 n.kind, .string n.text, .slice A n.kids.length c, .int .i64 n.place] 24)) 30 #[.func (.func 35) #[] #[]]; rw [World.size_alloc] at this; exact this) (some ⟨W.heap.size + 1, 0, none⟩) (fun _ => rfl) 1 ⟨T.out.below b2, trivial⟩)
  clear b2
  simp only [List.length_cons, List.length_nil, Nat.zero_add, List.map_cons, List.map_nil, fnVal] at OF
  clear hb hv hft HB0
  unfold Nd.val at OF ⊢
  rw [hk] at OF HBX ⊢
  go_enter Try.func35, Try.ntmps35
  go_wp2_with fail
  refine OF.out.mono ?_
  rintro e wl ⟨rfl, bl⟩
  have HBL := Lib.hid (HBX.out.trans (bl.mono HBX.out.size))
  clear bl OF
  go_wp2_with fail
  go_ret
  exact ⟨rfl, HBL.out⟩

set_option maxRecDepth 100000 in
set_option maxHeartbeats 1000000 in
theorem decl2_any (g : Q → Nd → Bool) (F : Nat) (v : Value) (n : Nd) (W : World) (PA : SaysF W F 44 #[] (paramsB g)) (SI : SaysF W F 38 #[] (isSigB g)) (BL : SaysF W F 45 #[] (blockB g)) (hk : n.kind = 2) (hft : Fits n) (hv : NdV W (F + 1) v n) :
    Calls Try.prog 34 #[v] W fun e w' => e = .returned (.bool (ofN (namedN n (nameB n.text)) 2 [paramsB g, isSigB g, blockB g])) ∧ Below W.heap.size W w' := by
  obtain ⟨A, c, rfl, hm⟩ := hv.val
  have hmf : ∀ fn first cap w, (Instr.makeFunc fn first cap).run Try.prog w = .ok (.func fn first cap) w := fun _ _ _ _ => rfl
  have hb : Below W.heap.size W (W.alloc (.cells #[.int .i64 n.kind, .string n.text, .slice A n.kids.length c, .int .i64 n.place] 24)) := (Below.refl _ W).alloc (Nat.le_refl _) _
  have HB0 := Lib.hid hb
  have PA := Lib.hid PA
  have SI := Lib.hid SI
  have BL := Lib.hid BL
  have NM := Lib.hid (named_c F 32 #[] _ n (nameB n.text) _ ((name_s n.text W).below hb) (hv.below hb))
  have hftm := hft.named (nameB n.text)
  generalize namedN n (nameB n.text) = m at NM hftm ⊢
  clear hb hv hft
  unfold Nd.val at NM ⊢
  rw [hk] at NM HB0 ⊢
  go_enter Try.func34, Try.ntmps34
  go_wp2_with fail
  refine NM.out.mono ?_
  rintro e w1 ⟨A1, c1, rfl, n1, b1⟩
  have HB1 := Lib.hid (HB0.out.trans (b1.mono HB0.out.size))
  have N1 := Lib.hid n1
  clear b1 n1 NM
  have b2 : Below w1.heap.size w1 (w1.alloc (.cells #[.func (.func 44) #[] #[], .func (.func 38) #[] #[], .func (.func 45) #[] #[]] 30)) := (Below.refl _ w1).alloc (Nat.le_refl _) _
  have HBX := Lib.hid (HB1.out.trans (b2.mono HB1.out.size))
  have OF := Lib.hid (of_f F _ m 2 [(44, #[]), (38, #[]), (45, #[])] [(paramsB g), (isSigB g), (blockB g)] _ (N1.out.below b2) hftm (by simp) w1.heap.size 30 (fun _ => Whole.new w1 30 _) (some ⟨w1.heap.size, 0, none⟩) (fun _ => rfl) 3 ⟨PA.out.below HBX.out, SI.out.below HBX.out, BL.out.below HBX.out, trivial⟩)
  clear b2
  simp only [List.length_cons, List.length_nil, Nat.zero_add, List.map_cons, List.map_nil, fnVal] at OF
  clear hftm N1
  go_wp2_with fail
  refine OF.out.mono ?_
  rintro e wl ⟨rfl, bl⟩
  have HBL := Lib.hid (HBX.out.trans (bl.mono HBX.out.size))
  clear bl OF
  go_wp2_with fail
  go_ret
  exact ⟨rfl, HBL.out⟩

set_option maxRecDepth 100000 in
set_option maxHeartbeats 1000000 in
theorem decl3_any (g : Q → Nd → Bool) (F : Nat) (v : Value) (n : Nd) (W : World) (PA : SaysF W F 44 #[] (paramsB g)) (T : SaysF W F 35 #[] (g .typ)) (SU : SaysF W F 47 #[] (structB g)) (IR : SaysF W F 48 #[] (interB g)) (hk : n.kind = 3) (hft : Fits n) (hv : NdV W (F + 1) v n) :
    Calls Try.prog 34 #[v] W fun e w' => e = .returned (.bool (ofN (namedN n (nameB n.text)) 3 [paramsB g, fun k => (g .typ k || structB g k) || interB g k])) ∧ Below W.heap.size W w' := by
  obtain ⟨A, c, rfl, hm⟩ := hv.val
  have hmf : ∀ fn first cap w, (Instr.makeFunc fn first cap).run Try.prog w = .ok (.func fn first cap) w := fun _ _ _ _ => rfl
  have hb : Below W.heap.size W (W.alloc (.cells #[.int .i64 n.kind, .string n.text, .slice A n.kids.length c, .int .i64 n.place] 24)) := (Below.refl _ W).alloc (Nat.le_refl _) _
  have HB0 := Lib.hid hb
  have PA := Lib.hid PA
  have T := Lib.hid T
  have SU := Lib.hid SU
  have IR := Lib.hid IR
  have NM := Lib.hid (named_c F 32 #[] _ n (nameB n.text) _ ((name_s n.text W).below hb) (hv.below hb))
  have hftm := hft.named (nameB n.text)
  generalize namedN n (nameB n.text) = m at NM hftm ⊢
  clear hb hv hft
  unfold Nd.val at NM ⊢
  rw [hk] at NM HB0 ⊢
  go_enter Try.func34, Try.ntmps34
  go_wp2_with fail
  refine NM.out.mono ?_
  rintro e w1 ⟨A1, c1, rfl, n1, b1⟩
  have HB1 := Lib.hid (HB0.out.trans (b1.mono HB0.out.size))
  have N1 := Lib.hid n1
  clear b1 n1 NM
  go_wp2_with fail
  refine (or_f F 35 47 #[] #[] (g .typ) (structB g) w1 (T.out.below HB1.out) (SU.out.below HB1.out)).mono ?_
  rintro e w2 ⟨rfl, s, b⟩
  have N1 := Lib.hid (N1.out.below b)
  have HB2 := Lib.hid (HB1.out.trans (b.mono HB1.out.size))
  have S2 := Lib.hid s
  clear s b
  go_wp2_with fail
  refine (or_f F 71 48 #[.pointer (some ⟨w1.heap.size, 0, none⟩), .pointer (some ⟨w1.heap.size + 1, 0, none⟩)] #[] (fun k => ((g .typ) k || (structB g) k)) (interB g) w2 S2.out (IR.out.below HB2.out)).mono ?_
  rintro e w3 ⟨rfl, s, b⟩
  have S2 := Lib.hid (S2.out.below b)
  have N1 := Lib.hid (N1.out.below b)
  have HB3 := Lib.hid (HB2.out.trans (b.mono HB2.out.size))
  have S3 := Lib.hid s
  clear s b
  have b2 : Below w3.heap.size w3 (w3.alloc (.cells #[.func (.func 44) #[] #[], .func (.func 71) #[] #[.pointer (some ⟨w2.heap.size, 0, none⟩), .pointer (some ⟨w2.heap.size + 1, 0, none⟩)]] 30)) := (Below.refl _ w3).alloc (Nat.le_refl _) _
  have HBX := Lib.hid (HB3.out.trans (b2.mono HB3.out.size))
  have OF := Lib.hid (of_f F _ m 3 [(44, #[]), (71, #[.pointer (some ⟨w2.heap.size, 0, none⟩), .pointer (some ⟨w2.heap.size + 1, 0, none⟩)])] [(paramsB g), (fun k => (((g .typ) k || (structB g) k) || (interB g) k))] _ (N1.out.below b2) hftm (by simp) w3.heap.size 30 (fun _ => Whole.new w3 30 _) (some ⟨w3.heap.size, 0, none⟩) (fun _ => rfl) 2 ⟨PA.out.below HBX.out, S3.out.below b2, trivial⟩)
  clear b2
  simp only [List.length_cons, List.length_nil, Nat.zero_add, List.map_cons, List.map_nil, fnVal] at OF
  clear hftm N1
  go_wp2_with fail
  refine OF.out.mono ?_
  rintro e wl ⟨rfl, bl⟩
  have HBL := Lib.hid (HBX.out.trans (bl.mono HBX.out.size))
  clear bl OF
  go_wp2_with fail
  go_ret
  exact ⟨rfl, HBL.out⟩

set_option maxRecDepth 100000 in
set_option maxHeartbeats 1000000 in
theorem decl4_any (g : Q → Nd → Bool) (F : Nat) (v : Value) (n : Nd) (W : World) (PA : SaysF W F 44 #[] (paramsB g)) (T : SaysF W F 35 #[] (g .typ)) (hk : n.kind = 4) (hft : Fits n) (hv : NdV W (F + 1) v n) :
    Calls Try.prog 34 #[v] W fun e w' => e = .returned (.bool (ofN (namedN n (nameB n.text)) 4 [paramsB g, g .typ])) ∧ Below W.heap.size W w' := by
  obtain ⟨A, c, rfl, hm⟩ := hv.val
  have hmf : ∀ fn first cap w, (Instr.makeFunc fn first cap).run Try.prog w = .ok (.func fn first cap) w := fun _ _ _ _ => rfl
  have hb : Below W.heap.size W (W.alloc (.cells #[.int .i64 n.kind, .string n.text, .slice A n.kids.length c, .int .i64 n.place] 24)) := (Below.refl _ W).alloc (Nat.le_refl _) _
  have HB0 := Lib.hid hb
  have PA := Lib.hid PA
  have T := Lib.hid T
  have NM := Lib.hid (named_c F 32 #[] _ n (nameB n.text) _ ((name_s n.text W).below hb) (hv.below hb))
  have hftm := hft.named (nameB n.text)
  generalize namedN n (nameB n.text) = m at NM hftm ⊢
  clear hb hv hft
  unfold Nd.val at NM ⊢
  rw [hk] at NM HB0 ⊢
  go_enter Try.func34, Try.ntmps34
  go_wp2_with fail
  refine NM.out.mono ?_
  rintro e w1 ⟨A1, c1, rfl, n1, b1⟩
  have HB1 := Lib.hid (HB0.out.trans (b1.mono HB0.out.size))
  have N1 := Lib.hid n1
  clear b1 n1 NM
  have b2 : Below w1.heap.size w1 (w1.alloc (.cells #[.func (.func 44) #[] #[], .func (.func 35) #[] #[]] 30)) := (Below.refl _ w1).alloc (Nat.le_refl _) _
  have HBX := Lib.hid (HB1.out.trans (b2.mono HB1.out.size))
  have OF := Lib.hid (of_f F _ m 4 [(44, #[]), (35, #[])] [(paramsB g), (g .typ)] _ (N1.out.below b2) hftm (by simp) w1.heap.size 30 (fun _ => Whole.new w1 30 _) (some ⟨w1.heap.size, 0, none⟩) (fun _ => rfl) 2 ⟨PA.out.below HBX.out, T.out.below HBX.out, trivial⟩)
  clear b2
  simp only [List.length_cons, List.length_nil, Nat.zero_add, List.map_cons, List.map_nil, fnVal] at OF
  clear hftm N1
  go_wp2_with fail
  refine OF.out.mono ?_
  rintro e wl ⟨rfl, bl⟩
  have HBL := Lib.hid (HBX.out.trans (bl.mono HBX.out.size))
  clear bl OF
  go_wp2_with fail
  go_ret
  exact ⟨rfl, HBL.out⟩

set_option maxRecDepth 100000 in
set_option maxHeartbeats 1000000 in
theorem stmt32_any (g : Q → Nd → Bool) (F : Nat) (v : Value) (n : Nd) (W : World) (E : SaysF W F 36 #[] (g .expr)) (BL : SaysF W F 45 #[] (blockB g)) (hran : AnsS W 63 #[] n.text (rangedB n.text)) (hk : n.kind = 32) (hft : Fits n) (hv : NdV W (F + 1) v n) :
    Calls Try.prog 37 #[v] W fun e w' => e = .returned (.bool (ofN (namedN n (rangedB n.text)) 32 [g .expr, blockB g])) ∧ Below W.heap.size W w' := by
  obtain ⟨A, c, rfl, hm⟩ := hv.val
  have hmf : ∀ fn first cap w, (Instr.makeFunc fn first cap).run Try.prog w = .ok (.func fn first cap) w := fun _ _ _ _ => rfl
  have hb : Below W.heap.size W (W.alloc (.cells #[.int .i64 n.kind, .string n.text, .slice A n.kids.length c, .int .i64 n.place] 24)) := (Below.refl _ W).alloc (Nat.le_refl _) _
  have HB0 := Lib.hid hb
  have E := Lib.hid E
  have BL := Lib.hid BL
  have NM := Lib.hid (named_c F 63 #[] _ n (rangedB n.text) _ ((hran).below hb) (hv.below hb))
  have hftm := hft.named (rangedB n.text)
  generalize namedN n (rangedB n.text) = m at NM hftm ⊢
  clear hb hv hft
  unfold Nd.val at NM ⊢
  rw [hk] at NM HB0 ⊢
  go_enter Try.func37, Try.ntmps37
  go_wp2_with fail
  refine NM.out.mono ?_
  rintro e w1 ⟨A1, c1, rfl, n1, b1⟩
  have HB1 := Lib.hid (HB0.out.trans (b1.mono HB0.out.size))
  have N1 := Lib.hid n1
  clear b1 n1 NM
  have b2 : Below w1.heap.size w1 (w1.alloc (.cells #[.func (.func 36) #[] #[], .func (.func 45) #[] #[]] 30)) := (Below.refl _ w1).alloc (Nat.le_refl _) _
  have HBX := Lib.hid (HB1.out.trans (b2.mono HB1.out.size))
  have OF := Lib.hid (of_f F _ m 32 [(36, #[]), (45, #[])] [(g .expr), (blockB g)] _ (N1.out.below b2) hftm (by simp) w1.heap.size 30 (fun _ => Whole.new w1 30 _) (some ⟨w1.heap.size, 0, none⟩) (fun _ => rfl) 2 ⟨E.out.below HBX.out, BL.out.below HBX.out, trivial⟩)
  clear b2
  simp only [List.length_cons, List.length_nil, Nat.zero_add, List.map_cons, List.map_nil, fnVal] at OF
  clear hftm N1
  go_wp2_with fail
  refine OF.out.mono ?_
  rintro e wl ⟨rfl, bl⟩
  have HBL := Lib.hid (HBX.out.trans (bl.mono HBX.out.size))
  clear bl OF
  go_wp2_with fail
  go_ret
  exact ⟨rfl, HBL.out⟩

set_option maxRecDepth 100000 in
set_option maxHeartbeats 1000000 in
theorem stmt34_any (g : Q → Nd → Bool) (F : Nat) (v : Value) (n : Nd) (W : World)  (hk : n.kind = 34) (hft : Fits n) (hv : NdV W (F + 1) v n) :
    Calls Try.prog 37 #[v] W fun e w' => e = .returned (.bool (ofN n 34 [])) ∧ Below W.heap.size W w' := by
  obtain ⟨A, c, rfl, hm⟩ := hv.val
  have hmf : ∀ fn first cap w, (Instr.makeFunc fn first cap).run Try.prog w = .ok (.func fn first cap) w := fun _ _ _ _ => rfl
  have hb : Below W.heap.size W (W.alloc (.cells #[.int .i64 n.kind, .string n.text, .slice A n.kids.length c, .int .i64 n.place] 24)) := (Below.refl _ W).alloc (Nat.le_refl _) _
  have HB0 := Lib.hid hb
  have HBX := HB0
  have OF := Lib.hid (of_f F _ n 34 [] [] _ (hv.below hb) hft (by simp) 0 30 (fun h => absurd rfl h) none (fun h => absurd rfl h) 0 trivial)
  simp only [List.length_cons, List.length_nil, Nat.zero_add, List.map_cons, List.map_nil, fnVal] at OF
  clear hb hv hft HB0
  unfold Nd.val at OF ⊢
  rw [hk] at OF HBX ⊢
  go_enter Try.func37, Try.ntmps37
  go_wp2_with fail
  refine OF.out.mono ?_
  rintro e wl ⟨rfl, bl⟩
  have HBL := Lib.hid (HBX.out.trans (bl.mono HBX.out.size))
  clear bl OF
  go_wp2_with fail
  go_ret
  exact ⟨rfl, HBL.out⟩

set_option maxRecDepth 100000 in
set_option maxHeartbeats 1000000 in
theorem stmt35_any (g : Q → Nd → Bool) (F : Nat) (v : Value) (n : Nd) (W : World)  (hk : n.kind = 35) (hft : Fits n) (hv : NdV W (F + 1) v n) :
    Calls Try.prog 37 #[v] W fun e w' => e = .returned (.bool (ofN n 35 [])) ∧ Below W.heap.size W w' := by
  obtain ⟨A, c, rfl, hm⟩ := hv.val
  have hmf : ∀ fn first cap w, (Instr.makeFunc fn first cap).run Try.prog w = .ok (.func fn first cap) w := fun _ _ _ _ => rfl
  have hb : Below W.heap.size W (W.alloc (.cells #[.int .i64 n.kind, .string n.text, .slice A n.kids.length c, .int .i64 n.place] 24)) := (Below.refl _ W).alloc (Nat.le_refl _) _
  have HB0 := Lib.hid hb
  have HBX := HB0
  have OF := Lib.hid (of_f F _ n 35 [] [] _ (hv.below hb) hft (by simp) 0 30 (fun h => absurd rfl h) none (fun h => absurd rfl h) 0 trivial)
  simp only [List.length_cons, List.length_nil, Nat.zero_add, List.map_cons, List.map_nil, fnVal] at OF
  clear hb hv hft HB0
  unfold Nd.val at OF ⊢
  rw [hk] at OF HBX ⊢
  go_enter Try.func37, Try.ntmps37
  go_wp2_with fail
  refine OF.out.mono ?_
  rintro e wl ⟨rfl, bl⟩
  have HBL := Lib.hid (HBX.out.trans (bl.mono HBX.out.size))
  clear bl OF
  go_wp2_with fail
  go_ret
  exact ⟨rfl, HBL.out⟩

end Go.Proofs.Ytkmhijkpbmcgbaa
