/-
  The questions' contracts: parameters of types, ifs, loops, returns.
-/
import Derived.Test.YtkmhijkpbmcgbaaAskC
namespace Go.Proofs.Ytkmhijkpbmcgbaa
set_option linter.all false
open Go.RowKit Go.Shelf

set_option maxRecDepth 100000 in
set_option maxHeartbeats 1000000 in
theorem tparam_any (g : Q → Nd → Bool) (F : Nat) (v : Value) (n : Nd) (W : World) (IR : SaysF W F 48 #[] (interB g)) (q1 : Nd → Bool) (N9 : SaysF W F 68 #[] q1) (B : Nat) (hB : W.cell? ⟨B, 0, none⟩ = some (.func (.func 68) #[] #[])) (hft : Fits n) (hv : NdV W (F + 1) v n) :
    Calls Try.prog 70 #[v, .pointer (some ⟨B, 0, none⟩)] W fun e w' => e = .returned (.bool (ofN (namedN n (nameB n.text)) 7 [fun k => q1 k || interB g k])) ∧ Below W.heap.size W w' := by
  obtain ⟨A, c, rfl, hm⟩ := hv.val
  have hmf : ∀ fn first cap w, (Instr.makeFunc fn first cap).run Try.prog w = .ok (.func fn first cap) w := fun _ _ _ _ => rfl
  have hb : Below W.heap.size W (W.alloc (.cells #[.int .i64 n.kind, .string n.text, .slice A n.kids.length c, .int .i64 n.place] 24)) := (Below.refl _ W).alloc (Nat.le_refl _) _
  have k0 := Whole.new W 24 #[.int .i64 n.kind, .string n.text, .slice A n.kids.length c, .int .i64 n.place]
  have hv1 := hv.below hb
  unfold Nd.val at hv1 ⊢
  have IR := Lib.hid IR
  have N9 := Lib.hid N9
  have e48 : ∀ args w, (callFunc 48 args).run Try.prog w = .ok (.enter 48 args) w := IR.out.1
  have AN := Lib.hid (name_s n.text W)
  go_enter Try.func70, Try.ntmps70
  go_wp2_with fail
  obtain ⟨W1, hW1⟩ : ∃ W1, W1 = W.alloc (.cells #[.int .i64 n.kind, .string n.text, .slice A n.kids.length c, .int .i64 n.place] 24) := ⟨_, rfl⟩
  rw [← hW1] at hb k0 hv1 ⊢
  clear hW1
  have hlB := cell_lt hB
  have kp : ∀ w', Below W1.heap.size W1 w' → w'.cell? ⟨W.heap.size, 0, none⟩ = some (.int .i64 n.kind) ∧ w'.cell? ⟨W.heap.size, 1, none⟩ = some (.string n.text) ∧ w'.cell? ⟨W.heap.size, 2, none⟩ = some (.slice A n.kids.length c) ∧ w'.cell? ⟨W.heap.size, 3, none⟩ = some (.int .i64 n.place) ∧ w'.cell? ⟨B, 0, none⟩ = some (.func (.func 68) #[] #[]) := fun w' hW => have h1 := k0.below hW k0.lt; ⟨h1.cell 0, h1.cell 1, h1.cell 2, h1.cell 3, ((hb.trans (hW.mono hb.size)).cell (p := ⟨B, 0, none⟩) hlB).trans hB⟩
  have KP := Lib.hid kp
  have HB := Lib.hid hb
  have HV := Lib.hid hv1
  clear kp hb k0 hv1 hv
  obtain ⟨V0, hV0⟩ : ∃ V, V = W1.drew := ⟨_, rfl⟩
  have D0 : Hid (Below W1.heap.size W1 V0) := by rw [hV0]; exact Lib.hid (Below.refl _ W1).drew
  refine Held.begin_ (fun w' => w'.cell? ⟨W.heap.size, 0, none⟩ = some (.int .i64 n.kind) ∧ w'.cell? ⟨W.heap.size, 1, none⟩ = some (.string n.text) ∧ w'.cell? ⟨W.heap.size, 2, none⟩ = some (.slice A n.kids.length c) ∧ w'.cell? ⟨W.heap.size, 3, none⟩ = some (.int .i64 n.place) ∧ w'.cell? ⟨B, 0, none⟩ = some (.func (.func 68) #[] #[])) (fun _ => True) 99 (by kernel_rfl) (KP.out _ (Below.refl _ W1).drew) (trivial) ?_
  rw [← hV0]
  clear hV0
  refine Held.take (i := 0) (oi := { dst := some 4, op := Op.load 24 (Operand.tmp 2), type := 24, pos := "tree.go:106", after := #[], guard := none }) (v := ?_) false [] rfl (by decide) (by kernel_rfl) (by kernel_rfl) (by kernel_rfl) (by kernel_rfl) (fun _ _ _ h => h) (Or.inl ⟨by rfl, ?_⟩) ?_
  rotate_left
  · rintro w ⟨hS0, hS1⟩
    clear hS1
    (try dsimp only at hS0)
    go_simp
    (try with_reducible rfl)
  try simp only [Act.put, List.setIfInBounds_toArray, List.set_cons_zero, List.set_cons_succ]
  refine Held.take (i := 2) (oi := { dst := some 6, op := Op.load 30 (Operand.tmp 1), type := 30, pos := "tree.go:106", after := #[], guard := none }) (v := ?_) false [] rfl (by decide) (by kernel_rfl) (by kernel_rfl) (by kernel_rfl) (by kernel_rfl) (fun _ _ _ h => h) (Or.inl ⟨by rfl, ?_⟩) ?_
  rotate_left
  · rintro w ⟨hS0, hS1⟩
    clear hS1
    (try dsimp only at hS0)
    go_simp
    (try with_reducible rfl)
  try simp only [Act.put, List.setIfInBounds_toArray, List.set_cons_zero, List.set_cons_succ]
  have NM := Lib.hid (named_c F 32 #[] _ n (nameB n.text) V0 (AN.out.below (HB.out.trans (D0.out.mono HB.out.size))) (HV.out.below D0.out))
  have hftm := hft.named (nameB n.text)
  obtain ⟨m, hmm⟩ : ∃ m, m = namedN n (nameB n.text) := ⟨_, rfl⟩
  rw [← hmm] at NM hftm
  have HMM := Lib.hid hmm
  clear hmm
  refine Held.step (i := 1) (o := { dst := some 5, op := Op.call { callee := Callee.value (Operand.func 43), args := #[Operand.tmp 4, Operand.func 32], argTypes := #[24, 52] }, type := 24, pos := "tree.go:106", after := #[{ on := 0, ground := Ground.data }], guard := none }) rfl (by kernel_rfl) (fun K hK => ?_)
  go_simp
  go_at_call 43
  refine NM.out.mono ?_
  rintro e V1 ⟨A1, c1, rfl, n1, b2⟩
  have D1 := Lib.hid (D0.out.trans (b2.mono D0.out.size))
  have N1 := Lib.hid n1
  clear b2 n1 NM
  refine hK.out _ _ ⟨KP.out _ D1.out, fun _ => trivial⟩ ?_
  clear hK K
  try simp only [Act.put, List.setIfInBounds_toArray, List.set_cons_zero, List.set_cons_succ]
  refine Held.step (i := 3) (o := { dst := some 7, op := Op.call { callee := Callee.value (Operand.func 46), args := #[Operand.tmp 6, Operand.func 48], argTypes := #[30, 30] }, type := 30, pos := "tree.go:106", after := #[{ on := 2, ground := Ground.data }, { on := 1, ground := Ground.chain }], guard := none }) rfl (by kernel_rfl) (fun K hK => ?_)
  go_simp
  go_at_call 46
  refine (or_f F 68 48 #[] #[] q1 (interB g) V1 (N9.out.below (HB.out.trans (D1.out.mono HB.out.size))) (IR.out.below (HB.out.trans (D1.out.mono HB.out.size)))).mono ?_
  rintro e V2 ⟨rfl, s2, b2⟩
  have D2 := Lib.hid (D1.out.trans (b2.mono D1.out.size))
  have N1 := Lib.hid (N1.out.below b2)
  have S3 := Lib.hid s2
  clear b2 s2
  refine hK.out _ _ ⟨KP.out _ D2.out, fun _ => trivial⟩ ?_
  clear hK K
  try simp only [Act.put, List.setIfInBounds_toArray, List.set_cons_zero, List.set_cons_succ]
  refine Held.step (i := 4) (o := { dst := some 8, op := Op.buildSlice 61 1 #[(0, Operand.tmp 7)], type := 61, pos := "tree.go:106", after := #[{ on := 3, ground := Ground.data }], guard := none }) rfl (by kernel_rfl) (fun K hK => ?_)
  go_simp
  refine hK.out _ _ ⟨KP.out _ (D2.out.alloc D2.out.size _), fun _ => trivial⟩ ?_
  clear hK K
  try simp only [Act.put, List.setIfInBounds_toArray, List.set_cons_zero, List.set_cons_succ]
  have b2 : Below V2.heap.size V2 (V2.alloc (.cells #[.func (.func 71) #[] #[.pointer (some ⟨V1.heap.size, 0, none⟩), .pointer (some ⟨V1.heap.size + 1, 0, none⟩)]] 30)) := (Below.refl _ V2).alloc (Nat.le_refl _) _
  have WH : Hid (Whole (V2.alloc (.cells #[.func (.func 71) #[] #[.pointer (some ⟨V1.heap.size, 0, none⟩), .pointer (some ⟨V1.heap.size + 1, 0, none⟩)]] 30)) V2.heap.size 30 #[.func (.func 71) #[] #[.pointer (some ⟨V1.heap.size, 0, none⟩), .pointer (some ⟨V1.heap.size + 1, 0, none⟩)]]) := Lib.hid (Whole.new V2 30 _)
  obtain ⟨VB, hVB⟩ : ∃ b, b = V2.heap.size := ⟨_, rfl⟩
  obtain ⟨V3, hV⟩ : ∃ V, V = V2.alloc (.cells #[.func (.func 71) #[] #[.pointer (some ⟨V1.heap.size, 0, none⟩), .pointer (some ⟨V1.heap.size + 1, 0, none⟩)]] 30) := ⟨_, rfl⟩
  rw [← hV] at b2 WH ⊢
  rw [← hVB] at WH ⊢
  clear hV
  have D3 := Lib.hid (D2.out.trans (b2.mono D2.out.size))
  have N1 := Lib.hid (N1.out.below b2)
  have S3 := Lib.hid (S3.out.below b2)
  clear b2 hVB
  have OF := Lib.hid (of_f F _ m 7 [(71, #[.pointer (some ⟨V1.heap.size, 0, none⟩), .pointer (some ⟨V1.heap.size + 1, 0, none⟩)])] [(fun k => q1 k || (interB g) k)] _ N1.out hftm (by simp) VB 30 (fun _ => WH.out) (some ⟨VB, 0, none⟩) (fun _ => rfl) 1 ⟨S3.out, trivial⟩)
  simp only [List.length_cons, List.length_nil, Nat.zero_add, List.map_cons, List.map_nil, fnVal] at OF
  refine Held.step (i := 5) (o := { dst := some 9, op := Op.call { callee := Callee.value (Operand.func 42), args := #[Operand.tmp 5, Operand.const (Value.int IntKind.i64 7), Operand.tmp 8], argTypes := #[24, 3, 61] }, type := 4, pos := "tree.go:106", after := #[{ on := 1, ground := Ground.data }, { on := 4, ground := Ground.data }, { on := 3, ground := Ground.chain }], guard := none }) rfl (by kernel_rfl) (fun K hK => ?_)
  go_simp
  go_at_call 42
  refine OF.out.mono ?_
  rintro e V4 ⟨rfl, b2⟩
  have D4 := Lib.hid (D3.out.trans (b2.mono D3.out.size))
  clear b2
  refine hK.out _ _ ⟨KP.out _ D4.out, fun _ => trivial⟩ ?_
  clear hK K
  try simp only [Act.put, List.setIfInBounds_toArray, List.set_cons_zero, List.set_cons_succ]
  refine Held.take (i := 6) (oi := { dst := some 3, op := Op.assign (Operand.tmp 9), type := 4, pos := "tree.go:106", after := #[{ on := 5, ground := Ground.data }, { on := 5, ground := Ground.chain }, { on := 0, ground := Ground.phase }, { on := 1, ground := Ground.phase }, { on := 2, ground := Ground.phase }, { on := 3, ground := Ground.phase }, { on := 4, ground := Ground.phase }, { on := 5, ground := Ground.phase }], guard := none }) (v := ?_) false [] rfl (by decide) (by kernel_rfl) (by kernel_rfl) (by kernel_rfl) (by kernel_rfl) (fun _ _ _ h => h) (Or.inl ⟨by rfl, ?_⟩) ?_
  rotate_left
  · rintro w ⟨hS0, hS1⟩
    clear hS1
    (try dsimp only at hS0)
    go_simp
    (try with_reducible rfl)
  try simp only [Act.put, List.setIfInBounds_toArray, List.set_cons_zero, List.set_cons_succ]
  refine Held.done (by kernel_rfl) ?_ _
  go_wp2_with fail
  go_ret
  exact ⟨by rw [HMM.out]; rfl, HB.out.trans (D4.out.mono HB.out.size)⟩

set_option maxRecDepth 100000 in
set_option maxHeartbeats 1000000 in
theorem if_any (g : Q → Nd → Bool) (F : Nat) (v : Value) (n : Nd) (W : World) (E : SaysF W F 36 #[] (g .expr)) (BL : SaysF W F 45 #[] (blockB g)) (IFF : SaysF W F 61 #[] (g .iff)) (hft : Fits n) (hv : NdV W (F + 1) v n) :
    Calls Try.prog 61 #[v] W fun e w' => e = .returned (.bool (ofN n 30 [g .expr, blockB g, fun k => (emptyB k || blockB g k) || g .iff k])) ∧ Below W.heap.size W w' := by
  obtain ⟨A, c, rfl, hm⟩ := hv.val
  have hmf : ∀ fn first cap w, (Instr.makeFunc fn first cap).run Try.prog w = .ok (.func fn first cap) w := fun _ _ _ _ => rfl
  have hb : Below W.heap.size W (W.alloc (.cells #[.int .i64 n.kind, .string n.text, .slice A n.kids.length c, .int .i64 n.place] 24)) := (Below.refl _ W).alloc (Nat.le_refl _) _
  have k0 := Whole.new W 24 #[.int .i64 n.kind, .string n.text, .slice A n.kids.length c, .int .i64 n.place]
  have hv1 := hv.below hb
  unfold Nd.val at hv1 ⊢
  have E := Lib.hid E
  have BL := Lib.hid BL
  have IFF := Lib.hid IFF
  have EMP : Hid (SaysF W F 62 #[] emptyB) := Lib.hid (empty_f W F)
  have e36 : ∀ args w, (callFunc 36 args).run Try.prog w = .ok (.enter 36 args) w := E.out.1
  have e45 : ∀ args w, (callFunc 45 args).run Try.prog w = .ok (.enter 45 args) w := BL.out.1
  have e61 : ∀ args w, (callFunc 61 args).run Try.prog w = .ok (.enter 61 args) w := IFF.out.1
  have e62 : ∀ args w, (callFunc 62 args).run Try.prog w = .ok (.enter 62 args) w := EMP.out.1
  go_enter Try.func61, Try.ntmps61
  go_wp2_with fail
  obtain ⟨W1, hW1⟩ : ∃ W1, W1 = W.alloc (.cells #[.int .i64 n.kind, .string n.text, .slice A n.kids.length c, .int .i64 n.place] 24) := ⟨_, rfl⟩
  rw [← hW1] at hb k0 hv1 ⊢
  clear hW1
  have kp : ∀ w', Below W1.heap.size W1 w' → w'.cell? ⟨W.heap.size, 0, none⟩ = some (.int .i64 n.kind) ∧ w'.cell? ⟨W.heap.size, 1, none⟩ = some (.string n.text) ∧ w'.cell? ⟨W.heap.size, 2, none⟩ = some (.slice A n.kids.length c) ∧ w'.cell? ⟨W.heap.size, 3, none⟩ = some (.int .i64 n.place) := fun w' hW => have h1 := k0.below hW k0.lt; ⟨h1.cell 0, h1.cell 1, h1.cell 2, h1.cell 3⟩
  have KP := Lib.hid kp
  have HB := Lib.hid hb
  have HV := Lib.hid hv1
  clear kp hb k0 hv1 hv
  obtain ⟨V0, hV0⟩ : ∃ V, V = W1.drew := ⟨_, rfl⟩
  have D0 : Hid (Below W1.heap.size W1 V0) := by rw [hV0]; exact Lib.hid (Below.refl _ W1).drew
  refine Held.begin_ (fun w' => w'.cell? ⟨W.heap.size, 0, none⟩ = some (.int .i64 n.kind) ∧ w'.cell? ⟨W.heap.size, 1, none⟩ = some (.string n.text) ∧ w'.cell? ⟨W.heap.size, 2, none⟩ = some (.slice A n.kids.length c) ∧ w'.cell? ⟨W.heap.size, 3, none⟩ = some (.int .i64 n.place)) (fun _ => True) 99 (by kernel_rfl) (KP.out _ (Below.refl _ W1).drew) (trivial) ?_
  rw [← hV0]
  clear hV0
  refine Held.take (i := 0) (oi := { dst := some 3, op := Op.load 24 (Operand.tmp 1), type := 24, pos := "tree.go:187", after := #[], guard := none }) (v := ?_) false [] rfl (by decide) (by kernel_rfl) (by kernel_rfl) (by kernel_rfl) (by kernel_rfl) (fun _ _ _ h => h) (Or.inl ⟨by rfl, ?_⟩) ?_
  rotate_left
  · rintro w ⟨hS0, hS1⟩
    clear hS1
    (try dsimp only at hS0)
    go_simp
    (try with_reducible rfl)
  try simp only [Act.put, List.setIfInBounds_toArray, List.set_cons_zero, List.set_cons_succ]
  refine Held.step (i := 1) (o := { dst := some 4, op := Op.call { callee := Callee.value (Operand.func 46), args := #[Operand.func 62, Operand.func 45], argTypes := #[30, 30] }, type := 30, pos := "tree.go:187", after := #[], guard := none }) rfl (by kernel_rfl) (fun K hK => ?_)
  go_simp
  go_at_call 46
  refine (or_f F 62 45 #[] #[] emptyB (blockB g) V0 (EMP.out.below (HB.out.trans (D0.out.mono HB.out.size))) (BL.out.below (HB.out.trans (D0.out.mono HB.out.size)))).mono ?_
  rintro e V1 ⟨rfl, s2, b2⟩
  have D1 := Lib.hid (D0.out.trans (b2.mono D0.out.size))
  have S1 := Lib.hid s2
  clear b2 s2
  refine hK.out _ _ ⟨KP.out _ D1.out, fun _ => trivial⟩ ?_
  clear hK K
  try simp only [Act.put, List.setIfInBounds_toArray, List.set_cons_zero, List.set_cons_succ]
  refine Held.step (i := 2) (o := { dst := some 5, op := Op.call { callee := Callee.value (Operand.func 46), args := #[Operand.tmp 4, Operand.func 61], argTypes := #[30, 30] }, type := 30, pos := "tree.go:187", after := #[{ on := 1, ground := Ground.data }, { on := 1, ground := Ground.chain }], guard := none }) rfl (by kernel_rfl) (fun K hK => ?_)
  go_simp
  go_at_call 46
  refine (or_f F 71 61 #[.pointer (some ⟨V0.heap.size, 0, none⟩), .pointer (some ⟨V0.heap.size + 1, 0, none⟩)] #[] (fun k => emptyB k || (blockB g) k) (g .iff) V1 S1.out (IFF.out.below (HB.out.trans (D1.out.mono HB.out.size)))).mono ?_
  rintro e V2 ⟨rfl, s2, b2⟩
  have D2 := Lib.hid (D1.out.trans (b2.mono D1.out.size))
  have S1 := Lib.hid (S1.out.below b2)
  have S2 := Lib.hid s2
  clear b2 s2
  refine hK.out _ _ ⟨KP.out _ D2.out, fun _ => trivial⟩ ?_
  clear hK K
  try simp only [Act.put, List.setIfInBounds_toArray, List.set_cons_zero, List.set_cons_succ]
  refine Held.step (i := 3) (o := { dst := some 6, op := Op.buildSlice 61 3 #[(0, Operand.func 36), (1, Operand.func 45), (2, Operand.tmp 5)], type := 61, pos := "tree.go:187", after := #[{ on := 2, ground := Ground.data }], guard := none }) rfl (by kernel_rfl) (fun K hK => ?_)
  go_simp
  refine hK.out _ _ ⟨KP.out _ (D2.out.alloc D2.out.size _), fun _ => trivial⟩ ?_
  clear hK K
  try simp only [Act.put, List.setIfInBounds_toArray, List.set_cons_zero, List.set_cons_succ]
  have b2 : Below V2.heap.size V2 (V2.alloc (.cells #[.func (.func 36) #[] #[], .func (.func 45) #[] #[], .func (.func 71) #[] #[.pointer (some ⟨V1.heap.size, 0, none⟩), .pointer (some ⟨V1.heap.size + 1, 0, none⟩)]] 30)) := (Below.refl _ V2).alloc (Nat.le_refl _) _
  have WH : Hid (Whole (V2.alloc (.cells #[.func (.func 36) #[] #[], .func (.func 45) #[] #[], .func (.func 71) #[] #[.pointer (some ⟨V1.heap.size, 0, none⟩), .pointer (some ⟨V1.heap.size + 1, 0, none⟩)]] 30)) V2.heap.size 30 #[.func (.func 36) #[] #[], .func (.func 45) #[] #[], .func (.func 71) #[] #[.pointer (some ⟨V1.heap.size, 0, none⟩), .pointer (some ⟨V1.heap.size + 1, 0, none⟩)]]) := Lib.hid (Whole.new V2 30 _)
  obtain ⟨VB, hVB⟩ : ∃ b, b = V2.heap.size := ⟨_, rfl⟩
  obtain ⟨V3, hV⟩ : ∃ V, V = V2.alloc (.cells #[.func (.func 36) #[] #[], .func (.func 45) #[] #[], .func (.func 71) #[] #[.pointer (some ⟨V1.heap.size, 0, none⟩), .pointer (some ⟨V1.heap.size + 1, 0, none⟩)]] 30) := ⟨_, rfl⟩
  rw [← hV] at b2 WH ⊢
  rw [← hVB] at WH ⊢
  clear hV
  have D3 := Lib.hid (D2.out.trans (b2.mono D2.out.size))
  have S1 := Lib.hid (S1.out.below b2)
  have S2 := Lib.hid (S2.out.below b2)
  clear b2 hVB
  have OF := Lib.hid (of_f F _ n 30 [(36, #[]), (45, #[]), (71, #[.pointer (some ⟨V1.heap.size, 0, none⟩), .pointer (some ⟨V1.heap.size + 1, 0, none⟩)])] [(g .expr), (blockB g), (fun k => (fun k => emptyB k || (blockB g) k) k || (g .iff) k)] _ (HV.out.below D3.out) hft (by simp) VB 30 (fun _ => WH.out) (some ⟨VB, 0, none⟩) (fun _ => rfl) 3 ⟨(E.out.below (HB.out.trans (D3.out.mono HB.out.size))), (BL.out.below (HB.out.trans (D3.out.mono HB.out.size))), S2.out, trivial⟩)
  simp only [List.length_cons, List.length_nil, Nat.zero_add, List.map_cons, List.map_nil, fnVal] at OF
  refine Held.step (i := 4) (o := { dst := some 7, op := Op.call { callee := Callee.value (Operand.func 42), args := #[Operand.tmp 3, Operand.const (Value.int IntKind.i64 30), Operand.tmp 6], argTypes := #[24, 3, 61] }, type := 4, pos := "tree.go:187", after := #[{ on := 0, ground := Ground.data }, { on := 3, ground := Ground.data }, { on := 2, ground := Ground.chain }], guard := none }) rfl (by kernel_rfl) (fun K hK => ?_)
  go_simp
  go_at_call 42
  refine OF.out.mono ?_
  rintro e V4 ⟨rfl, b2⟩
  have D4 := Lib.hid (D3.out.trans (b2.mono D3.out.size))
  clear b2
  refine hK.out _ _ ⟨KP.out _ D4.out, fun _ => trivial⟩ ?_
  clear hK K
  try simp only [Act.put, List.setIfInBounds_toArray, List.set_cons_zero, List.set_cons_succ]
  refine Held.take (i := 5) (oi := { dst := some 2, op := Op.assign (Operand.tmp 7), type := 4, pos := "tree.go:187", after := #[{ on := 4, ground := Ground.data }, { on := 4, ground := Ground.chain }, { on := 0, ground := Ground.phase }, { on := 1, ground := Ground.phase }, { on := 2, ground := Ground.phase }, { on := 3, ground := Ground.phase }, { on := 4, ground := Ground.phase }], guard := none }) (v := ?_) false [] rfl (by decide) (by kernel_rfl) (by kernel_rfl) (by kernel_rfl) (by kernel_rfl) (fun _ _ _ h => h) (Or.inl ⟨by rfl, ?_⟩) ?_
  rotate_left
  · rintro w ⟨hS0, hS1⟩
    clear hS1
    (try dsimp only at hS0)
    go_simp
    (try with_reducible rfl)
  try simp only [Act.put, List.setIfInBounds_toArray, List.set_cons_zero, List.set_cons_succ]
  refine Held.done (by kernel_rfl) ?_ _
  go_wp2_with fail
  go_ret
  exact ⟨rfl, HB.out.trans (D4.out.mono HB.out.size)⟩

set_option maxRecDepth 100000 in
set_option maxHeartbeats 1000000 in
theorem stmt31_any (g : Q → Nd → Bool) (F : Nat) (v : Value) (n : Nd) (W : World) (E : SaysF W F 36 #[] (g .expr)) (BL : SaysF W F 45 #[] (blockB g)) (SH : SaysF W F 57 #[] (shortB g)) (SE : SaysF W F 58 #[] (setB g)) (IN : SaysF W F 59 #[] (incB g)) (CA : SaysF W F 60 #[] (callB g)) (hk : n.kind = 31) (hft : Fits n) (hv : NdV W (F + 1) v n) :
    Calls Try.prog 37 #[v] W fun e w' => e = .returned (.bool (ofN n 31 [fun k => (emptyB k || shortB g k) || (setB g k || incB g k), fun k => emptyB k || g .expr k, fun k => (emptyB k || setB g k) || (incB g k || callB g k), blockB g])) ∧ Below W.heap.size W w' := by
  obtain ⟨A, c, rfl, hm⟩ := hv.val
  have hmf : ∀ fn first cap w, (Instr.makeFunc fn first cap).run Try.prog w = .ok (.func fn first cap) w := fun _ _ _ _ => rfl
  have hb : Below W.heap.size W (W.alloc (.cells #[.int .i64 n.kind, .string n.text, .slice A n.kids.length c, .int .i64 n.place] 24)) := (Below.refl _ W).alloc (Nat.le_refl _) _
  have k0 := Whole.new W 24 #[.int .i64 n.kind, .string n.text, .slice A n.kids.length c, .int .i64 n.place]
  have hv1 := hv.below hb
  unfold Nd.val at hv1 ⊢
  rw [hk] at hb k0 hv1 ⊢
  have E := Lib.hid E
  have BL := Lib.hid BL
  have SH := Lib.hid SH
  have SE := Lib.hid SE
  have IN := Lib.hid IN
  have CA := Lib.hid CA
  have EMP : Hid (SaysF W F 62 #[] emptyB) := Lib.hid (empty_f W F)
  have e36 : ∀ args w, (callFunc 36 args).run Try.prog w = .ok (.enter 36 args) w := E.out.1
  have e45 : ∀ args w, (callFunc 45 args).run Try.prog w = .ok (.enter 45 args) w := BL.out.1
  have e57 : ∀ args w, (callFunc 57 args).run Try.prog w = .ok (.enter 57 args) w := SH.out.1
  have e58 : ∀ args w, (callFunc 58 args).run Try.prog w = .ok (.enter 58 args) w := SE.out.1
  have e59 : ∀ args w, (callFunc 59 args).run Try.prog w = .ok (.enter 59 args) w := IN.out.1
  have e60 : ∀ args w, (callFunc 60 args).run Try.prog w = .ok (.enter 60 args) w := CA.out.1
  have e62 : ∀ args w, (callFunc 62 args).run Try.prog w = .ok (.enter 62 args) w := EMP.out.1
  go_enter Try.func37, Try.ntmps37
  go_wp2_with fail
  obtain ⟨W1, hW1⟩ : ∃ W1, W1 = W.alloc (.cells #[.int .i64 31, .string n.text, .slice A n.kids.length c, .int .i64 n.place] 24) := ⟨_, rfl⟩
  rw [← hW1] at hb k0 hv1 ⊢
  clear hW1
  have kp : ∀ w', Below W1.heap.size W1 w' → w'.cell? ⟨W.heap.size, 0, none⟩ = some (.int .i64 31) ∧ w'.cell? ⟨W.heap.size, 1, none⟩ = some (.string n.text) ∧ w'.cell? ⟨W.heap.size, 2, none⟩ = some (.slice A n.kids.length c) ∧ w'.cell? ⟨W.heap.size, 3, none⟩ = some (.int .i64 n.place) := fun w' hW => have h1 := k0.below hW k0.lt; ⟨h1.cell 0, h1.cell 1, h1.cell 2, h1.cell 3⟩
  have KP := Lib.hid kp
  have HB := Lib.hid hb
  have HV := Lib.hid hv1
  clear kp hb k0 hv1 hv
  obtain ⟨V0, hV0⟩ : ∃ V, V = W1.drew := ⟨_, rfl⟩
  have D0 : Hid (Below W1.heap.size W1 V0) := by rw [hV0]; exact Lib.hid (Below.refl _ W1).drew
  refine Held.begin_ (fun w' => w'.cell? ⟨W.heap.size, 0, none⟩ = some (.int .i64 31) ∧ w'.cell? ⟨W.heap.size, 1, none⟩ = some (.string n.text) ∧ w'.cell? ⟨W.heap.size, 2, none⟩ = some (.slice A n.kids.length c) ∧ w'.cell? ⟨W.heap.size, 3, none⟩ = some (.int .i64 n.place)) (fun _ => True) 99 (by kernel_rfl) (KP.out _ (Below.refl _ W1).drew) (trivial) ?_
  rw [← hV0]
  clear hV0
  refine Held.take (i := 0) (oi := { dst := some 31, op := Op.load 24 (Operand.tmp 1), type := 24, pos := "tree.go:205", after := #[], guard := none }) (v := ?_) false [] rfl (by decide) (by kernel_rfl) (by kernel_rfl) (by kernel_rfl) (by kernel_rfl) (fun _ _ _ h => h) (Or.inl ⟨by rfl, ?_⟩) ?_
  rotate_left
  · rintro w ⟨hS0, hS1⟩
    clear hS1
    (try dsimp only at hS0)
    go_simp
    (try with_reducible rfl)
  try simp only [Act.put, List.setIfInBounds_toArray, List.set_cons_zero, List.set_cons_succ]
  refine Held.step (i := 1) (o := { dst := some 32, op := Op.call { callee := Callee.value (Operand.func 46), args := #[Operand.func 62, Operand.func 57], argTypes := #[30, 30] }, type := 30, pos := "tree.go:205", after := #[], guard := none }) rfl (by kernel_rfl) (fun K hK => ?_)
  go_simp
  go_at_call 46
  refine (or_f F 62 57 #[] #[] emptyB (shortB g) V0 (EMP.out.below (HB.out.trans (D0.out.mono HB.out.size))) (SH.out.below (HB.out.trans (D0.out.mono HB.out.size)))).mono ?_
  rintro e V1 ⟨rfl, s2, b2⟩
  have D1 := Lib.hid (D0.out.trans (b2.mono D0.out.size))
  have S1 := Lib.hid s2
  clear b2 s2
  refine hK.out _ _ ⟨KP.out _ D1.out, fun _ => trivial⟩ ?_
  clear hK K
  try simp only [Act.put, List.setIfInBounds_toArray, List.set_cons_zero, List.set_cons_succ]
  refine Held.step (i := 2) (o := { dst := some 33, op := Op.call { callee := Callee.value (Operand.func 46), args := #[Operand.func 58, Operand.func 59], argTypes := #[30, 30] }, type := 30, pos := "tree.go:205", after := #[{ on := 1, ground := Ground.chain }], guard := none }) rfl (by kernel_rfl) (fun K hK => ?_)
  go_simp
  go_at_call 46
  refine (or_f F 58 59 #[] #[] (setB g) (incB g) V1 (SE.out.below (HB.out.trans (D1.out.mono HB.out.size))) (IN.out.below (HB.out.trans (D1.out.mono HB.out.size)))).mono ?_
  rintro e V2 ⟨rfl, s2, b2⟩
  have D2 := Lib.hid (D1.out.trans (b2.mono D1.out.size))
  have S1 := Lib.hid (S1.out.below b2)
  have S2 := Lib.hid s2
  clear b2 s2
  refine hK.out _ _ ⟨KP.out _ D2.out, fun _ => trivial⟩ ?_
  clear hK K
  try simp only [Act.put, List.setIfInBounds_toArray, List.set_cons_zero, List.set_cons_succ]
  refine Held.step (i := 3) (o := { dst := some 34, op := Op.call { callee := Callee.value (Operand.func 46), args := #[Operand.tmp 32, Operand.tmp 33], argTypes := #[30, 30] }, type := 30, pos := "tree.go:205", after := #[{ on := 1, ground := Ground.data }, { on := 2, ground := Ground.data }, { on := 2, ground := Ground.chain }], guard := none }) rfl (by kernel_rfl) (fun K hK => ?_)
  go_simp
  go_at_call 46
  refine (or_f F 71 71 #[.pointer (some ⟨V0.heap.size, 0, none⟩), .pointer (some ⟨V0.heap.size + 1, 0, none⟩)] #[.pointer (some ⟨V1.heap.size, 0, none⟩), .pointer (some ⟨V1.heap.size + 1, 0, none⟩)] (fun k => emptyB k || (shortB g) k) (fun k => (setB g) k || (incB g) k) V2 S1.out S2.out).mono ?_
  rintro e V3 ⟨rfl, s2, b2⟩
  have D3 := Lib.hid (D2.out.trans (b2.mono D2.out.size))
  have S1 := Lib.hid (S1.out.below b2)
  have S2 := Lib.hid (S2.out.below b2)
  have S3 := Lib.hid s2
  clear b2 s2
  refine hK.out _ _ ⟨KP.out _ D3.out, fun _ => trivial⟩ ?_
  clear hK K
  try simp only [Act.put, List.setIfInBounds_toArray, List.set_cons_zero, List.set_cons_succ]
  refine Held.step (i := 4) (o := { dst := some 35, op := Op.call { callee := Callee.value (Operand.func 46), args := #[Operand.func 62, Operand.func 36], argTypes := #[30, 30] }, type := 30, pos := "tree.go:205", after := #[{ on := 3, ground := Ground.chain }], guard := none }) rfl (by kernel_rfl) (fun K hK => ?_)
  go_simp
  go_at_call 46
  refine (or_f F 62 36 #[] #[] emptyB (g .expr) V3 (EMP.out.below (HB.out.trans (D3.out.mono HB.out.size))) (E.out.below (HB.out.trans (D3.out.mono HB.out.size)))).mono ?_
  rintro e V4 ⟨rfl, s2, b2⟩
  have D4 := Lib.hid (D3.out.trans (b2.mono D3.out.size))
  have S1 := Lib.hid (S1.out.below b2)
  have S2 := Lib.hid (S2.out.below b2)
  have S3 := Lib.hid (S3.out.below b2)
  have S4 := Lib.hid s2
  clear b2 s2
  refine hK.out _ _ ⟨KP.out _ D4.out, fun _ => trivial⟩ ?_
  clear hK K
  try simp only [Act.put, List.setIfInBounds_toArray, List.set_cons_zero, List.set_cons_succ]
  refine Held.step (i := 5) (o := { dst := some 36, op := Op.call { callee := Callee.value (Operand.func 46), args := #[Operand.func 62, Operand.func 58], argTypes := #[30, 30] }, type := 30, pos := "tree.go:205", after := #[{ on := 4, ground := Ground.chain }], guard := none }) rfl (by kernel_rfl) (fun K hK => ?_)
  go_simp
  go_at_call 46
  refine (or_f F 62 58 #[] #[] emptyB (setB g) V4 (EMP.out.below (HB.out.trans (D4.out.mono HB.out.size))) (SE.out.below (HB.out.trans (D4.out.mono HB.out.size)))).mono ?_
  rintro e V5 ⟨rfl, s2, b2⟩
  have D5 := Lib.hid (D4.out.trans (b2.mono D4.out.size))
  have S1 := Lib.hid (S1.out.below b2)
  have S2 := Lib.hid (S2.out.below b2)
  have S3 := Lib.hid (S3.out.below b2)
  have S4 := Lib.hid (S4.out.below b2)
  have S5 := Lib.hid s2
  clear b2 s2
  refine hK.out _ _ ⟨KP.out _ D5.out, fun _ => trivial⟩ ?_
  clear hK K
  try simp only [Act.put, List.setIfInBounds_toArray, List.set_cons_zero, List.set_cons_succ]
  refine Held.step (i := 6) (o := { dst := some 37, op := Op.call { callee := Callee.value (Operand.func 46), args := #[Operand.func 59, Operand.func 60], argTypes := #[30, 30] }, type := 30, pos := "tree.go:205", after := #[{ on := 5, ground := Ground.chain }], guard := none }) rfl (by kernel_rfl) (fun K hK => ?_)
  go_simp
  go_at_call 46
  refine (or_f F 59 60 #[] #[] (incB g) (callB g) V5 (IN.out.below (HB.out.trans (D5.out.mono HB.out.size))) (CA.out.below (HB.out.trans (D5.out.mono HB.out.size)))).mono ?_
  rintro e V6 ⟨rfl, s2, b2⟩
  have D6 := Lib.hid (D5.out.trans (b2.mono D5.out.size))
  have S1 := Lib.hid (S1.out.below b2)
  have S2 := Lib.hid (S2.out.below b2)
  have S3 := Lib.hid (S3.out.below b2)
  have S4 := Lib.hid (S4.out.below b2)
  have S5 := Lib.hid (S5.out.below b2)
  have S6 := Lib.hid s2
  clear b2 s2
  refine hK.out _ _ ⟨KP.out _ D6.out, fun _ => trivial⟩ ?_
  clear hK K
  try simp only [Act.put, List.setIfInBounds_toArray, List.set_cons_zero, List.set_cons_succ]
  refine Held.step (i := 7) (o := { dst := some 38, op := Op.call { callee := Callee.value (Operand.func 46), args := #[Operand.tmp 36, Operand.tmp 37], argTypes := #[30, 30] }, type := 30, pos := "tree.go:205", after := #[{ on := 5, ground := Ground.data }, { on := 6, ground := Ground.data }, { on := 6, ground := Ground.chain }], guard := none }) rfl (by kernel_rfl) (fun K hK => ?_)
  go_simp
  go_at_call 46
  refine (or_f F 71 71 #[.pointer (some ⟨V4.heap.size, 0, none⟩), .pointer (some ⟨V4.heap.size + 1, 0, none⟩)] #[.pointer (some ⟨V5.heap.size, 0, none⟩), .pointer (some ⟨V5.heap.size + 1, 0, none⟩)] (fun k => emptyB k || (setB g) k) (fun k => (incB g) k || (callB g) k) V6 S5.out S6.out).mono ?_
  rintro e V7 ⟨rfl, s2, b2⟩
  have D7 := Lib.hid (D6.out.trans (b2.mono D6.out.size))
  have S1 := Lib.hid (S1.out.below b2)
  have S2 := Lib.hid (S2.out.below b2)
  have S3 := Lib.hid (S3.out.below b2)
  have S4 := Lib.hid (S4.out.below b2)
  have S5 := Lib.hid (S5.out.below b2)
  have S6 := Lib.hid (S6.out.below b2)
  have S7 := Lib.hid s2
  clear b2 s2
  refine hK.out _ _ ⟨KP.out _ D7.out, fun _ => trivial⟩ ?_
  clear hK K
  try simp only [Act.put, List.setIfInBounds_toArray, List.set_cons_zero, List.set_cons_succ]
  refine Held.step (i := 8) (o := { dst := some 39, op := Op.buildSlice 61 4 #[(0, Operand.tmp 34), (1, Operand.tmp 35), (2, Operand.tmp 38), (3, Operand.func 45)], type := 61, pos := "tree.go:205", after := #[{ on := 3, ground := Ground.data }, { on := 4, ground := Ground.data }, { on := 7, ground := Ground.data }], guard := none }) rfl (by kernel_rfl) (fun K hK => ?_)
  go_simp
  refine hK.out _ _ ⟨KP.out _ (D7.out.alloc D7.out.size _), fun _ => trivial⟩ ?_
  clear hK K
  try simp only [Act.put, List.setIfInBounds_toArray, List.set_cons_zero, List.set_cons_succ]
  have b2 : Below V7.heap.size V7 (V7.alloc (.cells #[.func (.func 71) #[] #[.pointer (some ⟨V2.heap.size, 0, none⟩), .pointer (some ⟨V2.heap.size + 1, 0, none⟩)], .func (.func 71) #[] #[.pointer (some ⟨V3.heap.size, 0, none⟩), .pointer (some ⟨V3.heap.size + 1, 0, none⟩)], .func (.func 71) #[] #[.pointer (some ⟨V6.heap.size, 0, none⟩), .pointer (some ⟨V6.heap.size + 1, 0, none⟩)], .func (.func 45) #[] #[]] 30)) := (Below.refl _ V7).alloc (Nat.le_refl _) _
  have WH : Hid (Whole (V7.alloc (.cells #[.func (.func 71) #[] #[.pointer (some ⟨V2.heap.size, 0, none⟩), .pointer (some ⟨V2.heap.size + 1, 0, none⟩)], .func (.func 71) #[] #[.pointer (some ⟨V3.heap.size, 0, none⟩), .pointer (some ⟨V3.heap.size + 1, 0, none⟩)], .func (.func 71) #[] #[.pointer (some ⟨V6.heap.size, 0, none⟩), .pointer (some ⟨V6.heap.size + 1, 0, none⟩)], .func (.func 45) #[] #[]] 30)) V7.heap.size 30 #[.func (.func 71) #[] #[.pointer (some ⟨V2.heap.size, 0, none⟩), .pointer (some ⟨V2.heap.size + 1, 0, none⟩)], .func (.func 71) #[] #[.pointer (some ⟨V3.heap.size, 0, none⟩), .pointer (some ⟨V3.heap.size + 1, 0, none⟩)], .func (.func 71) #[] #[.pointer (some ⟨V6.heap.size, 0, none⟩), .pointer (some ⟨V6.heap.size + 1, 0, none⟩)], .func (.func 45) #[] #[]]) := Lib.hid (Whole.new V7 30 _)
  obtain ⟨VB, hVB⟩ : ∃ b, b = V7.heap.size := ⟨_, rfl⟩
  obtain ⟨V8, hV⟩ : ∃ V, V = V7.alloc (.cells #[.func (.func 71) #[] #[.pointer (some ⟨V2.heap.size, 0, none⟩), .pointer (some ⟨V2.heap.size + 1, 0, none⟩)], .func (.func 71) #[] #[.pointer (some ⟨V3.heap.size, 0, none⟩), .pointer (some ⟨V3.heap.size + 1, 0, none⟩)], .func (.func 71) #[] #[.pointer (some ⟨V6.heap.size, 0, none⟩), .pointer (some ⟨V6.heap.size + 1, 0, none⟩)], .func (.func 45) #[] #[]] 30) := ⟨_, rfl⟩
  rw [← hV] at b2 WH ⊢
  rw [← hVB] at WH ⊢
  clear hV
  have D8 := Lib.hid (D7.out.trans (b2.mono D7.out.size))
  have S1 := Lib.hid (S1.out.below b2)
  have S2 := Lib.hid (S2.out.below b2)
  have S3 := Lib.hid (S3.out.below b2)
  have S4 := Lib.hid (S4.out.below b2)
  have S5 := Lib.hid (S5.out.below b2)
  have S6 := Lib.hid (S6.out.below b2)
  have S7 := Lib.hid (S7.out.below b2)
  clear b2 hVB
  have OF := Lib.hid (of_f F _ n 31 [(71, #[.pointer (some ⟨V2.heap.size, 0, none⟩), .pointer (some ⟨V2.heap.size + 1, 0, none⟩)]), (71, #[.pointer (some ⟨V3.heap.size, 0, none⟩), .pointer (some ⟨V3.heap.size + 1, 0, none⟩)]), (71, #[.pointer (some ⟨V6.heap.size, 0, none⟩), .pointer (some ⟨V6.heap.size + 1, 0, none⟩)]), (45, #[])] [(fun k => (fun k => emptyB k || (shortB g) k) k || (fun k => (setB g) k || (incB g) k) k), (fun k => emptyB k || (g .expr) k), (fun k => (fun k => emptyB k || (setB g) k) k || (fun k => (incB g) k || (callB g) k) k), (blockB g)] _ (HV.out.below D8.out) hft (by simp) VB 30 (fun _ => WH.out) (some ⟨VB, 0, none⟩) (fun _ => rfl) 4 ⟨S3.out, S4.out, S7.out, (BL.out.below (HB.out.trans (D8.out.mono HB.out.size))), trivial⟩)
  simp only [List.length_cons, List.length_nil, Nat.zero_add, List.map_cons, List.map_nil, fnVal] at OF
  refine Held.step (i := 9) (o := { dst := some 40, op := Op.call { callee := Callee.value (Operand.func 42), args := #[Operand.tmp 31, Operand.const (Value.int IntKind.i64 31), Operand.tmp 39], argTypes := #[24, 3, 61] }, type := 4, pos := "tree.go:205", after := #[{ on := 0, ground := Ground.data }, { on := 8, ground := Ground.data }, { on := 7, ground := Ground.chain }], guard := none }) rfl (by kernel_rfl) (fun K hK => ?_)
  go_simp
  go_at_call 42
  refine OF.out.mono ?_
  rintro e V9 ⟨rfl, b2⟩
  have D9 := Lib.hid (D8.out.trans (b2.mono D8.out.size))
  clear b2
  refine hK.out _ _ ⟨KP.out _ D9.out, fun _ => trivial⟩ ?_
  clear hK K
  try simp only [Act.put, List.setIfInBounds_toArray, List.set_cons_zero, List.set_cons_succ]
  refine Held.take (i := 10) (oi := { dst := some 2, op := Op.assign (Operand.tmp 40), type := 4, pos := "tree.go:205", after := #[{ on := 9, ground := Ground.data }, { on := 9, ground := Ground.chain }, { on := 0, ground := Ground.phase }, { on := 1, ground := Ground.phase }, { on := 2, ground := Ground.phase }, { on := 3, ground := Ground.phase }, { on := 4, ground := Ground.phase }, { on := 5, ground := Ground.phase }, { on := 6, ground := Ground.phase }, { on := 7, ground := Ground.phase }, { on := 8, ground := Ground.phase }, { on := 9, ground := Ground.phase }], guard := none }) (v := ?_) false [] rfl (by decide) (by kernel_rfl) (by kernel_rfl) (by kernel_rfl) (by kernel_rfl) (fun _ _ _ h => h) (Or.inl ⟨by rfl, ?_⟩) ?_
  rotate_left
  · rintro w ⟨hS0, hS1⟩
    clear hS1
    (try dsimp only at hS0)
    go_simp
    (try with_reducible rfl)
  try simp only [Act.put, List.setIfInBounds_toArray, List.set_cons_zero, List.set_cons_succ]
  refine Held.done (by kernel_rfl) ?_ _
  go_wp2_with fail
  go_ret
  exact ⟨rfl, HB.out.trans (D9.out.mono HB.out.size)⟩

set_option maxRecDepth 100000 in
set_option maxHeartbeats 1000000 in
theorem stmt33_any (g : Q → Nd → Bool) (F : Nat) (v : Value) (n : Nd) (W : World) (E : SaysF W F 36 #[] (g .expr)) (hk : n.kind = 33) (hft : Fits n) (hv : NdV W (F + 1) v n) :
    Calls Try.prog 37 #[v] W fun e w' => e = .returned (.bool (ofN n 33 [fun k => emptyB k || g .expr k])) ∧ Below W.heap.size W w' := by
  obtain ⟨A, c, rfl, hm⟩ := hv.val
  have hmf : ∀ fn first cap w, (Instr.makeFunc fn first cap).run Try.prog w = .ok (.func fn first cap) w := fun _ _ _ _ => rfl
  have hb : Below W.heap.size W (W.alloc (.cells #[.int .i64 n.kind, .string n.text, .slice A n.kids.length c, .int .i64 n.place] 24)) := (Below.refl _ W).alloc (Nat.le_refl _) _
  have k0 := Whole.new W 24 #[.int .i64 n.kind, .string n.text, .slice A n.kids.length c, .int .i64 n.place]
  have hv1 := hv.below hb
  unfold Nd.val at hv1 ⊢
  rw [hk] at hb k0 hv1 ⊢
  have E := Lib.hid E
  have EMP : Hid (SaysF W F 62 #[] emptyB) := Lib.hid (empty_f W F)
  have e36 : ∀ args w, (callFunc 36 args).run Try.prog w = .ok (.enter 36 args) w := E.out.1
  have e62 : ∀ args w, (callFunc 62 args).run Try.prog w = .ok (.enter 62 args) w := EMP.out.1
  go_enter Try.func37, Try.ntmps37
  go_wp2_with fail
  obtain ⟨W1, hW1⟩ : ∃ W1, W1 = W.alloc (.cells #[.int .i64 33, .string n.text, .slice A n.kids.length c, .int .i64 n.place] 24) := ⟨_, rfl⟩
  rw [← hW1] at hb k0 hv1 ⊢
  clear hW1
  have kp : ∀ w', Below W1.heap.size W1 w' → w'.cell? ⟨W.heap.size, 0, none⟩ = some (.int .i64 33) ∧ w'.cell? ⟨W.heap.size, 1, none⟩ = some (.string n.text) ∧ w'.cell? ⟨W.heap.size, 2, none⟩ = some (.slice A n.kids.length c) ∧ w'.cell? ⟨W.heap.size, 3, none⟩ = some (.int .i64 n.place) := fun w' hW => have h1 := k0.below hW k0.lt; ⟨h1.cell 0, h1.cell 1, h1.cell 2, h1.cell 3⟩
  have KP := Lib.hid kp
  have HB := Lib.hid hb
  have HV := Lib.hid hv1
  clear kp hb k0 hv1 hv
  obtain ⟨V0, hV0⟩ : ∃ V, V = W1.drew := ⟨_, rfl⟩
  have D0 : Hid (Below W1.heap.size W1 V0) := by rw [hV0]; exact Lib.hid (Below.refl _ W1).drew
  refine Held.begin_ (fun w' => w'.cell? ⟨W.heap.size, 0, none⟩ = some (.int .i64 33) ∧ w'.cell? ⟨W.heap.size, 1, none⟩ = some (.string n.text) ∧ w'.cell? ⟨W.heap.size, 2, none⟩ = some (.slice A n.kids.length c) ∧ w'.cell? ⟨W.heap.size, 3, none⟩ = some (.int .i64 n.place)) (fun _ => True) 99 (by kernel_rfl) (KP.out _ (Below.refl _ W1).drew) (trivial) ?_
  rw [← hV0]
  clear hV0
  refine Held.take (i := 0) (oi := { dst := some 49, op := Op.load 24 (Operand.tmp 1), type := 24, pos := "tree.go:209", after := #[], guard := none }) (v := ?_) false [] rfl (by decide) (by kernel_rfl) (by kernel_rfl) (by kernel_rfl) (by kernel_rfl) (fun _ _ _ h => h) (Or.inl ⟨by rfl, ?_⟩) ?_
  rotate_left
  · rintro w ⟨hS0, hS1⟩
    clear hS1
    (try dsimp only at hS0)
    go_simp
    (try with_reducible rfl)
  try simp only [Act.put, List.setIfInBounds_toArray, List.set_cons_zero, List.set_cons_succ]
  refine Held.step (i := 1) (o := { dst := some 50, op := Op.call { callee := Callee.value (Operand.func 46), args := #[Operand.func 62, Operand.func 36], argTypes := #[30, 30] }, type := 30, pos := "tree.go:209", after := #[], guard := none }) rfl (by kernel_rfl) (fun K hK => ?_)
  go_simp
  go_at_call 46
  refine (or_f F 62 36 #[] #[] emptyB (g .expr) V0 (EMP.out.below (HB.out.trans (D0.out.mono HB.out.size))) (E.out.below (HB.out.trans (D0.out.mono HB.out.size)))).mono ?_
  rintro e V1 ⟨rfl, s2, b2⟩
  have D1 := Lib.hid (D0.out.trans (b2.mono D0.out.size))
  have S1 := Lib.hid s2
  clear b2 s2
  refine hK.out _ _ ⟨KP.out _ D1.out, fun _ => trivial⟩ ?_
  clear hK K
  try simp only [Act.put, List.setIfInBounds_toArray, List.set_cons_zero, List.set_cons_succ]
  refine Held.step (i := 2) (o := { dst := some 51, op := Op.buildSlice 61 1 #[(0, Operand.tmp 50)], type := 61, pos := "tree.go:209", after := #[{ on := 1, ground := Ground.data }], guard := none }) rfl (by kernel_rfl) (fun K hK => ?_)
  go_simp
  refine hK.out _ _ ⟨KP.out _ (D1.out.alloc D1.out.size _), fun _ => trivial⟩ ?_
  clear hK K
  try simp only [Act.put, List.setIfInBounds_toArray, List.set_cons_zero, List.set_cons_succ]
  have b2 : Below V1.heap.size V1 (V1.alloc (.cells #[.func (.func 71) #[] #[.pointer (some ⟨V0.heap.size, 0, none⟩), .pointer (some ⟨V0.heap.size + 1, 0, none⟩)]] 30)) := (Below.refl _ V1).alloc (Nat.le_refl _) _
  have WH : Hid (Whole (V1.alloc (.cells #[.func (.func 71) #[] #[.pointer (some ⟨V0.heap.size, 0, none⟩), .pointer (some ⟨V0.heap.size + 1, 0, none⟩)]] 30)) V1.heap.size 30 #[.func (.func 71) #[] #[.pointer (some ⟨V0.heap.size, 0, none⟩), .pointer (some ⟨V0.heap.size + 1, 0, none⟩)]]) := Lib.hid (Whole.new V1 30 _)
  obtain ⟨VB, hVB⟩ : ∃ b, b = V1.heap.size := ⟨_, rfl⟩
  obtain ⟨V2, hV⟩ : ∃ V, V = V1.alloc (.cells #[.func (.func 71) #[] #[.pointer (some ⟨V0.heap.size, 0, none⟩), .pointer (some ⟨V0.heap.size + 1, 0, none⟩)]] 30) := ⟨_, rfl⟩
  rw [← hV] at b2 WH ⊢
  rw [← hVB] at WH ⊢
  clear hV
  have D2 := Lib.hid (D1.out.trans (b2.mono D1.out.size))
  have S1 := Lib.hid (S1.out.below b2)
  clear b2 hVB
  have OF := Lib.hid (of_f F _ n 33 [(71, #[.pointer (some ⟨V0.heap.size, 0, none⟩), .pointer (some ⟨V0.heap.size + 1, 0, none⟩)])] [(fun k => emptyB k || (g .expr) k)] _ (HV.out.below D2.out) hft (by simp) VB 30 (fun _ => WH.out) (some ⟨VB, 0, none⟩) (fun _ => rfl) 1 ⟨S1.out, trivial⟩)
  simp only [List.length_cons, List.length_nil, Nat.zero_add, List.map_cons, List.map_nil, fnVal] at OF
  refine Held.step (i := 3) (o := { dst := some 52, op := Op.call { callee := Callee.value (Operand.func 42), args := #[Operand.tmp 49, Operand.const (Value.int IntKind.i64 33), Operand.tmp 51], argTypes := #[24, 3, 61] }, type := 4, pos := "tree.go:209", after := #[{ on := 0, ground := Ground.data }, { on := 2, ground := Ground.data }, { on := 1, ground := Ground.chain }], guard := none }) rfl (by kernel_rfl) (fun K hK => ?_)
  go_simp
  go_at_call 42
  refine OF.out.mono ?_
  rintro e V3 ⟨rfl, b2⟩
  have D3 := Lib.hid (D2.out.trans (b2.mono D2.out.size))
  clear b2
  refine hK.out _ _ ⟨KP.out _ D3.out, fun _ => trivial⟩ ?_
  clear hK K
  try simp only [Act.put, List.setIfInBounds_toArray, List.set_cons_zero, List.set_cons_succ]
  refine Held.take (i := 4) (oi := { dst := some 2, op := Op.assign (Operand.tmp 52), type := 4, pos := "tree.go:209", after := #[{ on := 3, ground := Ground.data }, { on := 3, ground := Ground.chain }, { on := 0, ground := Ground.phase }, { on := 1, ground := Ground.phase }, { on := 2, ground := Ground.phase }, { on := 3, ground := Ground.phase }], guard := none }) (v := ?_) false [] rfl (by decide) (by kernel_rfl) (by kernel_rfl) (by kernel_rfl) (by kernel_rfl) (fun _ _ _ h => h) (Or.inl ⟨by rfl, ?_⟩) ?_
  rotate_left
  · rintro w ⟨hS0, hS1⟩
    clear hS1
    (try dsimp only at hS0)
    go_simp
    (try with_reducible rfl)
  try simp only [Act.put, List.setIfInBounds_toArray, List.set_cons_zero, List.set_cons_succ]
  refine Held.done (by kernel_rfl) ?_ _
  go_wp2_with fail
  go_ret
  exact ⟨rfl, HB.out.trans (D3.out.mono HB.out.size)⟩

end Go.Proofs.Ytkmhijkpbmcgbaa
