/-
  The questions' contracts: nothing, lists, parameters, signatures, types.
  The questions' contracts: fields, terms, statements of one call.
-/
import Derived.Test.YtkmhijkpbmcgbaaGreatAsk
import Derived.Test.YtkmhijkpbmcgbaaGreatHeld
import Derived.Laws.EntriesVeiled
namespace Go.Proofs.YtkmhijkpbmcgbaaGreat
set_option linter.all false
open Go.RowKit Go.Shelf

theorem NdV.lst {w : World} {f : Nat} {n : Nd} {A : Option Addr} {c : Nat} (h : NdV w (f + 1) (n.val A c) n) : LstAt w f n.kids A := by
  obtain ⟨A', c', e, _, hc⟩ := h
  have : A = A' := by
    unfold Nd.val at e
    simp only [Value.agg.injEq, Array.mk.injEq, List.cons.injEq, Value.slice.injEq] at e
    exact e.2.2.1.1
  subst this
  exact hc

set_option maxRecDepth 100000 in
theorem empty_any (f : Nat) (v : Value) (n : Nd) (W : World) (hv : NdV W f v n) : Calls Tryz.prog 79 #[v] W fun e w' => e = .returned (.bool (emptyB n)) ∧ Below W.heap.size W w' := by
  obtain ⟨A, c, rfl, hm⟩ := hv.val
  unfold Nd.val
  clear hv
  unfold emptyB
  generalize n.kids.length = l
  have hb : Below W.heap.size W (W.alloc (.cells #[.int .i64 n.kind, .string n.text, .slice A l c, .int .i64 n.place] 24)) := (Below.refl _ W).alloc (Nat.le_refl _) _
  have HB := Lib.hid hb
  clear hb
  cases h1 : (n.kind == 0) <;> cases h2 : (n.text.toList == []) <;> cases h3 : ((l : Int) == 0) <;>
  (go_enter Tryz.func79, Tryz.ntmps79
   go_wp2_with fail
   go_ret
   exact ⟨rfl, HB.out⟩)
theorem empty_f (w : World) (F : Nat) : SaysF w F 79 #[] emptyB := ⟨enters_of Tryz.func79 (by kernel_rfl) rfl, fun W v n hW hft hv => empty_any F v n W hv⟩

set_option maxRecDepth 100000 in
theorem list_any (F g : Nat) (cb : Array Value) (q : Nd → Bool) (v : Value) (n : Nd) (W : World) (hs : SaysF W F g cb q) (hft : Fits n) (hv : NdV W (F + 1) v n) :
    Calls Tryz.prog 94 #[v, .func (.func g) #[] cb] W fun e w' => e = .returned (.bool (listB q n)) ∧ Below W.heap.size W w' := by
  obtain ⟨A, c, rfl, hm⟩ := hv.val
  have hb : Below W.heap.size W (W.alloc (.cells #[.int .i64 n.kind, .string n.text, .slice A n.kids.length c, .int .i64 n.place] 24)) := (Below.refl _ W).alloc (Nat.le_refl _) _
  have AL := Lib.hid (all_f F g cb q n.kids A c _ (hs.below hb) (hv.lst.below hb) (fun k hk => hft.kid hk) hm)
  have HB := Lib.hid hb
  have eg := hs.1
  clear hb hv hs hft
  unfold listB
  unfold Nd.val
  generalize n.kids.all q = r at AL ⊢
  cases h1 : (n.kind == 6) <;> cases h2 : (n.text.toList == []) <;>
    (go_enter Tryz.func94, Tryz.ntmps94
     go_wp2_with fail)
  all_goals first
    | (go_ret; exact ⟨rfl, HB.out⟩)
    | (refine AL.out.mono ?_
       rintro e w2 ⟨rfl, b2⟩
       have HB2 := Lib.hid (HB.out.trans (b2.mono HB.out.size))
       clear b2
       go_wp2_with fail
       go_ret
       exact ⟨rfl, HB2.out⟩)

def SaysS (w : World) (g : Nat) (cb : Array Value) (so : ByteArray → Bool) : Prop := ∀ s, AnsS w g cb s (so s)
theorem AnsS.below {w w' : World} (hb : Below w.heap.size w w') {g : Nat} {cb : Array Value} {s : ByteArray} {r : Bool} (h : AnsS w g cb s r) : AnsS w' g cb s r := ⟨h.1, fun W hW => h.2 W (hb.trans (hW.mono hb.size))⟩
theorem SaysS.below {w w' : World} (hb : Below w.heap.size w w') {g : Nat} {cb : Array Value} {so : ByteArray → Bool} (h : SaysS w g cb so) : SaysS w' g cb so := fun s => (h s).below hb

set_option maxRecDepth 100000 in
set_option maxHeartbeats 1000000 in
theorem param_any (g : Q → Nd → Bool) (F gs : Nat) (cb : Array Value) (so : ByteArray → Bool) (v : Value) (n : Nd) (W : World) (T : SaysF W F 32 #[] (g .typ)) (hso : SaysS W gs cb so) (B : Nat) (hB : W.cell? ⟨B, 0, none⟩ = some (.func (.func gs) #[] cb)) (hft : Fits n) (hv : NdV W (F + 1) v n) :
    Calls Tryz.prog 100 #[v, .pointer (some ⟨B, 0, none⟩)] W fun e w' => e = .returned (.bool (paramB g so n)) ∧ Below W.heap.size W w' := by
  obtain ⟨A, c, rfl, hm⟩ := hv.val
  have hlt := cell_lt hB
  have hb : Below W.heap.size W (W.alloc (.cells #[.int .i64 n.kind, .string n.text, .slice A n.kids.length c, .int .i64 n.place] 24)) := (Below.refl _ W).alloc (Nat.le_refl _) _
  have NM := Lib.hid (named_c F gs cb _ n (so n.text) _ ((hso n.text).below hb) (hv.below hb))
  have HB := Lib.hid hb
  have HT := Lib.hid T
  unfold paramB
  have hftm := hft.named (so n.text)
  generalize namedN n (so n.text) = m at NM hftm ⊢
  clear hb hv hso hft T
  unfold Nd.val at NM ⊢
  go_enter Tryz.func100, Tryz.ntmps100
  go_wp2_with fail
  refine NM.out.mono ?_
  rintro e w1 ⟨A1, c1, rfl, n1, b1⟩
  have b2 : Below w1.heap.size w1 (w1.alloc (.cells #[.func (.func 32) #[] #[]] 33)) := (Below.refl _ w1).alloc (Nat.le_refl _) _
  have HB2 := Lib.hid (HB.out.trans ((b1.trans (b2.mono b1.size)).mono HB.out.size))
  have OF := Lib.hid (of_f F _ m 8 [(32, #[])] [g .typ] _ (n1.below b2) hftm (by decide) w1.heap.size 33 (fun _ => Whole.new w1 33 _) (some ⟨w1.heap.size, 0, none⟩) (fun _ => rfl) 1 ⟨HT.out.below HB2.out, trivial⟩)
  simp only [List.length_cons, List.length_nil, Nat.zero_add, List.map_cons, List.map_nil, fnVal] at OF
  clear b1 b2 n1 NM HT hftm
  go_wp2_with fail
  refine OF.out.mono ?_
  rintro e w2 ⟨rfl, b2⟩
  have HB3 := Lib.hid (HB2.out.trans (b2.mono HB2.out.size))
  clear b2 OF
  go_wp2_with fail
  go_ret
  exact ⟨rfl, HB3.out⟩

set_option maxRecDepth 100000 in
set_option maxHeartbeats 1000000 in
theorem plist_any (F gp : Nat) (cb : Array Value) (q : Nd → Bool) (v : Value) (n : Nd) (W : World) (hs : SaysF W F gp cb q) (B : Nat) (hB : W.cell? ⟨B, 0, none⟩ = some (.func (.func gp) #[] cb)) (hft : Fits n) (hv : NdV W (F + 1) v n) :
    Calls Tryz.prog 101 #[v, .pointer (some ⟨B, 0, none⟩)] W fun e w' => e = .returned (.bool (listB q n)) ∧ Below W.heap.size W w' := by
  obtain ⟨A, c, rfl, hm⟩ := hv.val
  have hlt := cell_lt hB
  have hb : Below W.heap.size W (W.alloc (.cells #[.int .i64 n.kind, .string n.text, .slice A n.kids.length c, .int .i64 n.place] 24)) := (Below.refl _ W).alloc (Nat.le_refl _) _
  have LI := Lib.hid (list_any F gp cb q _ n _ (hs.below hb) hft (hv.below hb))
  have HB := Lib.hid hb
  clear hb hv hs hft
  unfold Nd.val at LI ⊢
  go_enter Tryz.func101, Tryz.ntmps101
  go_wp2_with fail
  refine LI.out.mono ?_
  rintro e w1 ⟨rfl, b1⟩
  have HB2 := Lib.hid (HB.out.trans (b1.mono HB.out.size))
  clear b1
  go_wp2_with fail
  go_ret
  exact ⟨rfl, HB2.out⟩

set_option maxRecDepth 100000 in
set_option maxHeartbeats 1000000 in
theorem sig_any (g : Q → Nd → Bool) (F gs : Nat) (cb : Array Value) (so : ByteArray → Bool) (v : Value) (n : Nd) (W : World) (T : SaysF W F 32 #[] (g .typ)) (hso : SaysS W gs cb so) (hft : Fits n) (hv : NdV W (F + 1) v n) :
    Calls Tryz.prog 67 #[v, .func (.func gs) #[] cb] W fun e w' => e = .returned (.bool (sigB g so n)) ∧ Below W.heap.size W w' := by
  obtain ⟨A, c, rfl, hm⟩ := hv.val
  have hmf : ∀ fn first cap w, (Instr.makeFunc fn first cap).run Tryz.prog w = .ok (.func fn first cap) w := fun _ _ _ _ => rfl
  have hb : Below W.heap.size W (((W.alloc (.cells #[.int .i64 n.kind, .string n.text, .slice A n.kids.length c, .int .i64 n.place] 24)).alloc (.cells #[.func (.func gs) #[] cb] 37)).alloc (.cells #[.func (.func 100) #[] #[.pointer (some ⟨W.heap.size + 1, 0, none⟩)]] 33)) := (((Below.refl _ W).alloc (Nat.le_refl _) _).alloc (by simp) _).alloc (by simp; omega) _
  have k0 : Whole (((W.alloc (.cells #[.int .i64 n.kind, .string n.text, .slice A n.kids.length c, .int .i64 n.place] 24)).alloc (.cells #[.func (.func gs) #[] cb] 37)).alloc (.cells #[.func (.func 100) #[] #[.pointer (some ⟨W.heap.size + 1, 0, none⟩)]] 33)) W.heap.size 24 #[.int .i64 n.kind, .string n.text, .slice A n.kids.length c, .int .i64 n.place] := ((Whole.new W 24 _).alloc _).alloc _
  have k1 : Whole (((W.alloc (.cells #[.int .i64 n.kind, .string n.text, .slice A n.kids.length c, .int .i64 n.place] 24)).alloc (.cells #[.func (.func gs) #[] cb] 37)).alloc (.cells #[.func (.func 100) #[] #[.pointer (some ⟨W.heap.size + 1, 0, none⟩)]] 33)) (W.heap.size + 1) 37 #[.func (.func gs) #[] cb] := by
    have := (Whole.new (W.alloc (.cells #[.int .i64 n.kind, .string n.text, .slice A n.kids.length c, .int .i64 n.place] 24)) 37 #[.func (.func gs) #[] cb]).alloc (.cells #[.func (.func 100) #[] #[.pointer (some ⟨W.heap.size + 1, 0, none⟩)]] 33)
    simpa using this
  have k2 : Whole (((W.alloc (.cells #[.int .i64 n.kind, .string n.text, .slice A n.kids.length c, .int .i64 n.place] 24)).alloc (.cells #[.func (.func gs) #[] cb] 37)).alloc (.cells #[.func (.func 100) #[] #[.pointer (some ⟨W.heap.size + 1, 0, none⟩)]] 33)) (W.heap.size + 1 + 1) 33 #[.func (.func 100) #[] #[.pointer (some ⟨W.heap.size + 1, 0, none⟩)]] := by
    have := Whole.new ((W.alloc (.cells #[.int .i64 n.kind, .string n.text, .slice A n.kids.length c, .int .i64 n.place] 24)).alloc (.cells #[.func (.func gs) #[] cb] 37)) 33 #[.func (.func 100) #[] #[.pointer (some ⟨W.heap.size + 1, 0, none⟩)]]
    simpa using this
  have hv1 := hv.below hb
  unfold Nd.val at hv1 ⊢
  unfold sigB
  go_enter Tryz.func67, Tryz.ntmps67
  go_wp2_with fail
  obtain ⟨W1, hW1⟩ : ∃ W1, W1 = (((W.alloc (.cells #[.int .i64 n.kind, .string n.text, .slice A n.kids.length c, .int .i64 n.place] 24)).alloc (.cells #[.func (.func gs) #[] cb] 37)).alloc (.cells #[.func (.func 100) #[] #[.pointer (some ⟨W.heap.size + 1, 0, none⟩)]] 33)) := ⟨_, rfl⟩
  rw [← hW1] at hb k0 k1 k2 hv1 ⊢
  clear hW1
  have kp : ∀ w', Below W1.heap.size W1 w' → w'.cell? ⟨W.heap.size, 0, none⟩ = some (.int .i64 n.kind) ∧ w'.cell? ⟨W.heap.size, 1, none⟩ = some (.string n.text) ∧ w'.cell? ⟨W.heap.size, 2, none⟩ = some (.slice A n.kids.length c) ∧ w'.cell? ⟨W.heap.size, 3, none⟩ = some (.int .i64 n.place) := fun w' hW => have h1 := k0.below hW k0.lt; ⟨h1.cell 0, h1.cell 1, h1.cell 2, h1.cell 3⟩
  have KP := Lib.hid kp
  have HB := Lib.hid hb
  have PS : Hid (SaysF W1 F 100 #[.pointer (some ⟨W.heap.size + 1, 0, none⟩)] (paramB g so)) := Lib.hid ⟨enters_of Tryz.func100 (by kernel_rfl) rfl, fun w' v' n' hW' hft' hv' =>
    param_any g F gs cb so v' n' w' (T.below (hb.trans (hW'.mono hb.size))) (hso.below (hb.trans (hW'.mono hb.size))) _ ((hW'.cell (p := ⟨W.heap.size + 1, 0, none⟩) k1.lt).trans (k1.cell 0)) hft' (hv'.le (Nat.le_succ _))⟩
  have LS : Hid (SaysF W1 F 101 #[.pointer (some ⟨W.heap.size + 1 + 1, 0, none⟩)] (listB (paramB g so))) := Lib.hid ⟨enters_of Tryz.func101 (by kernel_rfl) rfl, fun w' v' n' hW' hft' hv' =>
    plist_any F 100 _ _ v' n' w' (PS.out.below hW') _ ((hW'.cell (p := ⟨W.heap.size + 1 + 1, 0, none⟩) k2.lt).trans (k2.cell 0)) hft' (hv'.le (Nat.le_succ _))⟩
  have OR := Lib.hid fun w' (hW' : Below W1.heap.size W1 w') => or_f F 79 32 #[] #[] emptyB (g .typ) w' (empty_f w' F) (T.below (hb.trans (hW'.mono hb.size)))
  have HV := Lib.hid hv1
  have e35 : ∀ args w, (callFunc 32 args).run Tryz.prog w = .ok (.enter 32 args) w := T.1
  clear kp hb k0 k1 k2 hv1 hv T hso PS
  obtain ⟨V0, hV0⟩ : ∃ V, V = W1.drew := ⟨_, rfl⟩
  have D0 : Hid (Below W1.heap.size W1 V0) := by rw [hV0]; exact Lib.hid (Below.refl _ W1).drew
  refine Held.begin_ (fun w' => w'.cell? ⟨W.heap.size, 0, none⟩ = some (.int .i64 n.kind) ∧ w'.cell? ⟨W.heap.size, 1, none⟩ = some (.string n.text) ∧ w'.cell? ⟨W.heap.size, 2, none⟩ = some (.slice A n.kids.length c) ∧ w'.cell? ⟨W.heap.size, 3, none⟩ = some (.int .i64 n.place)) (fun _ => True) 99 (by kernel_rfl) (KP.out _ (Below.refl _ W1).drew) (trivial) ?_
  rw [← hV0]
  clear hV0
  refine Held.take (i := 0) (oi := { dst := some 7, op := Op.load 24 (Operand.tmp 2), type := 24, pos := "tree.go:83", after := #[], guard := none }) (v := ?_) false [] rfl (by decide) (by kernel_rfl) (by kernel_rfl) (by kernel_rfl) (by kernel_rfl) (fun _ _ _ h => h) (Or.inl ⟨by rfl, ?_⟩) ?_
  rotate_left
  · rintro w ⟨hS0, hS1⟩
    clear hS1
    (try dsimp only at hS0)
    go_simp
    (try with_reducible rfl)
  try simp only [Act.put, List.setIfInBounds_toArray, List.set_cons_zero, List.set_cons_succ]
  refine Held.take (i := 1) (oi := { dst := some 8, op := Op.makeFunc (Fn.func 101) #[] #[Operand.tmp 5], type := 33, pos := "tree.go:83", after := #[], guard := none }) (v := ?_) false [] rfl (by decide) (by kernel_rfl) (by kernel_rfl) (by kernel_rfl) (by kernel_rfl) (fun _ _ _ h => h) (Or.inl ⟨by rfl, ?_⟩) ?_
  rotate_left
  · rintro w ⟨hS0, hS1⟩
    clear hS1
    (try dsimp only at hS0)
    go_simp
    (try with_reducible rfl)
  try simp only [Act.put, List.setIfInBounds_toArray, List.set_cons_zero, List.set_cons_succ]
  refine Held.step (i := 2) (o := { dst := some 9, op := Op.call { callee := Callee.value (Operand.func 63), args := #[Operand.func 79, Operand.func 32], argTypes := #[33, 33] }, type := 33, pos := "tree.go:83", after := #[], guard := none }) rfl (by kernel_rfl) (fun K hK => ?_)
  go_simp
  go_at_call 63
  refine (OR.out _ D0.out).mono ?_
  rintro e V1 ⟨rfl, s2, b2⟩
  have D1 := Lib.hid (D0.out.trans (b2.mono D0.out.size))
  have S2 := Lib.hid s2
  clear b2 s2
  refine hK.out _ _ ⟨KP.out _ D1.out, fun _ => trivial⟩ ?_
  clear hK K
  try simp only [Act.put, List.setIfInBounds_toArray, List.set_cons_zero, List.set_cons_succ]
  refine Held.step (i := 3) (o := { dst := some 10, op := Op.buildSlice 72 2 #[(0, Operand.tmp 8), (1, Operand.tmp 9)], type := 72, pos := "tree.go:83", after := #[{ on := 1, ground := Ground.data }, { on := 2, ground := Ground.data }], guard := none }) rfl (by kernel_rfl) (fun K hK => ?_)
  go_simp
  refine hK.out _ _ ⟨KP.out _ (D1.out.alloc D1.out.size _), fun _ => trivial⟩ ?_
  clear hK K
  try simp only [Act.put, List.setIfInBounds_toArray, List.set_cons_zero, List.set_cons_succ]
  have b2 : Below V1.heap.size V1 (V1.alloc (.cells #[.func (.func 101) #[] #[.pointer (some ⟨W.heap.size + 1 + 1, 0, none⟩)], .func (.func 96) #[] #[.pointer (some ⟨V0.heap.size, 0, none⟩), .pointer (some ⟨V0.heap.size + 1, 0, none⟩)]] 33)) := (Below.refl _ V1).alloc (Nat.le_refl _) _
  have D2 := Lib.hid (D1.out.trans (b2.mono D1.out.size))
  have OF := Lib.hid (of_f F _ n 12 [(101, #[.pointer (some ⟨W.heap.size + 1 + 1, 0, none⟩)]), (96, #[.pointer (some ⟨V0.heap.size, 0, none⟩), .pointer (some ⟨V0.heap.size + 1, 0, none⟩)])] [listB (paramB g so), fun k => emptyB k || g .typ k] _ (HV.out.below D2.out) hft (by simp) V1.heap.size 33 (fun _ => Whole.new V1 33 _) (some ⟨V1.heap.size, 0, none⟩) (fun _ => rfl) 2 ⟨LS.out.below D2.out, S2.out.below b2, trivial⟩)
  simp only [List.length_cons, List.length_nil, Nat.zero_add, List.map_cons, List.map_nil, fnVal] at OF
  clear b2
  refine Held.step (i := 4) (o := { dst := some 11, op := Op.call { callee := Callee.value (Operand.func 59), args := #[Operand.tmp 7, Operand.const (Value.int IntKind.i64 12), Operand.tmp 10], argTypes := #[24, 3, 72] }, type := 4, pos := "tree.go:83", after := #[{ on := 0, ground := Ground.data }, { on := 3, ground := Ground.data }, { on := 2, ground := Ground.chain }], guard := none }) rfl (by kernel_rfl) (fun K hK => ?_)
  go_simp
  go_at_call 59
  refine OF.out.mono ?_
  rintro e V3 ⟨rfl, b3⟩
  have D3 := Lib.hid (D2.out.trans (b3.mono D2.out.size))
  clear b3
  refine hK.out _ _ ⟨KP.out _ D3.out, fun _ => trivial⟩ ?_
  clear hK K
  try simp only [Act.put, List.setIfInBounds_toArray, List.set_cons_zero, List.set_cons_succ]
  refine Held.take (i := 5) (oi := { dst := some 4, op := Op.assign (Operand.tmp 11), type := 4, pos := "tree.go:83", after := #[{ on := 4, ground := Ground.data }, { on := 4, ground := Ground.chain }, { on := 0, ground := Ground.phase }, { on := 1, ground := Ground.phase }, { on := 2, ground := Ground.phase }, { on := 3, ground := Ground.phase }, { on := 4, ground := Ground.phase }], guard := none }) (v := ?_) false [] rfl (by decide) (by kernel_rfl) (by kernel_rfl) (by kernel_rfl) (by kernel_rfl) (fun _ _ _ h => h) (Or.inl ⟨by rfl, ?_⟩) ?_
  rotate_left
  · rintro w ⟨hS0, hS1⟩
    clear hS1
    (try dsimp only at hS0)
    go_simp
    (try with_reducible rfl)
  try simp only [Act.put, List.setIfInBounds_toArray, List.set_cons_zero, List.set_cons_succ]
  refine Held.done (by kernel_rfl) ?_ _
  go_wp2_with fail
  go_ret
  exact ⟨rfl, HB.out.trans (D3.out.mono HB.out.size)⟩

end Go.Proofs.YtkmhijkpbmcgbaaGreat

namespace Go.Proofs.YtkmhijkpbmcgbaaGreat
set_option linter.all false
open Go.RowKit Go.Shelf

theorem plain_s (s : ByteArray) (w : World) : AnsS w 69 #[] s (plainB s.data.toList) := ⟨enters_of Tryz.func69 (by kernel_rfl) rfl, fun W hW => plain_any s W⟩
theorem binary_s (s : ByteArray) (w : World) (hx : Mx w) (hs : s.size ≤ 1048576) : AnsS w 72 #[] s (binB s) := ⟨enters_of Tryz.func72 (by kernel_rfl) rfl, fun W hW => (binary_any s W (hx.below hW) hs).mono fun e w' h => ⟨h.1, h.2 ▸ Below.refl _ _⟩⟩
theorem ranged_s (s : ByteArray) (w : World) (hx : Mx w) (hs : s.size ≤ 1048576) : AnsS w 80 #[] s (rangedB s) := ⟨enters_of Tryz.func80 (by kernel_rfl) rfl, fun W hW => ranged_any s W (hx.below hW) hs⟩

set_option maxRecDepth 100000 in
set_option maxHeartbeats 1000000 in
theorem term_any (g : Q → Nd → Bool) (F : Nat) (v : Value) (n : Nd) (W : World) (T : SaysF W F 32 #[] (g .typ)) (hft : Fits n) (hv : NdV W (F + 1) v n) :
    Calls Tryz.prog 98 #[v] W fun e w' => e = .returned (.bool (ofN (namedN n (twoB [] [126] n.text)) 15 [g .typ])) ∧ Below W.heap.size W w' := by
  obtain ⟨A, c, rfl, hm⟩ := hv.val
  have hmf : ∀ fn first cap w, (Instr.makeFunc fn first cap).run Tryz.prog w = .ok (.func fn first cap) w := fun _ _ _ _ => rfl
  have hb : Below W.heap.size W (W.alloc (.cells #[.int .i64 n.kind, .string n.text, .slice A n.kids.length c, .int .i64 n.place] 24)) := (Below.refl _ W).alloc (Nat.le_refl _) _
  have HB0 := Lib.hid hb
  have T := Lib.hid T
  have NM := Lib.hid (named_c F 99 #[] _ n (twoB [] [126] n.text) _ ((tilde_s n.text W).below hb) (hv.below hb))
  have hftm := hft.named (twoB [] [126] n.text)
  generalize namedN n (twoB [] [126] n.text) = m at NM hftm ⊢
  clear hb hv hft
  unfold Nd.val at NM ⊢
  go_enter Tryz.func98, Tryz.ntmps98
  go_wp2_with fail
  refine NM.out.mono ?_
  rintro e w1 ⟨A1, c1, rfl, n1, b1⟩
  have HB1 := Lib.hid (HB0.out.trans (b1.mono HB0.out.size))
  have N1 := Lib.hid n1
  clear b1 n1 NM
  have b2 : Below w1.heap.size w1 (w1.alloc (.cells #[.func (.func 32) #[] #[]] 33)) := (Below.refl _ w1).alloc (Nat.le_refl _) _
  have HBX := Lib.hid (HB1.out.trans (b2.mono HB1.out.size))
  have OF := Lib.hid (of_f F _ m 15 [(32, #[])] [(g .typ)] _ (N1.out.below b2) hftm (by simp) w1.heap.size 33 (fun _ => Whole.new w1 33 _) (some ⟨w1.heap.size, 0, none⟩) (fun _ => rfl) 1 ⟨T.out.below HBX.out, trivial⟩)
  clear b2
  simp only [List.length_cons, List.length_nil, Nat.zero_add, List.map_cons, List.map_nil, fnVal] at OF
  clear hftm N1
  go_wp2_with fail
  refine OF.out.mono ?_
  rintro e wl ⟨rfl, bl⟩
  have HBL := Lib.hid (HBX.out.trans (bl.mono HBX.out.size))
  clear bl OF
  go_wp2_with fail
  go_ret
  exact ⟨rfl, HBL.out⟩

set_option maxRecDepth 100000 in
set_option maxHeartbeats 1000000 in
theorem field_any (g : Q → Nd → Bool) (F : Nat) (v : Value) (n : Nd) (W : World) (T : SaysF W F 32 #[] (g .typ)) (hft : Fits n) (hv : NdV W (F + 1) v n) :
    Calls Tryz.prog 97 #[v] W fun e w' => e = .returned (.bool (ofN (namedN n (nameB n.text)) 9 [g .typ])) ∧ Below W.heap.size W w' := by
  obtain ⟨A, c, rfl, hm⟩ := hv.val
  have hmf : ∀ fn first cap w, (Instr.makeFunc fn first cap).run Tryz.prog w = .ok (.func fn first cap) w := fun _ _ _ _ => rfl
  have hb : Below W.heap.size W (W.alloc (.cells #[.int .i64 n.kind, .string n.text, .slice A n.kids.length c, .int .i64 n.place] 24)) := (Below.refl _ W).alloc (Nat.le_refl _) _
  have HB0 := Lib.hid hb
  have T := Lib.hid T
  have NM := Lib.hid (named_c F 29 #[] _ n (nameB n.text) _ ((name_s n.text W).below hb) (hv.below hb))
  have hftm := hft.named (nameB n.text)
  generalize namedN n (nameB n.text) = m at NM hftm ⊢
  clear hb hv hft
  unfold Nd.val at NM ⊢
  go_enter Tryz.func97, Tryz.ntmps97
  go_wp2_with fail
  refine NM.out.mono ?_
  rintro e w1 ⟨A1, c1, rfl, n1, b1⟩
  have HB1 := Lib.hid (HB0.out.trans (b1.mono HB0.out.size))
  have N1 := Lib.hid n1
  clear b1 n1 NM
  have b2 : Below w1.heap.size w1 (w1.alloc (.cells #[.func (.func 32) #[] #[]] 33)) := (Below.refl _ w1).alloc (Nat.le_refl _) _
  have HBX := Lib.hid (HB1.out.trans (b2.mono HB1.out.size))
  have OF := Lib.hid (of_f F _ m 9 [(32, #[])] [(g .typ)] _ (N1.out.below b2) hftm (by simp) w1.heap.size 33 (fun _ => Whole.new w1 33 _) (some ⟨w1.heap.size, 0, none⟩) (fun _ => rfl) 1 ⟨T.out.below HBX.out, trivial⟩)
  clear b2
  simp only [List.length_cons, List.length_nil, Nat.zero_add, List.map_cons, List.map_nil, fnVal] at OF
  clear hftm N1
  go_wp2_with fail
  refine OF.out.mono ?_
  rintro e wl ⟨rfl, bl⟩
  have HBL := Lib.hid (HBX.out.trans (bl.mono HBX.out.size))
  clear bl OF
  go_wp2_with fail
  go_ret
  exact ⟨rfl, HBL.out⟩

set_option maxRecDepth 100000 in
set_option maxHeartbeats 1000000 in
theorem short_any (g : Q → Nd → Bool) (F : Nat) (v : Value) (n : Nd) (W : World) (E : SaysF W F 33 #[] (g .expr)) (hft : Fits n) (hv : NdV W (F + 1) v n) :
    Calls Tryz.prog 74 #[v] W fun e w' => e = .returned (.bool (ofN (namedN n (boundB n.text)) 26 [g .expr])) ∧ Below W.heap.size W w' := by
  obtain ⟨A, c, rfl, hm⟩ := hv.val
  have hmf : ∀ fn first cap w, (Instr.makeFunc fn first cap).run Tryz.prog w = .ok (.func fn first cap) w := fun _ _ _ _ => rfl
  have hb : Below W.heap.size W (W.alloc (.cells #[.int .i64 n.kind, .string n.text, .slice A n.kids.length c, .int .i64 n.place] 24)) := (Below.refl _ W).alloc (Nat.le_refl _) _
  have HB0 := Lib.hid hb
  have E := Lib.hid E
  have NM := Lib.hid (named_c F 103 #[] _ n (boundB n.text) _ ((bound_s n.text W).below hb) (hv.below hb))
  have hftm := hft.named (boundB n.text)
  generalize namedN n (boundB n.text) = m at NM hftm ⊢
  clear hb hv hft
  unfold Nd.val at NM ⊢
  go_enter Tryz.func74, Tryz.ntmps74
  go_wp2_with fail
  refine NM.out.mono ?_
  rintro e w1 ⟨A1, c1, rfl, n1, b1⟩
  have HB1 := Lib.hid (HB0.out.trans (b1.mono HB0.out.size))
  have N1 := Lib.hid n1
  clear b1 n1 NM
  have b2 : Below w1.heap.size w1 (w1.alloc (.cells #[.func (.func 33) #[] #[]] 33)) := (Below.refl _ w1).alloc (Nat.le_refl _) _
  have HBX := Lib.hid (HB1.out.trans (b2.mono HB1.out.size))
  have OF := Lib.hid (of_f F _ m 26 [(33, #[])] [(g .expr)] _ (N1.out.below b2) hftm (by simp) w1.heap.size 33 (fun _ => Whole.new w1 33 _) (some ⟨w1.heap.size, 0, none⟩) (fun _ => rfl) 1 ⟨E.out.below HBX.out, trivial⟩)
  clear b2
  simp only [List.length_cons, List.length_nil, Nat.zero_add, List.map_cons, List.map_nil, fnVal] at OF
  clear hftm N1
  go_wp2_with fail
  refine OF.out.mono ?_
  rintro e wl ⟨rfl, bl⟩
  have HBL := Lib.hid (HBX.out.trans (bl.mono HBX.out.size))
  clear bl OF
  go_wp2_with fail
  go_ret
  exact ⟨rfl, HBL.out⟩

set_option maxRecDepth 100000 in
set_option maxHeartbeats 1000000 in
theorem inc_any (g : Q → Nd → Bool) (F : Nat) (v : Value) (n : Nd) (W : World) (E : SaysF W F 33 #[] (g .expr)) (hft : Fits n) (hv : NdV W (F + 1) v n) :
    Calls Tryz.prog 76 #[v] W fun e w' => e = .returned (.bool (ofN (namedN n (twoB [43, 43] [45, 45] n.text)) 28 [g .expr])) ∧ Below W.heap.size W w' := by
  obtain ⟨A, c, rfl, hm⟩ := hv.val
  have hmf : ∀ fn first cap w, (Instr.makeFunc fn first cap).run Tryz.prog w = .ok (.func fn first cap) w := fun _ _ _ _ => rfl
  have hb : Below W.heap.size W (W.alloc (.cells #[.int .i64 n.kind, .string n.text, .slice A n.kids.length c, .int .i64 n.place] 24)) := (Below.refl _ W).alloc (Nat.le_refl _) _
  have HB0 := Lib.hid hb
  have E := Lib.hid E
  have NM := Lib.hid (named_c F 104 #[] _ n (twoB [43, 43] [45, 45] n.text) _ ((step_s n.text W).below hb) (hv.below hb))
  have hftm := hft.named (twoB [43, 43] [45, 45] n.text)
  generalize namedN n (twoB [43, 43] [45, 45] n.text) = m at NM hftm ⊢
  clear hb hv hft
  unfold Nd.val at NM ⊢
  go_enter Tryz.func76, Tryz.ntmps76
  go_wp2_with fail
  refine NM.out.mono ?_
  rintro e w1 ⟨A1, c1, rfl, n1, b1⟩
  have HB1 := Lib.hid (HB0.out.trans (b1.mono HB0.out.size))
  have N1 := Lib.hid n1
  clear b1 n1 NM
  have b2 : Below w1.heap.size w1 (w1.alloc (.cells #[.func (.func 33) #[] #[]] 33)) := (Below.refl _ w1).alloc (Nat.le_refl _) _
  have HBX := Lib.hid (HB1.out.trans (b2.mono HB1.out.size))
  have OF := Lib.hid (of_f F _ m 28 [(33, #[])] [(g .expr)] _ (N1.out.below b2) hftm (by simp) w1.heap.size 33 (fun _ => Whole.new w1 33 _) (some ⟨w1.heap.size, 0, none⟩) (fun _ => rfl) 1 ⟨E.out.below HBX.out, trivial⟩)
  clear b2
  simp only [List.length_cons, List.length_nil, Nat.zero_add, List.map_cons, List.map_nil, fnVal] at OF
  clear hftm N1
  go_wp2_with fail
  refine OF.out.mono ?_
  rintro e wl ⟨rfl, bl⟩
  have HBL := Lib.hid (HBX.out.trans (bl.mono HBX.out.size))
  clear bl OF
  go_wp2_with fail
  go_ret
  exact ⟨rfl, HBL.out⟩

set_option maxRecDepth 100000 in
set_option maxHeartbeats 1000000 in
theorem set_any (g : Q → Nd → Bool) (F : Nat) (v : Value) (n : Nd) (W : World) (E : SaysF W F 33 #[] (g .expr)) (hft : Fits n) (hv : NdV W (F + 1) v n) :
    Calls Tryz.prog 75 #[v] W fun e w' => e = .returned (.bool (ofN n 27 [g .expr, g .expr])) ∧ Below W.heap.size W w' := by
  obtain ⟨A, c, rfl, hm⟩ := hv.val
  have hmf : ∀ fn first cap w, (Instr.makeFunc fn first cap).run Tryz.prog w = .ok (.func fn first cap) w := fun _ _ _ _ => rfl
  have hb : Below W.heap.size W (W.alloc (.cells #[.int .i64 n.kind, .string n.text, .slice A n.kids.length c, .int .i64 n.place] 24)) := (Below.refl _ W).alloc (Nat.le_refl _) _
  have HB0 := Lib.hid hb
  have E := Lib.hid E
  have b2 := hb.alloc (by simp) (.cells #[.func (.func 33) #[] #[], .func (.func 33) #[] #[]] 33)
  have HBX := Lib.hid b2
  have OF := Lib.hid (of_f F _ n 27 [(33, #[]), (33, #[])] [(g .expr), (g .expr)] _ (hv.below b2) hft (by simp) (W.heap.size + 1) 33 (fun _ => by have := Whole.new (W.alloc (.cells #[.int .i64 n.kind, .string n.text, .slice A n.kids.length c, .int .i64 n.place] 24)) 33 #[.func (.func 33) #[] #[], .func (.func 33) #[] #[]]; rw [World.size_alloc] at this; exact this) (some ⟨W.heap.size + 1, 0, none⟩) (fun _ => rfl) 2 ⟨E.out.below b2, E.out.below b2, trivial⟩)
  clear b2
  simp only [List.length_cons, List.length_nil, Nat.zero_add, List.map_cons, List.map_nil, fnVal] at OF
  clear hb hv hft HB0
  unfold Nd.val at OF ⊢
  go_enter Tryz.func75, Tryz.ntmps75
  go_wp2_with fail
  refine OF.out.mono ?_
  rintro e wl ⟨rfl, bl⟩
  have HBL := Lib.hid (HBX.out.trans (bl.mono HBX.out.size))
  clear bl OF
  go_wp2_with fail
  go_ret
  exact ⟨rfl, HBL.out⟩

set_option maxRecDepth 100000 in
set_option maxHeartbeats 1000000 in
theorem call_any (g : Q → Nd → Bool) (F : Nat) (v : Value) (n : Nd) (W : World) (CL : SaysF W F 105 #[] (call1B g)) (hft : Fits n) (hv : NdV W (F + 1) v n) :
    Calls Tryz.prog 77 #[v] W fun e w' => e = .returned (.bool (ofN n 29 [call1B g])) ∧ Below W.heap.size W w' := by
  obtain ⟨A, c, rfl, hm⟩ := hv.val
  have hmf : ∀ fn first cap w, (Instr.makeFunc fn first cap).run Tryz.prog w = .ok (.func fn first cap) w := fun _ _ _ _ => rfl
  have hb : Below W.heap.size W (W.alloc (.cells #[.int .i64 n.kind, .string n.text, .slice A n.kids.length c, .int .i64 n.place] 24)) := (Below.refl _ W).alloc (Nat.le_refl _) _
  have HB0 := Lib.hid hb
  have CL := Lib.hid CL
  have b2 := hb.alloc (by simp) (.cells #[.func (.func 105) #[] #[]] 33)
  have HBX := Lib.hid b2
  have OF := Lib.hid (of_f F _ n 29 [(105, #[])] [(call1B g)] _ (hv.below b2) hft (by simp) (W.heap.size + 1) 33 (fun _ => by have := Whole.new (W.alloc (.cells #[.int .i64 n.kind, .string n.text, .slice A n.kids.length c, .int .i64 n.place] 24)) 33 #[.func (.func 105) #[] #[]]; rw [World.size_alloc] at this; exact this) (some ⟨W.heap.size + 1, 0, none⟩) (fun _ => rfl) 1 ⟨CL.out.below b2, trivial⟩)
  clear b2
  simp only [List.length_cons, List.length_nil, Nat.zero_add, List.map_cons, List.map_nil, fnVal] at OF
  clear hb hv hft HB0
  unfold Nd.val at OF ⊢
  go_enter Tryz.func77, Tryz.ntmps77
  go_wp2_with fail
  refine OF.out.mono ?_
  rintro e wl ⟨rfl, bl⟩
  have HBL := Lib.hid (HBX.out.trans (bl.mono HBX.out.size))
  clear bl OF
  go_wp2_with fail
  go_ret
  exact ⟨rfl, HBL.out⟩

set_option maxRecDepth 100000 in
set_option maxHeartbeats 1000000 in
theorem expr16_any (g : Q → Nd → Bool) (F : Nat) (v : Value) (n : Nd) (W : World)  (hk : n.kind = 16) (hft : Fits n) (hv : NdV W (F + 1) v n) :
    Calls Tryz.prog 33 #[v] W fun e w' => e = .returned (.bool (ofN (namedN n (plainB n.text.data.toList)) 16 [])) ∧ Below W.heap.size W w' := by
  obtain ⟨A, c, rfl, hm⟩ := hv.val
  have hmf : ∀ fn first cap w, (Instr.makeFunc fn first cap).run Tryz.prog w = .ok (.func fn first cap) w := fun _ _ _ _ => rfl
  have hb : Below W.heap.size W (W.alloc (.cells #[.int .i64 n.kind, .string n.text, .slice A n.kids.length c, .int .i64 n.place] 24)) := (Below.refl _ W).alloc (Nat.le_refl _) _
  have HB0 := Lib.hid hb
  have NM := Lib.hid (named_c F 69 #[] _ n (plainB n.text.data.toList) _ ((plain_s n.text W).below hb) (hv.below hb))
  have hftm := hft.named (plainB n.text.data.toList)
  generalize namedN n (plainB n.text.data.toList) = m at NM hftm ⊢
  clear hb hv hft
  unfold Nd.val at NM ⊢
  rw [hk] at NM HB0 ⊢
  go_enter Tryz.func33, Tryz.ntmps33
  go_wp2_with fail
  refine NM.out.mono ?_
  rintro e w1 ⟨A1, c1, rfl, n1, b1⟩
  have HB1 := Lib.hid (HB0.out.trans (b1.mono HB0.out.size))
  have N1 := Lib.hid n1
  clear b1 n1 NM
  have HBX := HB1
  have OF := Lib.hid (of_f F _ m 16 [] [] _ N1.out hftm (by simp) 0 33 (fun h => absurd rfl h) none (fun h => absurd rfl h) 0 trivial)
  simp only [List.length_cons, List.length_nil, Nat.zero_add, List.map_cons, List.map_nil, fnVal] at OF
  clear hftm N1
  go_wp2_with fail
  refine OF.out.mono ?_
  rintro e wl ⟨rfl, bl⟩
  have HBL := Lib.hid (HBX.out.trans (bl.mono HBX.out.size))
  clear bl OF
  go_wp2_with fail
  go_ret
  exact ⟨rfl, HBL.out⟩

set_option maxRecDepth 100000 in
set_option maxHeartbeats 1000000 in
theorem expr17_any (g : Q → Nd → Bool) (F : Nat) (v : Value) (n : Nd) (W : World)  (hk : n.kind = 17) (hft : Fits n) (hv : NdV W (F + 1) v n) :
    Calls Tryz.prog 33 #[v] W fun e w' => e = .returned (.bool (ofN (namedN n (decide (n.text.size ≤ 1000))) 17 [])) ∧ Below W.heap.size W w' := by
  obtain ⟨A, c, rfl, hm⟩ := hv.val
  have hmf : ∀ fn first cap w, (Instr.makeFunc fn first cap).run Tryz.prog w = .ok (.func fn first cap) w := fun _ _ _ _ => rfl
  have hb : Below W.heap.size W (W.alloc (.cells #[.int .i64 n.kind, .string n.text, .slice A n.kids.length c, .int .i64 n.place] 24)) := (Below.refl _ W).alloc (Nat.le_refl _) _
  have HB0 := Lib.hid hb
  have NM := Lib.hid (named_c F 70 #[] _ n (decide (n.text.size ≤ 1000)) _ ((texts_s n.text W).below hb) (hv.below hb))
  have hftm := hft.named (decide (n.text.size ≤ 1000))
  generalize namedN n (decide (n.text.size ≤ 1000)) = m at NM hftm ⊢
  clear hb hv hft
  unfold Nd.val at NM ⊢
  rw [hk] at NM HB0 ⊢
  go_enter Tryz.func33, Tryz.ntmps33
  go_wp2_with fail
  refine NM.out.mono ?_
  rintro e w1 ⟨A1, c1, rfl, n1, b1⟩
  have HB1 := Lib.hid (HB0.out.trans (b1.mono HB0.out.size))
  have N1 := Lib.hid n1
  clear b1 n1 NM
  have HBX := HB1
  have OF := Lib.hid (of_f F _ m 17 [] [] _ N1.out hftm (by simp) 0 33 (fun h => absurd rfl h) none (fun h => absurd rfl h) 0 trivial)
  simp only [List.length_cons, List.length_nil, Nat.zero_add, List.map_cons, List.map_nil, fnVal] at OF
  clear hftm N1
  go_wp2_with fail
  refine OF.out.mono ?_
  rintro e wl ⟨rfl, bl⟩
  have HBL := Lib.hid (HBX.out.trans (bl.mono HBX.out.size))
  clear bl OF
  go_wp2_with fail
  go_ret
  exact ⟨rfl, HBL.out⟩

set_option maxRecDepth 100000 in
set_option maxHeartbeats 1000000 in
theorem expr18_any (g : Q → Nd → Bool) (F : Nat) (v : Value) (n : Nd) (W : World)  (hk : n.kind = 18) (hft : Fits n) (hv : NdV W (F + 1) v n) :
    Calls Tryz.prog 33 #[v] W fun e w' => e = .returned (.bool (ofN (namedN n (nameB n.text)) 18 [])) ∧ Below W.heap.size W w' := by
  obtain ⟨A, c, rfl, hm⟩ := hv.val
  have hmf : ∀ fn first cap w, (Instr.makeFunc fn first cap).run Tryz.prog w = .ok (.func fn first cap) w := fun _ _ _ _ => rfl
  have hb : Below W.heap.size W (W.alloc (.cells #[.int .i64 n.kind, .string n.text, .slice A n.kids.length c, .int .i64 n.place] 24)) := (Below.refl _ W).alloc (Nat.le_refl _) _
  have HB0 := Lib.hid hb
  have NM := Lib.hid (named_c F 29 #[] _ n (nameB n.text) _ ((name_s n.text W).below hb) (hv.below hb))
  have hftm := hft.named (nameB n.text)
  generalize namedN n (nameB n.text) = m at NM hftm ⊢
  clear hb hv hft
  unfold Nd.val at NM ⊢
  rw [hk] at NM HB0 ⊢
  go_enter Tryz.func33, Tryz.ntmps33
  go_wp2_with fail
  refine NM.out.mono ?_
  rintro e w1 ⟨A1, c1, rfl, n1, b1⟩
  have HB1 := Lib.hid (HB0.out.trans (b1.mono HB0.out.size))
  have N1 := Lib.hid n1
  clear b1 n1 NM
  have HBX := HB1
  have OF := Lib.hid (of_f F _ m 18 [] [] _ N1.out hftm (by simp) 0 33 (fun h => absurd rfl h) none (fun h => absurd rfl h) 0 trivial)
  simp only [List.length_cons, List.length_nil, Nat.zero_add, List.map_cons, List.map_nil, fnVal] at OF
  clear hftm N1
  go_wp2_with fail
  refine OF.out.mono ?_
  rintro e wl ⟨rfl, bl⟩
  have HBL := Lib.hid (HBX.out.trans (bl.mono HBX.out.size))
  clear bl OF
  go_wp2_with fail
  go_ret
  exact ⟨rfl, HBL.out⟩

set_option maxRecDepth 100000 in
set_option maxHeartbeats 1000000 in
theorem expr19_any (g : Q → Nd → Bool) (F : Nat) (v : Value) (n : Nd) (W : World) (E : SaysF W F 33 #[] (g .expr)) (hk : n.kind = 19) (hft : Fits n) (hv : NdV W (F + 1) v n) :
    Calls Tryz.prog 33 #[v] W fun e w' => e = .returned (.bool (ofN (namedN n (twoB [45] [33] n.text)) 19 [g .expr])) ∧ Below W.heap.size W w' := by
  obtain ⟨A, c, rfl, hm⟩ := hv.val
  have hmf : ∀ fn first cap w, (Instr.makeFunc fn first cap).run Tryz.prog w = .ok (.func fn first cap) w := fun _ _ _ _ => rfl
  have hb : Below W.heap.size W (W.alloc (.cells #[.int .i64 n.kind, .string n.text, .slice A n.kids.length c, .int .i64 n.place] 24)) := (Below.refl _ W).alloc (Nat.le_refl _) _
  have HB0 := Lib.hid hb
  have E := Lib.hid E
  have NM := Lib.hid (named_c F 71 #[] _ n (twoB [45] [33] n.text) _ ((unary_s n.text W).below hb) (hv.below hb))
  have hftm := hft.named (twoB [45] [33] n.text)
  generalize namedN n (twoB [45] [33] n.text) = m at NM hftm ⊢
  clear hb hv hft
  unfold Nd.val at NM ⊢
  rw [hk] at NM HB0 ⊢
  go_enter Tryz.func33, Tryz.ntmps33
  go_wp2_with fail
  refine NM.out.mono ?_
  rintro e w1 ⟨A1, c1, rfl, n1, b1⟩
  have HB1 := Lib.hid (HB0.out.trans (b1.mono HB0.out.size))
  have N1 := Lib.hid n1
  clear b1 n1 NM
  have b2 : Below w1.heap.size w1 (w1.alloc (.cells #[.func (.func 33) #[] #[]] 33)) := (Below.refl _ w1).alloc (Nat.le_refl _) _
  have HBX := Lib.hid (HB1.out.trans (b2.mono HB1.out.size))
  have OF := Lib.hid (of_f F _ m 19 [(33, #[])] [(g .expr)] _ (N1.out.below b2) hftm (by simp) w1.heap.size 33 (fun _ => Whole.new w1 33 _) (some ⟨w1.heap.size, 0, none⟩) (fun _ => rfl) 1 ⟨E.out.below HBX.out, trivial⟩)
  clear b2
  simp only [List.length_cons, List.length_nil, Nat.zero_add, List.map_cons, List.map_nil, fnVal] at OF
  clear hftm N1
  go_wp2_with fail
  refine OF.out.mono ?_
  rintro e wl ⟨rfl, bl⟩
  have HBL := Lib.hid (HBX.out.trans (bl.mono HBX.out.size))
  clear bl OF
  go_wp2_with fail
  go_ret
  exact ⟨rfl, HBL.out⟩

set_option maxRecDepth 100000 in
set_option maxHeartbeats 1000000 in
theorem expr20_any (g : Q → Nd → Bool) (F : Nat) (v : Value) (n : Nd) (W : World) (E : SaysF W F 33 #[] (g .expr)) (hbin : AnsS W 72 #[] n.text (binB n.text)) (hk : n.kind = 20) (hft : Fits n) (hv : NdV W (F + 1) v n) :
    Calls Tryz.prog 33 #[v] W fun e w' => e = .returned (.bool (ofN (namedN n (binB n.text)) 20 [g .expr, g .expr])) ∧ Below W.heap.size W w' := by
  obtain ⟨A, c, rfl, hm⟩ := hv.val
  have hmf : ∀ fn first cap w, (Instr.makeFunc fn first cap).run Tryz.prog w = .ok (.func fn first cap) w := fun _ _ _ _ => rfl
  have hb : Below W.heap.size W (W.alloc (.cells #[.int .i64 n.kind, .string n.text, .slice A n.kids.length c, .int .i64 n.place] 24)) := (Below.refl _ W).alloc (Nat.le_refl _) _
  have HB0 := Lib.hid hb
  have E := Lib.hid E
  have NM := Lib.hid (named_c F 72 #[] _ n (binB n.text) _ ((hbin).below hb) (hv.below hb))
  have hftm := hft.named (binB n.text)
  generalize namedN n (binB n.text) = m at NM hftm ⊢
  clear hb hv hft
  unfold Nd.val at NM ⊢
  rw [hk] at NM HB0 ⊢
  go_enter Tryz.func33, Tryz.ntmps33
  go_wp2_with fail
  refine NM.out.mono ?_
  rintro e w1 ⟨A1, c1, rfl, n1, b1⟩
  have HB1 := Lib.hid (HB0.out.trans (b1.mono HB0.out.size))
  have N1 := Lib.hid n1
  clear b1 n1 NM
  have b2 : Below w1.heap.size w1 (w1.alloc (.cells #[.func (.func 33) #[] #[], .func (.func 33) #[] #[]] 33)) := (Below.refl _ w1).alloc (Nat.le_refl _) _
  have HBX := Lib.hid (HB1.out.trans (b2.mono HB1.out.size))
  have OF := Lib.hid (of_f F _ m 20 [(33, #[]), (33, #[])] [(g .expr), (g .expr)] _ (N1.out.below b2) hftm (by simp) w1.heap.size 33 (fun _ => Whole.new w1 33 _) (some ⟨w1.heap.size, 0, none⟩) (fun _ => rfl) 2 ⟨E.out.below HBX.out, E.out.below HBX.out, trivial⟩)
  clear b2
  simp only [List.length_cons, List.length_nil, Nat.zero_add, List.map_cons, List.map_nil, fnVal] at OF
  clear hftm N1
  go_wp2_with fail
  refine OF.out.mono ?_
  rintro e wl ⟨rfl, bl⟩
  have HBL := Lib.hid (HBX.out.trans (bl.mono HBX.out.size))
  clear bl OF
  go_wp2_with fail
  go_ret
  exact ⟨rfl, HBL.out⟩

set_option maxRecDepth 100000 in
set_option maxHeartbeats 1000000 in
theorem expr23_any (g : Q → Nd → Bool) (F : Nat) (v : Value) (n : Nd) (W : World) (E : SaysF W F 33 #[] (g .expr)) (hk : n.kind = 23) (hft : Fits n) (hv : NdV W (F + 1) v n) :
    Calls Tryz.prog 33 #[v] W fun e w' => e = .returned (.bool (ofN (namedN n (nameB n.text)) 23 [g .expr])) ∧ Below W.heap.size W w' := by
  obtain ⟨A, c, rfl, hm⟩ := hv.val
  have hmf : ∀ fn first cap w, (Instr.makeFunc fn first cap).run Tryz.prog w = .ok (.func fn first cap) w := fun _ _ _ _ => rfl
  have hb : Below W.heap.size W (W.alloc (.cells #[.int .i64 n.kind, .string n.text, .slice A n.kids.length c, .int .i64 n.place] 24)) := (Below.refl _ W).alloc (Nat.le_refl _) _
  have HB0 := Lib.hid hb
  have E := Lib.hid E
  have NM := Lib.hid (named_c F 29 #[] _ n (nameB n.text) _ ((name_s n.text W).below hb) (hv.below hb))
  have hftm := hft.named (nameB n.text)
  generalize namedN n (nameB n.text) = m at NM hftm ⊢
  clear hb hv hft
  unfold Nd.val at NM ⊢
  rw [hk] at NM HB0 ⊢
  go_enter Tryz.func33, Tryz.ntmps33
  go_wp2_with fail
  refine NM.out.mono ?_
  rintro e w1 ⟨A1, c1, rfl, n1, b1⟩
  have HB1 := Lib.hid (HB0.out.trans (b1.mono HB0.out.size))
  have N1 := Lib.hid n1
  clear b1 n1 NM
  have b2 : Below w1.heap.size w1 (w1.alloc (.cells #[.func (.func 33) #[] #[]] 33)) := (Below.refl _ w1).alloc (Nat.le_refl _) _
  have HBX := Lib.hid (HB1.out.trans (b2.mono HB1.out.size))
  have OF := Lib.hid (of_f F _ m 23 [(33, #[])] [(g .expr)] _ (N1.out.below b2) hftm (by simp) w1.heap.size 33 (fun _ => Whole.new w1 33 _) (some ⟨w1.heap.size, 0, none⟩) (fun _ => rfl) 1 ⟨E.out.below HBX.out, trivial⟩)
  clear b2
  simp only [List.length_cons, List.length_nil, Nat.zero_add, List.map_cons, List.map_nil, fnVal] at OF
  clear hftm N1
  go_wp2_with fail
  refine OF.out.mono ?_
  rintro e wl ⟨rfl, bl⟩
  have HBL := Lib.hid (HBX.out.trans (bl.mono HBX.out.size))
  clear bl OF
  go_wp2_with fail
  go_ret
  exact ⟨rfl, HBL.out⟩

set_option maxRecDepth 100000 in
set_option maxHeartbeats 1000000 in
theorem type11_any (g : Q → Nd → Bool) (F : Nat) (v : Value) (n : Nd) (W : World) (T : SaysF W F 32 #[] (g .typ)) (hk : n.kind = 11) (hft : Fits n) (hv : NdV W (F + 1) v n) :
    Calls Tryz.prog 32 #[v] W fun e w' => e = .returned (.bool (ofN n 11 [g .typ])) ∧ Below W.heap.size W w' := by
  obtain ⟨A, c, rfl, hm⟩ := hv.val
  have hmf : ∀ fn first cap w, (Instr.makeFunc fn first cap).run Tryz.prog w = .ok (.func fn first cap) w := fun _ _ _ _ => rfl
  have hb : Below W.heap.size W (W.alloc (.cells #[.int .i64 n.kind, .string n.text, .slice A n.kids.length c, .int .i64 n.place] 24)) := (Below.refl _ W).alloc (Nat.le_refl _) _
  have HB0 := Lib.hid hb
  have T := Lib.hid T
  have b2 := hb.alloc (by simp) (.cells #[.func (.func 32) #[] #[]] 33)
  have HBX := Lib.hid b2
  have OF := Lib.hid (of_f F _ n 11 [(32, #[])] [(g .typ)] _ (hv.below b2) hft (by simp) (W.heap.size + 1) 33 (fun _ => by have := Whole.new (W.alloc (.cells #[.int .i64 n.kind, .string n.text, .slice A n.kids.length c, .int .i64 n.place] 24)) 33 #[.func (.func 32) #[] #[]]; rw [World.size_alloc] at this; exact this) (some ⟨W.heap.size + 1, 0, none⟩) (fun _ => rfl) 1 ⟨T.out.below b2, trivial⟩)
  clear b2
  simp only [List.length_cons, List.length_nil, Nat.zero_add, List.map_cons, List.map_nil, fnVal] at OF
  clear hb hv hft HB0
  unfold Nd.val at OF ⊢
  rw [hk] at OF HBX ⊢
  go_enter Tryz.func32, Tryz.ntmps32
  go_wp2_with fail
  refine OF.out.mono ?_
  rintro e wl ⟨rfl, bl⟩
  have HBL := Lib.hid (HBX.out.trans (bl.mono HBX.out.size))
  clear bl OF
  go_wp2_with fail
  go_ret
  exact ⟨rfl, HBL.out⟩

set_option maxRecDepth 100000 in
set_option maxHeartbeats 1000000 in
theorem decl2_any (g : Q → Nd → Bool) (F : Nat) (v : Value) (n : Nd) (W : World) (PA : SaysF W F 61 #[] (paramsB g)) (SI : SaysF W F 35 #[] (isSigB g)) (BL : SaysF W F 62 #[] (blockB g)) (hk : n.kind = 2) (hft : Fits n) (hv : NdV W (F + 1) v n) :
    Calls Tryz.prog 31 #[v] W fun e w' => e = .returned (.bool (ofN (namedN n (nameB n.text)) 2 [paramsB g, isSigB g, blockB g])) ∧ Below W.heap.size W w' := by
  obtain ⟨A, c, rfl, hm⟩ := hv.val
  have hmf : ∀ fn first cap w, (Instr.makeFunc fn first cap).run Tryz.prog w = .ok (.func fn first cap) w := fun _ _ _ _ => rfl
  have hb : Below W.heap.size W (W.alloc (.cells #[.int .i64 n.kind, .string n.text, .slice A n.kids.length c, .int .i64 n.place] 24)) := (Below.refl _ W).alloc (Nat.le_refl _) _
  have HB0 := Lib.hid hb
  have PA := Lib.hid PA
  have SI := Lib.hid SI
  have BL := Lib.hid BL
  have NM := Lib.hid (named_c F 29 #[] _ n (nameB n.text) _ ((name_s n.text W).below hb) (hv.below hb))
  have hftm := hft.named (nameB n.text)
  generalize namedN n (nameB n.text) = m at NM hftm ⊢
  clear hb hv hft
  unfold Nd.val at NM ⊢
  rw [hk] at NM HB0 ⊢
  go_enter Tryz.func31, Tryz.ntmps31
  go_wp2_with fail
  refine NM.out.mono ?_
  rintro e w1 ⟨A1, c1, rfl, n1, b1⟩
  have HB1 := Lib.hid (HB0.out.trans (b1.mono HB0.out.size))
  have N1 := Lib.hid n1
  clear b1 n1 NM
  have b2 : Below w1.heap.size w1 (w1.alloc (.cells #[.func (.func 61) #[] #[], .func (.func 35) #[] #[], .func (.func 62) #[] #[]] 33)) := (Below.refl _ w1).alloc (Nat.le_refl _) _
  have HBX := Lib.hid (HB1.out.trans (b2.mono HB1.out.size))
  have OF := Lib.hid (of_f F _ m 2 [(61, #[]), (35, #[]), (62, #[])] [(paramsB g), (isSigB g), (blockB g)] _ (N1.out.below b2) hftm (by simp) w1.heap.size 33 (fun _ => Whole.new w1 33 _) (some ⟨w1.heap.size, 0, none⟩) (fun _ => rfl) 3 ⟨PA.out.below HBX.out, SI.out.below HBX.out, BL.out.below HBX.out, trivial⟩)
  clear b2
  simp only [List.length_cons, List.length_nil, Nat.zero_add, List.map_cons, List.map_nil, fnVal] at OF
  clear hftm N1
  go_wp2_with fail
  refine OF.out.mono ?_
  rintro e wl ⟨rfl, bl⟩
  have HBL := Lib.hid (HBX.out.trans (bl.mono HBX.out.size))
  clear bl OF
  go_wp2_with fail
  go_ret
  exact ⟨rfl, HBL.out⟩

set_option maxRecDepth 100000 in
set_option maxHeartbeats 1000000 in
theorem decl3_any (g : Q → Nd → Bool) (F : Nat) (v : Value) (n : Nd) (W : World) (PA : SaysF W F 61 #[] (paramsB g)) (T : SaysF W F 32 #[] (g .typ)) (SU : SaysF W F 64 #[] (structB g)) (IR : SaysF W F 65 #[] (interB g)) (hk : n.kind = 3) (hft : Fits n) (hv : NdV W (F + 1) v n) :
    Calls Tryz.prog 31 #[v] W fun e w' => e = .returned (.bool (ofN (namedN n (nameB n.text)) 3 [paramsB g, fun k => (g .typ k || structB g k) || interB g k])) ∧ Below W.heap.size W w' := by
  obtain ⟨A, c, rfl, hm⟩ := hv.val
  have hmf : ∀ fn first cap w, (Instr.makeFunc fn first cap).run Tryz.prog w = .ok (.func fn first cap) w := fun _ _ _ _ => rfl
  have hb : Below W.heap.size W (W.alloc (.cells #[.int .i64 n.kind, .string n.text, .slice A n.kids.length c, .int .i64 n.place] 24)) := (Below.refl _ W).alloc (Nat.le_refl _) _
  have HB0 := Lib.hid hb
  have PA := Lib.hid PA
  have T := Lib.hid T
  have SU := Lib.hid SU
  have IR := Lib.hid IR
  have NM := Lib.hid (named_c F 29 #[] _ n (nameB n.text) _ ((name_s n.text W).below hb) (hv.below hb))
  have hftm := hft.named (nameB n.text)
  generalize namedN n (nameB n.text) = m at NM hftm ⊢
  clear hb hv hft
  unfold Nd.val at NM ⊢
  rw [hk] at NM HB0 ⊢
  go_enter Tryz.func31, Tryz.ntmps31
  go_wp2_with fail
  refine NM.out.mono ?_
  rintro e w1 ⟨A1, c1, rfl, n1, b1⟩
  have HB1 := Lib.hid (HB0.out.trans (b1.mono HB0.out.size))
  have N1 := Lib.hid n1
  clear b1 n1 NM
  go_wp2_with fail
  refine (or_f F 32 64 #[] #[] (g .typ) (structB g) w1 (T.out.below HB1.out) (SU.out.below HB1.out)).mono ?_
  rintro e w2 ⟨rfl, s, b⟩
  have N1 := Lib.hid (N1.out.below b)
  have HB2 := Lib.hid (HB1.out.trans (b.mono HB1.out.size))
  have S2 := Lib.hid s
  clear s b
  go_wp2_with fail
  refine (or_f F 96 65 #[.pointer (some ⟨w1.heap.size, 0, none⟩), .pointer (some ⟨w1.heap.size + 1, 0, none⟩)] #[] (fun k => ((g .typ) k || (structB g) k)) (interB g) w2 S2.out (IR.out.below HB2.out)).mono ?_
  rintro e w3 ⟨rfl, s, b⟩
  have S2 := Lib.hid (S2.out.below b)
  have N1 := Lib.hid (N1.out.below b)
  have HB3 := Lib.hid (HB2.out.trans (b.mono HB2.out.size))
  have S3 := Lib.hid s
  clear s b
  have b2 : Below w3.heap.size w3 (w3.alloc (.cells #[.func (.func 61) #[] #[], .func (.func 96) #[] #[.pointer (some ⟨w2.heap.size, 0, none⟩), .pointer (some ⟨w2.heap.size + 1, 0, none⟩)]] 33)) := (Below.refl _ w3).alloc (Nat.le_refl _) _
  have HBX := Lib.hid (HB3.out.trans (b2.mono HB3.out.size))
  have OF := Lib.hid (of_f F _ m 3 [(61, #[]), (96, #[.pointer (some ⟨w2.heap.size, 0, none⟩), .pointer (some ⟨w2.heap.size + 1, 0, none⟩)])] [(paramsB g), (fun k => (((g .typ) k || (structB g) k) || (interB g) k))] _ (N1.out.below b2) hftm (by simp) w3.heap.size 33 (fun _ => Whole.new w3 33 _) (some ⟨w3.heap.size, 0, none⟩) (fun _ => rfl) 2 ⟨PA.out.below HBX.out, S3.out.below b2, trivial⟩)
  clear b2
  simp only [List.length_cons, List.length_nil, Nat.zero_add, List.map_cons, List.map_nil, fnVal] at OF
  clear hftm N1
  go_wp2_with fail
  refine OF.out.mono ?_
  rintro e wl ⟨rfl, bl⟩
  have HBL := Lib.hid (HBX.out.trans (bl.mono HBX.out.size))
  clear bl OF
  go_wp2_with fail
  go_ret
  exact ⟨rfl, HBL.out⟩

set_option maxRecDepth 100000 in
set_option maxHeartbeats 1000000 in
theorem decl4_any (g : Q → Nd → Bool) (F : Nat) (v : Value) (n : Nd) (W : World) (PA : SaysF W F 61 #[] (paramsB g)) (T : SaysF W F 32 #[] (g .typ)) (hk : n.kind = 4) (hft : Fits n) (hv : NdV W (F + 1) v n) :
    Calls Tryz.prog 31 #[v] W fun e w' => e = .returned (.bool (ofN (namedN n (nameB n.text)) 4 [paramsB g, g .typ])) ∧ Below W.heap.size W w' := by
  obtain ⟨A, c, rfl, hm⟩ := hv.val
  have hmf : ∀ fn first cap w, (Instr.makeFunc fn first cap).run Tryz.prog w = .ok (.func fn first cap) w := fun _ _ _ _ => rfl
  have hb : Below W.heap.size W (W.alloc (.cells #[.int .i64 n.kind, .string n.text, .slice A n.kids.length c, .int .i64 n.place] 24)) := (Below.refl _ W).alloc (Nat.le_refl _) _
  have HB0 := Lib.hid hb
  have PA := Lib.hid PA
  have T := Lib.hid T
  have NM := Lib.hid (named_c F 29 #[] _ n (nameB n.text) _ ((name_s n.text W).below hb) (hv.below hb))
  have hftm := hft.named (nameB n.text)
  generalize namedN n (nameB n.text) = m at NM hftm ⊢
  clear hb hv hft
  unfold Nd.val at NM ⊢
  rw [hk] at NM HB0 ⊢
  go_enter Tryz.func31, Tryz.ntmps31
  go_wp2_with fail
  refine NM.out.mono ?_
  rintro e w1 ⟨A1, c1, rfl, n1, b1⟩
  have HB1 := Lib.hid (HB0.out.trans (b1.mono HB0.out.size))
  have N1 := Lib.hid n1
  clear b1 n1 NM
  have b2 : Below w1.heap.size w1 (w1.alloc (.cells #[.func (.func 61) #[] #[], .func (.func 32) #[] #[]] 33)) := (Below.refl _ w1).alloc (Nat.le_refl _) _
  have HBX := Lib.hid (HB1.out.trans (b2.mono HB1.out.size))
  have OF := Lib.hid (of_f F _ m 4 [(61, #[]), (32, #[])] [(paramsB g), (g .typ)] _ (N1.out.below b2) hftm (by simp) w1.heap.size 33 (fun _ => Whole.new w1 33 _) (some ⟨w1.heap.size, 0, none⟩) (fun _ => rfl) 2 ⟨PA.out.below HBX.out, T.out.below HBX.out, trivial⟩)
  clear b2
  simp only [List.length_cons, List.length_nil, Nat.zero_add, List.map_cons, List.map_nil, fnVal] at OF
  clear hftm N1
  go_wp2_with fail
  refine OF.out.mono ?_
  rintro e wl ⟨rfl, bl⟩
  have HBL := Lib.hid (HBX.out.trans (bl.mono HBX.out.size))
  clear bl OF
  go_wp2_with fail
  go_ret
  exact ⟨rfl, HBL.out⟩

set_option maxRecDepth 100000 in
set_option maxHeartbeats 1000000 in
theorem stmt32_any (g : Q → Nd → Bool) (F : Nat) (v : Value) (n : Nd) (W : World) (E : SaysF W F 33 #[] (g .expr)) (BL : SaysF W F 62 #[] (blockB g)) (hran : AnsS W 80 #[] n.text (rangedB n.text)) (hk : n.kind = 32) (hft : Fits n) (hv : NdV W (F + 1) v n) :
    Calls Tryz.prog 34 #[v] W fun e w' => e = .returned (.bool (ofN (namedN n (rangedB n.text)) 32 [g .expr, blockB g])) ∧ Below W.heap.size W w' := by
  obtain ⟨A, c, rfl, hm⟩ := hv.val
  have hmf : ∀ fn first cap w, (Instr.makeFunc fn first cap).run Tryz.prog w = .ok (.func fn first cap) w := fun _ _ _ _ => rfl
  have hb : Below W.heap.size W (W.alloc (.cells #[.int .i64 n.kind, .string n.text, .slice A n.kids.length c, .int .i64 n.place] 24)) := (Below.refl _ W).alloc (Nat.le_refl _) _
  have HB0 := Lib.hid hb
  have E := Lib.hid E
  have BL := Lib.hid BL
  have NM := Lib.hid (named_c F 80 #[] _ n (rangedB n.text) _ ((hran).below hb) (hv.below hb))
  have hftm := hft.named (rangedB n.text)
  generalize namedN n (rangedB n.text) = m at NM hftm ⊢
  clear hb hv hft
  unfold Nd.val at NM ⊢
  rw [hk] at NM HB0 ⊢
  go_enter Tryz.func34, Tryz.ntmps34
  go_wp2_with fail
  refine NM.out.mono ?_
  rintro e w1 ⟨A1, c1, rfl, n1, b1⟩
  have HB1 := Lib.hid (HB0.out.trans (b1.mono HB0.out.size))
  have N1 := Lib.hid n1
  clear b1 n1 NM
  have b2 : Below w1.heap.size w1 (w1.alloc (.cells #[.func (.func 33) #[] #[], .func (.func 62) #[] #[]] 33)) := (Below.refl _ w1).alloc (Nat.le_refl _) _
  have HBX := Lib.hid (HB1.out.trans (b2.mono HB1.out.size))
  have OF := Lib.hid (of_f F _ m 32 [(33, #[]), (62, #[])] [(g .expr), (blockB g)] _ (N1.out.below b2) hftm (by simp) w1.heap.size 33 (fun _ => Whole.new w1 33 _) (some ⟨w1.heap.size, 0, none⟩) (fun _ => rfl) 2 ⟨E.out.below HBX.out, BL.out.below HBX.out, trivial⟩)
  clear b2
  simp only [List.length_cons, List.length_nil, Nat.zero_add, List.map_cons, List.map_nil, fnVal] at OF
  clear hftm N1
  go_wp2_with fail
  refine OF.out.mono ?_
  rintro e wl ⟨rfl, bl⟩
  have HBL := Lib.hid (HBX.out.trans (bl.mono HBX.out.size))
  clear bl OF
  go_wp2_with fail
  go_ret
  exact ⟨rfl, HBL.out⟩

set_option maxRecDepth 100000 in
set_option maxHeartbeats 1000000 in
theorem stmt34_any (g : Q → Nd → Bool) (F : Nat) (v : Value) (n : Nd) (W : World)  (hk : n.kind = 34) (hft : Fits n) (hv : NdV W (F + 1) v n) :
    Calls Tryz.prog 34 #[v] W fun e w' => e = .returned (.bool (ofN n 34 [])) ∧ Below W.heap.size W w' := by
  obtain ⟨A, c, rfl, hm⟩ := hv.val
  have hmf : ∀ fn first cap w, (Instr.makeFunc fn first cap).run Tryz.prog w = .ok (.func fn first cap) w := fun _ _ _ _ => rfl
  have hb : Below W.heap.size W (W.alloc (.cells #[.int .i64 n.kind, .string n.text, .slice A n.kids.length c, .int .i64 n.place] 24)) := (Below.refl _ W).alloc (Nat.le_refl _) _
  have HB0 := Lib.hid hb
  have HBX := HB0
  have OF := Lib.hid (of_f F _ n 34 [] [] _ (hv.below hb) hft (by simp) 0 33 (fun h => absurd rfl h) none (fun h => absurd rfl h) 0 trivial)
  simp only [List.length_cons, List.length_nil, Nat.zero_add, List.map_cons, List.map_nil, fnVal] at OF
  clear hb hv hft HB0
  unfold Nd.val at OF ⊢
  rw [hk] at OF HBX ⊢
  go_enter Tryz.func34, Tryz.ntmps34
  go_wp2_with fail
  refine OF.out.mono ?_
  rintro e wl ⟨rfl, bl⟩
  have HBL := Lib.hid (HBX.out.trans (bl.mono HBX.out.size))
  clear bl OF
  go_wp2_with fail
  go_ret
  exact ⟨rfl, HBL.out⟩

set_option maxRecDepth 100000 in
set_option maxHeartbeats 1000000 in
theorem stmt35_any (g : Q → Nd → Bool) (F : Nat) (v : Value) (n : Nd) (W : World)  (hk : n.kind = 35) (hft : Fits n) (hv : NdV W (F + 1) v n) :
    Calls Tryz.prog 34 #[v] W fun e w' => e = .returned (.bool (ofN n 35 [])) ∧ Below W.heap.size W w' := by
  obtain ⟨A, c, rfl, hm⟩ := hv.val
  have hmf : ∀ fn first cap w, (Instr.makeFunc fn first cap).run Tryz.prog w = .ok (.func fn first cap) w := fun _ _ _ _ => rfl
  have hb : Below W.heap.size W (W.alloc (.cells #[.int .i64 n.kind, .string n.text, .slice A n.kids.length c, .int .i64 n.place] 24)) := (Below.refl _ W).alloc (Nat.le_refl _) _
  have HB0 := Lib.hid hb
  have HBX := HB0
  have OF := Lib.hid (of_f F _ n 35 [] [] _ (hv.below hb) hft (by simp) 0 33 (fun h => absurd rfl h) none (fun h => absurd rfl h) 0 trivial)
  simp only [List.length_cons, List.length_nil, Nat.zero_add, List.map_cons, List.map_nil, fnVal] at OF
  clear hb hv hft HB0
  unfold Nd.val at OF ⊢
  rw [hk] at OF HBX ⊢
  go_enter Tryz.func34, Tryz.ntmps34
  go_wp2_with fail
  refine OF.out.mono ?_
  rintro e wl ⟨rfl, bl⟩
  have HBL := Lib.hid (HBX.out.trans (bl.mono HBX.out.size))
  clear bl OF
  go_wp2_with fail
  go_ret
  exact ⟨rfl, HBL.out⟩

end Go.Proofs.YtkmhijkpbmcgbaaGreat
