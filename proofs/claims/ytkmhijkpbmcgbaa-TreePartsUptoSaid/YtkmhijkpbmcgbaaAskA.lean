/-
  The questions' contracts: nothing, lists, parameters, signatures, types.
-/
import Derived.Test.YtkmhijkpbmcgbaaAsk
import Derived.Test.YtkmhijkpbmcgbaaHeld
import Derived.Laws.EntriesVeiled
namespace Go.Proofs.Ytkmhijkpbmcgbaa
set_option linter.all false
open Go.RowKit Go.Shelf

theorem NdV.lst {w : World} {f : Nat} {n : Nd} {A : Option Addr} {c : Nat} (h : NdV w (f + 1) (n.val A c) n) : LstAt w f n.kids A := by
  obtain ⟨A', c', e, _, hc⟩ := h
  have : A = A' := by
    unfold Nd.val at e
    simp only [Value.agg.injEq, Array.mk.injEq, List.cons.injEq, Value.slice.injEq] at e
    exact e.2.2.1.1
  subst this
  exact hc

set_option maxRecDepth 100000 in
theorem empty_any (f : Nat) (v : Value) (n : Nd) (W : World) (hv : NdV W f v n) : Calls Try.prog 62 #[v] W fun e w' => e = .returned (.bool (emptyB n)) ∧ Below W.heap.size W w' := by
  obtain ⟨A, c, rfl, hm⟩ := hv.val
  unfold Nd.val
  clear hv
  unfold emptyB
  generalize n.kids.length = l
  have hb : Below W.heap.size W (W.alloc (.cells #[.int .i64 n.kind, .string n.text, .slice A l c, .int .i64 n.place] 24)) := (Below.refl _ W).alloc (Nat.le_refl _) _
  have HB := Lib.hid hb
  clear hb
  cases h1 : (n.kind == 0) <;> cases h2 : (n.text.toList == []) <;> cases h3 : ((l : Int) == 0) <;>
  (go_enter Try.func62, Try.ntmps62
   go_wp2_with fail
   go_ret
   exact ⟨rfl, HB.out⟩)
theorem empty_f (w : World) (F : Nat) : SaysF w F 62 #[] emptyB := ⟨enters_of Try.func62 (by kernel_rfl) rfl, fun W v n hW hft hv => empty_any F v n W hv⟩

set_option maxRecDepth 100000 in
theorem list_any (F g : Nat) (cb : Array Value) (q : Nd → Bool) (v : Value) (n : Nd) (W : World) (hs : SaysF W F g cb q) (hft : Fits n) (hv : NdV W (F + 1) v n) :
    Calls Try.prog 69 #[v, .func (.func g) #[] cb] W fun e w' => e = .returned (.bool (listB q n)) ∧ Below W.heap.size W w' := by
  obtain ⟨A, c, rfl, hm⟩ := hv.val
  have hb : Below W.heap.size W (W.alloc (.cells #[.int .i64 n.kind, .string n.text, .slice A n.kids.length c, .int .i64 n.place] 24)) := (Below.refl _ W).alloc (Nat.le_refl _) _
  have AL := Lib.hid (all_f F g cb q n.kids A c _ (hs.below hb) (hv.lst.below hb) (fun k hk => hft.kid hk) hm)
  have HB := Lib.hid hb
  have eg := hs.1
  clear hb hv hs hft
  unfold listB
  unfold Nd.val
  generalize n.kids.all q = r at AL ⊢
  cases h1 : (n.kind == 6) <;> cases h2 : (n.text.toList == []) <;>
    (go_enter Try.func69, Try.ntmps69
     go_wp2_with fail)
  all_goals first
    | (go_ret; exact ⟨rfl, HB.out⟩)
    | (refine AL.out.mono ?_
       rintro e w2 ⟨rfl, b2⟩
       have HB2 := Lib.hid (HB.out.trans (b2.mono HB.out.size))
       clear b2
       go_wp2_with fail
       go_ret
       exact ⟨rfl, HB2.out⟩)

def SaysS (w : World) (g : Nat) (cb : Array Value) (so : ByteArray → Bool) : Prop := ∀ s, AnsS w g cb s (so s)
theorem AnsS.below {w w' : World} (hb : Below w.heap.size w w') {g : Nat} {cb : Array Value} {s : ByteArray} {r : Bool} (h : AnsS w g cb s r) : AnsS w' g cb s r := ⟨h.1, fun W hW => h.2 W (hb.trans (hW.mono hb.size))⟩
theorem SaysS.below {w w' : World} (hb : Below w.heap.size w w') {g : Nat} {cb : Array Value} {so : ByteArray → Bool} (h : SaysS w g cb so) : SaysS w' g cb so := fun s => (h s).below hb

set_option maxRecDepth 100000 in
set_option maxHeartbeats 1000000 in
theorem param_any (g : Q → Nd → Bool) (F gs : Nat) (cb : Array Value) (so : ByteArray → Bool) (v : Value) (n : Nd) (W : World) (T : SaysF W F 35 #[] (g .typ)) (hso : SaysS W gs cb so) (B : Nat) (hB : W.cell? ⟨B, 0, none⟩ = some (.func (.func gs) #[] cb)) (hft : Fits n) (hv : NdV W (F + 1) v n) :
    Calls Try.prog 75 #[v, .pointer (some ⟨B, 0, none⟩)] W fun e w' => e = .returned (.bool (paramB g so n)) ∧ Below W.heap.size W w' := by
  obtain ⟨A, c, rfl, hm⟩ := hv.val
  have hlt := cell_lt hB
  have hb : Below W.heap.size W (W.alloc (.cells #[.int .i64 n.kind, .string n.text, .slice A n.kids.length c, .int .i64 n.place] 24)) := (Below.refl _ W).alloc (Nat.le_refl _) _
  have NM := Lib.hid (named_c F gs cb _ n (so n.text) _ ((hso n.text).below hb) (hv.below hb))
  have HB := Lib.hid hb
  have HT := Lib.hid T
  unfold paramB
  have hftm := hft.named (so n.text)
  generalize namedN n (so n.text) = m at NM hftm ⊢
  clear hb hv hso hft T
  unfold Nd.val at NM ⊢
  go_enter Try.func75, Try.ntmps75
  go_wp2_with fail
  refine NM.out.mono ?_
  rintro e w1 ⟨A1, c1, rfl, n1, b1⟩
  have b2 : Below w1.heap.size w1 (w1.alloc (.cells #[.func (.func 35) #[] #[]] 30)) := (Below.refl _ w1).alloc (Nat.le_refl _) _
  have HB2 := Lib.hid (HB.out.trans ((b1.trans (b2.mono b1.size)).mono HB.out.size))
  have OF := Lib.hid (of_f F _ m 8 [(35, #[])] [g .typ] _ (n1.below b2) hftm (by decide) w1.heap.size 30 (fun _ => Whole.new w1 30 _) (some ⟨w1.heap.size, 0, none⟩) (fun _ => rfl) 1 ⟨HT.out.below HB2.out, trivial⟩)
  simp only [List.length_cons, List.length_nil, Nat.zero_add, List.map_cons, List.map_nil, fnVal] at OF
  clear b1 b2 n1 NM HT hftm
  go_wp2_with fail
  refine OF.out.mono ?_
  rintro e w2 ⟨rfl, b2⟩
  have HB3 := Lib.hid (HB2.out.trans (b2.mono HB2.out.size))
  clear b2 OF
  go_wp2_with fail
  go_ret
  exact ⟨rfl, HB3.out⟩

set_option maxRecDepth 100000 in
set_option maxHeartbeats 1000000 in
theorem plist_any (F gp : Nat) (cb : Array Value) (q : Nd → Bool) (v : Value) (n : Nd) (W : World) (hs : SaysF W F gp cb q) (B : Nat) (hB : W.cell? ⟨B, 0, none⟩ = some (.func (.func gp) #[] cb)) (hft : Fits n) (hv : NdV W (F + 1) v n) :
    Calls Try.prog 76 #[v, .pointer (some ⟨B, 0, none⟩)] W fun e w' => e = .returned (.bool (listB q n)) ∧ Below W.heap.size W w' := by
  obtain ⟨A, c, rfl, hm⟩ := hv.val
  have hlt := cell_lt hB
  have hb : Below W.heap.size W (W.alloc (.cells #[.int .i64 n.kind, .string n.text, .slice A n.kids.length c, .int .i64 n.place] 24)) := (Below.refl _ W).alloc (Nat.le_refl _) _
  have LI := Lib.hid (list_any F gp cb q _ n _ (hs.below hb) hft (hv.below hb))
  have HB := Lib.hid hb
  clear hb hv hs hft
  unfold Nd.val at LI ⊢
  go_enter Try.func76, Try.ntmps76
  go_wp2_with fail
  refine LI.out.mono ?_
  rintro e w1 ⟨rfl, b1⟩
  have HB2 := Lib.hid (HB.out.trans (b1.mono HB.out.size))
  clear b1
  go_wp2_with fail
  go_ret
  exact ⟨rfl, HB2.out⟩

set_option maxRecDepth 100000 in
set_option maxHeartbeats 1000000 in
theorem sig_any (g : Q → Nd → Bool) (F gs : Nat) (cb : Array Value) (so : ByteArray → Bool) (v : Value) (n : Nd) (W : World) (T : SaysF W F 35 #[] (g .typ)) (hso : SaysS W gs cb so) (hft : Fits n) (hv : NdV W (F + 1) v n) :
    Calls Try.prog 50 #[v, .func (.func gs) #[] cb] W fun e w' => e = .returned (.bool (sigB g so n)) ∧ Below W.heap.size W w' := by
  obtain ⟨A, c, rfl, hm⟩ := hv.val
  have hmf : ∀ fn first cap w, (Instr.makeFunc fn first cap).run Try.prog w = .ok (.func fn first cap) w := fun _ _ _ _ => rfl
  have hb : Below W.heap.size W (((W.alloc (.cells #[.int .i64 n.kind, .string n.text, .slice A n.kids.length c, .int .i64 n.place] 24)).alloc (.cells #[.func (.func gs) #[] cb] 52)).alloc (.cells #[.func (.func 75) #[] #[.pointer (some ⟨W.heap.size + 1, 0, none⟩)]] 30)) := (((Below.refl _ W).alloc (Nat.le_refl _) _).alloc (by simp) _).alloc (by simp; omega) _
  have k0 : Whole (((W.alloc (.cells #[.int .i64 n.kind, .string n.text, .slice A n.kids.length c, .int .i64 n.place] 24)).alloc (.cells #[.func (.func gs) #[] cb] 52)).alloc (.cells #[.func (.func 75) #[] #[.pointer (some ⟨W.heap.size + 1, 0, none⟩)]] 30)) W.heap.size 24 #[.int .i64 n.kind, .string n.text, .slice A n.kids.length c, .int .i64 n.place] := ((Whole.new W 24 _).alloc _).alloc _
  have k1 : Whole (((W.alloc (.cells #[.int .i64 n.kind, .string n.text, .slice A n.kids.length c, .int .i64 n.place] 24)).alloc (.cells #[.func (.func gs) #[] cb] 52)).alloc (.cells #[.func (.func 75) #[] #[.pointer (some ⟨W.heap.size + 1, 0, none⟩)]] 30)) (W.heap.size + 1) 52 #[.func (.func gs) #[] cb] := by
    have := (Whole.new (W.alloc (.cells #[.int .i64 n.kind, .string n.text, .slice A n.kids.length c, .int .i64 n.place] 24)) 52 #[.func (.func gs) #[] cb]).alloc (.cells #[.func (.func 75) #[] #[.pointer (some ⟨W.heap.size + 1, 0, none⟩)]] 30)
    simpa using this
  have k2 : Whole (((W.alloc (.cells #[.int .i64 n.kind, .string n.text, .slice A n.kids.length c, .int .i64 n.place] 24)).alloc (.cells #[.func (.func gs) #[] cb] 52)).alloc (.cells #[.func (.func 75) #[] #[.pointer (some ⟨W.heap.size + 1, 0, none⟩)]] 30)) (W.heap.size + 1 + 1) 30 #[.func (.func 75) #[] #[.pointer (some ⟨W.heap.size + 1, 0, none⟩)]] := by
    have := Whole.new ((W.alloc (.cells #[.int .i64 n.kind, .string n.text, .slice A n.kids.length c, .int .i64 n.place] 24)).alloc (.cells #[.func (.func gs) #[] cb] 52)) 30 #[.func (.func 75) #[] #[.pointer (some ⟨W.heap.size + 1, 0, none⟩)]]
    simpa using this
  have hv1 := hv.below hb
  unfold Nd.val at hv1 ⊢
  unfold sigB
  go_enter Try.func50, Try.ntmps50
  go_wp2_with fail
  obtain ⟨W1, hW1⟩ : ∃ W1, W1 = (((W.alloc (.cells #[.int .i64 n.kind, .string n.text, .slice A n.kids.length c, .int .i64 n.place] 24)).alloc (.cells #[.func (.func gs) #[] cb] 52)).alloc (.cells #[.func (.func 75) #[] #[.pointer (some ⟨W.heap.size + 1, 0, none⟩)]] 30)) := ⟨_, rfl⟩
  rw [← hW1] at hb k0 k1 k2 hv1 ⊢
  clear hW1
  have kp : ∀ w', Below W1.heap.size W1 w' → w'.cell? ⟨W.heap.size, 0, none⟩ = some (.int .i64 n.kind) ∧ w'.cell? ⟨W.heap.size, 1, none⟩ = some (.string n.text) ∧ w'.cell? ⟨W.heap.size, 2, none⟩ = some (.slice A n.kids.length c) ∧ w'.cell? ⟨W.heap.size, 3, none⟩ = some (.int .i64 n.place) := fun w' hW => have h1 := k0.below hW k0.lt; ⟨h1.cell 0, h1.cell 1, h1.cell 2, h1.cell 3⟩
  have KP := Lib.hid kp
  have HB := Lib.hid hb
  have PS : Hid (SaysF W1 F 75 #[.pointer (some ⟨W.heap.size + 1, 0, none⟩)] (paramB g so)) := Lib.hid ⟨enters_of Try.func75 (by kernel_rfl) rfl, fun w' v' n' hW' hft' hv' =>
    param_any g F gs cb so v' n' w' (T.below (hb.trans (hW'.mono hb.size))) (hso.below (hb.trans (hW'.mono hb.size))) _ ((hW'.cell (p := ⟨W.heap.size + 1, 0, none⟩) k1.lt).trans (k1.cell 0)) hft' (hv'.le (Nat.le_succ _))⟩
  have LS : Hid (SaysF W1 F 76 #[.pointer (some ⟨W.heap.size + 1 + 1, 0, none⟩)] (listB (paramB g so))) := Lib.hid ⟨enters_of Try.func76 (by kernel_rfl) rfl, fun w' v' n' hW' hft' hv' =>
    plist_any F 75 _ _ v' n' w' (PS.out.below hW') _ ((hW'.cell (p := ⟨W.heap.size + 1 + 1, 0, none⟩) k2.lt).trans (k2.cell 0)) hft' (hv'.le (Nat.le_succ _))⟩
  have OR := Lib.hid fun w' (hW' : Below W1.heap.size W1 w') => or_f F 62 35 #[] #[] emptyB (g .typ) w' (empty_f w' F) (T.below (hb.trans (hW'.mono hb.size)))
  have HV := Lib.hid hv1
  have e35 : ∀ args w, (callFunc 35 args).run Try.prog w = .ok (.enter 35 args) w := T.1
  clear kp hb k0 k1 k2 hv1 hv T hso PS
  obtain ⟨V0, hV0⟩ : ∃ V, V = W1.drew := ⟨_, rfl⟩
  have D0 : Hid (Below W1.heap.size W1 V0) := by rw [hV0]; exact Lib.hid (Below.refl _ W1).drew
  refine Held.begin_ (fun w' => w'.cell? ⟨W.heap.size, 0, none⟩ = some (.int .i64 n.kind) ∧ w'.cell? ⟨W.heap.size, 1, none⟩ = some (.string n.text) ∧ w'.cell? ⟨W.heap.size, 2, none⟩ = some (.slice A n.kids.length c) ∧ w'.cell? ⟨W.heap.size, 3, none⟩ = some (.int .i64 n.place)) (fun _ => True) 99 (by kernel_rfl) (KP.out _ (Below.refl _ W1).drew) (trivial) ?_
  rw [← hV0]
  clear hV0
  refine Held.take (i := 0) (oi := { dst := some 7, op := Op.load 24 (Operand.tmp 2), type := 24, pos := "tree.go:83", after := #[], guard := none }) (v := ?_) false [] rfl (by decide) (by kernel_rfl) (by kernel_rfl) (by kernel_rfl) (by kernel_rfl) (fun _ _ _ h => h) (Or.inl ⟨by rfl, ?_⟩) ?_
  rotate_left
  · rintro w ⟨hS0, hS1⟩
    clear hS1
    (try dsimp only at hS0)
    go_simp
    (try with_reducible rfl)
  try simp only [Act.put, List.setIfInBounds_toArray, List.set_cons_zero, List.set_cons_succ]
  refine Held.take (i := 1) (oi := { dst := some 8, op := Op.makeFunc (Fn.func 76) #[] #[Operand.tmp 5], type := 30, pos := "tree.go:83", after := #[], guard := none }) (v := ?_) false [] rfl (by decide) (by kernel_rfl) (by kernel_rfl) (by kernel_rfl) (by kernel_rfl) (fun _ _ _ h => h) (Or.inl ⟨by rfl, ?_⟩) ?_
  rotate_left
  · rintro w ⟨hS0, hS1⟩
    clear hS1
    (try dsimp only at hS0)
    go_simp
    (try with_reducible rfl)
  try simp only [Act.put, List.setIfInBounds_toArray, List.set_cons_zero, List.set_cons_succ]
  refine Held.step (i := 2) (o := { dst := some 9, op := Op.call { callee := Callee.value (Operand.func 46), args := #[Operand.func 62, Operand.func 35], argTypes := #[30, 30] }, type := 30, pos := "tree.go:83", after := #[], guard := none }) rfl (by kernel_rfl) (fun K hK => ?_)
  go_simp
  go_at_call 46
  refine (OR.out _ D0.out).mono ?_
  rintro e V1 ⟨rfl, s2, b2⟩
  have D1 := Lib.hid (D0.out.trans (b2.mono D0.out.size))
  have S2 := Lib.hid s2
  clear b2 s2
  refine hK.out _ _ ⟨KP.out _ D1.out, fun _ => trivial⟩ ?_
  clear hK K
  try simp only [Act.put, List.setIfInBounds_toArray, List.set_cons_zero, List.set_cons_succ]
  refine Held.step (i := 3) (o := { dst := some 10, op := Op.buildSlice 61 2 #[(0, Operand.tmp 8), (1, Operand.tmp 9)], type := 61, pos := "tree.go:83", after := #[{ on := 1, ground := Ground.data }, { on := 2, ground := Ground.data }], guard := none }) rfl (by kernel_rfl) (fun K hK => ?_)
  go_simp
  refine hK.out _ _ ⟨KP.out _ (D1.out.alloc D1.out.size _), fun _ => trivial⟩ ?_
  clear hK K
  try simp only [Act.put, List.setIfInBounds_toArray, List.set_cons_zero, List.set_cons_succ]
  have b2 : Below V1.heap.size V1 (V1.alloc (.cells #[.func (.func 76) #[] #[.pointer (some ⟨W.heap.size + 1 + 1, 0, none⟩)], .func (.func 71) #[] #[.pointer (some ⟨V0.heap.size, 0, none⟩), .pointer (some ⟨V0.heap.size + 1, 0, none⟩)]] 30)) := (Below.refl _ V1).alloc (Nat.le_refl _) _
  have D2 := Lib.hid (D1.out.trans (b2.mono D1.out.size))
  have OF := Lib.hid (of_f F _ n 12 [(76, #[.pointer (some ⟨W.heap.size + 1 + 1, 0, none⟩)]), (71, #[.pointer (some ⟨V0.heap.size, 0, none⟩), .pointer (some ⟨V0.heap.size + 1, 0, none⟩)])] [listB (paramB g so), fun k => emptyB k || g .typ k] _ (HV.out.below D2.out) hft (by simp) V1.heap.size 30 (fun _ => Whole.new V1 30 _) (some ⟨V1.heap.size, 0, none⟩) (fun _ => rfl) 2 ⟨LS.out.below D2.out, S2.out.below b2, trivial⟩)
  simp only [List.length_cons, List.length_nil, Nat.zero_add, List.map_cons, List.map_nil, fnVal] at OF
  clear b2
  refine Held.step (i := 4) (o := { dst := some 11, op := Op.call { callee := Callee.value (Operand.func 42), args := #[Operand.tmp 7, Operand.const (Value.int IntKind.i64 12), Operand.tmp 10], argTypes := #[24, 3, 61] }, type := 4, pos := "tree.go:83", after := #[{ on := 0, ground := Ground.data }, { on := 3, ground := Ground.data }, { on := 2, ground := Ground.chain }], guard := none }) rfl (by kernel_rfl) (fun K hK => ?_)
  go_simp
  go_at_call 42
  refine OF.out.mono ?_
  rintro e V3 ⟨rfl, b3⟩
  have D3 := Lib.hid (D2.out.trans (b3.mono D2.out.size))
  clear b3
  refine hK.out _ _ ⟨KP.out _ D3.out, fun _ => trivial⟩ ?_
  clear hK K
  try simp only [Act.put, List.setIfInBounds_toArray, List.set_cons_zero, List.set_cons_succ]
  refine Held.take (i := 5) (oi := { dst := some 4, op := Op.assign (Operand.tmp 11), type := 4, pos := "tree.go:83", after := #[{ on := 4, ground := Ground.data }, { on := 4, ground := Ground.chain }, { on := 0, ground := Ground.phase }, { on := 1, ground := Ground.phase }, { on := 2, ground := Ground.phase }, { on := 3, ground := Ground.phase }, { on := 4, ground := Ground.phase }], guard := none }) (v := ?_) false [] rfl (by decide) (by kernel_rfl) (by kernel_rfl) (by kernel_rfl) (by kernel_rfl) (fun _ _ _ h => h) (Or.inl ⟨by rfl, ?_⟩) ?_
  rotate_left
  · rintro w ⟨hS0, hS1⟩
    clear hS1
    (try dsimp only at hS0)
    go_simp
    (try with_reducible rfl)
  try simp only [Act.put, List.setIfInBounds_toArray, List.set_cons_zero, List.set_cons_succ]
  refine Held.done (by kernel_rfl) ?_ _
  go_wp2_with fail
  go_ret
  exact ⟨rfl, HB.out.trans (D3.out.mono HB.out.size)⟩

end Go.Proofs.Ytkmhijkpbmcgbaa
