/-
  The questions' contracts: structs, constraints, blocks, calls that stand alone.
  The questions' contracts: parameters of types, ifs, loops, returns.
-/
import Derived.Test.YtkmhijkpbmcgbaaGreatAskX
namespace Go.Proofs.YtkmhijkpbmcgbaaGreat
set_option linter.all false
open Go.RowKit Go.Shelf

set_option maxRecDepth 100000 in
set_option maxHeartbeats 1000000 in
theorem struct_any (g : Q → Nd → Bool) (F : Nat) (v : Value) (n : Nd) (W : World)  (AS : SaysF W F 97 #[] (fieldB g)) (hft : Fits n) (hv : NdV W (F + 1) v n) :
    Calls Tryz.prog 64 #[v] W fun e w' => e = .returned (.bool (n.kind == 13 && n.text.toList == [] && n.kids.all (fieldB g))) ∧ Below W.heap.size W w' := by
  obtain ⟨A, c, rfl, hm⟩ := hv.val
  have hb : Below W.heap.size W (W.alloc (.cells #[.int .i64 n.kind, .string n.text, .slice A n.kids.length c, .int .i64 n.place] 24)) := (Below.refl _ W).alloc (Nat.le_refl _) _
  have AL := Lib.hid (all_f F 97 #[] (fieldB g) n.kids A c _ (AS.below hb) (hv.lst.below hb) (fun k hk => hft.kid hk) hm)
  have HB := Lib.hid hb
  have eg := AS.1
  clear hb hv AS hft
  unfold Nd.val
  generalize n.kids.all (fieldB g) = r at AL ⊢
  cases h1 : (n.kind == 13) <;> cases h2 : (n.text.toList == []) <;>
    (go_enter Tryz.func64, Tryz.ntmps64
     go_wp2_with fail)
  all_goals first
    | (go_ret; exact ⟨rfl, HB.out⟩)
    | (refine AL.out.mono ?_
       rintro e w2 ⟨rfl, b2⟩
       have HB2 := Lib.hid (HB.out.trans (b2.mono HB.out.size))
       clear b2
       go_wp2_with fail
       go_ret
       exact ⟨rfl, HB2.out⟩)

set_option maxRecDepth 100000 in
set_option maxHeartbeats 1000000 in
theorem inter_any (g : Q → Nd → Bool) (F : Nat) (v : Value) (n : Nd) (W : World)  (AS : SaysF W F 98 #[] (termB g)) (hft : Fits n) (hv : NdV W (F + 1) v n) :
    Calls Tryz.prog 65 #[v] W fun e w' => e = .returned (.bool (n.kind == 14 && n.text.toList == [] && decide (0 < n.kids.length) && n.kids.all (termB g))) ∧ Below W.heap.size W w' := by
  obtain ⟨A, c, rfl, hm⟩ := hv.val
  have hb : Below W.heap.size W (W.alloc (.cells #[.int .i64 n.kind, .string n.text, .slice A n.kids.length c, .int .i64 n.place] 24)) := (Below.refl _ W).alloc (Nat.le_refl _) _
  have AL := Lib.hid (all_f F 98 #[] (termB g) n.kids A c _ (AS.below hb) (hv.lst.below hb) (fun k hk => hft.kid hk) hm)
  have HB := Lib.hid hb
  have eg := AS.1
  clear hb hv AS hft
  unfold Nd.val
  generalize n.kids.all (termB g) = r at AL ⊢
  have l1 : decide ((0 : Int) < (n.kids.length : Int)) = decide (0 < n.kids.length) := by simp only [decide_eq_decide]; omega
  have LL := Lib.hid l1
  clear l1
  cases h1 : (n.kind == 14) <;> cases h2 : (n.text.toList == []) <;> cases h3 : decide (0 < n.kids.length) <;>
    (have h4 := LL.out
     rw [h3] at h4
     go_enter Tryz.func65, Tryz.ntmps65
     go_wp2_with fail)
  all_goals first
    | (go_ret; exact ⟨rfl, HB.out⟩)
    | (refine AL.out.mono ?_
       rintro e w2 ⟨rfl, b2⟩
       have HB2 := Lib.hid (HB.out.trans (b2.mono HB.out.size))
       clear b2
       go_wp2_with fail
       go_ret
       exact ⟨rfl, HB2.out⟩)

set_option maxRecDepth 100000 in
set_option maxHeartbeats 1000000 in
theorem block_any (g : Q → Nd → Bool) (F : Nat) (v : Value) (n : Nd) (W : World)  (AS : SaysF W F 34 #[] (g .stmt)) (hft : Fits n) (hv : NdV W (F + 1) v n) :
    Calls Tryz.prog 62 #[v] W fun e w' => e = .returned (.bool (n.kind == 36 && n.text.toList == [] && n.kids.all (g .stmt))) ∧ Below W.heap.size W w' := by
  obtain ⟨A, c, rfl, hm⟩ := hv.val
  have hb : Below W.heap.size W (W.alloc (.cells #[.int .i64 n.kind, .string n.text, .slice A n.kids.length c, .int .i64 n.place] 24)) := (Below.refl _ W).alloc (Nat.le_refl _) _
  have AL := Lib.hid (all_f F 34 #[] (g .stmt) n.kids A c _ (AS.below hb) (hv.lst.below hb) (fun k hk => hft.kid hk) hm)
  have HB := Lib.hid hb
  have eg := AS.1
  clear hb hv AS hft
  unfold Nd.val
  generalize n.kids.all (g .stmt) = r at AL ⊢
  cases h1 : (n.kind == 36) <;> cases h2 : (n.text.toList == []) <;>
    (go_enter Tryz.func62, Tryz.ntmps62
     go_wp2_with fail)
  all_goals first
    | (go_ret; exact ⟨rfl, HB.out⟩)
    | (refine AL.out.mono ?_
       rintro e w2 ⟨rfl, b2⟩
       have HB2 := Lib.hid (HB.out.trans (b2.mono HB.out.size))
       clear b2
       go_wp2_with fail
       go_ret
       exact ⟨rfl, HB2.out⟩)

set_option maxRecDepth 100000 in
set_option maxHeartbeats 1000000 in
theorem named1_any (g : Q → Nd → Bool) (F : Nat) (v : Value) (n : Nd) (W : World) (AS : SaysF W F 32 #[] (g .typ)) (hft : Fits n) (hv : NdV W F v n) :
    Calls Tryz.prog 93 #[v] W fun e w' => e = .returned (.bool (n.kind == 10 && (g .typ) n)) ∧ Below W.heap.size W w' := by
  obtain ⟨A, c, rfl, hm⟩ := hv.val
  have hb : Below W.heap.size W (W.alloc (.cells #[.int .i64 n.kind, .string n.text, .slice A n.kids.length c, .int .i64 n.place] 24)) := (Below.refl _ W).alloc (Nat.le_refl _) _
  have AL := Lib.hid (AS.2 _ _ n hb hft (hv.below hb))
  have HB := Lib.hid hb
  have eg := AS.1
  clear hb hv AS hft
  unfold Nd.val at AL ⊢
  generalize (g .typ) n = r at AL ⊢
  cases h1 : (n.kind == 10) <;>
    (go_enter Tryz.func93, Tryz.ntmps93
     go_wp2_with fail)
  all_goals first
    | (go_ret; exact ⟨rfl, HB.out⟩)
    | (refine AL.out.mono ?_
       rintro e w2 ⟨rfl, b2⟩
       have HB2 := Lib.hid (HB.out.trans (b2.mono HB.out.size))
       clear b2
       go_wp2_with fail
       go_ret
       exact ⟨rfl, HB2.out⟩)

set_option maxRecDepth 100000 in
set_option maxHeartbeats 1000000 in
theorem call1_any (g : Q → Nd → Bool) (F : Nat) (v : Value) (n : Nd) (W : World) (AS : SaysF W F 33 #[] (g .expr)) (hft : Fits n) (hv : NdV W F v n) :
    Calls Tryz.prog 105 #[v] W fun e w' => e = .returned (.bool (n.kind == 21 && (g .expr) n)) ∧ Below W.heap.size W w' := by
  obtain ⟨A, c, rfl, hm⟩ := hv.val
  have hb : Below W.heap.size W (W.alloc (.cells #[.int .i64 n.kind, .string n.text, .slice A n.kids.length c, .int .i64 n.place] 24)) := (Below.refl _ W).alloc (Nat.le_refl _) _
  have AL := Lib.hid (AS.2 _ _ n hb hft (hv.below hb))
  have HB := Lib.hid hb
  have eg := AS.1
  clear hb hv AS hft
  unfold Nd.val at AL ⊢
  generalize (g .expr) n = r at AL ⊢
  cases h1 : (n.kind == 21) <;>
    (go_enter Tryz.func105, Tryz.ntmps105
     go_wp2_with fail)
  all_goals first
    | (go_ret; exact ⟨rfl, HB.out⟩)
    | (refine AL.out.mono ?_
       rintro e w2 ⟨rfl, b2⟩
       have HB2 := Lib.hid (HB.out.trans (b2.mono HB.out.size))
       clear b2
       go_wp2_with fail
       go_ret
       exact ⟨rfl, HB2.out⟩)

set_option maxRecDepth 100000 in
set_option maxHeartbeats 1000000 in
theorem issig_any (g : Q → Nd → Bool) (F : Nat) (v : Value) (n : Nd) (W : World) (T : SaysF W F 32 #[] (g .typ)) (hft : Fits n) (hv : NdV W (F + 1) v n) :
    Calls Tryz.prog 35 #[v] W fun e w' => e = .returned (.bool (isSigB g n)) ∧ Below W.heap.size W w' := by
  obtain ⟨A, c, rfl, hm⟩ := hv.val
  have hb : Below W.heap.size W (W.alloc (.cells #[.int .i64 n.kind, .string n.text, .slice A n.kids.length c, .int .i64 n.place] 24)) := (Below.refl _ W).alloc (Nat.le_refl _) _
  have AL := Lib.hid (sig_any g F 29 #[] nameB _ n _ (T.below hb) (fun s => name_s s _) hft (hv.below hb))
  have HB := Lib.hid hb
  clear hb hv T hft
  unfold isSigB
  unfold Nd.val at AL ⊢
  generalize sigB g nameB n = r at AL ⊢
  go_enter Tryz.func35, Tryz.ntmps35
  go_wp2_with fail
  refine AL.out.mono ?_
  rintro e w2 ⟨rfl, b2⟩
  have HB2 := Lib.hid (HB.out.trans (b2.mono HB.out.size))
  clear b2
  go_wp2_with fail
  go_ret
  exact ⟨rfl, HB2.out⟩

set_option maxRecDepth 100000 in
set_option maxHeartbeats 1000000 in
theorem type12_any (g : Q → Nd → Bool) (F : Nat) (v : Value) (n : Nd) (W : World) (T : SaysF W F 32 #[] (g .typ)) (hk : n.kind = 12) (hft : Fits n) (hv : NdV W (F + 1) v n) :
    Calls Tryz.prog 32 #[v] W fun e w' => e = .returned (.bool (sigB g noneB n)) ∧ Below W.heap.size W w' := by
  obtain ⟨A, c, rfl, hm⟩ := hv.val
  have hb : Below W.heap.size W (W.alloc (.cells #[.int .i64 n.kind, .string n.text, .slice A n.kids.length c, .int .i64 n.place] 24)) := (Below.refl _ W).alloc (Nat.le_refl _) _
  have AL := Lib.hid (sig_any g F 68 #[] noneB _ n _ (T.below hb) (fun s => none_s s _) hft (hv.below hb))
  have HB := Lib.hid hb
  clear hb hv T hft
  unfold Nd.val at AL ⊢
  generalize sigB g noneB n = r at AL ⊢
  rw [hk] at AL HB ⊢
  go_enter Tryz.func32, Tryz.ntmps32
  go_wp2_with fail
  refine AL.out.mono ?_
  rintro e w2 ⟨rfl, b2⟩
  have HB2 := Lib.hid (HB.out.trans (b2.mono HB.out.size))
  clear b2
  go_wp2_with fail
  go_ret
  exact ⟨rfl, HB2.out⟩

set_option maxRecDepth 100000 in
set_option maxHeartbeats 1000000 in
theorem type10_any (g : Q → Nd → Bool) (F : Nat) (v : Value) (n : Nd) (W : World) (AS : SaysF W F 32 #[] (g .typ)) (hk : n.kind = 10) (hft : Fits n) (hv : NdV W (F + 1) v n) :
    Calls Tryz.prog 32 #[v] W fun e w' => e = .returned (.bool (nameB n.text && n.kids.all (g .typ))) ∧ Below W.heap.size W w' := by
  obtain ⟨A, c, rfl, hm⟩ := hv.val
  have hb : Below W.heap.size W (W.alloc (.cells #[.int .i64 n.kind, .string n.text, .slice A n.kids.length c, .int .i64 n.place] 24)) := (Below.refl _ W).alloc (Nat.le_refl _) _
  have NS := Lib.hid (name_any n.text (W.alloc (.cells #[.int .i64 n.kind, .string n.text, .slice A n.kids.length c, .int .i64 n.place] 24)))
  have AL := Lib.hid fun w' (h : Below (W.alloc (.cells #[.int .i64 n.kind, .string n.text, .slice A n.kids.length c, .int .i64 n.place] 24)).heap.size (W.alloc (.cells #[.int .i64 n.kind, .string n.text, .slice A n.kids.length c, .int .i64 n.place] 24)) w') => all_f F 32 #[] (g .typ) n.kids A c w' ((AS.below hb).below h) ((hv.lst.below hb).below h) (fun k hk => hft.kid hk) hm
  have KW := Lib.hid (Whole.new W 24 #[.int .i64 n.kind, .string n.text, .slice A n.kids.length c, .int .i64 n.place])
  have HB := Lib.hid hb
  have eg := AS.1
  clear hb hv AS hft
  unfold Nd.val
  generalize n.kids.all (g .typ) = r at AL ⊢
  generalize nameB n.text = b at NS ⊢
  rw [hk] at AL NS HB KW ⊢
  go_enter Tryz.func32, Tryz.ntmps32
  go_wp2_with fail
  refine NS.out.mono ?_
  rintro e w2 ⟨rfl, b2⟩
  have HB2 := Lib.hid (HB.out.trans (b2.mono HB.out.size))
  have AL2 := Lib.hid (AL.out _ b2)
  have k2 := KW.out.below b2 KW.out.lt
  have c0 : w2.cell? ⟨W.heap.size, 0, none⟩ = some (.int .i64 10) := k2.cell 0
  have c1 : w2.cell? ⟨W.heap.size, 1, none⟩ = some (.string n.text) := k2.cell 1
  have c2 : w2.cell? ⟨W.heap.size, 2, none⟩ = some (.slice A n.kids.length c) := k2.cell 2
  have c3 : w2.cell? ⟨W.heap.size, 3, none⟩ = some (.int .i64 n.place) := k2.cell 3
  clear b2 k2 AL KW NS HB
  cases b with
  | false =>
    go_wp2_with fail
    go_ret
    exact ⟨rfl, HB2.out⟩
  | true =>
    go_wp2_with fail
    refine AL2.out.mono ?_
    rintro e w3 ⟨rfl, b3⟩
    have HB3 := Lib.hid (HB2.out.trans (b3.mono HB2.out.size))
    clear b3
    go_wp2_with fail
    go_ret
    exact ⟨rfl, HB3.out⟩

set_option maxRecDepth 100000 in
set_option maxHeartbeats 1000000 in
theorem file1_any (g : Q → Nd → Bool) (F : Nat) (v : Value) (n : Nd) (W : World) (AS : SaysF W F 31 #[] (declB g)) (hk : n.kind = 1) (hft : Fits n) (hv : NdV W (F + 1) v n) :
    Calls Tryz.prog 28 #[v] W fun e w' => e = .returned (.bool (nameB n.text && n.kids.all (declB g))) ∧ Below W.heap.size W w' := by
  obtain ⟨A, c, rfl, hm⟩ := hv.val
  have hb : Below W.heap.size W (W.alloc (.cells #[.int .i64 n.kind, .string n.text, .slice A n.kids.length c, .int .i64 n.place] 24)) := (Below.refl _ W).alloc (Nat.le_refl _) _
  have NS := Lib.hid (name_any n.text (W.alloc (.cells #[.int .i64 n.kind, .string n.text, .slice A n.kids.length c, .int .i64 n.place] 24)))
  have AL := Lib.hid fun w' (h : Below (W.alloc (.cells #[.int .i64 n.kind, .string n.text, .slice A n.kids.length c, .int .i64 n.place] 24)).heap.size (W.alloc (.cells #[.int .i64 n.kind, .string n.text, .slice A n.kids.length c, .int .i64 n.place] 24)) w') => all_f F 31 #[] (declB g) n.kids A c w' ((AS.below hb).below h) ((hv.lst.below hb).below h) (fun k hk => hft.kid hk) hm
  have KW := Lib.hid (Whole.new W 24 #[.int .i64 n.kind, .string n.text, .slice A n.kids.length c, .int .i64 n.place])
  have HB := Lib.hid hb
  have eg := AS.1
  clear hb hv AS hft
  unfold Nd.val
  generalize n.kids.all (declB g) = r at AL ⊢
  generalize nameB n.text = b at NS ⊢
  rw [hk] at AL NS HB KW ⊢
  go_enter Tryz.func28, Tryz.ntmps28
  go_wp2_with fail
  refine NS.out.mono ?_
  rintro e w2 ⟨rfl, b2⟩
  have HB2 := Lib.hid (HB.out.trans (b2.mono HB.out.size))
  have AL2 := Lib.hid (AL.out _ b2)
  have k2 := KW.out.below b2 KW.out.lt
  have c0 : w2.cell? ⟨W.heap.size, 0, none⟩ = some (.int .i64 1) := k2.cell 0
  have c1 : w2.cell? ⟨W.heap.size, 1, none⟩ = some (.string n.text) := k2.cell 1
  have c2 : w2.cell? ⟨W.heap.size, 2, none⟩ = some (.slice A n.kids.length c) := k2.cell 2
  have c3 : w2.cell? ⟨W.heap.size, 3, none⟩ = some (.int .i64 n.place) := k2.cell 3
  clear b2 k2 AL KW NS HB
  cases b with
  | false =>
    go_wp2_with fail
    go_ret
    exact ⟨rfl, HB2.out⟩
  | true =>
    go_wp2_with fail
    refine AL2.out.mono ?_
    rintro e w3 ⟨rfl, b3⟩
    have HB3 := Lib.hid (HB2.out.trans (b3.mono HB2.out.size))
    clear b3
    go_wp2_with fail
    go_ret
    exact ⟨rfl, HB3.out⟩

set_option maxRecDepth 100000 in
set_option maxHeartbeats 1000000 in
theorem typeo_any (g : Q → Nd → Bool) (F : Nat) (v : Value) (n : Nd) (W : World)  (h10 : n.kind ≠ 10) (h11 : n.kind ≠ 11) (h12 : n.kind ≠ 12) (hft : Fits n) (hv : NdV W (F + 1) v n) :
    Calls Tryz.prog 32 #[v] W fun e w' => e = .returned (.bool false) ∧ Below W.heap.size W w' := by
  obtain ⟨A, c, rfl, hm⟩ := hv.val
  have hb : Below W.heap.size W (W.alloc (.cells #[.int .i64 n.kind, .string n.text, .slice A n.kids.length c, .int .i64 n.place] 24)) := (Below.refl _ W).alloc (Nat.le_refl _) _
  have d10 : decide (n.kind = 10) = false := decide_eq_false h10
  have e10 : (n.kind == 10) = false := by simpa using h10
  have d11 : decide (n.kind = 11) = false := decide_eq_false h11
  have e11 : (n.kind == 11) = false := by simpa using h11
  have d12 : decide (n.kind = 12) = false := decide_eq_false h12
  have e12 : (n.kind == 12) = false := by simpa using h12
  have HB := Lib.hid hb
  clear hb hv hft
  unfold Nd.val
  go_enter Tryz.func32, Tryz.ntmps32
  go_wp2_with fail
  go_ret
  exact ⟨rfl, HB.out⟩

set_option maxRecDepth 100000 in
set_option maxHeartbeats 1000000 in
theorem fileo_any (v : Value) (F : Nat) (n : Nd) (W : World) (h1 : n.kind ≠ 1) (hv : NdV W (F + 1) v n) : Calls Tryz.prog 28 #[v] W fun e w' => e = .returned (.bool false) ∧ Below W.heap.size W w' := by
  obtain ⟨A, c, rfl, hm⟩ := hv.val
  have hb : Below W.heap.size W (W.alloc (.cells #[.int .i64 n.kind, .string n.text, .slice A n.kids.length c, .int .i64 n.place] 24)) := (Below.refl _ W).alloc (Nat.le_refl _) _
  have HB := Lib.hid hb
  have e1 : (n.kind == 1) = false := by simpa using h1
  clear hb hv
  unfold Nd.val
  go_enter Tryz.func28, Tryz.ntmps28
  go_wp2_with fail
  go_ret
  exact ⟨rfl, HB.out⟩

set_option maxRecDepth 100000 in
set_option maxHeartbeats 1000000 in
theorem declo_any (g : Q → Nd → Bool) (F : Nat) (v : Value) (n : Nd) (W : World) (AS : SaysF W (F + 1) 66 #[] (varB g)) (h2 : n.kind ≠ 2) (h3 : n.kind ≠ 3) (h4 : n.kind ≠ 4) (hft : Fits n) (hv : NdV W (F + 1) v n) :
    Calls Tryz.prog 31 #[v] W fun e w' => e = .returned (.bool ((varB g) n)) ∧ Below W.heap.size W w' := by
  obtain ⟨A, c, rfl, hm⟩ := hv.val
  have hb : Below W.heap.size W (W.alloc (.cells #[.int .i64 n.kind, .string n.text, .slice A n.kids.length c, .int .i64 n.place] 24)) := (Below.refl _ W).alloc (Nat.le_refl _) _
  have AL := Lib.hid (AS.2 _ _ n hb hft (hv.below hb))
  have HB := Lib.hid hb
  have d2 : decide (n.kind = 2) = false := decide_eq_false h2
  have e2 : (n.kind == 2) = false := by simpa using h2
  have d3 : decide (n.kind = 3) = false := decide_eq_false h3
  have e3 : (n.kind == 3) = false := by simpa using h3
  have d4 : decide (n.kind = 4) = false := decide_eq_false h4
  have e4 : (n.kind == 4) = false := by simpa using h4
  clear hb hv AS hft
  unfold Nd.val at AL ⊢
  generalize (varB g) n = r at AL ⊢
  go_enter Tryz.func31, Tryz.ntmps31
  go_wp2_with fail
  refine AL.out.mono ?_
  rintro e w2 ⟨rfl, b2⟩
  have HB2 := Lib.hid (HB.out.trans (b2.mono HB.out.size))
  clear b2
  go_wp2_with fail
  go_ret
  exact ⟨rfl, HB2.out⟩

set_option maxRecDepth 100000 in
set_option maxHeartbeats 1000000 in
theorem stmt5_any (g : Q → Nd → Bool) (F : Nat) (v : Value) (n : Nd) (W : World) (AS : SaysF W (F + 1) 66 #[] (varB g)) (hk : n.kind = 5) (hft : Fits n) (hv : NdV W (F + 1) v n) :
    Calls Tryz.prog 34 #[v] W fun e w' => e = .returned (.bool ((varB g) n)) ∧ Below W.heap.size W w' := by
  obtain ⟨A, c, rfl, hm⟩ := hv.val
  have hb : Below W.heap.size W (W.alloc (.cells #[.int .i64 n.kind, .string n.text, .slice A n.kids.length c, .int .i64 n.place] 24)) := (Below.refl _ W).alloc (Nat.le_refl _) _
  have AL := Lib.hid (AS.2 _ _ n hb hft (hv.below hb))
  have HB := Lib.hid hb
  clear hb hv AS hft
  unfold Nd.val at AL ⊢
  generalize (varB g) n = r at AL ⊢
  rw [hk] at AL HB ⊢
  go_enter Tryz.func34, Tryz.ntmps34
  go_wp2_with fail
  refine AL.out.mono ?_
  rintro e w2 ⟨rfl, b2⟩
  have HB2 := Lib.hid (HB.out.trans (b2.mono HB.out.size))
  clear b2
  go_wp2_with fail
  go_ret
  exact ⟨rfl, HB2.out⟩

set_option maxRecDepth 100000 in
set_option maxHeartbeats 1000000 in
theorem stmt26_any (g : Q → Nd → Bool) (F : Nat) (v : Value) (n : Nd) (W : World) (AS : SaysF W (F + 1) 74 #[] (shortB g)) (hk : n.kind = 26) (hft : Fits n) (hv : NdV W (F + 1) v n) :
    Calls Tryz.prog 34 #[v] W fun e w' => e = .returned (.bool ((shortB g) n)) ∧ Below W.heap.size W w' := by
  obtain ⟨A, c, rfl, hm⟩ := hv.val
  have hb : Below W.heap.size W (W.alloc (.cells #[.int .i64 n.kind, .string n.text, .slice A n.kids.length c, .int .i64 n.place] 24)) := (Below.refl _ W).alloc (Nat.le_refl _) _
  have AL := Lib.hid (AS.2 _ _ n hb hft (hv.below hb))
  have HB := Lib.hid hb
  clear hb hv AS hft
  unfold Nd.val at AL ⊢
  generalize (shortB g) n = r at AL ⊢
  rw [hk] at AL HB ⊢
  go_enter Tryz.func34, Tryz.ntmps34
  go_wp2_with fail
  refine AL.out.mono ?_
  rintro e w2 ⟨rfl, b2⟩
  have HB2 := Lib.hid (HB.out.trans (b2.mono HB.out.size))
  clear b2
  go_wp2_with fail
  go_ret
  exact ⟨rfl, HB2.out⟩

set_option maxRecDepth 100000 in
set_option maxHeartbeats 1000000 in
theorem stmt27_any (g : Q → Nd → Bool) (F : Nat) (v : Value) (n : Nd) (W : World) (AS : SaysF W (F + 1) 75 #[] (setB g)) (hk : n.kind = 27) (hft : Fits n) (hv : NdV W (F + 1) v n) :
    Calls Tryz.prog 34 #[v] W fun e w' => e = .returned (.bool ((setB g) n)) ∧ Below W.heap.size W w' := by
  obtain ⟨A, c, rfl, hm⟩ := hv.val
  have hb : Below W.heap.size W (W.alloc (.cells #[.int .i64 n.kind, .string n.text, .slice A n.kids.length c, .int .i64 n.place] 24)) := (Below.refl _ W).alloc (Nat.le_refl _) _
  have AL := Lib.hid (AS.2 _ _ n hb hft (hv.below hb))
  have HB := Lib.hid hb
  clear hb hv AS hft
  unfold Nd.val at AL ⊢
  generalize (setB g) n = r at AL ⊢
  rw [hk] at AL HB ⊢
  go_enter Tryz.func34, Tryz.ntmps34
  go_wp2_with fail
  refine AL.out.mono ?_
  rintro e w2 ⟨rfl, b2⟩
  have HB2 := Lib.hid (HB.out.trans (b2.mono HB.out.size))
  clear b2
  go_wp2_with fail
  go_ret
  exact ⟨rfl, HB2.out⟩

set_option maxRecDepth 100000 in
set_option maxHeartbeats 1000000 in
theorem stmt28_any (g : Q → Nd → Bool) (F : Nat) (v : Value) (n : Nd) (W : World) (AS : SaysF W (F + 1) 76 #[] (incB g)) (hk : n.kind = 28) (hft : Fits n) (hv : NdV W (F + 1) v n) :
    Calls Tryz.prog 34 #[v] W fun e w' => e = .returned (.bool ((incB g) n)) ∧ Below W.heap.size W w' := by
  obtain ⟨A, c, rfl, hm⟩ := hv.val
  have hb : Below W.heap.size W (W.alloc (.cells #[.int .i64 n.kind, .string n.text, .slice A n.kids.length c, .int .i64 n.place] 24)) := (Below.refl _ W).alloc (Nat.le_refl _) _
  have AL := Lib.hid (AS.2 _ _ n hb hft (hv.below hb))
  have HB := Lib.hid hb
  clear hb hv AS hft
  unfold Nd.val at AL ⊢
  generalize (incB g) n = r at AL ⊢
  rw [hk] at AL HB ⊢
  go_enter Tryz.func34, Tryz.ntmps34
  go_wp2_with fail
  refine AL.out.mono ?_
  rintro e w2 ⟨rfl, b2⟩
  have HB2 := Lib.hid (HB.out.trans (b2.mono HB.out.size))
  clear b2
  go_wp2_with fail
  go_ret
  exact ⟨rfl, HB2.out⟩

set_option maxRecDepth 100000 in
set_option maxHeartbeats 1000000 in
theorem stmt29_any (g : Q → Nd → Bool) (F : Nat) (v : Value) (n : Nd) (W : World) (AS : SaysF W (F + 1) 77 #[] (callB g)) (hk : n.kind = 29) (hft : Fits n) (hv : NdV W (F + 1) v n) :
    Calls Tryz.prog 34 #[v] W fun e w' => e = .returned (.bool ((callB g) n)) ∧ Below W.heap.size W w' := by
  obtain ⟨A, c, rfl, hm⟩ := hv.val
  have hb : Below W.heap.size W (W.alloc (.cells #[.int .i64 n.kind, .string n.text, .slice A n.kids.length c, .int .i64 n.place] 24)) := (Below.refl _ W).alloc (Nat.le_refl _) _
  have AL := Lib.hid (AS.2 _ _ n hb hft (hv.below hb))
  have HB := Lib.hid hb
  clear hb hv AS hft
  unfold Nd.val at AL ⊢
  generalize (callB g) n = r at AL ⊢
  rw [hk] at AL HB ⊢
  go_enter Tryz.func34, Tryz.ntmps34
  go_wp2_with fail
  refine AL.out.mono ?_
  rintro e w2 ⟨rfl, b2⟩
  have HB2 := Lib.hid (HB.out.trans (b2.mono HB.out.size))
  clear b2
  go_wp2_with fail
  go_ret
  exact ⟨rfl, HB2.out⟩

set_option maxRecDepth 100000 in
set_option maxHeartbeats 1000000 in
theorem stmt30_any (g : Q → Nd → Bool) (F : Nat) (v : Value) (n : Nd) (W : World) (AS : SaysF W (F + 1) 78 #[] (ifB g)) (hk : n.kind = 30) (hft : Fits n) (hv : NdV W (F + 1) v n) :
    Calls Tryz.prog 34 #[v] W fun e w' => e = .returned (.bool ((ifB g) n)) ∧ Below W.heap.size W w' := by
  obtain ⟨A, c, rfl, hm⟩ := hv.val
  have hb : Below W.heap.size W (W.alloc (.cells #[.int .i64 n.kind, .string n.text, .slice A n.kids.length c, .int .i64 n.place] 24)) := (Below.refl _ W).alloc (Nat.le_refl _) _
  have AL := Lib.hid (AS.2 _ _ n hb hft (hv.below hb))
  have HB := Lib.hid hb
  clear hb hv AS hft
  unfold Nd.val at AL ⊢
  generalize (ifB g) n = r at AL ⊢
  rw [hk] at AL HB ⊢
  go_enter Tryz.func34, Tryz.ntmps34
  go_wp2_with fail
  refine AL.out.mono ?_
  rintro e w2 ⟨rfl, b2⟩
  have HB2 := Lib.hid (HB.out.trans (b2.mono HB.out.size))
  clear b2
  go_wp2_with fail
  go_ret
  exact ⟨rfl, HB2.out⟩

set_option maxRecDepth 100000 in
set_option maxHeartbeats 1000000 in
theorem stmto_any (g : Q → Nd → Bool) (F : Nat) (v : Value) (n : Nd) (W : World) (AS : SaysF W (F + 1) 62 #[] (blockB g)) (h5 : n.kind ≠ 5) (h26 : n.kind ≠ 26) (h27 : n.kind ≠ 27) (h28 : n.kind ≠ 28) (h29 : n.kind ≠ 29) (h30 : n.kind ≠ 30) (h31 : n.kind ≠ 31) (h32 : n.kind ≠ 32) (h33 : n.kind ≠ 33) (h34 : n.kind ≠ 34) (h35 : n.kind ≠ 35) (hft : Fits n) (hv : NdV W (F + 1) v n) :
    Calls Tryz.prog 34 #[v] W fun e w' => e = .returned (.bool ((blockB g) n)) ∧ Below W.heap.size W w' := by
  obtain ⟨A, c, rfl, hm⟩ := hv.val
  have hb : Below W.heap.size W (W.alloc (.cells #[.int .i64 n.kind, .string n.text, .slice A n.kids.length c, .int .i64 n.place] 24)) := (Below.refl _ W).alloc (Nat.le_refl _) _
  have AL := Lib.hid (AS.2 _ _ n hb hft (hv.below hb))
  have HB := Lib.hid hb
  have d5 : decide (n.kind = 5) = false := decide_eq_false h5
  have e5 : (n.kind == 5) = false := by simpa using h5
  have d26 : decide (n.kind = 26) = false := decide_eq_false h26
  have e26 : (n.kind == 26) = false := by simpa using h26
  have d27 : decide (n.kind = 27) = false := decide_eq_false h27
  have e27 : (n.kind == 27) = false := by simpa using h27
  have d28 : decide (n.kind = 28) = false := decide_eq_false h28
  have e28 : (n.kind == 28) = false := by simpa using h28
  have d29 : decide (n.kind = 29) = false := decide_eq_false h29
  have e29 : (n.kind == 29) = false := by simpa using h29
  have d30 : decide (n.kind = 30) = false := decide_eq_false h30
  have e30 : (n.kind == 30) = false := by simpa using h30
  have d31 : decide (n.kind = 31) = false := decide_eq_false h31
  have e31 : (n.kind == 31) = false := by simpa using h31
  have d32 : decide (n.kind = 32) = false := decide_eq_false h32
  have e32 : (n.kind == 32) = false := by simpa using h32
  have d33 : decide (n.kind = 33) = false := decide_eq_false h33
  have e33 : (n.kind == 33) = false := by simpa using h33
  have d34 : decide (n.kind = 34) = false := decide_eq_false h34
  have e34 : (n.kind == 34) = false := by simpa using h34
  have d35 : decide (n.kind = 35) = false := decide_eq_false h35
  have e35 : (n.kind == 35) = false := by simpa using h35
  clear hb hv AS hft
  unfold Nd.val at AL ⊢
  generalize (blockB g) n = r at AL ⊢
  go_enter Tryz.func34, Tryz.ntmps34
  go_wp2_with fail
  refine AL.out.mono ?_
  rintro e w2 ⟨rfl, b2⟩
  have HB2 := Lib.hid (HB.out.trans (b2.mono HB.out.size))
  clear b2
  go_wp2_with fail
  go_ret
  exact ⟨rfl, HB2.out⟩

end Go.Proofs.YtkmhijkpbmcgbaaGreat

namespace Go.Proofs.YtkmhijkpbmcgbaaGreat
set_option linter.all false
open Go.RowKit Go.Shelf

set_option maxRecDepth 100000 in
set_option maxHeartbeats 1000000 in
theorem tparam_any (g : Q → Nd → Bool) (F : Nat) (v : Value) (n : Nd) (W : World) (IR : SaysF W F 65 #[] (interB g)) (q1 : Nd → Bool) (N9 : SaysF W F 93 #[] q1) (B : Nat) (hB : W.cell? ⟨B, 0, none⟩ = some (.func (.func 93) #[] #[])) (hft : Fits n) (hv : NdV W (F + 1) v n) :
    Calls Tryz.prog 95 #[v, .pointer (some ⟨B, 0, none⟩)] W fun e w' => e = .returned (.bool (ofN (namedN n (nameB n.text)) 7 [fun k => q1 k || interB g k])) ∧ Below W.heap.size W w' := by
  obtain ⟨A, c, rfl, hm⟩ := hv.val
  have hmf : ∀ fn first cap w, (Instr.makeFunc fn first cap).run Tryz.prog w = .ok (.func fn first cap) w := fun _ _ _ _ => rfl
  have hb : Below W.heap.size W (W.alloc (.cells #[.int .i64 n.kind, .string n.text, .slice A n.kids.length c, .int .i64 n.place] 24)) := (Below.refl _ W).alloc (Nat.le_refl _) _
  have k0 := Whole.new W 24 #[.int .i64 n.kind, .string n.text, .slice A n.kids.length c, .int .i64 n.place]
  have hv1 := hv.below hb
  unfold Nd.val at hv1 ⊢
  have IR := Lib.hid IR
  have N9 := Lib.hid N9
  have e48 : ∀ args w, (callFunc 65 args).run Tryz.prog w = .ok (.enter 65 args) w := IR.out.1
  have AN := Lib.hid (name_s n.text W)
  go_enter Tryz.func95, Tryz.ntmps95
  go_wp2_with fail
  obtain ⟨W1, hW1⟩ : ∃ W1, W1 = W.alloc (.cells #[.int .i64 n.kind, .string n.text, .slice A n.kids.length c, .int .i64 n.place] 24) := ⟨_, rfl⟩
  rw [← hW1] at hb k0 hv1 ⊢
  clear hW1
  have hlB := cell_lt hB
  have kp : ∀ w', Below W1.heap.size W1 w' → w'.cell? ⟨W.heap.size, 0, none⟩ = some (.int .i64 n.kind) ∧ w'.cell? ⟨W.heap.size, 1, none⟩ = some (.string n.text) ∧ w'.cell? ⟨W.heap.size, 2, none⟩ = some (.slice A n.kids.length c) ∧ w'.cell? ⟨W.heap.size, 3, none⟩ = some (.int .i64 n.place) ∧ w'.cell? ⟨B, 0, none⟩ = some (.func (.func 93) #[] #[]) := fun w' hW => have h1 := k0.below hW k0.lt; ⟨h1.cell 0, h1.cell 1, h1.cell 2, h1.cell 3, ((hb.trans (hW.mono hb.size)).cell (p := ⟨B, 0, none⟩) hlB).trans hB⟩
  have KP := Lib.hid kp
  have HB := Lib.hid hb
  have HV := Lib.hid hv1
  clear kp hb k0 hv1 hv
  obtain ⟨V0, hV0⟩ : ∃ V, V = W1.drew := ⟨_, rfl⟩
  have D0 : Hid (Below W1.heap.size W1 V0) := by rw [hV0]; exact Lib.hid (Below.refl _ W1).drew
  refine Held.begin_ (fun w' => w'.cell? ⟨W.heap.size, 0, none⟩ = some (.int .i64 n.kind) ∧ w'.cell? ⟨W.heap.size, 1, none⟩ = some (.string n.text) ∧ w'.cell? ⟨W.heap.size, 2, none⟩ = some (.slice A n.kids.length c) ∧ w'.cell? ⟨W.heap.size, 3, none⟩ = some (.int .i64 n.place) ∧ w'.cell? ⟨B, 0, none⟩ = some (.func (.func 93) #[] #[])) (fun _ => True) 99 (by kernel_rfl) (KP.out _ (Below.refl _ W1).drew) (trivial) ?_
  rw [← hV0]
  clear hV0
  refine Held.take (i := 0) (oi := { dst := some 4, op := Op.load 24 (Operand.tmp 2), type := 24, pos := "tree.go:106", after := #[], guard := none }) (v := ?_) false [] rfl (by decide) (by kernel_rfl) (by kernel_rfl) (by kernel_rfl) (by kernel_rfl) (fun _ _ _ h => h) (Or.inl ⟨by rfl, ?_⟩) ?_
  rotate_left
  · rintro w ⟨hS0, hS1⟩
    clear hS1
    (try dsimp only at hS0)
    go_simp
    (try with_reducible rfl)
  try simp only [Act.put, List.setIfInBounds_toArray, List.set_cons_zero, List.set_cons_succ]
  refine Held.take (i := 2) (oi := { dst := some 6, op := Op.load 33 (Operand.tmp 1), type := 33, pos := "tree.go:106", after := #[], guard := none }) (v := ?_) false [] rfl (by decide) (by kernel_rfl) (by kernel_rfl) (by kernel_rfl) (by kernel_rfl) (fun _ _ _ h => h) (Or.inl ⟨by rfl, ?_⟩) ?_
  rotate_left
  · rintro w ⟨hS0, hS1⟩
    clear hS1
    (try dsimp only at hS0)
    go_simp
    (try with_reducible rfl)
  try simp only [Act.put, List.setIfInBounds_toArray, List.set_cons_zero, List.set_cons_succ]
  have NM := Lib.hid (named_c F 29 #[] _ n (nameB n.text) V0 (AN.out.below (HB.out.trans (D0.out.mono HB.out.size))) (HV.out.below D0.out))
  have hftm := hft.named (nameB n.text)
  obtain ⟨m, hmm⟩ : ∃ m, m = namedN n (nameB n.text) := ⟨_, rfl⟩
  rw [← hmm] at NM hftm
  have HMM := Lib.hid hmm
  clear hmm
  refine Held.step (i := 1) (o := { dst := some 5, op := Op.call { callee := Callee.value (Operand.func 60), args := #[Operand.tmp 4, Operand.func 29], argTypes := #[24, 37] }, type := 24, pos := "tree.go:106", after := #[{ on := 0, ground := Ground.data }], guard := none }) rfl (by kernel_rfl) (fun K hK => ?_)
  go_simp
  go_at_call 60
  refine NM.out.mono ?_
  rintro e V1 ⟨A1, c1, rfl, n1, b2⟩
  have D1 := Lib.hid (D0.out.trans (b2.mono D0.out.size))
  have N1 := Lib.hid n1
  clear b2 n1 NM
  refine hK.out _ _ ⟨KP.out _ D1.out, fun _ => trivial⟩ ?_
  clear hK K
  try simp only [Act.put, List.setIfInBounds_toArray, List.set_cons_zero, List.set_cons_succ]
  refine Held.step (i := 3) (o := { dst := some 7, op := Op.call { callee := Callee.value (Operand.func 63), args := #[Operand.tmp 6, Operand.func 65], argTypes := #[33, 33] }, type := 33, pos := "tree.go:106", after := #[{ on := 2, ground := Ground.data }, { on := 1, ground := Ground.chain }], guard := none }) rfl (by kernel_rfl) (fun K hK => ?_)
  go_simp
  go_at_call 63
  refine (or_f F 93 65 #[] #[] q1 (interB g) V1 (N9.out.below (HB.out.trans (D1.out.mono HB.out.size))) (IR.out.below (HB.out.trans (D1.out.mono HB.out.size)))).mono ?_
  rintro e V2 ⟨rfl, s2, b2⟩
  have D2 := Lib.hid (D1.out.trans (b2.mono D1.out.size))
  have N1 := Lib.hid (N1.out.below b2)
  have S3 := Lib.hid s2
  clear b2 s2
  refine hK.out _ _ ⟨KP.out _ D2.out, fun _ => trivial⟩ ?_
  clear hK K
  try simp only [Act.put, List.setIfInBounds_toArray, List.set_cons_zero, List.set_cons_succ]
  refine Held.step (i := 4) (o := { dst := some 8, op := Op.buildSlice 72 1 #[(0, Operand.tmp 7)], type := 72, pos := "tree.go:106", after := #[{ on := 3, ground := Ground.data }], guard := none }) rfl (by kernel_rfl) (fun K hK => ?_)
  go_simp
  refine hK.out _ _ ⟨KP.out _ (D2.out.alloc D2.out.size _), fun _ => trivial⟩ ?_
  clear hK K
  try simp only [Act.put, List.setIfInBounds_toArray, List.set_cons_zero, List.set_cons_succ]
  have b2 : Below V2.heap.size V2 (V2.alloc (.cells #[.func (.func 96) #[] #[.pointer (some ⟨V1.heap.size, 0, none⟩), .pointer (some ⟨V1.heap.size + 1, 0, none⟩)]] 33)) := (Below.refl _ V2).alloc (Nat.le_refl _) _
  have WH : Hid (Whole (V2.alloc (.cells #[.func (.func 96) #[] #[.pointer (some ⟨V1.heap.size, 0, none⟩), .pointer (some ⟨V1.heap.size + 1, 0, none⟩)]] 33)) V2.heap.size 33 #[.func (.func 96) #[] #[.pointer (some ⟨V1.heap.size, 0, none⟩), .pointer (some ⟨V1.heap.size + 1, 0, none⟩)]]) := Lib.hid (Whole.new V2 33 _)
  obtain ⟨VB, hVB⟩ : ∃ b, b = V2.heap.size := ⟨_, rfl⟩
  obtain ⟨V3, hV⟩ : ∃ V, V = V2.alloc (.cells #[.func (.func 96) #[] #[.pointer (some ⟨V1.heap.size, 0, none⟩), .pointer (some ⟨V1.heap.size + 1, 0, none⟩)]] 33) := ⟨_, rfl⟩
  rw [← hV] at b2 WH ⊢
  rw [← hVB] at WH ⊢
  clear hV
  have D3 := Lib.hid (D2.out.trans (b2.mono D2.out.size))
  have N1 := Lib.hid (N1.out.below b2)
  have S3 := Lib.hid (S3.out.below b2)
  clear b2 hVB
  have OF := Lib.hid (of_f F _ m 7 [(96, #[.pointer (some ⟨V1.heap.size, 0, none⟩), .pointer (some ⟨V1.heap.size + 1, 0, none⟩)])] [(fun k => q1 k || (interB g) k)] _ N1.out hftm (by simp) VB 33 (fun _ => WH.out) (some ⟨VB, 0, none⟩) (fun _ => rfl) 1 ⟨S3.out, trivial⟩)
  simp only [List.length_cons, List.length_nil, Nat.zero_add, List.map_cons, List.map_nil, fnVal] at OF
  refine Held.step (i := 5) (o := { dst := some 9, op := Op.call { callee := Callee.value (Operand.func 59), args := #[Operand.tmp 5, Operand.const (Value.int IntKind.i64 7), Operand.tmp 8], argTypes := #[24, 3, 72] }, type := 4, pos := "tree.go:106", after := #[{ on := 1, ground := Ground.data }, { on := 4, ground := Ground.data }, { on := 3, ground := Ground.chain }], guard := none }) rfl (by kernel_rfl) (fun K hK => ?_)
  go_simp
  go_at_call 59
  refine OF.out.mono ?_
  rintro e V4 ⟨rfl, b2⟩
  have D4 := Lib.hid (D3.out.trans (b2.mono D3.out.size))
  clear b2
  refine hK.out _ _ ⟨KP.out _ D4.out, fun _ => trivial⟩ ?_
  clear hK K
  try simp only [Act.put, List.setIfInBounds_toArray, List.set_cons_zero, List.set_cons_succ]
  refine Held.take (i := 6) (oi := { dst := some 3, op := Op.assign (Operand.tmp 9), type := 4, pos := "tree.go:106", after := #[{ on := 5, ground := Ground.data }, { on := 5, ground := Ground.chain }, { on := 0, ground := Ground.phase }, { on := 1, ground := Ground.phase }, { on := 2, ground := Ground.phase }, { on := 3, ground := Ground.phase }, { on := 4, ground := Ground.phase }, { on := 5, ground := Ground.phase }], guard := none }) (v := ?_) false [] rfl (by decide) (by kernel_rfl) (by kernel_rfl) (by kernel_rfl) (by kernel_rfl) (fun _ _ _ h => h) (Or.inl ⟨by rfl, ?_⟩) ?_
  rotate_left
  · rintro w ⟨hS0, hS1⟩
    clear hS1
    (try dsimp only at hS0)
    go_simp
    (try with_reducible rfl)
  try simp only [Act.put, List.setIfInBounds_toArray, List.set_cons_zero, List.set_cons_succ]
  refine Held.done (by kernel_rfl) ?_ _
  go_wp2_with fail
  go_ret
  exact ⟨by rw [HMM.out]; rfl, HB.out.trans (D4.out.mono HB.out.size)⟩

set_option maxRecDepth 100000 in
set_option maxHeartbeats 1000000 in
theorem if_any (g : Q → Nd → Bool) (F : Nat) (v : Value) (n : Nd) (W : World) (E : SaysF W F 33 #[] (g .expr)) (BL : SaysF W F 62 #[] (blockB g)) (IFF : SaysF W F 78 #[] (g .iff)) (hft : Fits n) (hv : NdV W (F + 1) v n) :
    Calls Tryz.prog 78 #[v] W fun e w' => e = .returned (.bool (ofN n 30 [g .expr, blockB g, fun k => (emptyB k || blockB g k) || g .iff k])) ∧ Below W.heap.size W w' := by
  obtain ⟨A, c, rfl, hm⟩ := hv.val
  have hmf : ∀ fn first cap w, (Instr.makeFunc fn first cap).run Tryz.prog w = .ok (.func fn first cap) w := fun _ _ _ _ => rfl
  have hb : Below W.heap.size W (W.alloc (.cells #[.int .i64 n.kind, .string n.text, .slice A n.kids.length c, .int .i64 n.place] 24)) := (Below.refl _ W).alloc (Nat.le_refl _) _
  have k0 := Whole.new W 24 #[.int .i64 n.kind, .string n.text, .slice A n.kids.length c, .int .i64 n.place]
  have hv1 := hv.below hb
  unfold Nd.val at hv1 ⊢
  have E := Lib.hid E
  have BL := Lib.hid BL
  have IFF := Lib.hid IFF
  have EMP : Hid (SaysF W F 79 #[] emptyB) := Lib.hid (empty_f W F)
  have e36 : ∀ args w, (callFunc 33 args).run Tryz.prog w = .ok (.enter 33 args) w := E.out.1
  have e45 : ∀ args w, (callFunc 62 args).run Tryz.prog w = .ok (.enter 62 args) w := BL.out.1
  have e61 : ∀ args w, (callFunc 78 args).run Tryz.prog w = .ok (.enter 78 args) w := IFF.out.1
  have e62 : ∀ args w, (callFunc 79 args).run Tryz.prog w = .ok (.enter 79 args) w := EMP.out.1
  go_enter Tryz.func78, Tryz.ntmps78
  go_wp2_with fail
  obtain ⟨W1, hW1⟩ : ∃ W1, W1 = W.alloc (.cells #[.int .i64 n.kind, .string n.text, .slice A n.kids.length c, .int .i64 n.place] 24) := ⟨_, rfl⟩
  rw [← hW1] at hb k0 hv1 ⊢
  clear hW1
  have kp : ∀ w', Below W1.heap.size W1 w' → w'.cell? ⟨W.heap.size, 0, none⟩ = some (.int .i64 n.kind) ∧ w'.cell? ⟨W.heap.size, 1, none⟩ = some (.string n.text) ∧ w'.cell? ⟨W.heap.size, 2, none⟩ = some (.slice A n.kids.length c) ∧ w'.cell? ⟨W.heap.size, 3, none⟩ = some (.int .i64 n.place) := fun w' hW => have h1 := k0.below hW k0.lt; ⟨h1.cell 0, h1.cell 1, h1.cell 2, h1.cell 3⟩
  have KP := Lib.hid kp
  have HB := Lib.hid hb
  have HV := Lib.hid hv1
  clear kp hb k0 hv1 hv
  obtain ⟨V0, hV0⟩ : ∃ V, V = W1.drew := ⟨_, rfl⟩
  have D0 : Hid (Below W1.heap.size W1 V0) := by rw [hV0]; exact Lib.hid (Below.refl _ W1).drew
  refine Held.begin_ (fun w' => w'.cell? ⟨W.heap.size, 0, none⟩ = some (.int .i64 n.kind) ∧ w'.cell? ⟨W.heap.size, 1, none⟩ = some (.string n.text) ∧ w'.cell? ⟨W.heap.size, 2, none⟩ = some (.slice A n.kids.length c) ∧ w'.cell? ⟨W.heap.size, 3, none⟩ = some (.int .i64 n.place)) (fun _ => True) 99 (by kernel_rfl) (KP.out _ (Below.refl _ W1).drew) (trivial) ?_
  rw [← hV0]
  clear hV0
  refine Held.take (i := 0) (oi := { dst := some 3, op := Op.load 24 (Operand.tmp 1), type := 24, pos := "tree.go:187", after := #[], guard := none }) (v := ?_) false [] rfl (by decide) (by kernel_rfl) (by kernel_rfl) (by kernel_rfl) (by kernel_rfl) (fun _ _ _ h => h) (Or.inl ⟨by rfl, ?_⟩) ?_
  rotate_left
  · rintro w ⟨hS0, hS1⟩
    clear hS1
    (try dsimp only at hS0)
    go_simp
    (try with_reducible rfl)
  try simp only [Act.put, List.setIfInBounds_toArray, List.set_cons_zero, List.set_cons_succ]
  refine Held.step (i := 1) (o := { dst := some 4, op := Op.call { callee := Callee.value (Operand.func 63), args := #[Operand.func 79, Operand.func 62], argTypes := #[33, 33] }, type := 33, pos := "tree.go:187", after := #[], guard := none }) rfl (by kernel_rfl) (fun K hK => ?_)
  go_simp
  go_at_call 63
  refine (or_f F 79 62 #[] #[] emptyB (blockB g) V0 (EMP.out.below (HB.out.trans (D0.out.mono HB.out.size))) (BL.out.below (HB.out.trans (D0.out.mono HB.out.size)))).mono ?_
  rintro e V1 ⟨rfl, s2, b2⟩
  have D1 := Lib.hid (D0.out.trans (b2.mono D0.out.size))
  have S1 := Lib.hid s2
  clear b2 s2
  refine hK.out _ _ ⟨KP.out _ D1.out, fun _ => trivial⟩ ?_
  clear hK K
  try simp only [Act.put, List.setIfInBounds_toArray, List.set_cons_zero, List.set_cons_succ]
  refine Held.step (i := 2) (o := { dst := some 5, op := Op.call { callee := Callee.value (Operand.func 63), args := #[Operand.tmp 4, Operand.func 78], argTypes := #[33, 33] }, type := 33, pos := "tree.go:187", after := #[{ on := 1, ground := Ground.data }, { on := 1, ground := Ground.chain }], guard := none }) rfl (by kernel_rfl) (fun K hK => ?_)
  go_simp
  go_at_call 63
  refine (or_f F 96 78 #[.pointer (some ⟨V0.heap.size, 0, none⟩), .pointer (some ⟨V0.heap.size + 1, 0, none⟩)] #[] (fun k => emptyB k || (blockB g) k) (g .iff) V1 S1.out (IFF.out.below (HB.out.trans (D1.out.mono HB.out.size)))).mono ?_
  rintro e V2 ⟨rfl, s2, b2⟩
  have D2 := Lib.hid (D1.out.trans (b2.mono D1.out.size))
  have S1 := Lib.hid (S1.out.below b2)
  have S2 := Lib.hid s2
  clear b2 s2
  refine hK.out _ _ ⟨KP.out _ D2.out, fun _ => trivial⟩ ?_
  clear hK K
  try simp only [Act.put, List.setIfInBounds_toArray, List.set_cons_zero, List.set_cons_succ]
  refine Held.step (i := 3) (o := { dst := some 6, op := Op.buildSlice 72 3 #[(0, Operand.func 33), (1, Operand.func 62), (2, Operand.tmp 5)], type := 72, pos := "tree.go:187", after := #[{ on := 2, ground := Ground.data }], guard := none }) rfl (by kernel_rfl) (fun K hK => ?_)
  go_simp
  refine hK.out _ _ ⟨KP.out _ (D2.out.alloc D2.out.size _), fun _ => trivial⟩ ?_
  clear hK K
  try simp only [Act.put, List.setIfInBounds_toArray, List.set_cons_zero, List.set_cons_succ]
  have b2 : Below V2.heap.size V2 (V2.alloc (.cells #[.func (.func 33) #[] #[], .func (.func 62) #[] #[], .func (.func 96) #[] #[.pointer (some ⟨V1.heap.size, 0, none⟩), .pointer (some ⟨V1.heap.size + 1, 0, none⟩)]] 33)) := (Below.refl _ V2).alloc (Nat.le_refl _) _
  have WH : Hid (Whole (V2.alloc (.cells #[.func (.func 33) #[] #[], .func (.func 62) #[] #[], .func (.func 96) #[] #[.pointer (some ⟨V1.heap.size, 0, none⟩), .pointer (some ⟨V1.heap.size + 1, 0, none⟩)]] 33)) V2.heap.size 33 #[.func (.func 33) #[] #[], .func (.func 62) #[] #[], .func (.func 96) #[] #[.pointer (some ⟨V1.heap.size, 0, none⟩), .pointer (some ⟨V1.heap.size + 1, 0, none⟩)]]) := Lib.hid (Whole.new V2 33 _)
  obtain ⟨VB, hVB⟩ : ∃ b, b = V2.heap.size := ⟨_, rfl⟩
  obtain ⟨V3, hV⟩ : ∃ V, V = V2.alloc (.cells #[.func (.func 33) #[] #[], .func (.func 62) #[] #[], .func (.func 96) #[] #[.pointer (some ⟨V1.heap.size, 0, none⟩), .pointer (some ⟨V1.heap.size + 1, 0, none⟩)]] 33) := ⟨_, rfl⟩
  rw [← hV] at b2 WH ⊢
  rw [← hVB] at WH ⊢
  clear hV
  have D3 := Lib.hid (D2.out.trans (b2.mono D2.out.size))
  have S1 := Lib.hid (S1.out.below b2)
  have S2 := Lib.hid (S2.out.below b2)
  clear b2 hVB
  have OF := Lib.hid (of_f F _ n 30 [(33, #[]), (62, #[]), (96, #[.pointer (some ⟨V1.heap.size, 0, none⟩), .pointer (some ⟨V1.heap.size + 1, 0, none⟩)])] [(g .expr), (blockB g), (fun k => (fun k => emptyB k || (blockB g) k) k || (g .iff) k)] _ (HV.out.below D3.out) hft (by simp) VB 33 (fun _ => WH.out) (some ⟨VB, 0, none⟩) (fun _ => rfl) 3 ⟨(E.out.below (HB.out.trans (D3.out.mono HB.out.size))), (BL.out.below (HB.out.trans (D3.out.mono HB.out.size))), S2.out, trivial⟩)
  simp only [List.length_cons, List.length_nil, Nat.zero_add, List.map_cons, List.map_nil, fnVal] at OF
  refine Held.step (i := 4) (o := { dst := some 7, op := Op.call { callee := Callee.value (Operand.func 59), args := #[Operand.tmp 3, Operand.const (Value.int IntKind.i64 30), Operand.tmp 6], argTypes := #[24, 3, 72] }, type := 4, pos := "tree.go:187", after := #[{ on := 0, ground := Ground.data }, { on := 3, ground := Ground.data }, { on := 2, ground := Ground.chain }], guard := none }) rfl (by kernel_rfl) (fun K hK => ?_)
  go_simp
  go_at_call 59
  refine OF.out.mono ?_
  rintro e V4 ⟨rfl, b2⟩
  have D4 := Lib.hid (D3.out.trans (b2.mono D3.out.size))
  clear b2
  refine hK.out _ _ ⟨KP.out _ D4.out, fun _ => trivial⟩ ?_
  clear hK K
  try simp only [Act.put, List.setIfInBounds_toArray, List.set_cons_zero, List.set_cons_succ]
  refine Held.take (i := 5) (oi := { dst := some 2, op := Op.assign (Operand.tmp 7), type := 4, pos := "tree.go:187", after := #[{ on := 4, ground := Ground.data }, { on := 4, ground := Ground.chain }, { on := 0, ground := Ground.phase }, { on := 1, ground := Ground.phase }, { on := 2, ground := Ground.phase }, { on := 3, ground := Ground.phase }, { on := 4, ground := Ground.phase }], guard := none }) (v := ?_) false [] rfl (by decide) (by kernel_rfl) (by kernel_rfl) (by kernel_rfl) (by kernel_rfl) (fun _ _ _ h => h) (Or.inl ⟨by rfl, ?_⟩) ?_
  rotate_left
  · rintro w ⟨hS0, hS1⟩
    clear hS1
    (try dsimp only at hS0)
    go_simp
    (try with_reducible rfl)
  try simp only [Act.put, List.setIfInBounds_toArray, List.set_cons_zero, List.set_cons_succ]
  refine Held.done (by kernel_rfl) ?_ _
  go_wp2_with fail
  go_ret
  exact ⟨rfl, HB.out.trans (D4.out.mono HB.out.size)⟩

set_option maxRecDepth 100000 in
set_option maxHeartbeats 1000000 in
theorem stmt31_any (g : Q → Nd → Bool) (F : Nat) (v : Value) (n : Nd) (W : World) (E : SaysF W F 33 #[] (g .expr)) (BL : SaysF W F 62 #[] (blockB g)) (SH : SaysF W F 74 #[] (shortB g)) (SE : SaysF W F 75 #[] (setB g)) (IN : SaysF W F 76 #[] (incB g)) (CA : SaysF W F 77 #[] (callB g)) (hk : n.kind = 31) (hft : Fits n) (hv : NdV W (F + 1) v n) :
    Calls Tryz.prog 34 #[v] W fun e w' => e = .returned (.bool (ofN n 31 [fun k => (emptyB k || shortB g k) || (setB g k || incB g k), fun k => emptyB k || g .expr k, fun k => (emptyB k || setB g k) || (incB g k || callB g k), blockB g])) ∧ Below W.heap.size W w' := by
  obtain ⟨A, c, rfl, hm⟩ := hv.val
  have hmf : ∀ fn first cap w, (Instr.makeFunc fn first cap).run Tryz.prog w = .ok (.func fn first cap) w := fun _ _ _ _ => rfl
  have hb : Below W.heap.size W (W.alloc (.cells #[.int .i64 n.kind, .string n.text, .slice A n.kids.length c, .int .i64 n.place] 24)) := (Below.refl _ W).alloc (Nat.le_refl _) _
  have k0 := Whole.new W 24 #[.int .i64 n.kind, .string n.text, .slice A n.kids.length c, .int .i64 n.place]
  have hv1 := hv.below hb
  unfold Nd.val at hv1 ⊢
  rw [hk] at hb k0 hv1 ⊢
  have E := Lib.hid E
  have BL := Lib.hid BL
  have SH := Lib.hid SH
  have SE := Lib.hid SE
  have IN := Lib.hid IN
  have CA := Lib.hid CA
  have EMP : Hid (SaysF W F 79 #[] emptyB) := Lib.hid (empty_f W F)
  have e36 : ∀ args w, (callFunc 33 args).run Tryz.prog w = .ok (.enter 33 args) w := E.out.1
  have e45 : ∀ args w, (callFunc 62 args).run Tryz.prog w = .ok (.enter 62 args) w := BL.out.1
  have e57 : ∀ args w, (callFunc 74 args).run Tryz.prog w = .ok (.enter 74 args) w := SH.out.1
  have e58 : ∀ args w, (callFunc 75 args).run Tryz.prog w = .ok (.enter 75 args) w := SE.out.1
  have e59 : ∀ args w, (callFunc 76 args).run Tryz.prog w = .ok (.enter 76 args) w := IN.out.1
  have e60 : ∀ args w, (callFunc 77 args).run Tryz.prog w = .ok (.enter 77 args) w := CA.out.1
  have e62 : ∀ args w, (callFunc 79 args).run Tryz.prog w = .ok (.enter 79 args) w := EMP.out.1
  go_enter Tryz.func34, Tryz.ntmps34
  go_wp2_with fail
  obtain ⟨W1, hW1⟩ : ∃ W1, W1 = W.alloc (.cells #[.int .i64 31, .string n.text, .slice A n.kids.length c, .int .i64 n.place] 24) := ⟨_, rfl⟩
  rw [← hW1] at hb k0 hv1 ⊢
  clear hW1
  have kp : ∀ w', Below W1.heap.size W1 w' → w'.cell? ⟨W.heap.size, 0, none⟩ = some (.int .i64 31) ∧ w'.cell? ⟨W.heap.size, 1, none⟩ = some (.string n.text) ∧ w'.cell? ⟨W.heap.size, 2, none⟩ = some (.slice A n.kids.length c) ∧ w'.cell? ⟨W.heap.size, 3, none⟩ = some (.int .i64 n.place) := fun w' hW => have h1 := k0.below hW k0.lt; ⟨h1.cell 0, h1.cell 1, h1.cell 2, h1.cell 3⟩
  have KP := Lib.hid kp
  have HB := Lib.hid hb
  have HV := Lib.hid hv1
  clear kp hb k0 hv1 hv
  obtain ⟨V0, hV0⟩ : ∃ V, V = W1.drew := ⟨_, rfl⟩
  have D0 : Hid (Below W1.heap.size W1 V0) := by rw [hV0]; exact Lib.hid (Below.refl _ W1).drew
  refine Held.begin_ (fun w' => w'.cell? ⟨W.heap.size, 0, none⟩ = some (.int .i64 31) ∧ w'.cell? ⟨W.heap.size, 1, none⟩ = some (.string n.text) ∧ w'.cell? ⟨W.heap.size, 2, none⟩ = some (.slice A n.kids.length c) ∧ w'.cell? ⟨W.heap.size, 3, none⟩ = some (.int .i64 n.place)) (fun _ => True) 99 (by kernel_rfl) (KP.out _ (Below.refl _ W1).drew) (trivial) ?_
  rw [← hV0]
  clear hV0
  refine Held.take (i := 0) (oi := { dst := some 31, op := Op.load 24 (Operand.tmp 1), type := 24, pos := "tree.go:205", after := #[], guard := none }) (v := ?_) false [] rfl (by decide) (by kernel_rfl) (by kernel_rfl) (by kernel_rfl) (by kernel_rfl) (fun _ _ _ h => h) (Or.inl ⟨by rfl, ?_⟩) ?_
  rotate_left
  · rintro w ⟨hS0, hS1⟩
    clear hS1
    (try dsimp only at hS0)
    go_simp
    (try with_reducible rfl)
  try simp only [Act.put, List.setIfInBounds_toArray, List.set_cons_zero, List.set_cons_succ]
  refine Held.step (i := 1) (o := { dst := some 32, op := Op.call { callee := Callee.value (Operand.func 63), args := #[Operand.func 79, Operand.func 74], argTypes := #[33, 33] }, type := 33, pos := "tree.go:205", after := #[], guard := none }) rfl (by kernel_rfl) (fun K hK => ?_)
  go_simp
  go_at_call 63
  refine (or_f F 79 74 #[] #[] emptyB (shortB g) V0 (EMP.out.below (HB.out.trans (D0.out.mono HB.out.size))) (SH.out.below (HB.out.trans (D0.out.mono HB.out.size)))).mono ?_
  rintro e V1 ⟨rfl, s2, b2⟩
  have D1 := Lib.hid (D0.out.trans (b2.mono D0.out.size))
  have S1 := Lib.hid s2
  clear b2 s2
  refine hK.out _ _ ⟨KP.out _ D1.out, fun _ => trivial⟩ ?_
  clear hK K
  try simp only [Act.put, List.setIfInBounds_toArray, List.set_cons_zero, List.set_cons_succ]
  refine Held.step (i := 2) (o := { dst := some 33, op := Op.call { callee := Callee.value (Operand.func 63), args := #[Operand.func 75, Operand.func 76], argTypes := #[33, 33] }, type := 33, pos := "tree.go:205", after := #[{ on := 1, ground := Ground.chain }], guard := none }) rfl (by kernel_rfl) (fun K hK => ?_)
  go_simp
  go_at_call 63
  refine (or_f F 75 76 #[] #[] (setB g) (incB g) V1 (SE.out.below (HB.out.trans (D1.out.mono HB.out.size))) (IN.out.below (HB.out.trans (D1.out.mono HB.out.size)))).mono ?_
  rintro e V2 ⟨rfl, s2, b2⟩
  have D2 := Lib.hid (D1.out.trans (b2.mono D1.out.size))
  have S1 := Lib.hid (S1.out.below b2)
  have S2 := Lib.hid s2
  clear b2 s2
  refine hK.out _ _ ⟨KP.out _ D2.out, fun _ => trivial⟩ ?_
  clear hK K
  try simp only [Act.put, List.setIfInBounds_toArray, List.set_cons_zero, List.set_cons_succ]
  refine Held.step (i := 3) (o := { dst := some 34, op := Op.call { callee := Callee.value (Operand.func 63), args := #[Operand.tmp 32, Operand.tmp 33], argTypes := #[33, 33] }, type := 33, pos := "tree.go:205", after := #[{ on := 1, ground := Ground.data }, { on := 2, ground := Ground.data }, { on := 2, ground := Ground.chain }], guard := none }) rfl (by kernel_rfl) (fun K hK => ?_)
  go_simp
  go_at_call 63
  refine (or_f F 96 96 #[.pointer (some ⟨V0.heap.size, 0, none⟩), .pointer (some ⟨V0.heap.size + 1, 0, none⟩)] #[.pointer (some ⟨V1.heap.size, 0, none⟩), .pointer (some ⟨V1.heap.size + 1, 0, none⟩)] (fun k => emptyB k || (shortB g) k) (fun k => (setB g) k || (incB g) k) V2 S1.out S2.out).mono ?_
  rintro e V3 ⟨rfl, s2, b2⟩
  have D3 := Lib.hid (D2.out.trans (b2.mono D2.out.size))
  have S1 := Lib.hid (S1.out.below b2)
  have S2 := Lib.hid (S2.out.below b2)
  have S3 := Lib.hid s2
  clear b2 s2
  refine hK.out _ _ ⟨KP.out _ D3.out, fun _ => trivial⟩ ?_
  clear hK K
  try simp only [Act.put, List.setIfInBounds_toArray, List.set_cons_zero, List.set_cons_succ]
  refine Held.step (i := 4) (o := { dst := some 35, op := Op.call { callee := Callee.value (Operand.func 63), args := #[Operand.func 79, Operand.func 33], argTypes := #[33, 33] }, type := 33, pos := "tree.go:205", after := #[{ on := 3, ground := Ground.chain }], guard := none }) rfl (by kernel_rfl) (fun K hK => ?_)
  go_simp
  go_at_call 63
  refine (or_f F 79 33 #[] #[] emptyB (g .expr) V3 (EMP.out.below (HB.out.trans (D3.out.mono HB.out.size))) (E.out.below (HB.out.trans (D3.out.mono HB.out.size)))).mono ?_
  rintro e V4 ⟨rfl, s2, b2⟩
  have D4 := Lib.hid (D3.out.trans (b2.mono D3.out.size))
  have S1 := Lib.hid (S1.out.below b2)
  have S2 := Lib.hid (S2.out.below b2)
  have S3 := Lib.hid (S3.out.below b2)
  have S4 := Lib.hid s2
  clear b2 s2
  refine hK.out _ _ ⟨KP.out _ D4.out, fun _ => trivial⟩ ?_
  clear hK K
  try simp only [Act.put, List.setIfInBounds_toArray, List.set_cons_zero, List.set_cons_succ]
  refine Held.step (i := 5) (o := { dst := some 36, op := Op.call { callee := Callee.value (Operand.func 63), args := #[Operand.func 79, Operand.func 75], argTypes := #[33, 33] }, type := 33, pos := "tree.go:205", after := #[{ on := 4, ground := Ground.chain }], guard := none }) rfl (by kernel_rfl) (fun K hK => ?_)
  go_simp
  go_at_call 63
  refine (or_f F 79 75 #[] #[] emptyB (setB g) V4 (EMP.out.below (HB.out.trans (D4.out.mono HB.out.size))) (SE.out.below (HB.out.trans (D4.out.mono HB.out.size)))).mono ?_
  rintro e V5 ⟨rfl, s2, b2⟩
  have D5 := Lib.hid (D4.out.trans (b2.mono D4.out.size))
  have S1 := Lib.hid (S1.out.below b2)
  have S2 := Lib.hid (S2.out.below b2)
  have S3 := Lib.hid (S3.out.below b2)
  have S4 := Lib.hid (S4.out.below b2)
  have S5 := Lib.hid s2
  clear b2 s2
  refine hK.out _ _ ⟨KP.out _ D5.out, fun _ => trivial⟩ ?_
  clear hK K
  try simp only [Act.put, List.setIfInBounds_toArray, List.set_cons_zero, List.set_cons_succ]
  refine Held.step (i := 6) (o := { dst := some 37, op := Op.call { callee := Callee.value (Operand.func 63), args := #[Operand.func 76, Operand.func 77], argTypes := #[33, 33] }, type := 33, pos := "tree.go:205", after := #[{ on := 5, ground := Ground.chain }], guard := none }) rfl (by kernel_rfl) (fun K hK => ?_)
  go_simp
  go_at_call 63
  refine (or_f F 76 77 #[] #[] (incB g) (callB g) V5 (IN.out.below (HB.out.trans (D5.out.mono HB.out.size))) (CA.out.below (HB.out.trans (D5.out.mono HB.out.size)))).mono ?_
  rintro e V6 ⟨rfl, s2, b2⟩
  have D6 := Lib.hid (D5.out.trans (b2.mono D5.out.size))
  have S1 := Lib.hid (S1.out.below b2)
  have S2 := Lib.hid (S2.out.below b2)
  have S3 := Lib.hid (S3.out.below b2)
  have S4 := Lib.hid (S4.out.below b2)
  have S5 := Lib.hid (S5.out.below b2)
  have S6 := Lib.hid s2
  clear b2 s2
  refine hK.out _ _ ⟨KP.out _ D6.out, fun _ => trivial⟩ ?_
  clear hK K
  try simp only [Act.put, List.setIfInBounds_toArray, List.set_cons_zero, List.set_cons_succ]
  refine Held.step (i := 7) (o := { dst := some 38, op := Op.call { callee := Callee.value (Operand.func 63), args := #[Operand.tmp 36, Operand.tmp 37], argTypes := #[33, 33] }, type := 33, pos := "tree.go:205", after := #[{ on := 5, ground := Ground.data }, { on := 6, ground := Ground.data }, { on := 6, ground := Ground.chain }], guard := none }) rfl (by kernel_rfl) (fun K hK => ?_)
  go_simp
  go_at_call 63
  refine (or_f F 96 96 #[.pointer (some ⟨V4.heap.size, 0, none⟩), .pointer (some ⟨V4.heap.size + 1, 0, none⟩)] #[.pointer (some ⟨V5.heap.size, 0, none⟩), .pointer (some ⟨V5.heap.size + 1, 0, none⟩)] (fun k => emptyB k || (setB g) k) (fun k => (incB g) k || (callB g) k) V6 S5.out S6.out).mono ?_
  rintro e V7 ⟨rfl, s2, b2⟩
  have D7 := Lib.hid (D6.out.trans (b2.mono D6.out.size))
  have S1 := Lib.hid (S1.out.below b2)
  have S2 := Lib.hid (S2.out.below b2)
  have S3 := Lib.hid (S3.out.below b2)
  have S4 := Lib.hid (S4.out.below b2)
  have S5 := Lib.hid (S5.out.below b2)
  have S6 := Lib.hid (S6.out.below b2)
  have S7 := Lib.hid s2
  clear b2 s2
  refine hK.out _ _ ⟨KP.out _ D7.out, fun _ => trivial⟩ ?_
  clear hK K
  try simp only [Act.put, List.setIfInBounds_toArray, List.set_cons_zero, List.set_cons_succ]
  refine Held.step (i := 8) (o := { dst := some 39, op := Op.buildSlice 72 4 #[(0, Operand.tmp 34), (1, Operand.tmp 35), (2, Operand.tmp 38), (3, Operand.func 62)], type := 72, pos := "tree.go:205", after := #[{ on := 3, ground := Ground.data }, { on := 4, ground := Ground.data }, { on := 7, ground := Ground.data }], guard := none }) rfl (by kernel_rfl) (fun K hK => ?_)
  go_simp
  refine hK.out _ _ ⟨KP.out _ (D7.out.alloc D7.out.size _), fun _ => trivial⟩ ?_
  clear hK K
  try simp only [Act.put, List.setIfInBounds_toArray, List.set_cons_zero, List.set_cons_succ]
  have b2 : Below V7.heap.size V7 (V7.alloc (.cells #[.func (.func 96) #[] #[.pointer (some ⟨V2.heap.size, 0, none⟩), .pointer (some ⟨V2.heap.size + 1, 0, none⟩)], .func (.func 96) #[] #[.pointer (some ⟨V3.heap.size, 0, none⟩), .pointer (some ⟨V3.heap.size + 1, 0, none⟩)], .func (.func 96) #[] #[.pointer (some ⟨V6.heap.size, 0, none⟩), .pointer (some ⟨V6.heap.size + 1, 0, none⟩)], .func (.func 62) #[] #[]] 33)) := (Below.refl _ V7).alloc (Nat.le_refl _) _
  have WH : Hid (Whole (V7.alloc (.cells #[.func (.func 96) #[] #[.pointer (some ⟨V2.heap.size, 0, none⟩), .pointer (some ⟨V2.heap.size + 1, 0, none⟩)], .func (.func 96) #[] #[.pointer (some ⟨V3.heap.size, 0, none⟩), .pointer (some ⟨V3.heap.size + 1, 0, none⟩)], .func (.func 96) #[] #[.pointer (some ⟨V6.heap.size, 0, none⟩), .pointer (some ⟨V6.heap.size + 1, 0, none⟩)], .func (.func 62) #[] #[]] 33)) V7.heap.size 33 #[.func (.func 96) #[] #[.pointer (some ⟨V2.heap.size, 0, none⟩), .pointer (some ⟨V2.heap.size + 1, 0, none⟩)], .func (.func 96) #[] #[.pointer (some ⟨V3.heap.size, 0, none⟩), .pointer (some ⟨V3.heap.size + 1, 0, none⟩)], .func (.func 96) #[] #[.pointer (some ⟨V6.heap.size, 0, none⟩), .pointer (some ⟨V6.heap.size + 1, 0, none⟩)], .func (.func 62) #[] #[]]) := Lib.hid (Whole.new V7 33 _)
  obtain ⟨VB, hVB⟩ : ∃ b, b = V7.heap.size := ⟨_, rfl⟩
  obtain ⟨V8, hV⟩ : ∃ V, V = V7.alloc (.cells #[.func (.func 96) #[] #[.pointer (some ⟨V2.heap.size, 0, none⟩), .pointer (some ⟨V2.heap.size + 1, 0, none⟩)], .func (.func 96) #[] #[.pointer (some ⟨V3.heap.size, 0, none⟩), .pointer (some ⟨V3.heap.size + 1, 0, none⟩)], .func (.func 96) #[] #[.pointer (some ⟨V6.heap.size, 0, none⟩), .pointer (some ⟨V6.heap.size + 1, 0, none⟩)], .func (.func 62) #[] #[]] 33) := ⟨_, rfl⟩
  rw [← hV] at b2 WH ⊢
  rw [← hVB] at WH ⊢
  clear hV
  have D8 := Lib.hid (D7.out.trans (b2.mono D7.out.size))
  have S1 := Lib.hid (S1.out.below b2)
  have S2 := Lib.hid (S2.out.below b2)
  have S3 := Lib.hid (S3.out.below b2)
  have S4 := Lib.hid (S4.out.below b2)
  have S5 := Lib.hid (S5.out.below b2)
  have S6 := Lib.hid (S6.out.below b2)
  have S7 := Lib.hid (S7.out.below b2)
  clear b2 hVB
  have OF := Lib.hid (of_f F _ n 31 [(96, #[.pointer (some ⟨V2.heap.size, 0, none⟩), .pointer (some ⟨V2.heap.size + 1, 0, none⟩)]), (96, #[.pointer (some ⟨V3.heap.size, 0, none⟩), .pointer (some ⟨V3.heap.size + 1, 0, none⟩)]), (96, #[.pointer (some ⟨V6.heap.size, 0, none⟩), .pointer (some ⟨V6.heap.size + 1, 0, none⟩)]), (62, #[])] [(fun k => (fun k => emptyB k || (shortB g) k) k || (fun k => (setB g) k || (incB g) k) k), (fun k => emptyB k || (g .expr) k), (fun k => (fun k => emptyB k || (setB g) k) k || (fun k => (incB g) k || (callB g) k) k), (blockB g)] _ (HV.out.below D8.out) hft (by simp) VB 33 (fun _ => WH.out) (some ⟨VB, 0, none⟩) (fun _ => rfl) 4 ⟨S3.out, S4.out, S7.out, (BL.out.below (HB.out.trans (D8.out.mono HB.out.size))), trivial⟩)
  simp only [List.length_cons, List.length_nil, Nat.zero_add, List.map_cons, List.map_nil, fnVal] at OF
  refine Held.step (i := 9) (o := { dst := some 40, op := Op.call { callee := Callee.value (Operand.func 59), args := #[Operand.tmp 31, Operand.const (Value.int IntKind.i64 31), Operand.tmp 39], argTypes := #[24, 3, 72] }, type := 4, pos := "tree.go:205", after := #[{ on := 0, ground := Ground.data }, { on := 8, ground := Ground.data }, { on := 7, ground := Ground.chain }], guard := none }) rfl (by kernel_rfl) (fun K hK => ?_)
  go_simp
  go_at_call 59
  refine OF.out.mono ?_
  rintro e V9 ⟨rfl, b2⟩
  have D9 := Lib.hid (D8.out.trans (b2.mono D8.out.size))
  clear b2
  refine hK.out _ _ ⟨KP.out _ D9.out, fun _ => trivial⟩ ?_
  clear hK K
  try simp only [Act.put, List.setIfInBounds_toArray, List.set_cons_zero, List.set_cons_succ]
  refine Held.take (i := 10) (oi := { dst := some 2, op := Op.assign (Operand.tmp 40), type := 4, pos := "tree.go:205", after := #[{ on := 9, ground := Ground.data }, { on := 9, ground := Ground.chain }, { on := 0, ground := Ground.phase }, { on := 1, ground := Ground.phase }, { on := 2, ground := Ground.phase }, { on := 3, ground := Ground.phase }, { on := 4, ground := Ground.phase }, { on := 5, ground := Ground.phase }, { on := 6, ground := Ground.phase }, { on := 7, ground := Ground.phase }, { on := 8, ground := Ground.phase }, { on := 9, ground := Ground.phase }], guard := none }) (v := ?_) false [] rfl (by decide) (by kernel_rfl) (by kernel_rfl) (by kernel_rfl) (by kernel_rfl) (fun _ _ _ h => h) (Or.inl ⟨by rfl, ?_⟩) ?_
  rotate_left
  · rintro w ⟨hS0, hS1⟩
    clear hS1
    (try dsimp only at hS0)
    go_simp
    (try with_reducible rfl)
  try simp only [Act.put, List.setIfInBounds_toArray, List.set_cons_zero, List.set_cons_succ]
  refine Held.done (by kernel_rfl) ?_ _
  go_wp2_with fail
  go_ret
  exact ⟨rfl, HB.out.trans (D9.out.mono HB.out.size)⟩

set_option maxRecDepth 100000 in
set_option maxHeartbeats 1000000 in
theorem stmt33_any (g : Q → Nd → Bool) (F : Nat) (v : Value) (n : Nd) (W : World) (E : SaysF W F 33 #[] (g .expr)) (hk : n.kind = 33) (hft : Fits n) (hv : NdV W (F + 1) v n) :
    Calls Tryz.prog 34 #[v] W fun e w' => e = .returned (.bool (ofN n 33 [fun k => emptyB k || g .expr k])) ∧ Below W.heap.size W w' := by
  obtain ⟨A, c, rfl, hm⟩ := hv.val
  have hmf : ∀ fn first cap w, (Instr.makeFunc fn first cap).run Tryz.prog w = .ok (.func fn first cap) w := fun _ _ _ _ => rfl
  have hb : Below W.heap.size W (W.alloc (.cells #[.int .i64 n.kind, .string n.text, .slice A n.kids.length c, .int .i64 n.place] 24)) := (Below.refl _ W).alloc (Nat.le_refl _) _
  have k0 := Whole.new W 24 #[.int .i64 n.kind, .string n.text, .slice A n.kids.length c, .int .i64 n.place]
  have hv1 := hv.below hb
  unfold Nd.val at hv1 ⊢
  rw [hk] at hb k0 hv1 ⊢
  have E := Lib.hid E
  have EMP : Hid (SaysF W F 79 #[] emptyB) := Lib.hid (empty_f W F)
  have e36 : ∀ args w, (callFunc 33 args).run Tryz.prog w = .ok (.enter 33 args) w := E.out.1
  have e62 : ∀ args w, (callFunc 79 args).run Tryz.prog w = .ok (.enter 79 args) w := EMP.out.1
  go_enter Tryz.func34, Tryz.ntmps34
  go_wp2_with fail
  obtain ⟨W1, hW1⟩ : ∃ W1, W1 = W.alloc (.cells #[.int .i64 33, .string n.text, .slice A n.kids.length c, .int .i64 n.place] 24) := ⟨_, rfl⟩
  rw [← hW1] at hb k0 hv1 ⊢
  clear hW1
  have kp : ∀ w', Below W1.heap.size W1 w' → w'.cell? ⟨W.heap.size, 0, none⟩ = some (.int .i64 33) ∧ w'.cell? ⟨W.heap.size, 1, none⟩ = some (.string n.text) ∧ w'.cell? ⟨W.heap.size, 2, none⟩ = some (.slice A n.kids.length c) ∧ w'.cell? ⟨W.heap.size, 3, none⟩ = some (.int .i64 n.place) := fun w' hW => have h1 := k0.below hW k0.lt; ⟨h1.cell 0, h1.cell 1, h1.cell 2, h1.cell 3⟩
  have KP := Lib.hid kp
  have HB := Lib.hid hb
  have HV := Lib.hid hv1
  clear kp hb k0 hv1 hv
  obtain ⟨V0, hV0⟩ : ∃ V, V = W1.drew := ⟨_, rfl⟩
  have D0 : Hid (Below W1.heap.size W1 V0) := by rw [hV0]; exact Lib.hid (Below.refl _ W1).drew
  refine Held.begin_ (fun w' => w'.cell? ⟨W.heap.size, 0, none⟩ = some (.int .i64 33) ∧ w'.cell? ⟨W.heap.size, 1, none⟩ = some (.string n.text) ∧ w'.cell? ⟨W.heap.size, 2, none⟩ = some (.slice A n.kids.length c) ∧ w'.cell? ⟨W.heap.size, 3, none⟩ = some (.int .i64 n.place)) (fun _ => True) 99 (by kernel_rfl) (KP.out _ (Below.refl _ W1).drew) (trivial) ?_
  rw [← hV0]
  clear hV0
  refine Held.take (i := 0) (oi := { dst := some 49, op := Op.load 24 (Operand.tmp 1), type := 24, pos := "tree.go:209", after := #[], guard := none }) (v := ?_) false [] rfl (by decide) (by kernel_rfl) (by kernel_rfl) (by kernel_rfl) (by kernel_rfl) (fun _ _ _ h => h) (Or.inl ⟨by rfl, ?_⟩) ?_
  rotate_left
  · rintro w ⟨hS0, hS1⟩
    clear hS1
    (try dsimp only at hS0)
    go_simp
    (try with_reducible rfl)
  try simp only [Act.put, List.setIfInBounds_toArray, List.set_cons_zero, List.set_cons_succ]
  refine Held.step (i := 1) (o := { dst := some 50, op := Op.call { callee := Callee.value (Operand.func 63), args := #[Operand.func 79, Operand.func 33], argTypes := #[33, 33] }, type := 33, pos := "tree.go:209", after := #[], guard := none }) rfl (by kernel_rfl) (fun K hK => ?_)
  go_simp
  go_at_call 63
  refine (or_f F 79 33 #[] #[] emptyB (g .expr) V0 (EMP.out.below (HB.out.trans (D0.out.mono HB.out.size))) (E.out.below (HB.out.trans (D0.out.mono HB.out.size)))).mono ?_
  rintro e V1 ⟨rfl, s2, b2⟩
  have D1 := Lib.hid (D0.out.trans (b2.mono D0.out.size))
  have S1 := Lib.hid s2
  clear b2 s2
  refine hK.out _ _ ⟨KP.out _ D1.out, fun _ => trivial⟩ ?_
  clear hK K
  try simp only [Act.put, List.setIfInBounds_toArray, List.set_cons_zero, List.set_cons_succ]
  refine Held.step (i := 2) (o := { dst := some 51, op := Op.buildSlice 72 1 #[(0, Operand.tmp 50)], type := 72, pos := "tree.go:209", after := #[{ on := 1, ground := Ground.data }], guard := none }) rfl (by kernel_rfl) (fun K hK => ?_)
  go_simp
  refine hK.out _ _ ⟨KP.out _ (D1.out.alloc D1.out.size _), fun _ => trivial⟩ ?_
  clear hK K
  try simp only [Act.put, List.setIfInBounds_toArray, List.set_cons_zero, List.set_cons_succ]
  have b2 : Below V1.heap.size V1 (V1.alloc (.cells #[.func (.func 96) #[] #[.pointer (some ⟨V0.heap.size, 0, none⟩), .pointer (some ⟨V0.heap.size + 1, 0, none⟩)]] 33)) := (Below.refl _ V1).alloc (Nat.le_refl _) _
  have WH : Hid (Whole (V1.alloc (.cells #[.func (.func 96) #[] #[.pointer (some ⟨V0.heap.size, 0, none⟩), .pointer (some ⟨V0.heap.size + 1, 0, none⟩)]] 33)) V1.heap.size 33 #[.func (.func 96) #[] #[.pointer (some ⟨V0.heap.size, 0, none⟩), .pointer (some ⟨V0.heap.size + 1, 0, none⟩)]]) := Lib.hid (Whole.new V1 33 _)
  obtain ⟨VB, hVB⟩ : ∃ b, b = V1.heap.size := ⟨_, rfl⟩
  obtain ⟨V2, hV⟩ : ∃ V, V = V1.alloc (.cells #[.func (.func 96) #[] #[.pointer (some ⟨V0.heap.size, 0, none⟩), .pointer (some ⟨V0.heap.size + 1, 0, none⟩)]] 33) := ⟨_, rfl⟩
  rw [← hV] at b2 WH ⊢
  rw [← hVB] at WH ⊢
  clear hV
  have D2 := Lib.hid (D1.out.trans (b2.mono D1.out.size))
  have S1 := Lib.hid (S1.out.below b2)
  clear b2 hVB
  have OF := Lib.hid (of_f F _ n 33 [(96, #[.pointer (some ⟨V0.heap.size, 0, none⟩), .pointer (some ⟨V0.heap.size + 1, 0, none⟩)])] [(fun k => emptyB k || (g .expr) k)] _ (HV.out.below D2.out) hft (by simp) VB 33 (fun _ => WH.out) (some ⟨VB, 0, none⟩) (fun _ => rfl) 1 ⟨S1.out, trivial⟩)
  simp only [List.length_cons, List.length_nil, Nat.zero_add, List.map_cons, List.map_nil, fnVal] at OF
  refine Held.step (i := 3) (o := { dst := some 52, op := Op.call { callee := Callee.value (Operand.func 59), args := #[Operand.tmp 49, Operand.const (Value.int IntKind.i64 33), Operand.tmp 51], argTypes := #[24, 3, 72] }, type := 4, pos := "tree.go:209", after := #[{ on := 0, ground := Ground.data }, { on := 2, ground := Ground.data }, { on := 1, ground := Ground.chain }], guard := none }) rfl (by kernel_rfl) (fun K hK => ?_)
  go_simp
  go_at_call 59
  refine OF.out.mono ?_
  rintro e V3 ⟨rfl, b2⟩
  have D3 := Lib.hid (D2.out.trans (b2.mono D2.out.size))
  clear b2
  refine hK.out _ _ ⟨KP.out _ D3.out, fun _ => trivial⟩ ?_
  clear hK K
  try simp only [Act.put, List.setIfInBounds_toArray, List.set_cons_zero, List.set_cons_succ]
  refine Held.take (i := 4) (oi := { dst := some 2, op := Op.assign (Operand.tmp 52), type := 4, pos := "tree.go:209", after := #[{ on := 3, ground := Ground.data }, { on := 3, ground := Ground.chain }, { on := 0, ground := Ground.phase }, { on := 1, ground := Ground.phase }, { on := 2, ground := Ground.phase }, { on := 3, ground := Ground.phase }], guard := none }) (v := ?_) false [] rfl (by decide) (by kernel_rfl) (by kernel_rfl) (by kernel_rfl) (by kernel_rfl) (fun _ _ _ h => h) (Or.inl ⟨by rfl, ?_⟩) ?_
  rotate_left
  · rintro w ⟨hS0, hS1⟩
    clear hS1
    (try dsimp only at hS0)
    go_simp
    (try with_reducible rfl)
  try simp only [Act.put, List.setIfInBounds_toArray, List.set_cons_zero, List.set_cons_succ]
  refine Held.done (by kernel_rfl) ?_ _
  go_wp2_with fail
  go_ret
  exact ⟨rfl, HB.out.trans (D3.out.mono HB.out.size)⟩

end Go.Proofs.YtkmhijkpbmcgbaaGreat
