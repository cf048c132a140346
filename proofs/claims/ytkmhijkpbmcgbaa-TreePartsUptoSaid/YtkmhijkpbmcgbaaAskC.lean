/-
  The questions' contracts: structs, constraints, blocks, calls that stand alone.
-/
import Derived.Test.YtkmhijkpbmcgbaaAskB
namespace Go.Proofs.Ytkmhijkpbmcgbaa
set_option linter.all false
open Go.RowKit Go.Shelf

set_option maxRecDepth 100000 in
set_option maxHeartbeats 1000000 in
theorem struct_any (g : Q → Nd → Bool) (F : Nat) (v : Value) (n : Nd) (W : World)  (AS : SaysF W F 72 #[] (fieldB g)) (hft : Fits n) (hv : NdV W (F + 1) v n) :
    Calls Try.prog 47 #[v] W fun e w' => e = .returned (.bool (n.kind == 13 && n.text.toList == [] && n.kids.all (fieldB g))) ∧ Below W.heap.size W w' := by
  obtain ⟨A, c, rfl, hm⟩ := hv.val
  have hb : Below W.heap.size W (W.alloc (.cells #[.int .i64 n.kind, .string n.text, .slice A n.kids.length c, .int .i64 n.place] 24)) := (Below.refl _ W).alloc (Nat.le_refl _) _
  have AL := Lib.hid (all_f F 72 #[] (fieldB g) n.kids A c _ (AS.below hb) (hv.lst.below hb) (fun k hk => hft.kid hk) hm)
  have HB := Lib.hid hb
  have eg := AS.1
  clear hb hv AS hft
  unfold Nd.val
  generalize n.kids.all (fieldB g) = r at AL ⊢
  cases h1 : (n.kind == 13) <;> cases h2 : (n.text.toList == []) <;>
    (go_enter Try.func47, Try.ntmps47
     go_wp2_with fail)
  all_goals first
    | (go_ret; exact ⟨rfl, HB.out⟩)
    | (refine AL.out.mono ?_
       rintro e w2 ⟨rfl, b2⟩
       have HB2 := Lib.hid (HB.out.trans (b2.mono HB.out.size))
       clear b2
       go_wp2_with fail
       go_ret
       exact ⟨rfl, HB2.out⟩)

set_option maxRecDepth 100000 in
set_option maxHeartbeats 1000000 in
theorem inter_any (g : Q → Nd → Bool) (F : Nat) (v : Value) (n : Nd) (W : World)  (AS : SaysF W F 73 #[] (termB g)) (hft : Fits n) (hv : NdV W (F + 1) v n) :
    Calls Try.prog 48 #[v] W fun e w' => e = .returned (.bool (n.kind == 14 && n.text.toList == [] && decide (0 < n.kids.length) && n.kids.all (termB g))) ∧ Below W.heap.size W w' := by
  obtain ⟨A, c, rfl, hm⟩ := hv.val
  have hb : Below W.heap.size W (W.alloc (.cells #[.int .i64 n.kind, .string n.text, .slice A n.kids.length c, .int .i64 n.place] 24)) := (Below.refl _ W).alloc (Nat.le_refl _) _
  have AL := Lib.hid (all_f F 73 #[] (termB g) n.kids A c _ (AS.below hb) (hv.lst.below hb) (fun k hk => hft.kid hk) hm)
  have HB := Lib.hid hb
  have eg := AS.1
  clear hb hv AS hft
  unfold Nd.val
  generalize n.kids.all (termB g) = r at AL ⊢
  have l1 : decide ((0 : Int) < (n.kids.length : Int)) = decide (0 < n.kids.length) := by simp only [decide_eq_decide]; omega
  have LL := Lib.hid l1
  clear l1
  cases h1 : (n.kind == 14) <;> cases h2 : (n.text.toList == []) <;> cases h3 : decide (0 < n.kids.length) <;>
    (have h4 := LL.out
     rw [h3] at h4
     go_enter Try.func48, Try.ntmps48
     go_wp2_with fail)
  all_goals first
    | (go_ret; exact ⟨rfl, HB.out⟩)
    | (refine AL.out.mono ?_
       rintro e w2 ⟨rfl, b2⟩
       have HB2 := Lib.hid (HB.out.trans (b2.mono HB.out.size))
       clear b2
       go_wp2_with fail
       go_ret
       exact ⟨rfl, HB2.out⟩)

set_option maxRecDepth 100000 in
set_option maxHeartbeats 1000000 in
theorem block_any (g : Q → Nd → Bool) (F : Nat) (v : Value) (n : Nd) (W : World)  (AS : SaysF W F 37 #[] (g .stmt)) (hft : Fits n) (hv : NdV W (F + 1) v n) :
    Calls Try.prog 45 #[v] W fun e w' => e = .returned (.bool (n.kind == 36 && n.text.toList == [] && n.kids.all (g .stmt))) ∧ Below W.heap.size W w' := by
  obtain ⟨A, c, rfl, hm⟩ := hv.val
  have hb : Below W.heap.size W (W.alloc (.cells #[.int .i64 n.kind, .string n.text, .slice A n.kids.length c, .int .i64 n.place] 24)) := (Below.refl _ W).alloc (Nat.le_refl _) _
  have AL := Lib.hid (all_f F 37 #[] (g .stmt) n.kids A c _ (AS.below hb) (hv.lst.below hb) (fun k hk => hft.kid hk) hm)
  have HB := Lib.hid hb
  have eg := AS.1
  clear hb hv AS hft
  unfold Nd.val
  generalize n.kids.all (g .stmt) = r at AL ⊢
  cases h1 : (n.kind == 36) <;> cases h2 : (n.text.toList == []) <;>
    (go_enter Try.func45, Try.ntmps45
     go_wp2_with fail)
  all_goals first
    | (go_ret; exact ⟨rfl, HB.out⟩)
    | (refine AL.out.mono ?_
       rintro e w2 ⟨rfl, b2⟩
       have HB2 := Lib.hid (HB.out.trans (b2.mono HB.out.size))
       clear b2
       go_wp2_with fail
       go_ret
       exact ⟨rfl, HB2.out⟩)

set_option maxRecDepth 100000 in
set_option maxHeartbeats 1000000 in
theorem named1_any (g : Q → Nd → Bool) (F : Nat) (v : Value) (n : Nd) (W : World) (AS : SaysF W F 35 #[] (g .typ)) (hft : Fits n) (hv : NdV W F v n) :
    Calls Try.prog 68 #[v] W fun e w' => e = .returned (.bool (n.kind == 10 && (g .typ) n)) ∧ Below W.heap.size W w' := by
  obtain ⟨A, c, rfl, hm⟩ := hv.val
  have hb : Below W.heap.size W (W.alloc (.cells #[.int .i64 n.kind, .string n.text, .slice A n.kids.length c, .int .i64 n.place] 24)) := (Below.refl _ W).alloc (Nat.le_refl _) _
  have AL := Lib.hid (AS.2 _ _ n hb hft (hv.below hb))
  have HB := Lib.hid hb
  have eg := AS.1
  clear hb hv AS hft
  unfold Nd.val at AL ⊢
  generalize (g .typ) n = r at AL ⊢
  cases h1 : (n.kind == 10) <;>
    (go_enter Try.func68, Try.ntmps68
     go_wp2_with fail)
  all_goals first
    | (go_ret; exact ⟨rfl, HB.out⟩)
    | (refine AL.out.mono ?_
       rintro e w2 ⟨rfl, b2⟩
       have HB2 := Lib.hid (HB.out.trans (b2.mono HB.out.size))
       clear b2
       go_wp2_with fail
       go_ret
       exact ⟨rfl, HB2.out⟩)

set_option maxRecDepth 100000 in
set_option maxHeartbeats 1000000 in
theorem call1_any (g : Q → Nd → Bool) (F : Nat) (v : Value) (n : Nd) (W : World) (AS : SaysF W F 36 #[] (g .expr)) (hft : Fits n) (hv : NdV W F v n) :
    Calls Try.prog 80 #[v] W fun e w' => e = .returned (.bool (n.kind == 21 && (g .expr) n)) ∧ Below W.heap.size W w' := by
  obtain ⟨A, c, rfl, hm⟩ := hv.val
  have hb : Below W.heap.size W (W.alloc (.cells #[.int .i64 n.kind, .string n.text, .slice A n.kids.length c, .int .i64 n.place] 24)) := (Below.refl _ W).alloc (Nat.le_refl _) _
  have AL := Lib.hid (AS.2 _ _ n hb hft (hv.below hb))
  have HB := Lib.hid hb
  have eg := AS.1
  clear hb hv AS hft
  unfold Nd.val at AL ⊢
  generalize (g .expr) n = r at AL ⊢
  cases h1 : (n.kind == 21) <;>
    (go_enter Try.func80, Try.ntmps80
     go_wp2_with fail)
  all_goals first
    | (go_ret; exact ⟨rfl, HB.out⟩)
    | (refine AL.out.mono ?_
       rintro e w2 ⟨rfl, b2⟩
       have HB2 := Lib.hid (HB.out.trans (b2.mono HB.out.size))
       clear b2
       go_wp2_with fail
       go_ret
       exact ⟨rfl, HB2.out⟩)

set_option maxRecDepth 100000 in
set_option maxHeartbeats 1000000 in
theorem issig_any (g : Q → Nd → Bool) (F : Nat) (v : Value) (n : Nd) (W : World) (T : SaysF W F 35 #[] (g .typ)) (hft : Fits n) (hv : NdV W (F + 1) v n) :
    Calls Try.prog 38 #[v] W fun e w' => e = .returned (.bool (isSigB g n)) ∧ Below W.heap.size W w' := by
  obtain ⟨A, c, rfl, hm⟩ := hv.val
  have hb : Below W.heap.size W (W.alloc (.cells #[.int .i64 n.kind, .string n.text, .slice A n.kids.length c, .int .i64 n.place] 24)) := (Below.refl _ W).alloc (Nat.le_refl _) _
  have AL := Lib.hid (sig_any g F 32 #[] nameB _ n _ (T.below hb) (fun s => name_s s _) hft (hv.below hb))
  have HB := Lib.hid hb
  clear hb hv T hft
  unfold isSigB
  unfold Nd.val at AL ⊢
  generalize sigB g nameB n = r at AL ⊢
  go_enter Try.func38, Try.ntmps38
  go_wp2_with fail
  refine AL.out.mono ?_
  rintro e w2 ⟨rfl, b2⟩
  have HB2 := Lib.hid (HB.out.trans (b2.mono HB.out.size))
  clear b2
  go_wp2_with fail
  go_ret
  exact ⟨rfl, HB2.out⟩

set_option maxRecDepth 100000 in
set_option maxHeartbeats 1000000 in
theorem type12_any (g : Q → Nd → Bool) (F : Nat) (v : Value) (n : Nd) (W : World) (T : SaysF W F 35 #[] (g .typ)) (hk : n.kind = 12) (hft : Fits n) (hv : NdV W (F + 1) v n) :
    Calls Try.prog 35 #[v] W fun e w' => e = .returned (.bool (sigB g noneB n)) ∧ Below W.heap.size W w' := by
  obtain ⟨A, c, rfl, hm⟩ := hv.val
  have hb : Below W.heap.size W (W.alloc (.cells #[.int .i64 n.kind, .string n.text, .slice A n.kids.length c, .int .i64 n.place] 24)) := (Below.refl _ W).alloc (Nat.le_refl _) _
  have AL := Lib.hid (sig_any g F 51 #[] noneB _ n _ (T.below hb) (fun s => none_s s _) hft (hv.below hb))
  have HB := Lib.hid hb
  clear hb hv T hft
  unfold Nd.val at AL ⊢
  generalize sigB g noneB n = r at AL ⊢
  rw [hk] at AL HB ⊢
  go_enter Try.func35, Try.ntmps35
  go_wp2_with fail
  refine AL.out.mono ?_
  rintro e w2 ⟨rfl, b2⟩
  have HB2 := Lib.hid (HB.out.trans (b2.mono HB.out.size))
  clear b2
  go_wp2_with fail
  go_ret
  exact ⟨rfl, HB2.out⟩

set_option maxRecDepth 100000 in
set_option maxHeartbeats 1000000 in
theorem type10_any (g : Q → Nd → Bool) (F : Nat) (v : Value) (n : Nd) (W : World) (AS : SaysF W F 35 #[] (g .typ)) (hk : n.kind = 10) (hft : Fits n) (hv : NdV W (F + 1) v n) :
    Calls Try.prog 35 #[v] W fun e w' => e = .returned (.bool (nameB n.text && n.kids.all (g .typ))) ∧ Below W.heap.size W w' := by
  obtain ⟨A, c, rfl, hm⟩ := hv.val
  have hb : Below W.heap.size W (W.alloc (.cells #[.int .i64 n.kind, .string n.text, .slice A n.kids.length c, .int .i64 n.place] 24)) := (Below.refl _ W).alloc (Nat.le_refl _) _
  have NS := Lib.hid (name_any n.text (W.alloc (.cells #[.int .i64 n.kind, .string n.text, .slice A n.kids.length c, .int .i64 n.place] 24)))
  have AL := Lib.hid fun w' (h : Below (W.alloc (.cells #[.int .i64 n.kind, .string n.text, .slice A n.kids.length c, .int .i64 n.place] 24)).heap.size (W.alloc (.cells #[.int .i64 n.kind, .string n.text, .slice A n.kids.length c, .int .i64 n.place] 24)) w') => all_f F 35 #[] (g .typ) n.kids A c w' ((AS.below hb).below h) ((hv.lst.below hb).below h) (fun k hk => hft.kid hk) hm
  have KW := Lib.hid (Whole.new W 24 #[.int .i64 n.kind, .string n.text, .slice A n.kids.length c, .int .i64 n.place])
  have HB := Lib.hid hb
  have eg := AS.1
  clear hb hv AS hft
  unfold Nd.val
  generalize n.kids.all (g .typ) = r at AL ⊢
  generalize nameB n.text = b at NS ⊢
  rw [hk] at AL NS HB KW ⊢
  go_enter Try.func35, Try.ntmps35
  go_wp2_with fail
  refine NS.out.mono ?_
  rintro e w2 ⟨rfl, b2⟩
  have HB2 := Lib.hid (HB.out.trans (b2.mono HB.out.size))
  have AL2 := Lib.hid (AL.out _ b2)
  have k2 := KW.out.below b2 KW.out.lt
  have c0 : w2.cell? ⟨W.heap.size, 0, none⟩ = some (.int .i64 10) := k2.cell 0
  have c1 : w2.cell? ⟨W.heap.size, 1, none⟩ = some (.string n.text) := k2.cell 1
  have c2 : w2.cell? ⟨W.heap.size, 2, none⟩ = some (.slice A n.kids.length c) := k2.cell 2
  have c3 : w2.cell? ⟨W.heap.size, 3, none⟩ = some (.int .i64 n.place) := k2.cell 3
  clear b2 k2 AL KW NS HB
  cases b with
  | false =>
    go_wp2_with fail
    go_ret
    exact ⟨rfl, HB2.out⟩
  | true =>
    go_wp2_with fail
    refine AL2.out.mono ?_
    rintro e w3 ⟨rfl, b3⟩
    have HB3 := Lib.hid (HB2.out.trans (b3.mono HB2.out.size))
    clear b3
    go_wp2_with fail
    go_ret
    exact ⟨rfl, HB3.out⟩

set_option maxRecDepth 100000 in
set_option maxHeartbeats 1000000 in
theorem file1_any (g : Q → Nd → Bool) (F : Nat) (v : Value) (n : Nd) (W : World) (AS : SaysF W F 34 #[] (declB g)) (hk : n.kind = 1) (hft : Fits n) (hv : NdV W (F + 1) v n) :
    Calls Try.prog 31 #[v] W fun e w' => e = .returned (.bool (nameB n.text && n.kids.all (declB g))) ∧ Below W.heap.size W w' := by
  obtain ⟨A, c, rfl, hm⟩ := hv.val
  have hb : Below W.heap.size W (W.alloc (.cells #[.int .i64 n.kind, .string n.text, .slice A n.kids.length c, .int .i64 n.place] 24)) := (Below.refl _ W).alloc (Nat.le_refl _) _
  have NS := Lib.hid (name_any n.text (W.alloc (.cells #[.int .i64 n.kind, .string n.text, .slice A n.kids.length c, .int .i64 n.place] 24)))
  have AL := Lib.hid fun w' (h : Below (W.alloc (.cells #[.int .i64 n.kind, .string n.text, .slice A n.kids.length c, .int .i64 n.place] 24)).heap.size (W.alloc (.cells #[.int .i64 n.kind, .string n.text, .slice A n.kids.length c, .int .i64 n.place] 24)) w') => all_f F 34 #[] (declB g) n.kids A c w' ((AS.below hb).below h) ((hv.lst.below hb).below h) (fun k hk => hft.kid hk) hm
  have KW := Lib.hid (Whole.new W 24 #[.int .i64 n.kind, .string n.text, .slice A n.kids.length c, .int .i64 n.place])
  have HB := Lib.hid hb
  have eg := AS.1
  clear hb hv AS hft
  unfold Nd.val
  generalize n.kids.all (declB g) = r at AL ⊢
  generalize nameB n.text = b at NS ⊢
  rw [hk] at AL NS HB KW ⊢
  go_enter Try.func31, Try.ntmps31
  go_wp2_with fail
  refine NS.out.mono ?_
  rintro e w2 ⟨rfl, b2⟩
  have HB2 := Lib.hid (HB.out.trans (b2.mono HB.out.size))
  have AL2 := Lib.hid (AL.out _ b2)
  have k2 := KW.out.below b2 KW.out.lt
  have c0 : w2.cell? ⟨W.heap.size, 0, none⟩ = some (.int .i64 1) := k2.cell 0
  have c1 : w2.cell? ⟨W.heap.size, 1, none⟩ = some (.string n.text) := k2.cell 1
  have c2 : w2.cell? ⟨W.heap.size, 2, none⟩ = some (.slice A n.kids.length c) := k2.cell 2
  have c3 : w2.cell? ⟨W.heap.size, 3, none⟩ = some (.int .i64 n.place) := k2.cell 3
  clear b2 k2 AL KW NS HB
  cases b with
  | false =>
    go_wp2_with fail
    go_ret
    exact ⟨rfl, HB2.out⟩
  | true =>
    go_wp2_with fail
    refine AL2.out.mono ?_
    rintro e w3 ⟨rfl, b3⟩
    have HB3 := Lib.hid (HB2.out.trans (b3.mono HB2.out.size))
    clear b3
    go_wp2_with fail
    go_ret
    exact ⟨rfl, HB3.out⟩

set_option maxRecDepth 100000 in
set_option maxHeartbeats 1000000 in
theorem typeo_any (g : Q → Nd → Bool) (F : Nat) (v : Value) (n : Nd) (W : World)  (h10 : n.kind ≠ 10) (h11 : n.kind ≠ 11) (h12 : n.kind ≠ 12) (hft : Fits n) (hv : NdV W (F + 1) v n) :
    Calls Try.prog 35 #[v] W fun e w' => e = .returned (.bool false) ∧ Below W.heap.size W w' := by
  obtain ⟨A, c, rfl, hm⟩ := hv.val
  have hb : Below W.heap.size W (W.alloc (.cells #[.int .i64 n.kind, .string n.text, .slice A n.kids.length c, .int .i64 n.place] 24)) := (Below.refl _ W).alloc (Nat.le_refl _) _
  have d10 : decide (n.kind = 10) = false := decide_eq_false h10
  have e10 : (n.kind == 10) = false := by simpa using h10
  have d11 : decide (n.kind = 11) = false := decide_eq_false h11
  have e11 : (n.kind == 11) = false := by simpa using h11
  have d12 : decide (n.kind = 12) = false := decide_eq_false h12
  have e12 : (n.kind == 12) = false := by simpa using h12
  have HB := Lib.hid hb
  clear hb hv hft
  unfold Nd.val
  go_enter Try.func35, Try.ntmps35
  go_wp2_with fail
  go_ret
  exact ⟨rfl, HB.out⟩

set_option maxRecDepth 100000 in
set_option maxHeartbeats 1000000 in
theorem fileo_any (v : Value) (F : Nat) (n : Nd) (W : World) (h1 : n.kind ≠ 1) (hv : NdV W (F + 1) v n) : Calls Try.prog 31 #[v] W fun e w' => e = .returned (.bool false) ∧ Below W.heap.size W w' := by
  obtain ⟨A, c, rfl, hm⟩ := hv.val
  have hb : Below W.heap.size W (W.alloc (.cells #[.int .i64 n.kind, .string n.text, .slice A n.kids.length c, .int .i64 n.place] 24)) := (Below.refl _ W).alloc (Nat.le_refl _) _
  have HB := Lib.hid hb
  have e1 : (n.kind == 1) = false := by simpa using h1
  clear hb hv
  unfold Nd.val
  go_enter Try.func31, Try.ntmps31
  go_wp2_with fail
  go_ret
  exact ⟨rfl, HB.out⟩

set_option maxRecDepth 100000 in
set_option maxHeartbeats 1000000 in
theorem declo_any (g : Q → Nd → Bool) (F : Nat) (v : Value) (n : Nd) (W : World) (AS : SaysF W (F + 1) 49 #[] (varB g)) (h2 : n.kind ≠ 2) (h3 : n.kind ≠ 3) (h4 : n.kind ≠ 4) (hft : Fits n) (hv : NdV W (F + 1) v n) :
    Calls Try.prog 34 #[v] W fun e w' => e = .returned (.bool ((varB g) n)) ∧ Below W.heap.size W w' := by
  obtain ⟨A, c, rfl, hm⟩ := hv.val
  have hb : Below W.heap.size W (W.alloc (.cells #[.int .i64 n.kind, .string n.text, .slice A n.kids.length c, .int .i64 n.place] 24)) := (Below.refl _ W).alloc (Nat.le_refl _) _
  have AL := Lib.hid (AS.2 _ _ n hb hft (hv.below hb))
  have HB := Lib.hid hb
  have d2 : decide (n.kind = 2) = false := decide_eq_false h2
  have e2 : (n.kind == 2) = false := by simpa using h2
  have d3 : decide (n.kind = 3) = false := decide_eq_false h3
  have e3 : (n.kind == 3) = false := by simpa using h3
  have d4 : decide (n.kind = 4) = false := decide_eq_false h4
  have e4 : (n.kind == 4) = false := by simpa using h4
  clear hb hv AS hft
  unfold Nd.val at AL ⊢
  generalize (varB g) n = r at AL ⊢
  go_enter Try.func34, Try.ntmps34
  go_wp2_with fail
  refine AL.out.mono ?_
  rintro e w2 ⟨rfl, b2⟩
  have HB2 := Lib.hid (HB.out.trans (b2.mono HB.out.size))
  clear b2
  go_wp2_with fail
  go_ret
  exact ⟨rfl, HB2.out⟩

set_option maxRecDepth 100000 in
set_option maxHeartbeats 1000000 in
theorem stmt5_any (g : Q → Nd → Bool) (F : Nat) (v : Value) (n : Nd) (W : World) (AS : SaysF W (F + 1) 49 #[] (varB g)) (hk : n.kind = 5) (hft : Fits n) (hv : NdV W (F + 1) v n) :
    Calls Try.prog 37 #[v] W fun e w' => e = .returned (.bool ((varB g) n)) ∧ Below W.heap.size W w' := by
  obtain ⟨A, c, rfl, hm⟩ := hv.val
  have hb : Below W.heap.size W (W.alloc (.cells #[.int .i64 n.kind, .string n.text, .slice A n.kids.length c, .int .i64 n.place] 24)) := (Below.refl _ W).alloc (Nat.le_refl _) _
  have AL := Lib.hid (AS.2 _ _ n hb hft (hv.below hb))
  have HB := Lib.hid hb
  clear hb hv AS hft
  unfold Nd.val at AL ⊢
  generalize (varB g) n = r at AL ⊢
  rw [hk] at AL HB ⊢
  go_enter Try.func37, Try.ntmps37
  go_wp2_with fail
  refine AL.out.mono ?_
  rintro e w2 ⟨rfl, b2⟩
  have HB2 := Lib.hid (HB.out.trans (b2.mono HB.out.size))
  clear b2
  go_wp2_with fail
  go_ret
  exact ⟨rfl, HB2.out⟩

set_option maxRecDepth 100000 in
set_option maxHeartbeats 1000000 in
theorem stmt26_any (g : Q → Nd → Bool) (F : Nat) (v : Value) (n : Nd) (W : World) (AS : SaysF W (F + 1) 57 #[] (shortB g)) (hk : n.kind = 26) (hft : Fits n) (hv : NdV W (F + 1) v n) :
    Calls Try.prog 37 #[v] W fun e w' => e = .returned (.bool ((shortB g) n)) ∧ Below W.heap.size W w' := by
  obtain ⟨A, c, rfl, hm⟩ := hv.val
  have hb : Below W.heap.size W (W.alloc (.cells #[.int .i64 n.kind, .string n.text, .slice A n.kids.length c, .int .i64 n.place] 24)) := (Below.refl _ W).alloc (Nat.le_refl _) _
  have AL := Lib.hid (AS.2 _ _ n hb hft (hv.below hb))
  have HB := Lib.hid hb
  clear hb hv AS hft
  unfold Nd.val at AL ⊢
  generalize (shortB g) n = r at AL ⊢
  rw [hk] at AL HB ⊢
  go_enter Try.func37, Try.ntmps37
  go_wp2_with fail
  refine AL.out.mono ?_
  rintro e w2 ⟨rfl, b2⟩
  have HB2 := Lib.hid (HB.out.trans (b2.mono HB.out.size))
  clear b2
  go_wp2_with fail
  go_ret
  exact ⟨rfl, HB2.out⟩

set_option maxRecDepth 100000 in
set_option maxHeartbeats 1000000 in
theorem stmt27_any (g : Q → Nd → Bool) (F : Nat) (v : Value) (n : Nd) (W : World) (AS : SaysF W (F + 1) 58 #[] (setB g)) (hk : n.kind = 27) (hft : Fits n) (hv : NdV W (F + 1) v n) :
    Calls Try.prog 37 #[v] W fun e w' => e = .returned (.bool ((setB g) n)) ∧ Below W.heap.size W w' := by
  obtain ⟨A, c, rfl, hm⟩ := hv.val
  have hb : Below W.heap.size W (W.alloc (.cells #[.int .i64 n.kind, .string n.text, .slice A n.kids.length c, .int .i64 n.place] 24)) := (Below.refl _ W).alloc (Nat.le_refl _) _
  have AL := Lib.hid (AS.2 _ _ n hb hft (hv.below hb))
  have HB := Lib.hid hb
  clear hb hv AS hft
  unfold Nd.val at AL ⊢
  generalize (setB g) n = r at AL ⊢
  rw [hk] at AL HB ⊢
  go_enter Try.func37, Try.ntmps37
  go_wp2_with fail
  refine AL.out.mono ?_
  rintro e w2 ⟨rfl, b2⟩
  have HB2 := Lib.hid (HB.out.trans (b2.mono HB.out.size))
  clear b2
  go_wp2_with fail
  go_ret
  exact ⟨rfl, HB2.out⟩

set_option maxRecDepth 100000 in
set_option maxHeartbeats 1000000 in
theorem stmt28_any (g : Q → Nd → Bool) (F : Nat) (v : Value) (n : Nd) (W : World) (AS : SaysF W (F + 1) 59 #[] (incB g)) (hk : n.kind = 28) (hft : Fits n) (hv : NdV W (F + 1) v n) :
    Calls Try.prog 37 #[v] W fun e w' => e = .returned (.bool ((incB g) n)) ∧ Below W.heap.size W w' := by
  obtain ⟨A, c, rfl, hm⟩ := hv.val
  have hb : Below W.heap.size W (W.alloc (.cells #[.int .i64 n.kind, .string n.text, .slice A n.kids.length c, .int .i64 n.place] 24)) := (Below.refl _ W).alloc (Nat.le_refl _) _
  have AL := Lib.hid (AS.2 _ _ n hb hft (hv.below hb))
  have HB := Lib.hid hb
  clear hb hv AS hft
  unfold Nd.val at AL ⊢
  generalize (incB g) n = r at AL ⊢
  rw [hk] at AL HB ⊢
  go_enter Try.func37, Try.ntmps37
  go_wp2_with fail
  refine AL.out.mono ?_
  rintro e w2 ⟨rfl, b2⟩
  have HB2 := Lib.hid (HB.out.trans (b2.mono HB.out.size))
  clear b2
  go_wp2_with fail
  go_ret
  exact ⟨rfl, HB2.out⟩

set_option maxRecDepth 100000 in
set_option maxHeartbeats 1000000 in
theorem stmt29_any (g : Q → Nd → Bool) (F : Nat) (v : Value) (n : Nd) (W : World) (AS : SaysF W (F + 1) 60 #[] (callB g)) (hk : n.kind = 29) (hft : Fits n) (hv : NdV W (F + 1) v n) :
    Calls Try.prog 37 #[v] W fun e w' => e = .returned (.bool ((callB g) n)) ∧ Below W.heap.size W w' := by
  obtain ⟨A, c, rfl, hm⟩ := hv.val
  have hb : Below W.heap.size W (W.alloc (.cells #[.int .i64 n.kind, .string n.text, .slice A n.kids.length c, .int .i64 n.place] 24)) := (Below.refl _ W).alloc (Nat.le_refl _) _
  have AL := Lib.hid (AS.2 _ _ n hb hft (hv.below hb))
  have HB := Lib.hid hb
  clear hb hv AS hft
  unfold Nd.val at AL ⊢
  generalize (callB g) n = r at AL ⊢
  rw [hk] at AL HB ⊢
  go_enter Try.func37, Try.ntmps37
  go_wp2_with fail
  refine AL.out.mono ?_
  rintro e w2 ⟨rfl, b2⟩
  have HB2 := Lib.hid (HB.out.trans (b2.mono HB.out.size))
  clear b2
  go_wp2_with fail
  go_ret
  exact ⟨rfl, HB2.out⟩

set_option maxRecDepth 100000 in
set_option maxHeartbeats 1000000 in
theorem stmt30_any (g : Q → Nd → Bool) (F : Nat) (v : Value) (n : Nd) (W : World) (AS : SaysF W (F + 1) 61 #[] (ifB g)) (hk : n.kind = 30) (hft : Fits n) (hv : NdV W (F + 1) v n) :
    Calls Try.prog 37 #[v] W fun e w' => e = .returned (.bool ((ifB g) n)) ∧ Below W.heap.size W w' := by
  obtain ⟨A, c, rfl, hm⟩ := hv.val
  have hb : Below W.heap.size W (W.alloc (.cells #[.int .i64 n.kind, .string n.text, .slice A n.kids.length c, .int .i64 n.place] 24)) := (Below.refl _ W).alloc (Nat.le_refl _) _
  have AL := Lib.hid (AS.2 _ _ n hb hft (hv.below hb))
  have HB := Lib.hid hb
  clear hb hv AS hft
  unfold Nd.val at AL ⊢
  generalize (ifB g) n = r at AL ⊢
  rw [hk] at AL HB ⊢
  go_enter Try.func37, Try.ntmps37
  go_wp2_with fail
  refine AL.out.mono ?_
  rintro e w2 ⟨rfl, b2⟩
  have HB2 := Lib.hid (HB.out.trans (b2.mono HB.out.size))
  clear b2
  go_wp2_with fail
  go_ret
  exact ⟨rfl, HB2.out⟩

set_option maxRecDepth 100000 in
set_option maxHeartbeats 1000000 in
theorem stmto_any (g : Q → Nd → Bool) (F : Nat) (v : Value) (n : Nd) (W : World) (AS : SaysF W (F + 1) 45 #[] (blockB g)) (h5 : n.kind ≠ 5) (h26 : n.kind ≠ 26) (h27 : n.kind ≠ 27) (h28 : n.kind ≠ 28) (h29 : n.kind ≠ 29) (h30 : n.kind ≠ 30) (h31 : n.kind ≠ 31) (h32 : n.kind ≠ 32) (h33 : n.kind ≠ 33) (h34 : n.kind ≠ 34) (h35 : n.kind ≠ 35) (hft : Fits n) (hv : NdV W (F + 1) v n) :
    Calls Try.prog 37 #[v] W fun e w' => e = .returned (.bool ((blockB g) n)) ∧ Below W.heap.size W w' := by
  obtain ⟨A, c, rfl, hm⟩ := hv.val
  have hb : Below W.heap.size W (W.alloc (.cells #[.int .i64 n.kind, .string n.text, .slice A n.kids.length c, .int .i64 n.place] 24)) := (Below.refl _ W).alloc (Nat.le_refl _) _
  have AL := Lib.hid (AS.2 _ _ n hb hft (hv.below hb))
  have HB := Lib.hid hb
  have d5 : decide (n.kind = 5) = false := decide_eq_false h5
  have e5 : (n.kind == 5) = false := by simpa using h5
  have d26 : decide (n.kind = 26) = false := decide_eq_false h26
  have e26 : (n.kind == 26) = false := by simpa using h26
  have d27 : decide (n.kind = 27) = false := decide_eq_false h27
  have e27 : (n.kind == 27) = false := by simpa using h27
  have d28 : decide (n.kind = 28) = false := decide_eq_false h28
  have e28 : (n.kind == 28) = false := by simpa using h28
  have d29 : decide (n.kind = 29) = false := decide_eq_false h29
  have e29 : (n.kind == 29) = false := by simpa using h29
  have d30 : decide (n.kind = 30) = false := decide_eq_false h30
  have e30 : (n.kind == 30) = false := by simpa using h30
  have d31 : decide (n.kind = 31) = false := decide_eq_false h31
  have e31 : (n.kind == 31) = false := by simpa using h31
  have d32 : decide (n.kind = 32) = false := decide_eq_false h32
  have e32 : (n.kind == 32) = false := by simpa using h32
  have d33 : decide (n.kind = 33) = false := decide_eq_false h33
  have e33 : (n.kind == 33) = false := by simpa using h33
  have d34 : decide (n.kind = 34) = false := decide_eq_false h34
  have e34 : (n.kind == 34) = false := by simpa using h34
  have d35 : decide (n.kind = 35) = false := decide_eq_false h35
  have e35 : (n.kind == 35) = false := by simpa using h35
  clear hb hv AS hft
  unfold Nd.val at AL ⊢
  generalize (blockB g) n = r at AL ⊢
  go_enter Try.func37, Try.ntmps37
  go_wp2_with fail
  refine AL.out.mono ?_
  rintro e w2 ⟨rfl, b2⟩
  have HB2 := Lib.hid (HB.out.trans (b2.mono HB.out.size))
  clear b2
  go_wp2_with fail
  go_ret
  exact ⟨rfl, HB2.out⟩

end Go.Proofs.Ytkmhijkpbmcgbaa
