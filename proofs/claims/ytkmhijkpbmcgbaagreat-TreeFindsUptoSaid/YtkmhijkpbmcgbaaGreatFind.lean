/-
  The program's Find: its walk.
-/
import Derived.Test.YtkmhijkpbmcgbaaGreatFindK
import Derived.Test.YtkmhijkpbmcgbaaGreatHeld
namespace Go.Proofs.YtkmhijkpbmcgbaaGreat
set_option linter.all false
open Go.RowKit Go.Shelf

attribute [local go_sem] Oper.semAt_some

def findN (left : Nat) (kind : Int) (n : Nd) : List Nd := ((allN left n).map (·.1)).filter fun x => x.kind == kind
/-- A node of bounded size. -/
def Fit (n : Nd) : Prop := ∀ m, sizeN m n ≤ 1048576
theorem Fit.kid : ∀ (n k : Nd), Fit n → k ∈ n.kids → Fit k := fun n k h hk m => by
  obtain ⟨p, hp⟩ := List.getElem?_of_mem hk
  exact Nat.le_trans (size_kid hp) (h (m + 1))
def foundN {w0 : World} {f0 : Nat} {R : Nd → Prop} (kind : Int) (pre : List (ItemR w0 f0 R)) : List Nd := (pre.map (·.n)).filter fun x => x.kind == kind
theorem foundN_snoc {w0 : World} {f0 : Nat} {R : Nd → Prop} (kind : Int) (pre : List (ItemR w0 f0 R)) (x : ItemR w0 f0 R) : foundN kind (pre ++ [x]) = foundN kind pre ++ if x.n.kind == kind then [x.n] else [] := by
  unfold foundN
  simp [List.filter_append, List.filter_cons]
theorem foundN_len {w0 : World} {f0 : Nat} {R : Nd → Prop} (kind : Int) (pre : List (ItemR w0 f0 R)) : (foundN kind pre).length ≤ pre.length := by
  unfold foundN
  exact Nat.le_trans (List.length_filter_le _ _) (by simp)
theorem foundN_key {w0 : World} {f0 : Nat} {R : Nd → Prop} (kind : Int) {ys : List (ItemR w0 f0 R)} {l : List (Nd × Nat)} (h : ys.map ItemR.key = l) : foundN kind ys = (l.map (·.1)).filter fun x => x.kind == kind := by
  rw [← h]
  unfold foundN
  rw [List.map_map]
  rfl

theorem row_shape {S : Nat → Nat → Prop} {base : Nat} {W : World} {d f : Nat} {v : Value} {l : List Ent} (h : RowNd S base W d f v l) : ∃ a c, v = .slice a l.length c := by
  rcases h.1.2 with ⟨hv, h0⟩ | ⟨g, cap, cur, hv, _⟩
  · exact ⟨none, 0, by rw [hv, h0]⟩
  · exact ⟨_, _, hv⟩

/-- What holds between two rounds. -/
def FindI (w : World) (f : Nat) (kind : Int) (pre : List (ItemR w f Fit)) (W : World) : Prop :=
  (∃ (u : Value) (l : List Ent), W.cell? ⟨w.heap.size + 1 + 1, 0, none⟩ = some u ∧ W.frozen? ⟨w.heap.size + 1 + 1, 0, none⟩ = false ∧ l.map (·.1) = foundN kind pre ∧
    RowNd (fun d b => (d = 0 ∧ b < w.heap.size) ∨ w.heap.size + 3 ≤ b) (w.heap.size + 3) W 100 f u l) ∧ W.cell? ⟨w.heap.size + 1, 0, none⟩ = some (.int .i64 kind)
theorem findI_own (w : World) (f : Nat) (kind : Int) : Own (FindI w f kind) := fun s A B row hs hg hr => by
  obtain ⟨⟨u, l, h1, h2, h3, h4⟩, h5⟩ := hs
  exact ⟨⟨u, l, cell_kept h1 hg hr, (frozen_kept h1 hg hr).trans h2, h3, h4.abides hg hr⟩, cell_kept h5 hg hr⟩
/-- What the assignment leaves. -/
def FindA (w : World) (f : Nat) (base : Array Value) (x : ItemR w f Fit) (a' : Act) (W : World) : Prop :=
  ∃ Bx, w.heap.size + 3 ≤ Bx ∧ (∃ A c, x.v = x.n.val A c ∧ W.heap[Bx]? = some (.cells (cellsOf x.n A c) 24 (0, 0))) ∧ (∀ u, W.cell? ⟨w.heap.size + 1 + 1, 0, none⟩ = some u → u.ownBlock ≠ some Bx) ∧ (W.cell? ⟨w.heap.size + 1 + 1, 0, none⟩).isSome = true ∧
    a' = { tmps := ((base.setIfInBounds 9 x.v).setIfInBounds 10 (.int .i64 x.left)).setIfInBounds 6 (.pointer (some ⟨Bx, 0, none⟩)), defers := [] }
theorem findA_own (w : World) (f : Nat) (base : Array Value) (x : ItemR w f Fit) (a' : Act) : Own (fun (_ : Unit) W => FindA w f base x a' W) := fun s A B row hs hg hr => by
  obtain ⟨Bx, h1, ⟨Ax, cx, h2, h3⟩, h4, h5, h6⟩ := hs
  obtain ⟨u, hu⟩ := Option.isSome_iff_exists.1 h5
  have e := cell_kept hu hg hr
  refine ⟨Bx, h1, ⟨Ax, cx, h2, ?_⟩, fun u' hu' => ?_, by rw [e]; rfl, h6⟩
  · exact (grownBy_keeps_cells hg hr h3 rfl).trans h3
  · rw [e] at hu'
    injection hu' with hu'
    rw [← hu']
    exact h4 u hu

set_option maxRecDepth 100000 in
set_option maxHeartbeats 2000000 in
theorem find_in (F : Fence) (hF : F = Fence.wide) (f : Nat) (v : Value) (n : Nd) (kind : Int) (w : World) (hv : NdV w f v n) (hz : ∀ m, sizeN m n ≤ 1048576) :
    CallsIn F 3 Tryz.prog 14 #[v, .int .i64 kind] w fun e w' => ∃ (u : Value) (l : List Ent), e = .returned u ∧ l.map (·.1) = findN 100 kind n ∧
      RowNd (fun d b => (d = 0 ∧ b < w.heap.size) ∨ w.heap.size ≤ b) w.heap.size w' 100 f u l ∧ Below w.heap.size w w' := by
  have hd : F.depth = none := by rw [hF]; rfl
  have hro : F.round = none := by rw [hF]; rfl
  have hfn : ∀ g, F.fn g := by rw [hF]; exact fun _ => trivial
  have h17 : F.fn 25 := hfn 25
  have h22 : F.fn 23 := hfn 23
  have h29 : F.fn 48 := hfn 48
  have h30 : F.fn 49 := hfn 49
  have HF := Lib.hid hF
  obtain ⟨A, c, rfl, hm⟩ := hv.val
  have HV := Lib.hid hv
  have HZ := Lib.hid hz
  have h18 : F.fn 14 := hfn 14
  clear hv hF hfn hz
  unfold Nd.val
  refine callsIn_of_wp_marks Tryz.func14 rfl h18 ?_ hro
  simp only [Tryz.ntmps14, List.size_toArray, List.length_cons, List.length_nil, Nat.reduceAdd, Nat.reduceSub, Array.replicate_succ, Array.replicate_zero, List.push_toArray, List.append_toArray, List.nil_append, List.cons_append]
  gi_wp2_with (gi_at_call 23; refine (nodes_in F (3 - 1) h22 hro n A c _ _).mono ?_; rintro e w' ⟨rfl, rfl⟩)
  obtain ⟨W4, hW4⟩ : ∃ W4, (((((w.alloc (.cells #[.int .i64 n.kind, .string n.text, .slice A n.kids.length c, .int .i64 n.place] 24)).alloc (.cells #[.int .i64 kind] 3)).alloc (.cells #[.slice none 0 0] 22)).alloc (.cells (cellsOf n A c) 24)).alloc (.cells #[.int .i64 100] 3)) = W4 := ⟨_, rfl⟩
  rw [hW4]
  have hsz : W4.heap.size = w.heap.size + 5 := by rw [← hW4]; simp
  have hB0 : Below w.heap.size w W4 := by rw [← hW4]; exact (((((Below.refl _ w).alloc (Nat.le_refl _) _).alloc (by simp) _).alloc (by simp; omega) _).alloc (by simp; omega) _).alloc (by simp; omega) _
  have hkd : Whole W4 (w.heap.size + 1) 3 #[.int .i64 kind] := by
    rw [← hW4]
    have h := ((((Whole.new (w.alloc (.cells #[.int .i64 n.kind, .string n.text, .slice A n.kids.length c, .int .i64 n.place] 24)) 3 #[.int .i64 kind]).alloc (.cells #[.slice none 0 0] 22)).alloc (.cells (cellsOf n A c) 24)).alloc (.cells #[.int .i64 100] 3))
    simpa using h
  have hacc : Whole W4 (w.heap.size + 1 + 1) 22 #[.slice none 0 0] := by
    rw [← hW4]
    have h := (((Whole.new ((w.alloc (.cells #[.int .i64 n.kind, .string n.text, .slice A n.kids.length c, .int .i64 n.place] 24)).alloc (.cells #[.int .i64 kind] 3)) 22 #[.slice none 0 0]).alloc (.cells (cellsOf n A c) 24)).alloc (.cells #[.int .i64 100] 3))
    simpa using h
  have hb1 : Whole W4 (w.heap.size + 1 + 1 + 1) 24 (cellsOf n A c) := by
    rw [← hW4]
    have h := ((Whole.new (((w.alloc (.cells #[.int .i64 n.kind, .string n.text, .slice A n.kids.length c, .int .i64 n.place] 24)).alloc (.cells #[.int .i64 kind] 3)).alloc (.cells #[.slice none 0 0] 22)) 24 (cellsOf n A c)).alloc (.cells #[.int .i64 100] 3))
    simpa using h
  have hb2 : Whole W4 (w.heap.size + 1 + 1 + 1 + 1) 3 #[.int .i64 100] := by
    rw [← hW4]
    have h := Whole.new ((((w.alloc (.cells #[.int .i64 n.kind, .string n.text, .slice A n.kids.length c, .int .i64 n.place] 24)).alloc (.cells #[.int .i64 kind] 3)).alloc (.cells #[.slice none 0 0] 22)).alloc (.cells (cellsOf n A c) 24)) 3 #[.int .i64 100]
    simpa using h
  clear hW4
  have hG0 : ∀ W, Below W4.heap.size W4 W → RowG (w.heap.size + 1 + 1) W := fun W hW => by
    have h1 := hW.size
    refine ⟨by omega, fun u hu g hg => ?_⟩
    rw [hW.cell (p := ⟨w.heap.size + 1 + 1, 0, none⟩) (by simp only; omega), hacc.cell 0] at hu
    injection hu with hu
    rw [← hu] at hg
    cases hg
  have hN := all_size 100 n
  have hNz := HZ.out 100
  refine wpIn_rangeFunc_ownH hro (by omega) (gf := 48) (lb := #[.pointer (some ⟨w.heap.size + 1 + 1 + 1, 0, none⟩), .pointer (some ⟨w.heap.size + 1 + 1 + 1 + 1, 0, none⟩)]) rfl h29 (enters_of Tryz.func48 (by kernel_rfl) rfl)
    (nodes1_stopsR F hd (3 - 1) h29 h30 hro w W4 f Fit Fit.kid _ _ (RowK.keeps (n₀ := w.heap.size) (acc := w.heap.size + 1 + 1) (by omega)) hB0 hG0 f 100 n A c HV.out (by omega) (Nat.le_refl _) HZ.out _ _ hb1 hb2)
    RowK.trans (RowK.put (by omega) (by omega)) (Below.refl _ _) (fun _ => rfl)
    (fun pre W => FindI w f kind pre W ∧ Below w.heap.size w W)
    (fun _ _ _ => False)
    (OwnFrom.and (Own.from (findI_own w f kind) _) (ownFrom_below (Nat.le_refl _) (by omega)))
    (fun _ _ _ _ _ hs _ _ => hs)
    ⟨⟨⟨_, [], hacc.cell 0, hacc.free 0, rfl, RowNd.nil _ _ _ _ _⟩, hkd.cell 0⟩, hB0⟩
    (FindA w f #[.agg #[.int .i64 n.kind, .string n.text, .slice A n.kids.length c, .int .i64 n.place], .int .i64 kind, .pointer (some ⟨w.heap.size, 0, none⟩), .pointer (some ⟨w.heap.size + 1, 0, none⟩), .slice none 0 0, .pointer (some ⟨w.heap.size + 1 + 1, 0, none⟩), undef,
      .agg #[.int .i64 n.kind, .string n.text, .slice A n.kids.length c, .int .i64 n.place], .func (.func 48) #[] #[.pointer (some ⟨w.heap.size + 1 + 1 + 1, 0, none⟩), .pointer (some ⟨w.heap.size + 1 + 1 + 1 + 1, 0, none⟩)],
      undef, undef, undef, undef, undef, undef, undef, undef, undef, undef, undef, undef, undef, undef])
    (fun x a' => Own.from (findA_own w f _ x a') _) ?assign ?body ?done ?stop
  case assign =>
    intro l pre x W K hi hK
    obtain ⟨Ax, cx, hxv, hxm⟩ := x.read.val
    obtain ⟨⟨⟨u, l1, hu, hfu, hl1, hrow⟩, hkc⟩, hB⟩ := hi
    have hK1 := hK { tmps := ((#[.agg #[.int .i64 n.kind, .string n.text, .slice A n.kids.length c, .int .i64 n.place], .int .i64 kind, .pointer (some ⟨w.heap.size, 0, none⟩), .pointer (some ⟨w.heap.size + 1, 0, none⟩), .slice none 0 0, .pointer (some ⟨w.heap.size + 1 + 1, 0, none⟩), undef,
      .agg #[.int .i64 n.kind, .string n.text, .slice A n.kids.length c, .int .i64 n.place], .func (.func 48) #[] #[.pointer (some ⟨w.heap.size + 1 + 1 + 1, 0, none⟩), .pointer (some ⟨w.heap.size + 1 + 1 + 1 + 1, 0, none⟩)],
      x.v, .int .i64 x.left, undef, undef, undef, undef, undef, undef, undef, undef, undef, undef, undef, undef] : Array Value).setIfInBounds 6 (.pointer (some ⟨W.heap.size, 0, none⟩))), defers := [] } (W.alloc (.cells (cellsOf x.n Ax cx) 24))
    have hac := cell_lt hu
    have hown : ∀ g, u.ownBlock = some g → g < W.heap.size := fun g hg => (hrow.1.lt g hg).2
    have ea := World.cell?_of_block (w := W) (w' := W.alloc (.cells (cellsOf x.n Ax cx) 24)) (a := ⟨w.heap.size + 1 + 1, 0, none⟩) (Below.heap_alloc W _ (w.heap.size + 1 + 1) hac)
    have hA2 := hK1 ((KeepsOthers.alloc _ _).from _) (RowK.alloc W _ hB.size hac)
      ⟨(findI_own w f kind) pre W _ none ⟨⟨u, l1, hu, hfu, hl1, hrow⟩, hkc⟩ (World.grownBy_alloc W _ none) (fun r e => by cases e), hB.alloc hB.size _⟩
      ⟨W.heap.size, by simp at hac; omega, ⟨Ax, cx, hxv, heap_alloc_new W _⟩, fun u' hu' e => (by
        rw [ea, hu] at hu'
        injection hu' with hu'
        rw [← hu'] at e
        have := hown _ e
        omega), by rw [ea, hu]; rfl, rfl⟩
    have HA := Lib.hid hA2
    clear hA2 hK1 hK hu hfu hl1 hrow hkc hB hown ea hB0 hkd hacc hb1 hb2 hG0 hsz
    unfold ItemR.enc
    rw [zip_two]
    rw [hxv] at HA ⊢
    unfold Nd.val at HA ⊢
    simp only [List.foldl_toArray', List.foldl_cons, List.foldl_nil]
    gi_wp2
    simpa using HA.out
  case body =>
    rintro l pre x a' W hl ⟨r, hr⟩ ⟨⟨⟨u, l1, hu, hfu, hl1, hrow⟩, hkc⟩, hB⟩ ⟨Bx, hBx, ⟨Ax, cx, hxv, hxm⟩, hne, hso, rfl⟩ hlt
    have hwx : Whole W Bx 24 (cellsOf x.n Ax cx) := hxm
    have xl := hwx.lt
    have x0 : W.cell? ⟨Bx, 0, none⟩ = some (.int .i64 x.n.kind) := hwx.cell 0
    have x1 : W.cell? ⟨Bx, 1, none⟩ = some (.string x.n.text) := hwx.cell 1
    have x2 : W.cell? ⟨Bx, 2, none⟩ = some (.slice Ax x.n.kids.length cx) := hwx.cell 2
    have x3 : W.cell? ⟨Bx, 3, none⟩ = some (.int .i64 x.n.place) := hwx.cell 3
    have hfs := foundN_snoc kind pre x
    have hfl := foundN_len kind pre
    have hll : l1.length = (foundN kind pre).length := by rw [← hl1]; simp
    obtain ⟨Au, cu, rfl⟩ : ∃ Au cu, u = .slice Au l1.length cu := row_shape hrow
    have hua : w.heap.size + 1 + 1 < W.heap.size := cell_lt hu
    have hlt5 : (l1.length : Int) < (l1.length : Int) + 1 := by omega
    have hneu := hne _ hu
    have hB9 := Lib.hid hB
    have HU := Lib.hid hu
    have HKC := Lib.hid hkc
    have HXR := Lib.hid x.read
    have HOK := Lib.hid x.ok
    have HROW := Lib.hid hrow
    have HL1 := Lib.hid hl1
    have HLL := Lib.hid hll
    have HFS := Lib.hid hfs
    have HWX := Lib.hid hwx
    rw [hxv] at HXR
    have HNE := Lib.hid hne
    rw [hxv]
    clear hxv hxm hB hrow hl1 hll hfs hwx hso hr hB0 hkd hacc hb1 hb2 hG0 hne
    unfold Nd.val at HXR
    unfold Nd.val
    simp only [List.setIfInBounds_toArray, List.set_cons_zero, List.set_cons_succ]
    cases hk : (x.n.kind == kind) with
    | false =>
      have hk2 : ¬ x.n.kind = kind := by simpa using hk
      gi_wp2
      refine ⟨KeepsFrom.refl _ _, RowK.refl _ _ _, ⟨⟨_, l1, HU.out, hfu, ?_, HROW.out⟩, HKC.out⟩, hB9.out⟩
      rw [HL1.out, HFS.out, hk]
      simp
    | true =>
      have hk2 : x.n.kind = kind := by simpa using hk
      have HK := Lib.hid hk
      clear hk
      obtain rfl := HF.out
      have hk3 : (x.n.kind == kind) = true := HK.out
      clear hk2
      have cc := fun W' (hW : Below W.heap.size W W') => copy_any (fun b => b < w.heap.size) f _ x.n W' (HOK.out 101) (((HXR.out.ndp (d := 0)).below hB9.out).below hW)
      have cc2 := fun W' (hW : Below W.heap.size W W') => (cc W' hW).mono (R' := fun e w' => ∃ A c, e = .returned (.agg #[.int .i64 x.n.kind, .string x.n.text, .slice A x.n.kids.length c, .int .i64 x.n.place]) ∧
        NdP (fun d b => (d = 0 ∧ b < w.heap.size) ∨ W.heap.size ≤ b) w' 100 f (x.n.val A c) x.n ∧ Below W'.heap.size W' w') (fun e w' h => by
          obtain ⟨A, c, h1, h2, h3⟩ := h
          exact ⟨A, c, h1, h2.weak (fun d b hs => by rcases hs with hs | hs; exact .inl hs; exact .inr (Nat.le_trans hW.size hs)), h3⟩)
      have CC := Lib.hid cc2
      clear cc cc2
      gi_wp2
      refine Held.beginIn_ (fun w' => w'.cell? ⟨Bx, 0, none⟩ = some (.int .i64 x.n.kind) ∧ w'.cell? ⟨Bx, 1, none⟩ = some (.string x.n.text) ∧ w'.cell? ⟨Bx, 2, none⟩ = some (.slice Ax x.n.kids.length cx) ∧ w'.cell? ⟨Bx, 3, none⟩ = some (.int .i64 x.n.place)) (fun w' => w'.cell? ⟨w.heap.size + 1 + 1, 0, none⟩ = some (.slice Au l1.length cu)) 8 (by kernel_rfl) (by kernel_rfl) (⟨x0, x1, x2, x3⟩) (HU.out) ?_
      refine Held.take (i := 0) (oi := { dst := some 15, op := Op.load 22 (Operand.tmp 5), type := 22, pos := "tree.go:297", after := #[], guard := none }) (v := ?_) true [] rfl (by decide) (by kernel_rfl) (by kernel_rfl) (by kernel_rfl) (by kernel_rfl) (fun _ _ _ h => h) (Or.inl ⟨by rfl, ?_⟩) ?_
      rotate_left
      · rintro w ⟨hS0, hS1⟩
        have hS2 := hS1 rfl
        clear hS1
        (try dsimp only at hS2)
        (try dsimp only at hS0)
        go_simp
        (try with_reducible rfl)
      try simp only [Act.put, List.setIfInBounds_toArray, List.set_cons_zero, List.set_cons_succ]
      refine Held.take (i := 1) (oi := { dst := some 16, op := Op.load 24 (Operand.tmp 6), type := 24, pos := "tree.go:297", after := #[], guard := none }) (v := ?_) false [] rfl (by decide) (by kernel_rfl) (by kernel_rfl) (by kernel_rfl) (by kernel_rfl) (fun _ _ _ h => h) (Or.inl ⟨by rfl, ?_⟩) ?_
      rotate_left
      · rintro w ⟨hS0, hS1⟩
        clear hS1
        (try dsimp only at hS0)
        go_simp
        (try with_reducible rfl)
      try simp only [Act.put, List.setIfInBounds_toArray, List.set_cons_zero, List.set_cons_succ]
      refine Held.take (i := 3) (oi := { dst := some 18, op := Op.call { callee := Callee.builtin Builtin.len, args := #[Operand.tmp 15], argTypes := #[22] }, type := 3, pos := "tree.go:297", after := #[{ on := 0, ground := Ground.data }], guard := none }) (v := ?_) false [] rfl (by decide) (by kernel_rfl) (by kernel_rfl) (by kernel_rfl) (by kernel_rfl) (fun _ _ _ h => h) (Or.inl ⟨by rfl, ?_⟩) ?_
      rotate_left
      · rintro w ⟨hS0, hS1⟩
        clear hS1
        (try dsimp only at hS0)
        go_simp
        (try with_reducible rfl)
      try simp only [Act.put, List.setIfInBounds_toArray, List.set_cons_zero, List.set_cons_succ]
      refine Held.step2 (i := 2) (j := 4) (o := { dst := some 17, op := Op.call { callee := Callee.value (Operand.func 25), args := #[Operand.tmp 16], argTypes := #[24] }, type := 24, pos := "tree.go:297", after := #[{ on := 1, ground := Ground.data }], guard := none }) (o' := { dst := some 19, op := Op.buildSlice 22 1 #[(0, Operand.const (Value.agg #[Value.int IntKind.i64 0, Value.string { data := #[] }, Value.slice none 0 0, Value.int IntKind.i64 0]))], type := 22, pos := "tree.go:297", after := #[], guard := none }) rfl rfl (by kernel_rfl) (fun K hK => ?_) (fun K hK => ?_)
      go_simp
      go_at_call 25
      refine (CC.out _ ((Below.refl _ W).drew)).mono ?_
      rintro e w2 ⟨A2, c2, rfl, n2, b2⟩
      have BW := Lib.hid (((Below.refl _ W).drew).trans b2)
      have sz2 : W.heap.size ≤ w2.heap.size := b2.size
      have N2 := Lib.hid n2
      clear n2 b2
      refine hK.out _ _ ⟨⟨(BW.out.cell (p := ⟨Bx, 0, none⟩) xl).trans x0, (BW.out.cell (p := ⟨Bx, 1, none⟩) xl).trans x1, (BW.out.cell (p := ⟨Bx, 2, none⟩) xl).trans x2, (BW.out.cell (p := ⟨Bx, 3, none⟩) xl).trans x3⟩, fun _ => (BW.out.cell (p := ⟨w.heap.size + 1 + 1, 0, none⟩) hua).trans HU.out⟩ ?_
      clear hK K
      try simp only [Act.put, List.setIfInBounds_toArray, List.set_cons_zero, List.set_cons_succ]
      refine Held.step (i := 4) (o := { dst := some 19, op := Op.buildSlice 22 1 #[(0, Operand.const (Value.agg #[Value.int IntKind.i64 0, Value.string { data := #[] }, Value.slice none 0 0, Value.int IntKind.i64 0]))], type := 22, pos := "tree.go:297", after := #[], guard := none }) rfl (by kernel_rfl) (fun K hK => ?_)
      go_simp
      refine hK.out _ _ ⟨⟨((BW.out.alloc BW.out.size _).cell (p := ⟨Bx, 0, none⟩) xl).trans x0, ((BW.out.alloc BW.out.size _).cell (p := ⟨Bx, 1, none⟩) xl).trans x1, ((BW.out.alloc BW.out.size _).cell (p := ⟨Bx, 2, none⟩) xl).trans x2, ((BW.out.alloc BW.out.size _).cell (p := ⟨Bx, 3, none⟩) xl).trans x3⟩, fun _ => ((BW.out.alloc BW.out.size _).cell (p := ⟨w.heap.size + 1 + 1, 0, none⟩) hua).trans HU.out⟩ ?_
      clear hK K
      try simp only [Act.put, List.setIfInBounds_toArray, List.set_cons_zero, List.set_cons_succ]
      have Z5 := Lib.hid (Whole.new w2 24 #[.int .i64 0, .string ⟨#[]⟩, .slice none 0 0, .int .i64 0])
      have BW5 := Lib.hid (BW.out.alloc BW.out.size (.cells #[.int .i64 0, .string ⟨#[]⟩, .slice none 0 0, .int .i64 0] 24))
      have N5 := Lib.hid (N2.out.below ((Below.refl _ w2).alloc (Nat.le_refl _) (.cells #[.int .i64 0, .string ⟨#[]⟩, .slice none 0 0, .int .i64 0] 24)))
      clear BW N2 sz2
      revert Z5 BW5 N5
      generalize w2.alloc (.cells #[.int .i64 0, .string ⟨#[]⟩, .slice none 0 0, .int .i64 0] 24) = W5
      generalize w2.heap.size = z0
      intro Z5 BW5 N5
      rotate_left
      go_simp
      refine hK.out _ _ ⟨⟨((((Below.refl _ W).drew).alloc (Nat.le_refl _) _).cell (p := ⟨Bx, 0, none⟩) xl).trans x0, ((((Below.refl _ W).drew).alloc (Nat.le_refl _) _).cell (p := ⟨Bx, 1, none⟩) xl).trans x1, ((((Below.refl _ W).drew).alloc (Nat.le_refl _) _).cell (p := ⟨Bx, 2, none⟩) xl).trans x2, ((((Below.refl _ W).drew).alloc (Nat.le_refl _) _).cell (p := ⟨Bx, 3, none⟩) xl).trans x3⟩, fun _ => ((((Below.refl _ W).drew).alloc (Nat.le_refl _) _).cell (p := ⟨w.heap.size + 1 + 1, 0, none⟩) hua).trans HU.out⟩ ?_
      clear hK K
      try simp only [Act.put, List.setIfInBounds_toArray, List.set_cons_zero, List.set_cons_succ]
      refine Held.step (i := 2) (o := { dst := some 17, op := Op.call { callee := Callee.value (Operand.func 25), args := #[Operand.tmp 16], argTypes := #[24] }, type := 24, pos := "tree.go:297", after := #[{ on := 1, ground := Ground.data }], guard := none }) rfl (by kernel_rfl) (fun K hK => ?_)
      go_simp
      go_at_call 25
      refine (CC.out _ (((Below.refl _ W).drew).alloc (Nat.le_refl _) (.cells #[.int .i64 0, .string ⟨#[]⟩, .slice none 0 0, .int .i64 0] 24))).mono ?_
      rintro e W5 ⟨A2, c2, rfl, N5, b2⟩
      have BW5 := Lib.hid ((((Below.refl _ W).drew).alloc (Nat.le_refl _) (.cells #[.int .i64 0, .string ⟨#[]⟩, .slice none 0 0, .int .i64 0] 24)).trans (b2.mono (by simp)))
      have Z5 := Lib.hid ((Whole.new W.drew 24 #[.int .i64 0, .string ⟨#[]⟩, .slice none 0 0, .int .i64 0]).below b2 (by simp))
      have N5 := Lib.hid N5
      clear b2
      refine hK.out _ _ ⟨⟨(BW5.out.cell (p := ⟨Bx, 0, none⟩) xl).trans x0, (BW5.out.cell (p := ⟨Bx, 1, none⟩) xl).trans x1, (BW5.out.cell (p := ⟨Bx, 2, none⟩) xl).trans x2, (BW5.out.cell (p := ⟨Bx, 3, none⟩) xl).trans x3⟩, fun _ => (BW5.out.cell (p := ⟨w.heap.size + 1 + 1, 0, none⟩) hua).trans HU.out⟩ ?_
      clear hK K
      try simp only [Act.put, List.setIfInBounds_toArray, List.set_cons_zero, List.set_cons_succ]
      revert Z5
      rw [show W.drew.heap.size = W.heap.size from rfl]
      generalize W.heap.size = z0
      intro Z5
      all_goals
        have R5 := Lib.hid (HROW.out.kept BW5.out)
        obtain ⟨i0, hi0, hz0, hz1, hz2⟩ := info_parts Tryz.info24
        have hlb : l1.length ≤ 1048576 := by have := HLL.out; omega
        have sz5 : W.heap.size ≤ W5.heap.size := BW5.out.size
        have sz6 := hB9.out.size
        refine Held.step (i := 5) (o := { dst := some 20, op := Op.call { callee := Callee.builtin Builtin.append, args := #[Operand.tmp 15, Operand.tmp 19], argTypes := #[22, 22] }, type := 22, pos := "tree.go:297", after := #[{ on := 0, ground := Ground.data }, { on := 4, ground := Ground.data }, { on := 2, ground := Ground.chain }, { on := 0, ground := Ground.phase }, { on := 1, ground := Ground.phase }, { on := 2, ground := Ground.phase }, { on := 3, ground := Ground.phase }, { on := 4, ground := Ground.phase }], guard := none }) rfl (by kernel_rfl) (fun K hK => ?_)
        refine step_append_lies _ (by rfl) _ _ _ (by rfl) (w.heap.size + 3) 24 i0 _ 4 56 Tryz.underlying22 hi0 hz0 hz1 hz2 rfl (by omega) _ l1.length (l1.flatMap cells4) (by rfl) R5.out.1
          ⟨z0, 0, none⟩ 1 1 [.int .i64 0, .string ⟨#[]⟩, .slice none 0 0, .int .i64 0] (by rfl) (by rfl) (World.news_of_block (cs := #[.int .i64 0, .string ⟨#[]⟩, .slice none 0 0, .int .i64 0]) (t := 24) (fr := (0, 0)) Z5.out) (by simp [Value.oneCell'])
          (by omega) (by simp only [maxLen]; omega) (by omega) (by omega) W5.heap.size rfl ?_
        intro gg cap w3 hown3 hgrow hat hlt3
        have sz3 : W5.heap.size ≤ w3.heap.size := hgrow.size
        have gne : gg ≠ w.heap.size + 1 + 1 := fun e => by rcases hat with h | h; have := (HROW.out.1.lt gg h).1; omega; omega
        have gne2 : gg ≠ Bx := fun e => by rcases hat with h | h; exact hneu (by rw [h, e]); omega
        have w3c : ∀ b o v, b < W.heap.size → (Value.slice Au l1.length cu).ownBlock ≠ some b → W.cell? ⟨b, o, none⟩ = some v → w3.cell? ⟨b, o, none⟩ = some v := fun b o v hb hne h => (hgrow.cell_far ⟨b, o, none⟩ (by simp only; omega) (fun e => hne e.symm)).trans ((BW5.out.cell (p := ⟨b, o, none⟩) hb).trans h)
        have hrowlt := fun g hg => (HROW.out.1.lt g hg).1
        have u0 := w3c Bx 0 _ xl hneu x0
        have u1 := w3c Bx 1 _ xl hneu x1
        have u2 := w3c Bx 2 _ xl hneu x2
        have u3 := w3c Bx 3 _ xl hneu x3
        have u4 := w3c (w.heap.size + 1 + 1) 0 _ hua (fun e => by have := hrowlt _ e; omega) HU.out
        have u5 := w3c (w.heap.size + 1) 0 _ (by omega) (fun e => by have := hrowlt _ e; omega) HKC.out
        have v4 : w3.frozen? ⟨w.heap.size + 1 + 1, 0, none⟩ = false := (hgrow.frozen_far ⟨w.heap.size + 1 + 1, 0, none⟩ (by simp only; omega) (fun e => by have : w.heap.size + 3 ≤ w.heap.size + 1 + 1 := hrowlt _ e.symm; omega)).trans ((BW5.out.frozen (p := ⟨w.heap.size + 1 + 1, 0, none⟩) hua).trans hfu)
        have HOWN3 := Lib.hid hown3
        have HG := Lib.hid hgrow
        have HAT := Lib.hid hat
        have hlen4 := flat4_len l1
        have y0 : w3.cell? ⟨gg, l1.length * 4, none⟩ = some (.int .i64 0) := (hown3.cellAt (l1.length * 4) (by omega)).trans (by rw [List.getElem?_append_right (by omega), hlen4]; simp)
        have y1 : w3.cell? ⟨gg, l1.length * 4 + 1, none⟩ = some (.string ⟨#[]⟩) := (hown3.cellAt (l1.length * 4 + 1) (by omega)).trans (by rw [List.getElem?_append_right (by omega), hlen4]; simp)
        have y2 : w3.cell? ⟨gg, l1.length * 4 + 2, none⟩ = some (.slice none 0 0) := (hown3.cellAt (l1.length * 4 + 2) (by omega)).trans (by rw [List.getElem?_append_right (by omega), hlen4]; simp)
        have y3 : w3.cell? ⟨gg, l1.length * 4 + 3, none⟩ = some (.int .i64 0) := (hown3.cellAt (l1.length * 4 + 3) (by omega)).trans (by rw [List.getElem?_append_right (by omega), hlen4]; simp)
        have z0' : ∀ j, w3.frozen? ⟨gg, j, none⟩ = false := fun j => hown3.frozenAt j
        have z00 := z0' (l1.length * 4)
        have z01 := z0' (l1.length * 4 + 1)
        have z02 := z0' (l1.length * 4 + 2)
        have z03 := z0' (l1.length * 4 + 3)
        have U4 := Lib.hid u4
        have HL4 := Lib.hid hlen4
        clear hown3 hgrow hat w3c hrowlt z0' hlen4
        refine hK.out _ _ ⟨⟨u0, u1, u2, u3⟩, fun _ => U4.out⟩ ?_
        clear hK K
        try simp only [Act.put, List.setIfInBounds_toArray, List.set_cons_zero, List.set_cons_succ]
        refine Held.take (i := 6) (oi := { dst := some 21, op := Op.indexAddr 22 (Operand.tmp 20) (Operand.tmp 18), type := 0, pos := "tree.go:297", after := #[{ on := 5, ground := Ground.data }, { on := 3, ground := Ground.data }, { on := 0, ground := Ground.phase }, { on := 1, ground := Ground.phase }, { on := 2, ground := Ground.phase }, { on := 3, ground := Ground.phase }, { on := 4, ground := Ground.phase }, { on := 5, ground := Ground.phase }, { on := 8, ground := Ground.gcOnly Departure.appendInPlace }], guard := none }) (v := ?_) false [] rfl (by decide) (by kernel_rfl) (by kernel_rfl) (by kernel_rfl) (by kernel_rfl) (fun _ _ _ h => h) (Or.inl ⟨by rfl, ?_⟩) ?_
        rotate_left
        · rintro w ⟨hS0, hS1⟩
          clear hS1
          (try dsimp only at hS0)
          go_simp
          (try with_reducible rfl)
        try simp only [Act.put, List.setIfInBounds_toArray, List.set_cons_zero, List.set_cons_succ]
        refine Held.step2 (i := 7) (j := 8) (o := { dst := none, op := Op.store 24 (Operand.tmp 21) (Operand.tmp 17), type := 0, pos := "tree.go:297", after := #[{ on := 6, ground := Ground.data }, { on := 2, ground := Ground.data }, { on := 5, ground := Ground.chain }, { on := 0, ground := Ground.phase }, { on := 1, ground := Ground.phase }, { on := 2, ground := Ground.phase }, { on := 3, ground := Ground.phase }, { on := 4, ground := Ground.phase }, { on := 5, ground := Ground.phase }, { on := 8, ground := Ground.gcOnly Departure.appendInPlace }], guard := none }) (o' := { dst := none, op := Op.store 22 (Operand.tmp 5) (Operand.tmp 20), type := 0, pos := "tree.go:297", after := #[{ on := 5, ground := Ground.data }, { on := 5, ground := Ground.chain }, { on := 7, ground := Ground.textOnly Departure.appendInPlace }, { on := 0, ground := Ground.phase }, { on := 1, ground := Ground.phase }, { on := 2, ground := Ground.phase }, { on := 3, ground := Ground.phase }, { on := 4, ground := Ground.phase }, { on := 5, ground := Ground.phase }, { on := 6, ground := Ground.textOnly Departure.appendInPlace }, { on := 7, ground := Ground.textOnly Departure.appendInPlace }], guard := none }) rfl rfl (by kernel_rfl) (fun K hK => ?_) (fun K hK => ?_)
        go_simp
        refine hK.out _ _ ⟨⟨set4_far u0 (Ne.symm gne2), set4_far u1 (Ne.symm gne2), set4_far u2 (Ne.symm gne2), set4_far u3 (Ne.symm gne2)⟩, fun _ => set4_far U4.out (Ne.symm gne)⟩ ?_
        clear hK K
        try simp only [Act.put, List.setIfInBounds_toArray, List.set_cons_zero, List.set_cons_succ]
        refine Held.step (i := 8) (o := { dst := none, op := Op.store 22 (Operand.tmp 5) (Operand.tmp 20), type := 0, pos := "tree.go:297", after := #[{ on := 5, ground := Ground.data }, { on := 5, ground := Ground.chain }, { on := 7, ground := Ground.textOnly Departure.appendInPlace }, { on := 0, ground := Ground.phase }, { on := 1, ground := Ground.phase }, { on := 2, ground := Ground.phase }, { on := 3, ground := Ground.phase }, { on := 4, ground := Ground.phase }, { on := 5, ground := Ground.phase }, { on := 6, ground := Ground.textOnly Departure.appendInPlace }, { on := 7, ground := Ground.textOnly Departure.appendInPlace }], guard := none }) rfl (by kernel_rfl) (fun K hK => ?_)
        have e4 : (set4 w3 gg (l1.length * 4) (.int .i64 x.n.kind) (.string x.n.text) (.slice A2 x.n.kids.length c2) (.int .i64 x.n.place)).cell? ⟨w.heap.size + 1 + 1, 0, none⟩ = some (.slice Au l1.length cu) := set4_far U4.out (Ne.symm gne)
        have e5 : (set4 w3 gg (l1.length * 4) (.int .i64 x.n.kind) (.string x.n.text) (.slice A2 x.n.kids.length c2) (.int .i64 x.n.place)).frozen? ⟨w.heap.size + 1 + 1, 0, none⟩ = false := by unfold set4; simp only [World.frozen?_setCell]; exact v4
        unfold set4 at e4 e5
        go_simp
        refine hK.out _ _ ⟨⟨cell_farK (set4_far u0 (Ne.symm gne2)) (by simp only; omega), cell_farK (set4_far u1 (Ne.symm gne2)) (by simp only; omega), cell_farK (set4_far u2 (Ne.symm gne2)) (by simp only; omega), cell_farK (set4_far u3 (Ne.symm gne2)) (by simp only; omega)⟩, fun h => absurd h (by decide)⟩ ?_
        clear hK K
        try simp only [Act.put, List.setIfInBounds_toArray, List.set_cons_zero, List.set_cons_succ]
        refine Held.done (by kernel_rfl) ?_ _
        have hres := find_round (B4 := W4.heap.size) (n₀ := w.heap.size) (acc := w.heap.size + 1 + 1) (base := w.heap.size + 3) (w := w) (by omega) (by omega) hB9.out HU.out hfu HROW.out
          (fun d b hs => by rcases hs with ⟨_, hs⟩ | hs <;> omega) BW5.out (N5.out.weak (fun d b hs => by
            have hl := HROW.out.1.lt
            rcases hs with ⟨h1, h2⟩ | hs
            · exact ⟨.inl ⟨h1, h2⟩, fun e => by have := hl _ e; omega⟩
            · exact ⟨.inr (by omega), fun e => by have := hl _ e; omega⟩)) HOWN3.out HG.out HAT.out hlt3 _ rfl
        unfold set4 at hres
        gi_wp2
        obtain ⟨p1, p2, p3, p4, p5, p6, p7⟩ := hres
        refine ⟨p1, p2, ⟨⟨_, _, p4, p5, ?_, p6⟩, p7 _ _ _ (by omega) (by omega) HKC.out⟩, p3⟩
        rw [List.map_append, HL1.out, HFS.out, HK.out]
        rfl
        go_simp
        refine hK.out _ _ ⟨⟨cell_farK u0 (by simp only; omega), cell_farK u1 (by simp only; omega), cell_farK u2 (by simp only; omega), cell_farK u3 (by simp only; omega)⟩, fun h => absurd h (by decide)⟩ ?_
        clear hK K
        try simp only [Act.put, List.setIfInBounds_toArray, List.set_cons_zero, List.set_cons_succ]
        refine Held.step (i := 7) (o := { dst := none, op := Op.store 24 (Operand.tmp 21) (Operand.tmp 17), type := 0, pos := "tree.go:297", after := #[{ on := 6, ground := Ground.data }, { on := 2, ground := Ground.data }, { on := 5, ground := Ground.chain }, { on := 0, ground := Ground.phase }, { on := 1, ground := Ground.phase }, { on := 2, ground := Ground.phase }, { on := 3, ground := Ground.phase }, { on := 4, ground := Ground.phase }, { on := 5, ground := Ground.phase }, { on := 8, ground := Ground.gcOnly Departure.appendInPlace }], guard := none }) rfl (by kernel_rfl) (fun K hK => ?_)
        have t0 := cell_farK (p := ⟨w.heap.size + 1 + 1, 0, none⟩) (u := (.slice (some ⟨gg, 0, none⟩) (l1.length + 1) cap)) y0 gne
        have t1 := cell_farK (p := ⟨w.heap.size + 1 + 1, 0, none⟩) (u := (.slice (some ⟨gg, 0, none⟩) (l1.length + 1) cap)) y1 gne
        have t2 := cell_farK (p := ⟨w.heap.size + 1 + 1, 0, none⟩) (u := (.slice (some ⟨gg, 0, none⟩) (l1.length + 1) cap)) y2 gne
        have t3 := cell_farK (p := ⟨w.heap.size + 1 + 1, 0, none⟩) (u := (.slice (some ⟨gg, 0, none⟩) (l1.length + 1) cap)) y3 gne
        go_simp
        refine hK.out _ _ ⟨⟨set4_far (cell_farK u0 (by simp only; omega)) (Ne.symm gne2), set4_far (cell_farK u1 (by simp only; omega)) (Ne.symm gne2), set4_far (cell_farK u2 (by simp only; omega)) (Ne.symm gne2), set4_far (cell_farK u3 (by simp only; omega)) (Ne.symm gne2)⟩, fun h => absurd h (by decide)⟩ ?_
        clear hK K
        try simp only [Act.put, List.setIfInBounds_toArray, List.set_cons_zero, List.set_cons_succ]
        refine Held.done (by kernel_rfl) ?_ _
        have hres := find_round (B4 := W4.heap.size) (n₀ := w.heap.size) (acc := w.heap.size + 1 + 1) (base := w.heap.size + 3) (w := w) (by omega) (by omega) hB9.out HU.out hfu HROW.out
          (fun d b hs => by rcases hs with ⟨_, hs⟩ | hs <;> omega) BW5.out (N5.out.weak (fun d b hs => by
            have hl := HROW.out.1.lt
            rcases hs with ⟨h1, h2⟩ | hs
            · exact ⟨.inl ⟨h1, h2⟩, fun e => by have := hl _ e; omega⟩
            · exact ⟨.inr (by omega), fun e => by have := hl _ e; omega⟩)) HOWN3.out HG.out HAT.out hlt3 _ rfl
        rw [← set4_comm _ _ _ _ _ _ _ ⟨w.heap.size + 1 + 1, 0, none⟩ _ gne] at hres
        unfold set4 at hres
        gi_wp2
        obtain ⟨p1, p2, p3, p4, p5, p6, p7⟩ := hres
        refine ⟨p1, p2, ⟨⟨_, _, p4, p5, ?_, p6⟩, p7 _ _ _ (by omega) (by omega) HKC.out⟩, p3⟩
        rw [List.map_append, HL1.out, HFS.out, HK.out]
        rfl
  case done =>
    rintro D ys W hD hys ⟨⟨⟨u, l1, hu, hfu, hl1, hrow⟩, hkc⟩, hB⟩ hK
    have HROW := Lib.hid hrow
    have HL1 := Lib.hid hl1
    have HB := Lib.hid hB
    have HKD := Lib.hid hK
    have hys2 := Lib.hid hys
    clear hrow hl1 hB hkc hB0 hkd hacc hb1 hb2 hG0 hys hfu
    gi_wp2
    have hKD := HKD.out
    refine ⟨by simp, .inl ⟨_, _, rfl, run_takeDeferred hKD, ?_⟩⟩
    refine ⟨_, results_tmp rfl _ _ _, u, l1, rfl, ?_, ?_, HB.out.trans (belowK_b (w := w) (Nat.le_refl _) W D _ _ (by omega) hKD rfl rfl)⟩
    · rw [HL1.out, foundN_key kind hys2.out]
      rfl
    · have h1 := (HROW.out.abides (grownBy_putObj' W D (.deferred none)) (fun r e => by cases e; exact ⟨_, hKD, rfl⟩)).weak (S' := fun d b => (d = 0 ∧ b < w.heap.size) ∨ w.heap.size ≤ b) (fun d b hs => by
        rcases hs with hs | hs
        · exact .inl hs
        · exact .inr (by omega))
      exact ⟨⟨h1.1.1, h1.1.2.imp id fun ⟨g, cap, cur, a, b, c⟩ => ⟨g, cap, cur, a, Nat.le_trans (by omega) b, c⟩⟩, h1.2⟩
  case stop =>
    rintro D c pre W _ _ h _
    exact h.elim

/-- tree.Find. -/
theorem find_any (f : Nat) (v : Value) (n : Nd) (kind : Int) (w : World) (hv : NdV w f v n) (hz : ∀ m, sizeN m n ≤ 1048576) :
    Calls Tryz.prog 14 #[v, .int .i64 kind] w fun e w' => ∃ (u : Value) (l : List Ent), e = .returned u ∧ l.map (·.1) = findN 100 kind n ∧
      RowNd (fun d b => (d = 0 ∧ b < w.heap.size) ∨ w.heap.size ≤ b) w.heap.size w' 100 f u l ∧ Below w.heap.size w w' :=
  callsIn_wide.1 (find_in Fence.wide rfl f v n kind w hv hz)

end Go.Proofs.YtkmhijkpbmcgbaaGreat
