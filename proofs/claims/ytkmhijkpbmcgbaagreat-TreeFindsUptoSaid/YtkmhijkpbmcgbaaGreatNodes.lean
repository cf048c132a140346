/-
  The program's nodes, Size and Depth.
-/
import Derived.Test.YtkmhijkpbmcgbaaGreatWalk
namespace Go.Proofs.YtkmhijkpbmcgbaaGreat
set_option linter.all false
open Go.RowKit Go.Shelf

attribute [local go_sem] Oper.semAt_some

abbrev cellsOf (n : Nd) (A : Option Addr) (c : Nat) : Array Value := #[.int .i64 n.kind, .string n.text, .slice A n.kids.length c, .int .i64 n.place]

set_option maxRecDepth 100000 in
set_option maxHeartbeats 2000000 in
theorem nodes1_stops (F : Fence) (hd : F.depth = none) (m : Nat) (h29 : F.fn 48) (h30 : F.fn 49) (hro : F.round = none) (w0 w : World) (Kp : World → World → Prop) (G : World → Prop) (hK : WalkKeeps w0.heap.size Kp G)
    (hB : Below w0.heap.size w0 w) (hG : ∀ W, Below w.heap.size w W → G W) (f left : Nat) (n : Nd) (A : Option Addr) (c : Nat) (hv : NdV w0 f (n.val A c) n) (hl : left ≤ 101) (B1 B2 : Nat)
    (h1 : Whole w B1 24 (cellsOf n A c)) (h2 : Whole w B2 3 #[.int .i64 left]) :
    SeqStopsK F m Tryz.prog 48 #[.pointer (some ⟨B1, 0, none⟩), .pointer (some ⟨B2, 0, none⟩)] (Item.enc (w0 := w0)) Kp (fun ys => ys.map Item.key = allN left n) (fun _ => True) (allN left n).length w := by
  intro l J Jx W hW hJ hJx hY h0
  have hdd : ∀ k : Nat, (F.depth.isSome = true → 1 ≤ k) := fun k h => by rw [hd] at h; cases h
  have h1' := h1.below hW h1.lt
  have h2' := h2.below hW h2.lt
  have a0 : W.cell? ⟨B1, 0, none⟩ = some (.int .i64 n.kind) := h1'.cell 0
  have a1 : W.cell? ⟨B1, 1, none⟩ = some (.string n.text) := h1'.cell 1
  have a2 : W.cell? ⟨B1, 2, none⟩ = some (.slice A n.kids.length c) := h1'.cell 2
  have a3 : W.cell? ⟨B1, 3, none⟩ = some (.int .i64 n.place) := h1'.cell 3
  have a4 : W.cell? ⟨B2, 0, none⟩ = some (.int .i64 left) := h2'.cell 0
  have hc := walk_in F hd h30 hro l (allN left n).length w0 Kp G hK J Jx (fun s W o hs => hJ s W _ none hs (World.grownBy_alloc W o none) (fun r e => by cases e))
    (fun m' pre x W hj hl => YieldAt.anyDepth hd m' (hY pre x W hj hl)) left (m - 1) f (n.val A c) n [] W hl hv h0 (hB.trans (hW.mono hB.size)) (hG W hW) (by simp)
  have HC := Lib.hid hc
  clear hc h1' h2' h1 h2 hW hJ hJx hY h0 hG hK hB hv
  unfold Nd.val at HC
  refine callsIn_of_wp Tryz.func48 rfl h29 ?_ hro
  simp only [Tryz.ntmps48, List.size_toArray, List.length_cons, List.length_nil, Nat.reduceAdd, Nat.reduceSub, Array.replicate_succ, Array.replicate_zero, List.push_toArray, List.append_toArray, List.nil_append, List.cons_append]
  gi_wp2_with ((try refine ⟨hdd _, ?_⟩); gi_at_call 49; refine HC.out.mono ?_; clear HC; rintro e W3 (⟨rfl, zs, hzs, hJ4, hB4, hG4⟩ | ⟨rfl, q, hq⟩))
  · go_end0
    exact ⟨⟨_, rfl⟩, .inl ⟨zs, hzs, by simpa using hJ4⟩⟩
  · go_end0
    exact ⟨⟨_, rfl⟩, .inr ⟨q, trivial, by simpa using hq⟩⟩

set_option maxHeartbeats 1000000 in
/-- nodes: the node and the depth are boxed; the function value captures the boxes. -/
theorem nodes_in (F : Fence) (m : Nat) (h22 : F.fn 23) (hro : F.round = none) (n : Nd) (A : Option Addr) (c : Nat) (left : Int) (w : World) :
    CallsIn F m Tryz.prog 23 #[n.val A c, .int .i64 left] w fun e w' => e = .returned (.func (.func 48) #[] #[.pointer (some ⟨w.heap.size, 0, none⟩), .pointer (some ⟨w.heap.size + 1, 0, none⟩)]) ∧
      w' = (w.alloc (.cells (cellsOf n A c) 24)).alloc (.cells #[.int .i64 left] 3) := by
  unfold Nd.val
  refine callsIn_of_wp Tryz.func23 rfl h22 ?_ hro
  simp only [Tryz.ntmps23, List.size_toArray, List.length_cons, List.length_nil, Nat.reduceAdd, Nat.reduceSub, Array.replicate_succ, Array.replicate_zero, List.push_toArray, List.append_toArray, List.nil_append, List.cons_append]
  gi_wp2
  go_ret
  exact ⟨rfl, rfl⟩

/-- What keeps all blocks of cells but one. -/
def OneK (n₀ acc : Nat) (A B : World) : Prop := Below n₀ A B ∧ ∀ i vs t, i ≠ acc → A.heap[i]? = some (.cells vs t (0, 0)) → B.heap[i]? = some (.cells vs t (0, 0))
theorem OneK.trans {n₀ acc : Nat} {A B C : World} (h : OneK n₀ acc A B) (k : OneK n₀ acc B C) : OneK n₀ acc A C := ⟨h.1.trans k.1, fun i vs t hi h0 => k.2 i vs t hi (h.2 i vs t hi h0)⟩
theorem OneK.put {n₀ acc : Nat} {w : World} (hn : n₀ ≤ w.heap.size) (W : World) (l : Nat) (o o' : Obj) (hl : w.heap.size ≤ l) (h : W.heap[l]? = some o) (hc : o.isCells = false) (hk : o.isWalk = false) : OneK n₀ acc W (W.putObj l o') :=
  ⟨belowK_b hn W l o o' hl h hc hk, fun i vs t hi h0 => by
    have hil : i ≠ l := by
      rintro rfl
      rw [h] at h0
      injection h0 with h0
      rw [h0] at hc
      simp [Obj.isCells] at hc
    exact (World.putObj_heap_other hil).trans h0⟩
theorem OneK.set {n₀ acc : Nat} {W : World} (hn : n₀ ≤ acc) (v : Value) : OneK n₀ acc W (W.setCell ⟨acc, 0, none⟩ v) :=
  ⟨(Below.refl n₀ W).setCell (p := ⟨acc, 0, none⟩) hn v, fun i vs t hi h0 => (Below.heap_setCell W ⟨acc, 0, none⟩ v i hi).trans h0⟩
theorem OneK.keeps {n₀ acc : Nat} (hn : n₀ ≤ acc) : WalkKeeps n₀ (OneK n₀ acc) (fun W => acc < W.heap.size) :=
  ⟨fun W o h => by simp; omega, fun W vs t W' h hk => by
    refine ⟨hk.2 _ _ _ (by omega) (heap_alloc_new W _), hk.1, ?_⟩
    have := hk.1.size
    simp at this
    omega⟩

theorem wrap64_add1' (a : Nat) : wrap64 (wrap64 a + 1) = wrap64 ((a + 1 : Nat) : Int) := by rw [wrap64_add1]; rfl
theorem zip_two (i j : Tmp) (a b : Value) : (#[i, j] : Array Tmp).zip #[a, b] = #[(i, a), (j, b)] := by simp
theorem size_key {w0 : World} {ys : List (Item w0)} {l : List (Nd × Nat)} (h : ys.map Item.key = l) : ys.length = l.length := by rw [← h]; simp
theorem all_size : ∀ (left : Nat) (n : Nd), (allN left n).length = sizeN left n
  | 0, n => rfl
  | left + 1, n => by
    simp only [allN, sizeN, List.length_cons, List.length_flatMap]
    rw [Nat.add_comm]
    congr 2
    exact List.map_congr_left fun k _ => all_size left k

set_option maxRecDepth 100000 in
set_option maxHeartbeats 2000000 in
theorem size_in (F : Fence) (hd : F.depth = none) (h13 : F.fn 8) (h22 : F.fn 23) (h29 : F.fn 48) (h30 : F.fn 49) (hro : F.round = none) (f : Nat) (v : Value) (n : Nd) (w : World) (hv : NdV w f v n) :
    CallsIn F 3 Tryz.prog 8 #[v] w fun e w' => e = .returned (.int .i64 (wrap64 (sizeN 100 n))) ∧ Below w.heap.size w w' := by
  obtain ⟨A, c, rfl, hm⟩ := hv.val
  have HV := Lib.hid hv
  clear hv
  unfold Nd.val
  refine callsIn_of_wp_marks Tryz.func8 rfl h13 ?_ hro
  simp only [Tryz.ntmps8, List.size_toArray, List.length_cons, List.length_nil, Nat.reduceAdd, Nat.reduceSub, Array.replicate_succ, Array.replicate_zero, List.push_toArray, List.append_toArray, List.nil_append, List.cons_append]
  gi_wp2_with (gi_at_call 23; refine (nodes_in F (3 - 1) h22 hro n A c _ _).mono ?_; rintro e w' ⟨rfl, rfl⟩)
  obtain ⟨W4, hW4⟩ : ∃ W4, ((((w.alloc (.cells (cellsOf n A c) 24)).alloc (.cells #[.int .i64 0] 3)).alloc (.cells (cellsOf n A c) 24)).alloc (.cells #[.int .i64 100] 3)) = W4 := ⟨_, rfl⟩
  rw [hW4]
  have hsz : W4.heap.size = w.heap.size + 4 := by rw [← hW4]; simp
  have hB0 : Below w.heap.size w W4 := by rw [← hW4]; exact ((((Below.refl _ w).alloc (Nat.le_refl _) _).alloc (by simp) _).alloc (by simp; omega) _).alloc (by simp; omega) _
  have hacc : Whole W4 (w.heap.size + 1) 3 #[.int .i64 0] := by
    rw [← hW4]
    have h := (((Whole.new (w.alloc (.cells (cellsOf n A c) 24)) 3 #[.int .i64 0]).alloc (.cells (cellsOf n A c) 24)).alloc (.cells #[.int .i64 100] 3))
    simpa using h
  have hb1 : Whole W4 (w.heap.size + 1 + 1) 24 (cellsOf n A c) := by
    rw [← hW4]
    have h := ((Whole.new ((w.alloc (.cells (cellsOf n A c) 24)).alloc (.cells #[.int .i64 0] 3)) 24 (cellsOf n A c)).alloc (.cells #[.int .i64 100] 3))
    simpa using h
  have hb2 : Whole W4 (w.heap.size + 1 + 1 + 1) 3 #[.int .i64 100] := by
    rw [← hW4]
    have h := Whole.new (((w.alloc (.cells (cellsOf n A c) 24)).alloc (.cells #[.int .i64 0] 3)).alloc (.cells (cellsOf n A c) 24)) 3 #[.int .i64 100]
    simpa using h
  clear hW4
  refine wpIn_rangeFunc_ownF hro (by omega) (gf := 48) (lb := #[.pointer (some ⟨w.heap.size + 1 + 1, 0, none⟩), .pointer (some ⟨w.heap.size + 1 + 1 + 1, 0, none⟩)]) rfl h29 (enters_of Tryz.func48 (by kernel_rfl) rfl)
    (nodes1_stops F hd (3 - 1) h29 h30 hro w W4 _ _ (OneK.keeps (n₀ := w.heap.size) (acc := w.heap.size + 1) (by omega)) hB0 (fun W hW => by have := hW.size; omega) f 100 n A c HV.out (by omega) _ _ hb1 hb2)
    OneK.trans (OneK.put (by omega)) (Below.refl _ _) (fun _ => rfl)
    (fun pre W => (W.cell? ⟨w.heap.size + 1, 0, none⟩ = some (.int .i64 (wrap64 pre.length)) ∧ W.frozen? ⟨w.heap.size + 1, 0, none⟩ = false) ∧ Below w.heap.size w W)
    (fun _ _ _ => False)
    (OwnFrom.and (Own.from (fun s A B row hs hg hr => ⟨cell_kept hs.1 hg hr, (frozen_kept hs.1 hg hr).trans hs.2⟩) _) (ownFrom_below (Nat.le_refl _) (by omega)))
    (fun _ _ _ _ _ hs _ _ => hs)
    ⟨⟨by rw [show wrap64 ((([] : List (Item w)).length : Nat) : Int) = 0 from wrap64_small (by simp) (by simp)]; exact hacc.cell 0, hacc.free 0⟩, hB0⟩
    (fun x => { tmps := #[.agg #[.int .i64 n.kind, .string n.text, .slice A n.kids.length c, .int .i64 n.place], .pointer (some ⟨w.heap.size, 0, none⟩), .int .i64 0, .pointer (some ⟨w.heap.size + 1, 0, none⟩), .agg #[.int .i64 n.kind, .string n.text, .slice A n.kids.length c, .int .i64 n.place],
      .func (.func 48) #[] #[.pointer (some ⟨w.heap.size + 1 + 1, 0, none⟩), .pointer (some ⟨w.heap.size + 1 + 1 + 1, 0, none⟩)], x.v, .int .i64 x.left, undef, undef, undef], defers := [] }) ?assign ?body ?done ?stop
  case assign =>
    intro l x W K hK
    unfold Item.enc
    gi_wp2
    rw [zip_two]
    simpa using hK
  case body =>
    rintro l pre x W ⟨⟨hc, hf⟩, hB⟩ _
    gi_wp2
    exact ⟨KeepsOthers.setCell _ _ _, OneK.set (by omega) _, ⟨by rw [List.length_append, List.length_singleton, ← wrap64_add1' pre.length]; exact World.cell?_setCell_same' _ _ _ (by rw [hc]; rfl), by rw [World.frozen?_setCell]; exact hf⟩, hB.setCell (p := ⟨w.heap.size + 1, 0, none⟩) (by simp) _⟩
  case done =>
    rintro D ys W hD hys ⟨⟨hc, _⟩, hB⟩ hK
    gi_wp2
    refine ⟨by simp, .inl ⟨_, _, rfl, run_takeDeferred hK, ?_⟩⟩
    exact ⟨_, results_tmp rfl _ _ _, by rw [size_key hys, all_size]; rfl, hB.trans (belowK_b (w := w) (Nat.le_refl _) W D _ _ (by omega) hK rfl rfl)⟩
  case stop =>
    rintro D c pre W _ _ h _
    exact h.elim

theorem size_any (f : Nat) (v : Value) (n : Nd) (w : World) (hv : NdV w f v n) : Calls Tryz.prog 8 #[v] w fun e w' => e = .returned (.int .i64 (wrap64 (sizeN 100 n))) ∧ Below w.heap.size w w' :=
  callsIn_wide.1 (size_in Fence.wide rfl trivial trivial trivial trivial rfl f v n w hv)


def deepW {w0 : World} (pre : List (Item w0)) : Nat := pre.foldl (fun m x => max m (102 - x.left)) 0
theorem deepW_snoc {w0 : World} (pre : List (Item w0)) (x : Item w0) : deepW (pre ++ [x]) = max (deepW pre) (102 - x.left) := by simp [deepW]
theorem deepW_le {w0 : World} (pre : List (Item w0)) : deepW pre ≤ 102 := by
  have h : ∀ (l : List (Item w0)) (m : Nat), m ≤ 102 → l.foldl (fun m x => max m (102 - x.left)) m ≤ 102 := by
    intro l
    induction l with
    | nil => intro m h; exact h
    | cons x l ih => intro m h; exact ih _ (by show max m (102 - x.left) ≤ 102; omega)
  exact h pre 0 (by omega)
def deepK (l : List (Nd × Nat)) (m : Nat) : Nat := l.foldl (fun m x => max m (102 - x.2)) m
theorem deepW_key {w0 : World} {ys : List (Item w0)} {l : List (Nd × Nat)} (h : ys.map Item.key = l) : deepW ys = deepK l 0 := by
  rw [← h]
  unfold deepW deepK
  rw [List.foldl_map]
  rfl
def deepG (left d : Nat) : Nat := if d = 0 then 0 else 101 - left + d
theorem deepG_max (left a b : Nat) : deepG left (max a b) = max (deepG left a) (deepG left b) := by
  unfold deepG
  split <;> split <;> split <;> omega
theorem foldl_max (g : Nd → Nat) (l : List Nd) (m : Nat) : (l.map g).foldl max m = max m ((l.map g).foldl max 0) := by
  induction l generalizing m with
  | nil => simp
  | cons k l ih =>
    simp only [List.map_cons, List.foldl_cons]
    rw [ih (max m (g k)), ih (max 0 (g k))]
    omega
mutual
theorem all_deepG : ∀ (left : Nat) (n : Nd) (m : Nat), left ≤ 101 → deepK (allN left n) m = max m (deepG left (depthN left n))
  | 0, n, m, _ => by simp [allN, deepK, depthN, deepG]
  | left + 1, n, m, h => by
    have hk := kids_deepG left n.kids
    simp only [allN, depthN]
    have e : deepK ((n, left + 1) :: n.kids.flatMap (allN left)) m = deepK (n.kids.flatMap (allN left)) (max m (102 - (left + 1))) := rfl
    rw [e, hk _ (by omega)]
    unfold deepG
    split <;> split <;> omega
theorem kids_deepG : ∀ (left : Nat) (l : List Nd) (m : Nat), left ≤ 101 → deepK (l.flatMap (allN left)) m = max m (deepG left ((l.map (depthN left)).foldl max 0))
  | left, [], m, _ => by simp [deepK, deepG]
  | left, k :: l, m, h => by
    have e : deepK ((k :: l).flatMap (allN left)) m = deepK (l.flatMap (allN left)) (deepK (allN left k) m) := by
      unfold deepK
      rw [List.flatMap_cons, List.foldl_append]
    rw [e, kids_deepG left l _ h, all_deepG left k m h]
    simp only [List.map_cons, List.foldl_cons]
    rw [foldl_max (depthN left) l (max 0 (depthN left k)), deepG_max, Nat.zero_max]
    omega
end
theorem all_deep (n : Nd) : deepK (allN 101 n) 0 = depthN 101 n := by
  rw [all_deepG 101 n 0 (by omega)]
  unfold deepG
  split <;> omega

set_option maxRecDepth 100000 in
set_option maxHeartbeats 2000000 in
theorem depth_in (F : Fence) (hd : F.depth = none) (h11 : F.fn 10) (h22 : F.fn 23) (h29 : F.fn 48) (h30 : F.fn 49) (hro : F.round = none) (f : Nat) (v : Value) (n : Nd) (w : World) (hv : NdV w f v n) :
    CallsIn F 3 Tryz.prog 10 #[v] w fun e w' => e = .returned (.int .i64 (depthN 101 n)) ∧ Below w.heap.size w w' := by
  obtain ⟨A, c, rfl, hm⟩ := hv.val
  have HV := Lib.hid hv
  clear hv
  unfold Nd.val
  refine callsIn_of_wp_marks Tryz.func10 rfl h11 ?_ hro
  simp only [Tryz.ntmps10, List.size_toArray, List.length_cons, List.length_nil, Nat.reduceAdd, Nat.reduceSub, Array.replicate_succ, Array.replicate_zero, List.push_toArray, List.append_toArray, List.nil_append, List.cons_append]
  gi_wp2_with (gi_at_call 23; refine (nodes_in F (3 - 1) h22 hro n A c _ _).mono ?_; rintro e w' ⟨rfl, rfl⟩)
  obtain ⟨W4, hW4⟩ : ∃ W4, ((((w.alloc (.cells (cellsOf n A c) 24)).alloc (.cells #[.int .i64 0] 3)).alloc (.cells (cellsOf n A c) 24)).alloc (.cells #[.int .i64 101] 3)) = W4 := ⟨_, rfl⟩
  rw [hW4]
  have hsz : W4.heap.size = w.heap.size + 4 := by rw [← hW4]; simp
  have hB0 : Below w.heap.size w W4 := by rw [← hW4]; exact ((((Below.refl _ w).alloc (Nat.le_refl _) _).alloc (by simp) _).alloc (by simp; omega) _).alloc (by simp; omega) _
  have hacc : Whole W4 (w.heap.size + 1) 3 #[.int .i64 0] := by
    rw [← hW4]
    have h := (((Whole.new (w.alloc (.cells (cellsOf n A c) 24)) 3 #[.int .i64 0]).alloc (.cells (cellsOf n A c) 24)).alloc (.cells #[.int .i64 101] 3))
    simpa using h
  have hb1 : Whole W4 (w.heap.size + 1 + 1) 24 (cellsOf n A c) := by
    rw [← hW4]
    have h := ((Whole.new ((w.alloc (.cells (cellsOf n A c) 24)).alloc (.cells #[.int .i64 0] 3)) 24 (cellsOf n A c)).alloc (.cells #[.int .i64 101] 3))
    simpa using h
  have hb2 : Whole W4 (w.heap.size + 1 + 1 + 1) 3 #[.int .i64 101] := by
    rw [← hW4]
    have h := Whole.new (((w.alloc (.cells (cellsOf n A c) 24)).alloc (.cells #[.int .i64 0] 3)).alloc (.cells (cellsOf n A c) 24)) 3 #[.int .i64 101]
    simpa using h
  clear hW4
  refine wpIn_rangeFunc_ownF hro (by omega) (gf := 48) (lb := #[.pointer (some ⟨w.heap.size + 1 + 1, 0, none⟩), .pointer (some ⟨w.heap.size + 1 + 1 + 1, 0, none⟩)]) rfl h29 (enters_of Tryz.func48 (by kernel_rfl) rfl)
    (nodes1_stops F hd (3 - 1) h29 h30 hro w W4 _ _ (OneK.keeps (n₀ := w.heap.size) (acc := w.heap.size + 1) (by omega)) hB0 (fun W hW => by have := hW.size; omega) f 101 n A c HV.out (by omega) _ _ hb1 hb2)
    OneK.trans (OneK.put (by omega)) (Below.refl _ _) (fun _ => rfl)
    (fun pre W => (W.cell? ⟨w.heap.size + 1, 0, none⟩ = some (.int .i64 (deepW pre : Nat)) ∧ W.frozen? ⟨w.heap.size + 1, 0, none⟩ = false) ∧ Below w.heap.size w W)
    (fun _ _ _ => False)
    (OwnFrom.and (Own.from (fun s A B row hs hg hr => ⟨cell_kept hs.1 hg hr, (frozen_kept hs.1 hg hr).trans hs.2⟩) _) (ownFrom_below (Nat.le_refl _) (by omega)))
    (fun _ _ _ _ _ hs _ _ => hs)
    ⟨⟨hacc.cell 0, hacc.free 0⟩, hB0⟩
    (fun x => { tmps := #[.agg #[.int .i64 n.kind, .string n.text, .slice A n.kids.length c, .int .i64 n.place], .pointer (some ⟨w.heap.size, 0, none⟩), .int .i64 0, .pointer (some ⟨w.heap.size + 1, 0, none⟩), undef, .int .i64 x.left, .agg #[.int .i64 n.kind, .string n.text, .slice A n.kids.length c, .int .i64 n.place],
      .func (.func 48) #[] #[.pointer (some ⟨w.heap.size + 1 + 1, 0, none⟩), .pointer (some ⟨w.heap.size + 1 + 1 + 1, 0, none⟩)], x.v, .int .i64 x.left, undef, undef, undef, undef, undef], defers := [] }) ?assign ?body ?done ?stop
  case assign =>
    intro l x W K hK
    unfold Item.enc
    rw [zip_two]
    simp only [List.foldl_toArray', List.foldl_cons, List.foldl_nil]
    gi_wp2
    simpa using hK
  case body =>
    rintro l pre x W ⟨⟨hc, hf⟩, hB⟩ _
    have hxl := x.low
    have hdw := deepW_le pre
    have hds := deepW_snoc pre x
    gi_wp2
    all_goals
      refine ⟨KeepsOthers.setCell _ _ _, OneK.set (by omega) _, ⟨(World.cell?_setCell_same' _ _ _ (by rw [hc]; rfl)).trans ?_, by rw [World.frozen?_setCell]; exact hf⟩, hB.setCell (p := ⟨w.heap.size + 1, 0, none⟩) (by simp) _⟩
      congr 2
      omega
  case done =>
    rintro D ys W hD hys ⟨⟨hc, _⟩, hB⟩ hK
    gi_wp2
    refine ⟨by simp, .inl ⟨_, _, rfl, run_takeDeferred hK, ?_⟩⟩
    exact ⟨_, results_tmp rfl _ _ _, by rw [deepW_key hys, all_deep]; rfl, hB.trans (belowK_b (w := w) (Nat.le_refl _) W D _ _ (by omega) hK rfl rfl)⟩
  case stop =>
    rintro D c pre W _ _ h _
    exact h.elim

theorem depth_any (f : Nat) (v : Value) (n : Nd) (w : World) (hv : NdV w f v n) : Calls Tryz.prog 10 #[v] w fun e w' => e = .returned (.int .i64 (depthN 101 n)) ∧ Below w.heap.size w w' :=
  callsIn_wide.1 (depth_in Fence.wide rfl trivial trivial trivial trivial rfl f v n w hv)

end Go.Proofs.YtkmhijkpbmcgbaaGreat
