/-
  tree.Names: the map that it makes: its walk.
-/
import Derived.Test.YtkmhijkpbmcgbaaGreatNodes
import Derived.Test.YtkmhijkpbmcgbaaGreatFind
import Derived.Test.YtkmhijkpbmcgbaaGreatAllF
import Derived.Test.YtkmhijkpbmcgbaaGreatSorts
import Derived.Laws.EntriesVeiled
import Derived.StringKeys
import Derived.Test.YtkmhijkpbmcgbaaGreatShelfB
import Derived.Shelf.SlIter.Nil
import Derived.Shelf.SortM.Plain
import Derived.Shelf.SortM.SortNone
namespace Go.Proofs.YtkmhijkpbmcgbaaGreat
set_option linter.all false
open Go.RowKit Go.Shelf Go.Maps Go.Sort

attribute [local go_sem] Oper.semAt_some

def nameK (n : Nd) : Bool := n.kind == 18 || n.kind == 10
def namesN (l : List Nd) : List ByteArray := (l.filter nameK).map Nd.text
/-- How a bool reads. -/
def RB : Value → Option (DataW Unit × List MemPlace)
  | .bool b => some (.lit (.bool b), [])
  | _ => none
def setD (l : List ByteArray) : DataW Unit := l.foldl (fun D t => D.put (.string t.data.toList) (.lit (.bool true))) (.map [])
theorem setD_snoc (l : List ByteArray) (t : ByteArray) : setD (l ++ [t]) = (setD l).put (.string t.data.toList) (.lit (.bool true)) := by simp [setD]

def NamesI (w : World) (f : Nat) (pre : List (ItemR w f Fits)) (W : World) : Prop :=
  W.cell? ⟨w.heap.size + 1 + 1, 0, none⟩ = some (.map (some (w.heap.size + 1))) ∧ (∃ nn, nn ≤ pre.length ∧ W.ownsMap Tryz.prog 9 RB (w.heap.size + 1) nn (setD (namesN (pre.map (·.n))))) ∧ Below w.heap.size w W
theorem ownsMap_kept {P : Program} {k : TypeId} {R : Value → Option (DataW Unit × List MemPlace)} {A B : World} {row : Option Nat} {b nn : Nat} {D : DataW Unit} (h : A.ownsMap P k R b nn D) (hg : A.grownBy B row) (hb : some b ≠ row) : B.ownsMap P k R b nn D := by
  obtain ⟨es, clock, hm, r⟩ := h
  exact ⟨es, clock, (hg.block b (Array.getElem?_eq_some_iff.1 hm).1 hb).trans hm, r⟩
theorem namesI_own (w : World) (f B : Nat) (hB : w.heap.size + 3 ≤ B) : OwnFrom B (NamesI w f) := fun s A A' row hs hg hr => by
  obtain ⟨h1, ⟨nn, h2, h3⟩, h4⟩ := hs
  refine ⟨cell_kept h1 hg (fun r e => (hr r e).2), ⟨nn, h2, ownsMap_kept h3 hg ?_⟩, h4.grown hg (Nat.le_trans (Nat.le_refl _) h4.size) (fun k e => by have := (hr k e).1; omega)⟩
  intro e
  have := (hr _ e.symm).1
  omega
def NamesA (w : World) (f : Nat) (base : Array Value) (x : ItemR w f Fits) (a' : Act) (W : World) : Prop :=
  ∃ Bx, w.heap.size + 3 ≤ Bx ∧ (∃ A c, x.v = x.n.val A c ∧ W.heap[Bx]? = some (.cells (cellsOf x.n A c) 24 (0, 0))) ∧
    a' = { tmps := ((base.setIfInBounds 8 x.v).setIfInBounds 9 (.int .i64 x.left)).setIfInBounds 4 (.pointer (some ⟨Bx, 0, none⟩)), defers := [] }
theorem namesA_own (w : World) (f : Nat) (base : Array Value) (x : ItemR w f Fits) (a' : Act) : Own (fun (_ : Unit) W => NamesA w f base x a' W) := fun s A B row hs hg hr => by
  obtain ⟨Bx, h1, ⟨Ax, cx, h2, h3⟩, h6⟩ := hs
  exact ⟨Bx, h1, ⟨Ax, cx, h2, (grownBy_keeps_cells hg hr h3 rfl).trans h3⟩, h6⟩

theorem OneK.alloc {n₀ acc : Nat} (W : World) (o : Obj) (hn : n₀ ≤ W.heap.size) : OneK n₀ acc W (W.alloc o) :=
  ⟨(Below.refl n₀ W).alloc hn o, fun i vs t _ h => (Below.heap_alloc W o i (lt_of_heap h)).trans h⟩
theorem cell_grownBy {A B : World} {row : Option Nat} {p : Addr} {u : Value} (h : A.cell? p = some u) (hg : A.grownBy B row) (hr : some p.block ≠ row) : B.cell? p = some u :=
  (World.cell?_of_block (hg.block p.block (cell_lt h) hr)).trans h
theorem oneK_map {n₀ acc b : Nat} {W W' : World} (hn : n₀ ≤ W.heap.size) (hb : n₀ ≤ b) (ht : W.mapTurned W' b) : OneK n₀ acc W W' := by
  have hg := ht.grown
  refine ⟨(Below.refl n₀ W).grown hg hn (fun k e => by cases e; exact hb), fun i vs t _ h => ?_⟩
  obtain ⟨es, clock, es', clock', hm, rfl⟩ := ht
  refine (hg.block i (lt_of_heap h) ?_).trans h
  intro e
  cases e
  rw [hm] at h
  cases h

theorem sortsA (m : Nat) : AnyZ.SortsIn Tryz.prog Tryz.sortedA_ren Fence.wide m :=
  ⟨fun blk off cap ss W hH hblk hsz => callsIn_wide.2 (AnyM.slices_Sort_string Tryz.sortA blk off cap ss W hH hblk hsz),
   fun p cap W => callsIn_wide.2 (AnyM.slices_Sort_string_none Tryz.sortA p cap W)⟩

set_option maxRecDepth 100000 in
set_option maxHeartbeats 2000000 in
theorem names_in (F : Fence) (hF : F = Fence.wide) (f : Nat) (v : Value) (n : Nd) (w : World) (hft : Fits n) (hv : NdV w f v n) :
    CallsIn F 7 Tryz.prog 15 #[v] w fun e w' => ∃ (u : Value) (ss : List (List UInt8)), e = .returned u ∧ ss.Perm (strKeys (setD (namesN ((allN 100 n).map (·.1))))) ∧
      w'.ownsRow w.heap.size 9 1 u ss.length ((ss.mergeSort (fun x y => decide (x ≤ y))).map encStr) ∧ (u = .slice none 0 0 ↔ ss = []) ∧ Below w.heap.size w w' := by
  have hd : F.depth = none := by rw [hF]; rfl
  have hro : F.round = none := by rw [hF]; rfl
  have hfn : ∀ g, F.fn g := by rw [hF]; exact fun _ => trivial
  have h15 : F.fn 15 := hfn 15
  have h22 : F.fn 23 := hfn 23
  have h29 : F.fn 48 := hfn 48
  have h30 : F.fn 49 := hfn 49
  have HF := Lib.hid hF
  obtain ⟨A, c, rfl, hm⟩ := hv.val
  have HV := Lib.hid hv
  have hmm := @run_makeMap Tryz.prog
  have HFT := Lib.hid hft
  clear hv hF hfn
  unfold Nd.val
  refine callsIn_of_wp_marks Tryz.func15 rfl h15 ?_ hro
  simp only [Tryz.ntmps15, List.size_toArray, List.length_cons, List.length_nil, Nat.reduceAdd, Nat.reduceSub, Array.replicate_succ, Array.replicate_zero, List.push_toArray, List.append_toArray, List.nil_append, List.cons_append]
  gi_wp2_with (gi_at_call 23; refine (nodes_in F (7 - 1) h22 hro n A c _ _).mono ?_; rintro e w' ⟨rfl, rfl⟩)
  obtain ⟨W4, hW4⟩ : ∃ W4, (((((w.alloc (.cells #[.int .i64 n.kind, .string n.text, .slice A n.kids.length c, .int .i64 n.place] 24)).alloc (.map #[] 0)).alloc (.cells #[.map (some (w.heap.size + 1))] 44)).alloc (.cells (cellsOf n A c) 24)).alloc (.cells #[.int .i64 100] 3)) = W4 := ⟨_, rfl⟩
  rw [hW4]
  have hsz : W4.heap.size = w.heap.size + 5 := by rw [← hW4]; simp
  have hB0 : Below w.heap.size w W4 := by rw [← hW4]; exact (((((Below.refl _ w).alloc (Nat.le_refl _) _).alloc (by simp) _).alloc (by simp; omega) _).alloc (by simp; omega) _).alloc (by simp; omega) _
  have hmap : W4.ownsMap Tryz.prog 9 RB (w.heap.size + 1) 0 (.map []) := by
    have h0 := World.ownsMap_made (w.alloc (.cells #[.int .i64 n.kind, .string n.text, .slice A n.kids.length c, .int .i64 n.place] 24)) Tryz.prog 9 RB
    have h1 := ownsMap_kept h0 (World.grownBy_alloc _ (.cells #[.map (some (w.heap.size + 1))] 44) none) (by simp)
    have h2 := ownsMap_kept h1 (World.grownBy_alloc _ (.cells (cellsOf n A c) 24) none) (by simp)
    have h3 := ownsMap_kept h2 (World.grownBy_alloc _ (.cells #[.int .i64 100] 3) none) (by simp)
    rw [← hW4]
    simpa using h3
  have hacc : Whole W4 (w.heap.size + 1 + 1) 44 #[.map (some (w.heap.size + 1))] := by
    rw [← hW4]
    have h := (((Whole.new ((w.alloc (.cells #[.int .i64 n.kind, .string n.text, .slice A n.kids.length c, .int .i64 n.place] 24)).alloc (.map #[] 0)) 44 #[.map (some (w.heap.size + 1))]).alloc (.cells (cellsOf n A c) 24)).alloc (.cells #[.int .i64 100] 3))
    simpa using h
  have hb1 : Whole W4 (w.heap.size + 1 + 1 + 1) 24 (cellsOf n A c) := by
    rw [← hW4]
    have h := ((Whole.new (((w.alloc (.cells #[.int .i64 n.kind, .string n.text, .slice A n.kids.length c, .int .i64 n.place] 24)).alloc (.map #[] 0)).alloc (.cells #[.map (some (w.heap.size + 1))] 44)) 24 (cellsOf n A c)).alloc (.cells #[.int .i64 100] 3))
    simpa using h
  have hb2 : Whole W4 (w.heap.size + 1 + 1 + 1 + 1) 3 #[.int .i64 100] := by
    rw [← hW4]
    have h := Whole.new ((((w.alloc (.cells #[.int .i64 n.kind, .string n.text, .slice A n.kids.length c, .int .i64 n.place] 24)).alloc (.map #[] 0)).alloc (.cells #[.map (some (w.heap.size + 1))] 44)).alloc (.cells (cellsOf n A c) 24)) 3 #[.int .i64 100]
    simpa using h
  clear hW4
  refine wpIn_rangeFunc_ownH hro (by omega) (gf := 48) (lb := #[.pointer (some ⟨w.heap.size + 1 + 1 + 1, 0, none⟩), .pointer (some ⟨w.heap.size + 1 + 1 + 1 + 1, 0, none⟩)]) rfl h29 (enters_of Tryz.func48 (by kernel_rfl) rfl)
    (nodes1_stopsR F hd (7 - 1) h29 h30 hro w W4 f Fits (fun n k h hk => h.kid hk) _ _ (OneK.keeps (n₀ := w.heap.size) (acc := w.heap.size + 1 + 1) (by omega)) hB0 (fun W hW => by have := hW.size; omega) f 100 n A c HV.out (by omega) (Nat.le_refl _) hft _ _ hb1 hb2)
    OneK.trans (OneK.put (by omega)) (Below.refl _ _) (fun _ => rfl)
    (NamesI w f)
    (fun _ _ _ => False)
    (namesI_own w f _ (by omega))
    (fun _ _ _ _ _ hs _ _ => hs)
    ⟨hacc.cell 0, ⟨0, Nat.le_refl _, hmap⟩, hB0⟩
    (NamesA w f #[.agg #[.int .i64 n.kind, .string n.text, .slice A n.kids.length c, .int .i64 n.place], .pointer (some ⟨w.heap.size, 0, none⟩), .slice none 0 0, .pointer (some ⟨w.heap.size + 1 + 1, 0, none⟩), undef, .map (some (w.heap.size + 1)),
      .agg #[.int .i64 n.kind, .string n.text, .slice A n.kids.length c, .int .i64 n.place], .func (.func 48) #[] #[.pointer (some ⟨w.heap.size + 1 + 1 + 1, 0, none⟩), .pointer (some ⟨w.heap.size + 1 + 1 + 1 + 1, 0, none⟩)],
      undef, undef, undef, undef, undef, undef, undef, undef, undef, undef, undef, undef, undef, undef, undef, undef])
    (fun x a' => Own.from (namesA_own w f _ x a') _) ?assign ?body ?done ?stop
  case assign =>
    intro l pre x W K hi hK
    obtain ⟨Ax, cx, hxv, hxm⟩ := x.read.val
    have hsW := hi.2.2.size
    have hac := cell_lt hi.1
    simp only at hac
    have hK1 := hK { tmps := ((#[.agg #[.int .i64 n.kind, .string n.text, .slice A n.kids.length c, .int .i64 n.place], .pointer (some ⟨w.heap.size, 0, none⟩), .slice none 0 0, .pointer (some ⟨w.heap.size + 1 + 1, 0, none⟩), undef, .map (some (w.heap.size + 1)),
      .agg #[.int .i64 n.kind, .string n.text, .slice A n.kids.length c, .int .i64 n.place], .func (.func 48) #[] #[.pointer (some ⟨w.heap.size + 1 + 1 + 1, 0, none⟩), .pointer (some ⟨w.heap.size + 1 + 1 + 1 + 1, 0, none⟩)],
      x.v, .int .i64 x.left, undef, undef, undef, undef, undef, undef, undef, undef, undef, undef, undef, undef, undef, undef] : Array Value).setIfInBounds 4 (.pointer (some ⟨W.heap.size, 0, none⟩))), defers := [] } (W.alloc (.cells (cellsOf x.n Ax cx) 24))
    have hA2 := hK1 ((KeepsOthers.alloc _ _).from _) (OneK.alloc W _ hsW)
      (namesI_own w f W4.heap.size (by omega) pre W _ none hi (World.grownBy_alloc W _ none) (fun r e => by cases e))
      ⟨W.heap.size, by omega, ⟨Ax, cx, hxv, heap_alloc_new W _⟩, rfl⟩
    have HA := Lib.hid hA2
    clear hA2 hK1 hK hi hB0 hmap hacc hb1 hb2 hsz hsW hac
    unfold ItemR.enc
    rw [zip_two]
    rw [hxv] at HA ⊢
    unfold Nd.val at HA ⊢
    simp only [List.foldl_toArray', List.foldl_cons, List.foldl_nil]
    gi_wp2
    simpa using HA.out
  case body =>
    rintro l pre x a' W hl ⟨r, hr⟩ ⟨hc, ⟨nn, hnn, ho⟩, hB⟩ ⟨Bx, hBx, ⟨Ax, cx, hxv, hxm⟩, rfl⟩ hlt
    have hwx : Whole W Bx 24 (cellsOf x.n Ax cx) := hxm
    have xl := hwx.lt
    have x0 : W.cell? ⟨Bx, 0, none⟩ = some (.int .i64 x.n.kind) := hwx.cell 0
    have x1 : W.cell? ⟨Bx, 1, none⟩ = some (.string x.n.text) := hwx.cell 1
    have x2 : W.cell? ⟨Bx, 2, none⟩ = some (.slice Ax x.n.kids.length cx) := hwx.cell 2
    have x3 : W.cell? ⟨Bx, 3, none⟩ = some (.int .i64 x.n.place) := hwx.cell 3
    have hts : x.n.text.size ≤ maxLen := by have := x.ok.text; unfold maxLen; omega
    have hN := all_size 100 n
    have hNz := Nat.le_trans (size_le_bulk 100 n) (HFT.out 100)
    obtain ⟨w9, hrun, ho9, ht9⟩ := ho.store (string_keyed (P := Tryz.prog) Tryz.underlying9) Tryz.underlying44 (by unfold maxLen; omega) (key := .string x.n.text) (val := .bool true) (kl := .string x.n.text.data.toList) (d := .lit (.bool true)) (ps := []) (Go.WideMaps.keyOf_string_mk Tryz.underlying9 hts) (by rfl)
    have hg9 := ht9.grown
    have hkd : nameK x.n = true → NamesI w f (pre ++ [x]) w9 := fun hk => by
      refine ⟨(cell_grownBy hc hg9 (by simp)), ⟨nn + 1, by simp; omega, ?_⟩, hB.grown hg9 hB.size (fun k e => by cases e; omega)⟩
      have e : namesN ((pre ++ [x]).map (·.n)) = namesN (pre.map (·.n)) ++ [x.n.text] := by unfold namesN; simp [List.filter_append, List.filter_cons, hk]
      rw [e, setD_snoc]
      exact ho9
    have hkn : nameK x.n = false → NamesI w f (pre ++ [x]) W := fun hk => by
      have e : namesN ((pre ++ [x]).map (·.n)) = namesN (pre.map (·.n)) := by unfold namesN; simp [List.filter_append, List.filter_cons, hk]
      exact ⟨hc, ⟨nn, by simp; omega, by rw [e]; exact ho⟩, hB⟩
    have KO : KeepsFrom W4.heap.size W w9 := KeepsFrom.of_grownBy hg9 (fun j e => by cases e; omega)
    have OK9 : OneK w.heap.size (w.heap.size + 1 + 1) W w9 := oneK_map hB.size (by omega) ht9
    have HKD := Lib.hid hkd
    have HKN := Lib.hid hkn
    have HKO := Lib.hid KO
    have HOK := Lib.hid OK9
    clear hkd hkn KO OK9 hg9 ht9 ho9 ho hnn hN hNz hB0 hmap hacc hb1 hb2 hB hr hlt hwx hxm hts
    cases h18 : (x.n.kind == 18)
    case true =>
      gi_wp2
      exact ⟨HKO.out, HOK.out, HKD.out (by unfold nameK; rw [h18]; rfl)⟩
    case false =>
    cases h10 : (x.n.kind == 10)
    case true =>
      gi_wp2
      exact ⟨HKO.out, HOK.out, HKD.out (by unfold nameK; rw [h18, h10]; rfl)⟩
    case false =>
      gi_wp2
      exact ⟨KeepsFrom.refl _ _, ⟨Below.refl _ _, fun _ _ _ _ h => h⟩, HKN.out (by unfold nameK; rw [h18, h10]; rfl)⟩
  case done =>
    rintro D ys W hD hys ⟨hc, ⟨nn, hnn, ho⟩, hB⟩ hK
    have hN := all_size 100 n
    have hNz := Nat.le_trans (size_le_bulk 100 n) (HFT.out 100)
    have hyl : ys.length = (allN 100 n).length := by rw [← hys]; simp
    have hmax : Maps.size (setD (namesN (ys.map (·.n)))) ≤ 1048576 := Nat.le_trans ho.size_le (by omega)
    have hbl := ho.lt
    have hDW : D < W.heap.size := lt_of_heap hK
    have hkeys : ys.map (·.n) = (allN 100 n).map (·.1) := by rw [← hys, List.map_map]; rfl
    rw [hkeys] at hmax ho
    have hseq : SeqGives Fence.wide 3 Tryz.prog 55 #[.pointer (some ⟨W.heap.size, 0, none⟩)] encStr (fun ss => ss.Perm (strKeys (setD (namesN ((allN 100 n).map (·.1)))))) (Maps.size (setD (namesN ((allN 100 n).map (·.1))))) (W.alloc (.cells #[.map (some (w.heap.size + 1))] 44)) :=
      AnyZ.keys_gives (ρ := Tryz.keysA_ren) { Tryz.keysA with } Fence.wide _ trivial rfl (by omega) W.heap.size (w.heap.size + 1) nn _ _ (by simp) (by simp) (ownsMap_kept ho (World.grownBy_alloc _ _ none) (by simp))
    have cK : ∀ mb W, CallsIn Fence.wide 6 Tryz.prog 27 #[.map mb] W fun e w' => e = .returned (.func (.func 55) #[] #[.pointer (some ⟨W.heap.size, 0, none⟩)]) ∧ w' = W.alloc (.cells #[.map mb] 44) := fun mb W => AnyZ.keys_in Tryz.keysA Fence.wide 6 trivial rfl mb W
    have cS := AnyZ.sorted_in Tryz.sortedA Fence.wide 6 trivial trivial trivial trivial rfl (by omega) (sortsA _) (enters_of Tryz.func54 (by kernel_rfl) rfl) 55 #[.pointer (some ⟨W.heap.size, 0, none⟩)] trivial (enters_of Tryz.func55 (by kernel_rfl) rfl) _ _ (by unfold maxLen; omega) (by omega) _ hseq
    change CallsIn _ _ Tryz.prog 26 _ _ _ at cS
    have CK := Lib.hid cK
    have CS := Lib.hid cS
    have HB := Lib.hid hB
    have HKD := Lib.hid hK
    clear hB0 hmap hacc hb1 hb2 hys hN hNz hyl hmax hkeys hseq cK cS hB hK ho hnn hmm
    obtain rfl := HF.out
    have hfK : Fence.wide.fn 27 := trivial
    have hfS : Fence.wide.fn 26 := trivial
    gi_wp2_with (first
      | (gi_at_call 27; refine (CK.out _ _).mono ?_; rintro e w' ⟨rfl, rfl⟩)
      | (gi_at_call 26; refine CS.out.mono ?_; rintro e w' ⟨v, ss, rfl, hS, hrow, hnil, hb⟩))
    have b9 : Below W.heap.size W w' := ((Below.refl _ W).alloc (Nat.le_refl _) _).trans (hb.mono (by simp))
    have hKD := (b9.block D hDW).trans HKD.out
    refine ⟨by simp, .inl ⟨_, _, rfl, run_takeDeferred hKD, ?_⟩⟩
    refine ⟨_, results_tmp rfl _ _ _, v, ss, rfl, hS, ?_, hnil, (HB.out.trans (b9.mono HB.out.size)).trans (belowK_b (w := w) (Nat.le_refl _) w' D _ _ (by omega) hKD rfl rfl)⟩
    exact ownsRow_putObj (ownsRow_base_a hrow (by simp only [World.size_alloc]; omega)) _ hKD rfl
  case stop =>
    rintro D c pre W _ _ h _
    exact h.elim
/-- tree.Names. -/
theorem names_any (f : Nat) (v : Value) (n : Nd) (w : World) (hft : Fits n) (hv : NdV w f v n) :
    Calls Tryz.prog 15 #[v] w fun e w' => ∃ (u : Value) (ss : List (List UInt8)), e = .returned u ∧ ss.Perm (strKeys (setD (namesN ((allN 100 n).map (·.1))))) ∧
      w'.ownsRow w.heap.size 9 1 u ss.length ((ss.mergeSort (fun x y => decide (x ≤ y))).map encStr) ∧ (u = .slice none 0 0 ↔ ss = []) ∧ Below w.heap.size w w' :=
  callsIn_wide.1 (names_in Fence.wide rfl f v n w hft hv)

end Go.Proofs.YtkmhijkpbmcgbaaGreat
