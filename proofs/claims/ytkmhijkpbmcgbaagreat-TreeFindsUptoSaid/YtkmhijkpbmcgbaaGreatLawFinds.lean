/-
  The law on what is found: its walk.
-/
import Derived.Test.YtkmhijkpbmcgbaaGreatRefNodes
import Derived.Test.YtkmhijkpbmcgbaaGreatNames
import Derived.Test.YtkmhijkpbmcgbaaGreatFindsLaw
import Derived.Test.YtkmhijkpbmcgbaaGreatRefA
import Derived.Test.YtkmhijkpbmcgbaaGreatLaw
import Derived.Test.YtkmhijkpbmcgbaaGreatSize
import Derived.Deep.QuietTactic
import Derived.BigQuiet
namespace Go.Proofs.YtkmhijkpbmcgbaaGreat
set_option linter.all false
open Go.RowKit Go.Shelf Go.Maps Go.Sort

/-- A slice that reads as a list of nodes. -/
def RowC (W : World) (u : Value) (es : List Ent) : Prop := ∃ a c, u = .slice a es.length c ∧ ∀ i x, es[i]? = some x → ∃ g, a = some ⟨g, 0, none⟩ ∧ g < W.heap.size ∧
  W.cell? ⟨g, i * 4, none⟩ = some (.int .i64 x.1.kind) ∧ W.cell? ⟨g, i * 4 + 1, none⟩ = some (.string x.1.text) ∧ W.cell? ⟨g, i * 4 + 2, none⟩ = some (.slice x.2.1 x.1.kids.length x.2.2) ∧ W.cell? ⟨g, i * 4 + 3, none⟩ = some (.int .i64 x.1.place)
theorem RowC.below {W W' : World} {u : Value} {es : List Ent} (h : RowC W u es) (hb : Below W.heap.size W W') : RowC W' u es := by
  obtain ⟨a, c, hu, hi⟩ := h
  refine ⟨a, c, hu, fun i x hx => ?_⟩
  obtain ⟨g, ha, hg, h0, h1, h2, h3⟩ := hi i x hx
  exact ⟨g, ha, Nat.lt_of_lt_of_le hg hb.size, (hb.cell (cell_lt h0)).trans h0, (hb.cell (cell_lt h1)).trans h1, (hb.cell (cell_lt h2)).trans h2, (hb.cell (cell_lt h3)).trans h3⟩
theorem rowC_of {W : World} {base : Nat} {u : Value} {es : List Ent} (h : W.ownsRow base 24 4 u es.length (es.flatMap cells4)) : RowC W u es := by
  rcases h.2 with ⟨hu, h0⟩ | ⟨g, cap, cur, hu, _, hb, _, _, _, hcur⟩
  · exact ⟨none, 0, by rw [hu, h0], fun i x hx => by rw [List.length_eq_zero_iff.1 h0] at hx; simp at hx⟩
  · refine ⟨_, _, hu, fun i x hx => ⟨g, rfl, lt_of_heap hb, ?_⟩⟩
    have key : ∀ j, j < 4 → W.cell? ⟨g, i * 4 + j, none⟩ = (cells4 x)[j]? := fun j hj => by
      rw [cell_of_row W g (i * 4 + j) cur 24 (0, 0) hb, ← Array.getElem?_toList, ← flat4 es i j x hx hj, ← hcur, List.getElem?_take]
      have hlt : i < es.length := (List.getElem?_eq_some_iff.1 hx).1
      rw [if_pos (by omega)]
    exact ⟨key 0 (by omega), key 1 (by omega), key 2 (by omega), key 3 (by omega)⟩
/-- A slice that reads as a list of texts. -/
def RowS (W : World) (u : Value) (ts : List (List UInt8)) : Prop := ∃ a c, u = .slice a ts.length c ∧ ∀ i t, ts[i]? = some t → ∃ g, a = some ⟨g, 0, none⟩ ∧ g < W.heap.size ∧ W.cell? ⟨g, i, none⟩ = some (encStr t)
theorem RowS.below {W W' : World} {u : Value} {ts : List (List UInt8)} (h : RowS W u ts) (hb : Below W.heap.size W W') : RowS W' u ts := by
  obtain ⟨a, c, hu, hi⟩ := h
  refine ⟨a, c, hu, fun i x hx => ?_⟩
  obtain ⟨g, ha, hg, h0⟩ := hi i x hx
  exact ⟨g, ha, Nat.lt_of_lt_of_le hg hb.size, (hb.cell (cell_lt h0)).trans h0⟩
theorem rowS_of {W : World} {base : Nat} {u : Value} {ts : List (List UInt8)} (h : W.ownsRow base 9 1 u ts.length (ts.map encStr)) : RowS W u ts := by
  rcases h.2 with ⟨hu, h0⟩ | ⟨g, cap, cur, hu, _, hb, _, _, _, hcur⟩
  · exact ⟨none, 0, by rw [hu, h0], fun i x hx => by rw [List.length_eq_zero_iff.1 h0] at hx; simp at hx⟩
  · refine ⟨_, _, hu, fun i x hx => ⟨g, rfl, lt_of_heap hb, ?_⟩⟩
    have hlt : i < ts.length := (List.getElem?_eq_some_iff.1 hx).1
    have e : (ts.map encStr)[i]? = some (encStr x) := by simp [hx]
    rw [cell_of_row W g i cur 9 (0, 0) hb, ← Array.getElem?_toList, ← e, ← hcur, List.getElem?_take, if_pos (by omega)]

/-- The first loop: how many of the kind have come. -/
def FindsRel (w : World) (es : List Ent) (kind : Int) (k i : Value) (W : World) : Prop := ∃ p : Nat, p ≤ es.length ∧ i = .int .i64 p ∧ k = .int .i64 (((es.take p).filter fun x => x.1.kind == kind).length : Nat) ∧ Below w.heap.size w W
/-- Is a text among the first names? -/
def AmongRel (w : World) (ts : List (List UInt8)) (t : List UInt8) (b j : Value) (W : World) : Prop := ∃ q : Nat, q ≤ ts.length ∧ j = .int .i64 q ∧ b = .bool ((ts.take q).any (· == t)) ∧ Below w.heap.size w W
/-- Is a text that of one of the first nodes that are names? -/
def NamedRel (w : World) (es : List Ent) (t : List UInt8) (b j : Value) (W : World) : Prop := ∃ q : Nat, q ≤ es.length ∧ j = .int .i64 q ∧ b = .bool ((es.take q).any fun x => nameK x.1 && x.1.text.data.toList == t) ∧ Below w.heap.size w W
theorem addr_inj {a b : Nat} (h : (some ⟨a, 0, none⟩ : Option Addr) = some ⟨b, 0, none⟩) : b = a ∧ True := by
  injection h with h
  injection h with h _ _
  exact ⟨h.symm, trivial⟩
theorem belowN {n : Nat} {w W : World} (h : Below n w W) : ∀ k, Below n w (W.drewN k)
  | 0 => h
  | k + 1 => (belowN h k).drew
theorem any_take {α : Type} {p : α → Bool} {l : List α} {i : Nat} {x : α} (hx : l[i]? = some x) : (l.take (i + 1)).any p = ((l.take i).any p || p x) := by
  rw [take_snoc hx, List.any_append]
  simp
theorem take_snocE {α : Type} {l : List α} {i : Nat} {x : α} (hx : l[i]? = some x) : l.take (i + 1) = l.take i ++ [x] := take_snoc hx
def CountRel (w : World) (m : Nat) (f j : Value) (W : World) : Prop := ∃ q : Nat, q ≤ m ∧ j = .int .i64 q ∧ f = .int .i64 q ∧ Below w.heap.size w W

set_option maxRecDepth 100000 in
set_option maxHeartbeats 8000000 in
theorem lawFinds_walk (F : Nat) (v : Value) (n : Nd) (kind : Int) (w : World) (hft : Fits n) (hv : NdV w F v n) :
    Calls Tryz.prog 4 #[v, .int .i64 kind] w fun e w' => e = .returned (.bool true) ∧ Below w.heap.size w w' := by
  obtain ⟨A, c, rfl, hm⟩ := hv.val
  have hz : ∀ m, sizeN m n ≤ 1048576 := fun m => Nat.le_trans (size_le_bulk m n) (hft m)
  have hb : Below w.heap.size w (w.alloc (.cells (cellsOf n A c) 24)) := (Below.refl _ w).alloc (Nat.le_refl _) _
  have hw := Whole.new w 24 (cellsOf n A c)
  have BX := Lib.hid fun W (h : Below (w.alloc (.cells (cellsOf n A c) 24)).heap.size (w.alloc (.cells (cellsOf n A c) 24)) W) => box_cells hw h
  have HB := Lib.hid hb
  have SM := Lib.hid fun W (h : Below w.heap.size w W) => small_any F _ n W 1000 (hv.below h)
  have AL := Lib.hid fun W (h : Below w.heap.size w W) => refall_any 100 F _ n W (by omega) (hv.below h) hz
  have FN := Lib.hid fun W (h : Below w.heap.size w W) => find_any F _ n kind W (hv.below h) hz
  have NM := Lib.hid fun W (h : Below w.heap.size w W) => names_any F _ n W hft (hv.below h)
  clear hv hb hw
  unfold Nd.val at *
  obtain ⟨W1, hW1⟩ : ∃ W1, W1 = w.alloc (.cells (cellsOf n A c) 24) := ⟨_, rfl⟩
  rw [← hW1] at BX HB
  have hW2 : w.alloc (.cells #[.int .i64 n.kind, .string n.text, .slice A n.kids.length c, .int .i64 n.place] 24) = W1 := hW1.symm
  have HW := Lib.hid hW2
  clear hW1 hW2
  cases hsm : decide (wrap64 (sizeN 1000 n) ≤ 1000)
  case false =>
    rw [hsm] at SM
    go_enter Tryz.func4, Tryz.ntmps4
    go_wp2_with fail
    rw [HW.out]
    refine (SM.out _ HB.out).mono ?_
    rintro e w1 ⟨rfl, b1⟩
    obtain ⟨x0, x1, x2, x3, x4⟩ := BX.out _ b1
    go_wp2_with fail
    go_ret
    exact ⟨rfl, HB.out.trans (b1.mono HB.out.size)⟩
  case true =>
  rw [hsm] at SM
  go_enter Tryz.func4, Tryz.ntmps4
  go_wp2_with fail
  rw [HW.out]
  refine (SM.out _ HB.out).mono ?_
  rintro e w1 ⟨rfl, b1⟩
  have B1 := Lib.hid (HB.out.trans (b1.mono HB.out.size))
  have G1 := Lib.hid b1
  clear b1
  obtain ⟨x0, x1, x2, x3, x4⟩ := BX.out _ G1.out
  go_wp2_with fail
  refine (AL.out _ B1.out).mono ?_
  rintro e w2 ⟨u2, es, rfl, hes, hrow2, b2⟩
  have R2 := Lib.hid (rowC_of hrow2)
  have B2 := Lib.hid (B1.out.trans (b2.mono B1.out.size))
  have G2 := Lib.hid (G1.out.trans (b2.mono G1.out.size))
  have HES := Lib.hid hes
  clear b2 x0 x1 x2 x3 x4 hrow2 hes
  obtain ⟨x0, x1, x2, x3, x4⟩ := BX.out _ G2.out
  go_wp2_with fail
  refine (FN.out _ B2.out).mono ?_
  rintro e w3 ⟨u3, ls, rfl, hls, hrow3, b3⟩
  have R3 := Lib.hid (rowC_of hrow3.1)
  have R2 := Lib.hid (R2.out.below b3)
  have B3 := Lib.hid (B2.out.trans (b3.mono B2.out.size))
  have G3 := Lib.hid (G2.out.trans (b3.mono G2.out.size))
  have HLS := Lib.hid hls
  clear b3 x0 x1 x2 x3 x4 hrow3 hls
  obtain ⟨x0, x1, x2, x3, x4⟩ := BX.out _ G3.out
  go_wp2_with fail
  refine (NM.out _ B3.out).mono ?_
  rintro e w4 ⟨u4, ss, rfl, hss, hrow4, hnil4, b4⟩
  have hlen4 : (ss.mergeSort (fun x y => decide (x ≤ y))).length = ss.length := List.length_mergeSort _
  have R4 := Lib.hid (rowS_of (ts := ss.mergeSort (fun x y => decide (x ≤ y))) (by rw [hlen4]; exact hrow4))
  have R2 := Lib.hid (R2.out.below b4)
  have R3 := Lib.hid (R3.out.below b4)
  have B4 := Lib.hid (B3.out.trans (b4.mono B3.out.size))
  have HSS := Lib.hid hss
  have SP := Lib.hid (sorted_spec hss)
  have HLN := Lib.hid hlen4
  obtain ⟨a2, c2, rfl, hi2⟩ := R2.out
  obtain ⟨a3, c3, rfl, hi3⟩ := R3.out
  obtain ⟨a4, c4, rfl, hi4⟩ := R4.out
  have I2 := Lib.hid fun W (h : Below w4.heap.size w4 W) i x (hx : es[i]? = some x) => by
    obtain ⟨g, ha, hg, h0, h1, h2, h3⟩ := hi2 i x hx
    exact (⟨g, ha, Nat.lt_of_lt_of_le hg h.size, (h.cell (cell_lt h0)).trans h0, (h.cell (cell_lt h1)).trans h1, (h.cell (cell_lt h2)).trans h2, (h.cell (cell_lt h3)).trans h3⟩ : ∃ g, a2 = some ⟨g, 0, none⟩ ∧ g < W.heap.size ∧ W.cell? ⟨g, i * 4, none⟩ = some (.int .i64 x.1.kind) ∧ W.cell? ⟨g, i * 4 + 1, none⟩ = some (.string x.1.text) ∧ W.cell? ⟨g, i * 4 + 2, none⟩ = some (.slice x.2.1 x.1.kids.length x.2.2) ∧ W.cell? ⟨g, i * 4 + 3, none⟩ = some (.int .i64 x.1.place))
  have I3 := Lib.hid fun W (h : Below w4.heap.size w4 W) i x (hx : ls[i]? = some x) => by
    obtain ⟨g, ha, hg, h0, h1, h2, h3⟩ := hi3 i x hx
    exact (⟨g, ha, Nat.lt_of_lt_of_le hg h.size, (h.cell (cell_lt h0)).trans h0, (h.cell (cell_lt h1)).trans h1, (h.cell (cell_lt h2)).trans h2, (h.cell (cell_lt h3)).trans h3⟩ : ∃ g, a3 = some ⟨g, 0, none⟩ ∧ g < W.heap.size ∧ W.cell? ⟨g, i * 4, none⟩ = some (.int .i64 x.1.kind) ∧ W.cell? ⟨g, i * 4 + 1, none⟩ = some (.string x.1.text) ∧ W.cell? ⟨g, i * 4 + 2, none⟩ = some (.slice x.2.1 x.1.kids.length x.2.2) ∧ W.cell? ⟨g, i * 4 + 3, none⟩ = some (.int .i64 x.1.place))
  obtain ⟨ns, hns⟩ : ∃ ns, ns = ss.mergeSort (fun x y => decide (x ≤ y)) := ⟨_, rfl⟩
  rw [← hns] at hi4 hlen4
  have I4 := Lib.hid fun W (h : Below w4.heap.size w4 W) i x (hx : ns[i]? = some x) => by
    obtain ⟨g, ha, hg, h0⟩ := hi4 i x hx
    exact (⟨g, ha, Nat.lt_of_lt_of_le hg h.size, (h.cell (cell_lt h0)).trans h0⟩ : ∃ g, a4 = some ⟨g, 0, none⟩ ∧ g < W.heap.size ∧ W.cell? ⟨g, i, none⟩ = some (encStr x))
  have sp := SP.out
  unfold leB at sp
  rw [← hns] at sp ⊢
  have SPN := Lib.hid sp
  have HLS2 : ls.map (·.1) = (nodesN 100 n).filter fun x => x.kind == kind := HLS.out
  have HLS3 : ls.length = (es.filter fun x => x.1.kind == kind).length := by
    have := congrArg List.length HLS2
    rw [← HES.out, List.filter_map] at this
    simpa [Function.comp_def] using this
  have HAT := Lib.hid fun (p : Nat) (x : Ent) (hx : es[p]? = some x) (hk : (x.1.kind == kind) = true) => by
    have h1 : (es.map (·.1))[p]? = some x.1 := by simp [hx]
    have h2 := filter_at (p := fun x : Nd => x.kind == kind) h1 hk
    rw [HES.out, ← HLS2, ← HES.out, ← List.map_take, List.filter_map, List.length_map] at h2
    rw [List.getElem?_map] at h2
    exact (Option.map_eq_some_iff.1 h2 : ∃ y, ls[((es.take p).filter fun x => x.1.kind == kind).length]? = some y ∧ y.1 = x.1)
  have HNM := Lib.hid fun (x : Ent) (hx : x ∈ es) (hk : nameK x.1 = true) => (SPN.out.1 x.1.text.data.toList).2 ⟨x.1.text, by
    unfold namesN
    rw [show (allN 100 n).map (·.1) = nodesN 100 n from rfl, ← HES.out]
    exact List.mem_map.2 ⟨x.1, List.mem_filter.2 ⟨List.mem_map.2 ⟨x, hx, rfl⟩, hk⟩, rfl⟩, rfl⟩
  have HMN := Lib.hid fun (t : List UInt8) (ht : t ∈ ns) => by
    obtain ⟨b, hb, he⟩ := (SPN.out.1 t).1 ht
    unfold namesN at hb
    rw [show (allN 100 n).map (·.1) = nodesN 100 n from rfl, ← HES.out] at hb
    obtain ⟨m, hm2, rfl⟩ := List.mem_map.1 hb
    obtain ⟨hm2, hm3⟩ := List.mem_filter.1 hm2
    obtain ⟨x, hx, rfl⟩ := List.mem_map.1 hm2
    exact (⟨x, hx, hm3, he⟩ : ∃ x ∈ es, nameK x.1 = true ∧ x.1.text.data.toList = t)
  have HL3 := Lib.hid HLS3
  have hel : es.length ≤ 1048576 := by
    have h1 := congrArg List.length HES.out
    have h2 := all_size 100 n
    have h3 := hz 100
    unfold nodesN at h1
    simp only [List.length_map] at h1
    omega
  have hnl : ns.length ≤ 1048576 := by
    have h1 := setD_len hss
    have h2 : (namesN ((allN 100 n).map (·.1))).length ≤ (allN 100 n).length := by
      unfold namesN
      rw [List.length_map]
      exact Nat.le_trans (List.length_filter_le _ _) (by simp)
    have h3 := all_size 100 n
    have h4 := hz 100
    rw [hlen4]
    omega
  clear b4 x0 x1 x2 x3 x4 hrow4 hss hnil4 hlen4 hi2 hi3 hi4 hns sp HLS2 HLS3 R2 R3 R4 HES HLS HSS SP hft hz AL FN NM SM
  go_wp2_with fail
  go_loopw [8, 10] (fun k i W => FindsRel w4 es kind k i W) (fun _ i _ => es.length - (intOf i).toNat)
  case atStart => exact ⟨0, Nat.zero_le _, rfl, by simp, Below.refl _ _⟩
  case round =>
    obtain ⟨p, hp, rfl, rfl, hb⟩ := hrel
    have HBW := Lib.hid hb
    clear hb
    by_cases hpl : p < es.length
    · obtain ⟨x, hx⟩ : ∃ x, es[p]? = some x := ⟨_, List.getElem?_eq_getElem hpl⟩
      obtain ⟨g2, ha2, hg2, e0, e1, e2, e3⟩ := I2.out _ HBW.out p x hx
      subst ha2
      have HX := Lib.hid hx
      have hp2 : p < 9223372036854775807 := by omega
      cases hk : (x.1.kind == kind)
      case false =>
        have hkq : ((es.take (p + 1)).filter fun x => x.1.kind == kind).length = ((es.take p).filter fun x => x.1.kind == kind).length := by
          rw [take_snocE hx, List.filter_append, List.filter_cons, if_neg (by rw [hk]; simp)]
          simp
        have HKQ := Lib.hid hkq
        clear hkq hx
        cases h18 : (x.1.kind == 18)
        case true =>
          go_wp2_with fail
          go_loopw [11, 12] (fun b j W => AmongRel w4 ns x.1.text.data.toList b j W) (fun _ j _ => ns.length - (intOf j).toNat)
          case atStart => exact ⟨0, Nat.zero_le _, rfl, rfl, HBW.out⟩
          case round =>
            obtain ⟨q2, hq2, rfl, rfl, hb2⟩ := hrel
            have HB2 := Lib.hid hb2
            clear hb2
            by_cases hql2 : q2 < ns.length
            · obtain ⟨t2, ht2⟩ : ∃ t2, ns[q2]? = some t2 := ⟨_, List.getElem?_eq_getElem hql2⟩
              obtain ⟨g4, ha4, hg4, k0⟩ := I4.out _ HB2.out q2 t2 ht2
              subst ha4
              obtain ⟨gx, hax, hgx, d0, d1, d2, d3⟩ := I2.out _ HB2.out p x HX.out
              obtain ⟨rfl, _⟩ := addr_inj hax
              unfold encStr at k0
              have hcmp : ((⟨t2.toArray⟩ : ByteArray).toList == x.1.text.toList) = (t2 == x.1.text.data.toList) := by rw [ByteArray.toList_eq, ByteArray.toList_eq]
              have hst := Lib.hid (any_take (p := (· == x.1.text.data.toList)) ht2)
              have hp3 : q2 < 9223372036854775807 := by omega
              clear ht2
              cases hbv : (ns.take q2).any (· == x.1.text.data.toList)
              case true =>
                rw [hbv] at hst
                go_wp2_with fail
                go_quiet (fail)
                go_wp2_with fail
                go_roundw
                case rel =>
        first
          | exact ⟨q2 + 1, hql2, rfl, by rw [hst.out]; rfl, belowN HB2.out _⟩
          | ((repeat apply Exists.intro); refine ⟨?_, rfl⟩; exact ⟨q2 + 1, hql2, rfl, by rw [hst.out]; rfl, belowN HB2.out _⟩)
                case measure => simp [intOf]; omega
              case false =>
                rw [hbv] at hst
                go_wp2_with fail
                go_quiet (fail)
                go_wp2_with fail
                go_roundw
                case rel =>
        first
          | exact ⟨q2 + 1, hql2, rfl, by rw [hst.out, ByteArray.toList_eq]; rfl, belowN HB2.out _⟩
          | ((repeat apply Exists.intro); refine ⟨?_, rfl⟩; exact ⟨q2 + 1, hql2, rfl, by rw [hst.out, ByteArray.toList_eq]; rfl, belowN HB2.out _⟩)
                case measure => simp [intOf]; omega
            · have hany : (ns.take q2).any (· == x.1.text.data.toList) = true := by
                rw [List.take_of_length_le (by omega)]
                exact List.any_eq_true.2 ⟨_, HNM.out x (List.mem_of_getElem? HX.out) (by first | (unfold nameK; rw [h18]; rfl) | (unfold nameK; rw [h18, h10]; rfl)), by simp⟩
              rw [hany]
              go_wp2_with fail
              go_roundw
              case rel => exact ⟨p + 1, hpl, rfl, by rw [HKQ.out], HB2.out⟩
              case measure => simp [intOf]; omega
        case false =>
        cases h10 : (x.1.kind == 10)
        case true =>
          go_wp2_with fail
          go_loopw [11, 12] (fun b j W => AmongRel w4 ns x.1.text.data.toList b j W) (fun _ j _ => ns.length - (intOf j).toNat)
          case atStart => exact ⟨0, Nat.zero_le _, rfl, rfl, HBW.out⟩
          case round =>
            obtain ⟨q2, hq2, rfl, rfl, hb2⟩ := hrel
            have HB2 := Lib.hid hb2
            clear hb2
            by_cases hql2 : q2 < ns.length
            · obtain ⟨t2, ht2⟩ : ∃ t2, ns[q2]? = some t2 := ⟨_, List.getElem?_eq_getElem hql2⟩
              obtain ⟨g4, ha4, hg4, k0⟩ := I4.out _ HB2.out q2 t2 ht2
              subst ha4
              obtain ⟨gx, hax, hgx, d0, d1, d2, d3⟩ := I2.out _ HB2.out p x HX.out
              obtain ⟨rfl, _⟩ := addr_inj hax
              unfold encStr at k0
              have hcmp : ((⟨t2.toArray⟩ : ByteArray).toList == x.1.text.toList) = (t2 == x.1.text.data.toList) := by rw [ByteArray.toList_eq, ByteArray.toList_eq]
              have hst := Lib.hid (any_take (p := (· == x.1.text.data.toList)) ht2)
              have hp3 : q2 < 9223372036854775807 := by omega
              clear ht2
              cases hbv : (ns.take q2).any (· == x.1.text.data.toList)
              case true =>
                rw [hbv] at hst
                go_wp2_with fail
                go_quiet (fail)
                go_wp2_with fail
                go_roundw
                case rel =>
        first
          | exact ⟨q2 + 1, hql2, rfl, by rw [hst.out]; rfl, belowN HB2.out _⟩
          | ((repeat apply Exists.intro); refine ⟨?_, rfl⟩; exact ⟨q2 + 1, hql2, rfl, by rw [hst.out]; rfl, belowN HB2.out _⟩)
                case measure => simp [intOf]; omega
              case false =>
                rw [hbv] at hst
                go_wp2_with fail
                go_quiet (fail)
                go_wp2_with fail
                go_roundw
                case rel =>
        first
          | exact ⟨q2 + 1, hql2, rfl, by rw [hst.out, ByteArray.toList_eq]; rfl, belowN HB2.out _⟩
          | ((repeat apply Exists.intro); refine ⟨?_, rfl⟩; exact ⟨q2 + 1, hql2, rfl, by rw [hst.out, ByteArray.toList_eq]; rfl, belowN HB2.out _⟩)
                case measure => simp [intOf]; omega
            · have hany : (ns.take q2).any (· == x.1.text.data.toList) = true := by
                rw [List.take_of_length_le (by omega)]
                exact List.any_eq_true.2 ⟨_, HNM.out x (List.mem_of_getElem? HX.out) (by first | (unfold nameK; rw [h18]; rfl) | (unfold nameK; rw [h18, h10]; rfl)), by simp⟩
              rw [hany]
              go_wp2_with fail
              go_roundw
              case rel => exact ⟨p + 1, hpl, rfl, by rw [HKQ.out], HB2.out⟩
              case measure => simp [intOf]; omega
        case false =>
          go_wp2_with fail
          go_roundw
          case rel => exact ⟨p + 1, hpl, rfl, by rw [HKQ.out], HBW.out⟩
          case measure => simp [intOf]; omega
      case true =>
        obtain ⟨y, hy, hyx⟩ := HAT.out p x hx hk
        have hkq : ((es.take (p + 1)).filter fun x => x.1.kind == kind).length = ((es.take p).filter fun x => x.1.kind == kind).length + 1 := by
          rw [take_snocE hx, List.filter_append, List.filter_cons, if_pos hk]
          simp
        obtain ⟨q, hq⟩ : ∃ q, q = ((es.take p).filter fun x => x.1.kind == kind).length := ⟨_, rfl⟩
        rw [← hq] at hy hkq ⊢
        obtain ⟨g3, ha3, hg3, f0, f1, f2, f3⟩ := I3.out _ HBW.out q y hy
        subst ha3
        rw [hyx] at f0 f1 f2 f3
        have hql : q < ls.length := (List.getElem?_eq_some_iff.1 hy).1
        have hqd : decide ((ls.length : Int) ≤ (q : Int)) = false := decide_eq_false (by omega)
        have hqn : decide (ls.length ≤ q) = false := decide_eq_false (by omega)
        have n1 : (x.1.text.toList != x.1.text.toList) = false := by simp
        have n2 : ((x.1.kids.length : Int) != (x.1.kids.length : Int)) = false := by simp
        have n3 : (x.1.place != x.1.place) = false := by simp
        have hls5 : ls.length ≤ es.length := by rw [HL3.out]; exact List.length_filter_le _ _
        have hwr : wrap64 ((q : Int) + 1) = (q : Int) + 1 := wrap64_small (by omega) (by omega)
        have HQ := Lib.hid hq
        have HKQ := Lib.hid hkq
        have HWR := Lib.hid hwr
        clear hq hx hy hkq hwr
        cases h18 : (x.1.kind == 18)
        case true =>
          go_wp2_with fail
          go_quiet (fail)
          go_wp2_with fail
          go_loopw [11, 12] (fun b j W => AmongRel w4 ns x.1.text.data.toList b j W) (fun _ j _ => ns.length - (intOf j).toNat)
          case atStart => exact ⟨0, Nat.zero_le _, rfl, rfl, belowN HBW.out _⟩
          case round =>
            obtain ⟨q2, hq2, rfl, rfl, hb2⟩ := hrel
            have HB2 := Lib.hid hb2
            clear hb2
            by_cases hql2 : q2 < ns.length
            · obtain ⟨t2, ht2⟩ : ∃ t2, ns[q2]? = some t2 := ⟨_, List.getElem?_eq_getElem hql2⟩
              obtain ⟨g4, ha4, hg4, k0⟩ := I4.out _ HB2.out q2 t2 ht2
              subst ha4
              obtain ⟨gx, hax, hgx, d0, d1, d2, d3⟩ := I2.out _ HB2.out p x HX.out
              obtain ⟨rfl, _⟩ := addr_inj hax
              unfold encStr at k0
              have hcmp : ((⟨t2.toArray⟩ : ByteArray).toList == x.1.text.toList) = (t2 == x.1.text.data.toList) := by rw [ByteArray.toList_eq, ByteArray.toList_eq]
              have hst := Lib.hid (any_take (p := (· == x.1.text.data.toList)) ht2)
              have hp3 : q2 < 9223372036854775807 := by omega
              clear ht2
              cases hbv : (ns.take q2).any (· == x.1.text.data.toList)
              case true =>
                rw [hbv] at hst
                go_wp2_with fail
                go_quiet (fail)
                go_wp2_with fail
                go_roundw
                case rel =>
        first
          | exact ⟨q2 + 1, hql2, rfl, by rw [hst.out]; rfl, belowN HB2.out _⟩
          | ((repeat apply Exists.intro); refine ⟨?_, rfl⟩; exact ⟨q2 + 1, hql2, rfl, by rw [hst.out]; rfl, belowN HB2.out _⟩)
                case measure => simp [intOf]; omega
              case false =>
                rw [hbv] at hst
                go_wp2_with fail
                go_quiet (fail)
                go_wp2_with fail
                go_roundw
                case rel =>
        first
          | exact ⟨q2 + 1, hql2, rfl, by rw [hst.out, ByteArray.toList_eq]; rfl, belowN HB2.out _⟩
          | ((repeat apply Exists.intro); refine ⟨?_, rfl⟩; exact ⟨q2 + 1, hql2, rfl, by rw [hst.out, ByteArray.toList_eq]; rfl, belowN HB2.out _⟩)
                case measure => simp [intOf]; omega
            · have hany : (ns.take q2).any (· == x.1.text.data.toList) = true := by
                rw [List.take_of_length_le (by omega)]
                exact List.any_eq_true.2 ⟨_, HNM.out x (List.mem_of_getElem? HX.out) (by first | (unfold nameK; rw [h18]; rfl) | (unfold nameK; rw [h18, h10]; rfl)), by simp⟩
              rw [hany]
              go_wp2_with fail
              go_roundw
              case rel => exact ⟨p + 1, hpl, rfl, by rw [HKQ.out]; simp [HWR.out], HB2.out⟩
              case measure => simp [intOf]; omega
        case false =>
        cases h10 : (x.1.kind == 10)
        case true =>
          go_wp2_with fail
          go_quiet (fail)
          go_wp2_with fail
          go_loopw [11, 12] (fun b j W => AmongRel w4 ns x.1.text.data.toList b j W) (fun _ j _ => ns.length - (intOf j).toNat)
          case atStart => exact ⟨0, Nat.zero_le _, rfl, rfl, belowN HBW.out _⟩
          case round =>
            obtain ⟨q2, hq2, rfl, rfl, hb2⟩ := hrel
            have HB2 := Lib.hid hb2
            clear hb2
            by_cases hql2 : q2 < ns.length
            · obtain ⟨t2, ht2⟩ : ∃ t2, ns[q2]? = some t2 := ⟨_, List.getElem?_eq_getElem hql2⟩
              obtain ⟨g4, ha4, hg4, k0⟩ := I4.out _ HB2.out q2 t2 ht2
              subst ha4
              obtain ⟨gx, hax, hgx, d0, d1, d2, d3⟩ := I2.out _ HB2.out p x HX.out
              obtain ⟨rfl, _⟩ := addr_inj hax
              unfold encStr at k0
              have hcmp : ((⟨t2.toArray⟩ : ByteArray).toList == x.1.text.toList) = (t2 == x.1.text.data.toList) := by rw [ByteArray.toList_eq, ByteArray.toList_eq]
              have hst := Lib.hid (any_take (p := (· == x.1.text.data.toList)) ht2)
              have hp3 : q2 < 9223372036854775807 := by omega
              clear ht2
              cases hbv : (ns.take q2).any (· == x.1.text.data.toList)
              case true =>
                rw [hbv] at hst
                go_wp2_with fail
                go_quiet (fail)
                go_wp2_with fail
                go_roundw
                case rel =>
        first
          | exact ⟨q2 + 1, hql2, rfl, by rw [hst.out]; rfl, belowN HB2.out _⟩
          | ((repeat apply Exists.intro); refine ⟨?_, rfl⟩; exact ⟨q2 + 1, hql2, rfl, by rw [hst.out]; rfl, belowN HB2.out _⟩)
                case measure => simp [intOf]; omega
              case false =>
                rw [hbv] at hst
                go_wp2_with fail
                go_quiet (fail)
                go_wp2_with fail
                go_roundw
                case rel =>
        first
          | exact ⟨q2 + 1, hql2, rfl, by rw [hst.out, ByteArray.toList_eq]; rfl, belowN HB2.out _⟩
          | ((repeat apply Exists.intro); refine ⟨?_, rfl⟩; exact ⟨q2 + 1, hql2, rfl, by rw [hst.out, ByteArray.toList_eq]; rfl, belowN HB2.out _⟩)
                case measure => simp [intOf]; omega
            · have hany : (ns.take q2).any (· == x.1.text.data.toList) = true := by
                rw [List.take_of_length_le (by omega)]
                exact List.any_eq_true.2 ⟨_, HNM.out x (List.mem_of_getElem? HX.out) (by first | (unfold nameK; rw [h18]; rfl) | (unfold nameK; rw [h18, h10]; rfl)), by simp⟩
              rw [hany]
              go_wp2_with fail
              go_roundw
              case rel => exact ⟨p + 1, hpl, rfl, by rw [HKQ.out]; simp [HWR.out], HB2.out⟩
              case measure => simp [intOf]; omega
        case false =>
          go_wp2_with fail
          go_quiet (fail)
          go_wp2_with fail
          go_roundw
          case rel => exact ⟨p + 1, hpl, rfl, by rw [HKQ.out]; simp [HWR.out], belowN HBW.out _⟩
          case measure => simp [intOf]; omega
    · have hek : ((es.take p).filter fun x => x.1.kind == kind).length = ls.length := by
        rw [List.take_of_length_le (by omega), HL3.out]
      rw [hek]
      have hfk : ((ls.length : Int) == (ls.length : Int)) = true := by simp
      have hfn : ((ns.length : Int) == (ns.length : Int)) = true := by simp
      clear hek
      go_wp2_with fail
      go_loopw [9, 13] (fun f j W => CountRel w4 ns.length f j W) (fun _ j _ => ns.length - (intOf j).toNat)
      case atStart => exact ⟨0, Nat.zero_le _, rfl, rfl, HBW.out⟩
      case round =>
        obtain ⟨q, hq, rfl, rfl, hb⟩ := hrel
        have HB5 := Lib.hid hb
        clear hb
        by_cases hql : q < ns.length
        · obtain ⟨t, ht⟩ : ∃ t, ns[q]? = some t := ⟨_, List.getElem?_eq_getElem hql⟩
          obtain ⟨g4, ha4, hg4, k0⟩ := I4.out _ HB5.out q t ht
          subst ha4
          have HT := Lib.hid ht
          have hq3 : q < 9223372036854775807 := by omega
          clear ht
          go_wp2_with fail
          go_loopw [14, 15] (fun b i W => NamedRel w4 es t b i W) (fun _ i _ => es.length - (intOf i).toNat)
          case atStart => exact ⟨0, Nat.zero_le _, rfl, rfl, HB5.out⟩
          case round =>
            obtain ⟨p3, hp3, rfl, rfl, hb⟩ := hrel
            have HB6 := Lib.hid hb
            clear hb
            by_cases hpl3 : p3 < es.length
            · obtain ⟨x, hx⟩ : ∃ x, es[p3]? = some x := ⟨_, List.getElem?_eq_getElem hpl3⟩
              obtain ⟨g2, ha2, hg2, e0, e1, e2, e3⟩ := I2.out _ HB6.out p3 x hx
              subst ha2
              obtain ⟨gx, hax, hgx, k0⟩ := I4.out _ HB6.out q t HT.out
              obtain ⟨rfl, _⟩ := addr_inj hax
              unfold encStr at k0
              have hcmp : (x.1.text.toList == (⟨t.toArray⟩ : ByteArray).toList) = (x.1.text.data.toList == t) := by rw [ByteArray.toList_eq, ByteArray.toList_eq]
              have hst := Lib.hid (any_take (p := fun x : Ent => nameK x.1 && x.1.text.data.toList == t) hx)
              have hp4 : p3 < 9223372036854775807 := by omega
              clear hx
              cases hbv : (es.take p3).any (fun x => nameK x.1 && x.1.text.data.toList == t)
              case true =>
                rw [hbv] at hst
                go_wp2_with fail
                go_quiet (fail)
                go_wp2_with fail
                go_roundw
                case rel =>
                  first
                    | exact ⟨p3 + 1, hpl3, rfl, by rw [hst.out]; rfl, belowN HB6.out _⟩
                    | ((repeat apply Exists.intro); refine ⟨?_, rfl⟩; exact ⟨p3 + 1, hpl3, rfl, by rw [hst.out]; rfl, belowN HB6.out _⟩)
                case measure => simp [intOf]; omega
              case false =>
                rw [hbv] at hst
                cases h18 : (x.1.kind == 18)
                case true =>
                  go_wp2_with fail
                  go_quiet (fail)
                  go_wp2_with fail
                  go_roundw
                  case rel =>
                    first
                      | exact ⟨p3 + 1, hpl3, rfl, by rw [hst.out, ByteArray.toList_eq]; unfold nameK; rw [h18]; rfl, belowN HB6.out _⟩
                      | ((repeat apply Exists.intro); refine ⟨?_, rfl⟩; exact ⟨p3 + 1, hpl3, rfl, by rw [hst.out, ByteArray.toList_eq]; unfold nameK; rw [h18]; rfl, belowN HB6.out _⟩)
                  case measure => simp [intOf]; omega
                case false =>
                cases h10 : (x.1.kind == 10)
                case true =>
                  go_wp2_with fail
                  go_quiet (fail)
                  go_wp2_with fail
                  go_roundw
                  case rel =>
                    first
                      | exact ⟨p3 + 1, hpl3, rfl, by rw [hst.out, ByteArray.toList_eq]; unfold nameK; rw [h18, h10]; rfl, belowN HB6.out _⟩
                      | ((repeat apply Exists.intro); refine ⟨?_, rfl⟩; exact ⟨p3 + 1, hpl3, rfl, by rw [hst.out, ByteArray.toList_eq]; unfold nameK; rw [h18, h10]; rfl, belowN HB6.out _⟩)
                  case measure => simp [intOf]; omega
                case false =>
                  go_wp2_with fail
                  go_quiet (fail)
                  go_wp2_with fail
                  go_roundw
                  case rel =>
                    first
                      | exact ⟨p3 + 1, hpl3, rfl, by rw [hst.out]; unfold nameK; rw [h18, h10]; rfl, belowN HB6.out _⟩
                      | ((repeat apply Exists.intro); refine ⟨?_, rfl⟩; exact ⟨p3 + 1, hpl3, rfl, by rw [hst.out]; unfold nameK; rw [h18, h10]; rfl, belowN HB6.out _⟩)
                  case measure => simp [intOf]; omega
            · have hany : (es.take p3).any (fun x => nameK x.1 && x.1.text.data.toList == t) = true := by
                rw [List.take_of_length_le (by omega)]
                obtain ⟨x, hx, h1, h2⟩ := HMN.out t (List.mem_of_getElem? HT.out)
                exact List.any_eq_true.2 ⟨x, hx, by rw [h1, h2]; simp⟩
              rw [hany]
              have hwr : wrap64 ((q : Int) + 1) = (q : Int) + 1 := wrap64_small (by omega) (by omega)
              have HWR := Lib.hid hwr
              clear hwr
              by_cases hq0 : q = 0
              · subst hq0
                have hz0 : decide ((0 : Int) < ((0 : Nat) : Int)) = false := by decide
                go_wp2_with fail
                go_quiet (fail)
                go_wp2_with fail
                go_roundw
                case rel =>
                  first
                    | exact ⟨0 + 1, hql, rfl, by first | rfl | simp [HWR.out] | (push_cast; rfl), belowN HB6.out _⟩
                    | ((repeat apply Exists.intro); refine ⟨?_, rfl⟩; exact ⟨0 + 1, hql, rfl, by first | rfl | simp [HWR.out] | (push_cast; rfl), belowN HB6.out _⟩)
                case measure => simp [intOf]; omega
              · obtain ⟨tp, htp⟩ : ∃ tp, ns[q - 1]? = some tp := ⟨_, List.getElem?_eq_getElem (by omega)⟩
                have hlt := SPN.out.2 (q - 1) tp t htp (by rw [show q - 1 + 1 = q by omega]; exact HT.out)
                obtain ⟨gx, hax, hgx, k1⟩ := I4.out _ HB6.out (q - 1) tp htp
                obtain ⟨rfl, _⟩ := addr_inj hax
                obtain ⟨gx, hax, hgx, k0⟩ := I4.out _ HB6.out q t HT.out
                obtain ⟨rfl, _⟩ := addr_inj hax
                unfold encStr at k0 k1
                have hq5 : (0 : Int) < (q : Int) := by omega
                have hcmp : Op.bytesLess (⟨tp.toArray⟩ : ByteArray).toList (⟨t.toArray⟩ : ByteArray).toList = true := by
                  rw [bytesLess_eq, ByteArray.toList_eq, ByteArray.toList_eq]
                  exact decide_eq_true hlt
                have hcmp2 : Op.bytesLess tp t = true := by
                  rw [bytesLess_eq]
                  exact decide_eq_true hlt
                have hq6 : decide ((0 : Int) < (q : Int)) = true := decide_eq_true hq5
                obtain ⟨q1, rfl⟩ : ∃ q1, q = q1 + 1 := ⟨q - 1, by omega⟩
                rw [show q1 + 1 - 1 = q1 by omega] at k1
                go_wp2_with fail
                go_quiet (fail)
                go_wp2_with fail
                go_roundw
                case rel =>
                  first
                    | exact ⟨q1 + 1 + 1, hql, rfl, by first | rfl | simp [HWR.out] | (push_cast; rfl), belowN HB6.out _⟩
                    | ((repeat apply Exists.intro); refine ⟨?_, rfl⟩; exact ⟨q1 + 1 + 1, hql, rfl, by first | rfl | simp [HWR.out] | (push_cast; rfl), belowN HB6.out _⟩)
                case measure => simp [intOf]; omega
        · obtain rfl : q = ns.length := by omega
          go_wp2_with fail
          refine (awake_any _).mono ?_
          rintro e w9 ⟨rfl, b9⟩
          go_wp2_with fail
          go_ret
          exact ⟨rfl, (B4.out.trans (HB5.out.mono B4.out.size)).trans (b9.mono (Nat.le_trans B4.out.size HB5.out.size))⟩

end Go.Proofs.YtkmhijkpbmcgbaaGreat
