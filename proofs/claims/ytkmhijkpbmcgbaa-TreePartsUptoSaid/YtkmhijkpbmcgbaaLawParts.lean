/-
  The law TreeParts: its walk.
-/
import Derived.Test.YtkmhijkpbmcgbaaRightC
import Derived.Test.YtkmhijkpbmcgbaaLawNones
namespace Go.Proofs.Ytkmhijkpbmcgbaa
set_option linter.all false
open Go.RowKit Go.Shelf

/-- The cells of a row's element. -/
theorem row_cells {S : Nat → Nat → Prop} {base : Nat} {W : World} {d f : Nat} {A : Option Addr} {c : Nat} {l : List Ent} (h : RowNd S base W d f (.slice A l.length c) l) {i : Nat} {x : Ent} (hx : l[i]? = some x) :
    ∃ g, A = some ⟨g, 0, none⟩ ∧ g < W.heap.size ∧ W.cell? ⟨g, i * 4, none⟩ = some (.int .i64 x.1.kind) ∧ W.cell? ⟨g, i * 4 + 1, none⟩ = some (.string x.1.text) ∧ W.cell? ⟨g, i * 4 + 2, none⟩ = some (.slice x.2.1 x.1.kids.length x.2.2) ∧ W.cell? ⟨g, i * 4 + 3, none⟩ = some (.int .i64 x.1.place) := by
  have hi : i < l.length := by
    rcases Nat.lt_or_ge i l.length with h2 | h2
    · exact h2
    · rw [List.getElem?_eq_none h2] at hx; cases hx
  rcases h.1.2 with ⟨hv, h1⟩ | ⟨g, cap, cur, hv, hb, hg, hnc, _, _, htk⟩
  · omega
  · injection hv with hA _ _
    subst hA
    have hc : ∀ j u, j < 4 → (cells4 x)[j]? = some u → W.cell? ⟨g, i * 4 + j, none⟩ = some u := fun j u hj hu => by
      rw [cell_of_row _ _ _ _ _ _ hg]
      have h3 : (cur.toList.take (l.length * 4))[i * 4 + j]? = some u := by rw [htk, flat4 l i j _ hx hj, hu]
      rw [List.getElem?_take] at h3
      split at h3
      · simpa using h3
      · cases h3
    exact ⟨g, rfl, (Array.getElem?_eq_some_iff.1 hg).1, hc 0 _ (by omega) (by simp [cells4]), hc 1 _ (by omega) (by simp [cells4]), hc 2 _ (by omega) (by simp [cells4]), hc 3 _ (by omega) (by simp [cells4])⟩
theorem row_len {S : Nat → Nat → Prop} {base : Nat} {W : World} {d f : Nat} {A : Option Addr} {c : Nat} {l : List Ent} (h : RowNd S base W d f (.slice A l.length c) l) : l.length ≤ 9223372036854775807 := by
  rcases h.1.2 with ⟨_, h⟩ | ⟨_, _, _, _, _, _, h1, h2, _⟩
  · omega
  · exact Nat.le_trans h1 h2
theorem NdV.lst0 {w : World} {f : Nat} {n : Nd} {A : Option Addr} {c : Nat} (h : NdV w f (n.val A c) n) : LstAt w f n.kids A := by
  cases f with
  | zero => exact h.elim
  | succ f =>
    intro h0
    obtain ⟨b, off, hA, hi⟩ := h.lst h0
    refine ⟨b, off, hA, fun i k hk => ?_⟩
    obtain ⟨A', c', q0, q1, q2, q3, q5⟩ := hi i k hk
    exact ⟨A', c', q0, q1, q2, q3, q5.up⟩
def PartsRel (w : World) (n : Nd) (A : Option Addr) (c : Nat) (base : World) (m : Nat) (i : Value) (W : World) : Prop := ∃ p : Nat, p ≤ m ∧ i = .int .i64 p ∧ Box1 w n A c w.heap.size W ∧ Below base.heap.size base W

set_option maxRecDepth 100000 in
set_option maxHeartbeats 2000000 in
theorem lawParts_walk (f : Nat) (v : Value) (n : Nd) (w : World) (hv : NdV w f v n) (hft : Fits n) (hx : Mx w) :
    Calls Try.prog 7 #[v] w fun e w' => e = .returned (.bool true) ∧ Below w.heap.size w w' := by
  obtain ⟨A, c, rfl, hm⟩ := hv.val
  have hz : ∀ m, sizeN m n ≤ 1048576 := fun m => Nat.le_trans (size_le_bulk m n) (hft m)
  have M1 := Lib.hid fun W (h : Below w.heap.size w W) => small_any f _ n W 500 (hv.below h)
  have KN := Lib.hid fun W (h : Below w.heap.size w W) => know f W (hx.below h)
  have RF := Lib.hid fun W (h : Below w.heap.size w W) => right_c 31 _ look31 f _ _ n W ((know f W (hx.below h)).file.le (Nat.le_succ f)) hft (hv.below h)
  have FN := Lib.hid fun W (h : Below w.heap.size w W) (kind : Int) => find_any f _ n kind W (hv.below h) hz
  have LK := Lib.hid fun W (h : Below w.heap.size w W) => hv.lst0.below h
  have HVN := Lib.hid hv
  have HF := Lib.hid hft
  have hw1 := Whole.new w 24 (cellsOf n A c)
  have k1 : Box1 w n A c w.heap.size (w.alloc (.cells (cellsOf n A c) 24)) := ⟨(Below.refl _ w).alloc (Nat.le_refl _) _, hw1⟩
  have K1 := Lib.hid k1
  obtain ⟨x0, x1, x2, x3, x4⟩ := k1.cells
  clear hv k1 hw1 hz hft hx
  unfold Nd.val at M1 RF FN HVN ⊢
  obtain ⟨W1, hW1⟩ : ∃ W1, W1 = w.alloc (.cells (cellsOf n A c) 24) := ⟨_, rfl⟩
  rw [← hW1] at K1 x0 x1 x2 x3 x4
  go_enter Try.func7, Try.ntmps7
  go_wp2_with fail
  first | rw [← hW1] | skip
  clear hW1
  refine (M1.out _ K1.out.1).mono ?_
  rintro e W2 ⟨rfl, b2⟩
  have K2 := Lib.hid (K1.out.next b2)
  clear b2 K1 x0 x1 x2 x3 x4
  obtain ⟨x0, x1, x2, x3, x4⟩ := K2.out.cells
  cases h1 : decide (wrap64 (sizeN 1000 n) ≤ 500)
  case false =>
    go_wp2_with fail
    refine (M1.out _ K2.out.1).mono ?_
    rintro e W3 ⟨rfl, b3⟩
    have K3 := Lib.hid (K2.out.next b3)
    clear b3 K2 x0 x1 x2 x3 x4
    rw [h1]
    go_wp2_with fail
    go_ret
    exact ⟨rfl, K3.out.1⟩
  case true =>
  go_wp2_with fail
  refine (RF.out _ K2.out.1).mono ?_
  rintro e W3 ⟨rfl, b3⟩
  have K3 := Lib.hid (K2.out.next b3)
  clear b3 K2 x0 x1 x2 x3 x4
  obtain ⟨x0, x1, x2, x3, x4⟩ := K3.out.cells
  cases hR : (okN n && fileB (isN f) n)
  case false =>
    go_wp2_with fail
    refine (M1.out _ K3.out.1).mono ?_
    rintro e W4 ⟨rfl, b4⟩
    rw [h1]
    have K4 := Lib.hid (K3.out.next b4)
    clear b4 K3 x0 x1 x2 x3 x4
    go_wp2_with fail
    refine (awake_any _).mono ?_
    rintro e W5 ⟨rfl, b5⟩
    have K5 := Lib.hid (K4.out.next b5)
    clear b5 K4
    go_wp2_with fail
    go_ret
    exact ⟨rfl, K5.out.1⟩
  case true =>
  simp only [Bool.and_eq_true] at hR
  obtain ⟨P1, P2, P3⟩ := file_parts HF.out hR.1 hR.2
  have H1 := Lib.hid P1
  have H2 := Lib.hid P2
  have H3 := Lib.hid P3
  clear hR h1 M1 RF P1 P2 P3
  have hm2 : n.kids.length ≤ 9223372036854775807 := hm
  go_wp2_with fail
  go_loopw [3] (fun i W => PartsRel w n A c W3 n.kids.length i W) (fun i _ => n.kids.length - (intOf i).toNat)
  case atStart => exact ⟨0, Nat.zero_le _, rfl, K3.out, Below.refl _ _⟩
  case round =>
    obtain ⟨p, hp, rfl, kb, hb⟩ := hrel
    clear K3 x0 x1 x2 x3 x4
    have KB := Lib.hid kb
    have HBB := Lib.hid hb
    obtain ⟨x0, x1, x2, x3, x4⟩ := kb.cells
    clear kb hb
    by_cases hpl : p < n.kids.length
    · obtain ⟨b, off, k, A', c', rfl, hk, hbl, q0, q1, q2, q3, q5⟩ := (LK.out wr KB.out.1).kid hpl
      obtain ⟨r1, r2, r3⟩ := H1.out k (List.mem_of_getElem? hk)
      have rd := right_c 34 _ look34 f _ _ k wr ((KN.out wr KB.out.1).decl.le (Nat.le_succ f)) r2 q5
      rw [r1, r3] at rd
      have RD := Lib.hid rd
      have hp2 : p < 9223372036854775807 := by omega
      clear rd q5 hk r1 r2 r3
      unfold Nd.val at RD
      go_wp2_with fail
      refine RD.out.mono ?_
      rintro e W4 ⟨rfl, b4⟩
      have K4 := Lib.hid (KB.out.next b4)
      have B4 := Lib.hid (HBB.out.trans (b4.mono HBB.out.size))
      clear b4 RD
      go_wp2_with fail
      go_roundw
      case rel => exact ⟨p + 1, hpl, rfl, K4.out, B4.out⟩
      case measure => simp [intOf]; omega
    · go_wp2_with fail
      refine (FN.out wr KB.out.1 36).mono ?_
      rintro e W5 ⟨u, l, rfl, hl, hrow, b5⟩
      obtain ⟨Au, cu, rfl⟩ := row_shape hrow
      have K5 := Lib.hid (KB.out.next b5)
      have RC := Lib.hid fun W (h : Below W5.heap.size W5 W) i (x : Ent) (hx : l[i]? = some x) => row_cells (hrow.kept h) hx
      have LX := Lib.hid fun W (h : Below W5.heap.size W5 W) i (x : Ent) (hx : l[i]? = some x) => ((hrow.2 x (List.mem_of_getElem? hx)).ndv.below h).lst0
      have HX := Lib.hid fun i (x : Ent) (hx : l[i]? = some x) k (hk : k ∈ x.1.kids) => H2.out x.1 (by rw [← hl]; exact List.mem_map_of_mem (List.mem_of_getElem? hx)) k hk
      have CX := Lib.hid fun i (x : Ent) (hx : l[i]? = some x) => (hrow.2 x (List.mem_of_getElem? hx)).ndv.val
      have hll := row_len hrow
      clear hrow b5 hl KB HBB x0 x1 x2 x3 x4 hpl hp H1 H2
      obtain ⟨x0, x1, x2, x3, x4⟩ := K5.out.cells
      go_wp2_with fail
      go_loopw [5] (fun i W => PartsRel w n A c W5 l.length i W) (fun i _ => l.length - (intOf i).toNat)
      case atStart => exact ⟨0, Nat.zero_le _, rfl, K5.out, Below.refl _ _⟩
      case round =>
        obtain ⟨p2, hp2, rfl, kb, hb⟩ := hrel
        clear K5 x0 x1 x2 x3 x4
        have KB := Lib.hid kb
        have HBB := Lib.hid hb
        clear kb hb
        by_cases hpl : p2 < l.length
        · obtain ⟨x, hxi⟩ : ∃ x, l[p2]? = some x := ⟨_, List.getElem?_eq_getElem hpl⟩
          have hmx : x.1.kids.length ≤ 9223372036854775807 := by
            obtain ⟨_, _, _, h⟩ := CX.out p2 x hxi
            exact h
          have RX := Lib.hid fun W h => RC.out W h p2 x hxi
          have LX := Lib.hid fun W h => LX.out W h p2 x hxi
          have HX := Lib.hid fun k hk => HX.out p2 x hxi k hk
          have hpm : p2 < 9223372036854775807 := by omega
          clear hxi CX RC
          go_wp2_with fail
          go_loopw [6] (fun i W => PartsRel w n A c W5 x.1.kids.length i W) (fun i _ => x.1.kids.length - (intOf i).toNat)
          case atStart => exact ⟨0, Nat.zero_le _, rfl, KB.out, HBB.out⟩
          case round =>
            obtain ⟨p3, hp3, rfl, kb, hb⟩ := hrel
            clear KB HBB
            have KB := Lib.hid kb
            have HBB := Lib.hid hb
            obtain ⟨gx, hAu, hgl, y0, y1, y2, y3⟩ := RX.out _ hb
            subst hAu
            clear kb hb
            by_cases hpl3 : p3 < x.1.kids.length
            · obtain ⟨b, off, k, A', c', hxa, hk, hbl, q0, q1, q2, q3, q5⟩ := (LX.out _ HBB.out).kid hpl3
              obtain ⟨r1, r2, r3⟩ := HX.out k (List.mem_of_getElem? hk)
              have rd := right_c 37 _ look37 f _ _ k _ (KN.out _ KB.out.1).stmt r2 q5
              rw [r1, r3] at rd
              rw [hxa] at y2
              have RD := Lib.hid rd
              have hp3m : p3 < 9223372036854775807 := by omega
              clear rd q5 hk r1 r2 r3 hxa
              unfold Nd.val at RD
              go_wp2_with fail
              refine RD.out.mono ?_
              rintro e W6 ⟨rfl, b6⟩
              have K6 := Lib.hid (KB.out.next b6)
              have B6 := Lib.hid (HBB.out.trans (b6.mono HBB.out.size))
              clear b6 RD
              go_wp2_with fail
              go_roundw
              case rel => exact ⟨p3 + 1, hpl3, rfl, K6.out, B6.out⟩
              case measure => simp [intOf]; omega
            · go_wp2_with fail
              go_roundw
              case rel => exact ⟨p2 + 1, hpl, rfl, KB.out, HBB.out⟩
              case measure => simp [intOf]; omega
        · have K7 := KB
          obtain ⟨x0, x1, x2, x3, x4⟩ := K7.out.cells
          go_wp2_with fail
          refine (FN.out _ K7.out.1 20).mono ?_
          clear RC LX HX CX KB HBB hll x0 x1 x2 x3 x4
          rintro e W8 ⟨u, l2, rfl, hl, hrow, b8⟩
          obtain ⟨Au2, cu2, rfl⟩ := row_shape hrow
          have K8 := Lib.hid (K7.out.next b8)
          have RC := Lib.hid fun W (h : Below W8.heap.size W8 W) i (x : Ent) (hx : l2[i]? = some x) => row_cells (hrow.kept h) hx
          have LX := Lib.hid fun W (h : Below W8.heap.size W8 W) i (x : Ent) (hx : l2[i]? = some x) => ((hrow.2 x (List.mem_of_getElem? hx)).ndv.below h).lst0
          have HX := Lib.hid fun i (x : Ent) (hx : l2[i]? = some x) => H3.out x.1 (by rw [← hl]; exact List.mem_map_of_mem (List.mem_of_getElem? hx))
          have hll := row_len hrow
          clear hrow b8 hl K7
          obtain ⟨x0, x1, x2, x3, x4⟩ := K8.out.cells
          go_wp2_with fail
          go_loopw [8] (fun i W => PartsRel w n A c W8 l2.length i W) (fun i _ => l2.length - (intOf i).toNat)
          case atStart => exact ⟨0, Nat.zero_le _, rfl, K8.out, Below.refl _ _⟩
          case round =>
            obtain ⟨p4, hp4, rfl, kb, hb⟩ := hrel
            clear K8 x0 x1 x2 x3 x4
            have KB := Lib.hid kb
            have HBB := Lib.hid hb
            clear kb hb
            by_cases hpl4 : p4 < l2.length
            · obtain ⟨x, hxi⟩ : ∃ x, l2[p4]? = some x := ⟨_, List.getElem?_eq_getElem hpl4⟩
              obtain ⟨hx2, hxk⟩ := HX.out p4 x hxi
              have hpm4 : p4 < 9223372036854775807 := by omega
              have RX := Lib.hid fun W h => RC.out W h p4 x hxi
              have LY := Lib.hid fun W h => LX.out W h p4 x hxi
              have HK := Lib.hid hxk
              obtain ⟨gx, hAu, hgl, y0, y1, y2, y3⟩ := RX.out _ HBB.out
              subst hAu
              obtain ⟨b, off, k, A', c', hxa, hk, hbl, q0, q1, q2, q3, q5⟩ := (LY.out _ HBB.out).kid (p := 0) (by omega)
              obtain ⟨r1, r2, r3⟩ := HK.out k (List.mem_of_getElem? hk)
              have rd := right_c 36 _ look36 f _ _ k _ (KN.out _ KB.out.1).expr r2 q5
              rw [r1, r3] at rd
              rw [hxa, hx2] at y2
              have RD := Lib.hid rd
              have HX2 := Lib.hid hx2
              simp only [Nat.zero_mul, Nat.add_zero] at q0 q1 q2 q3
              have l0 : (0 : Nat) < 2 := by omega
              clear rd q5 hk r1 r2 r3 hxi hx2 hxk
              have HXA := Lib.hid hxa
              clear hxa
              unfold Nd.val at RD
              go_wp2_with fail
              refine RD.out.mono ?_
              rintro e W9 ⟨rfl, b9⟩
              have K9 := Lib.hid (KB.out.next b9)
              have B9 := Lib.hid (HBB.out.trans (b9.mono HBB.out.size))
              clear b9 RD y0 y1 y2 y3 q0 q1 q2 q3 hbl
              obtain ⟨gx2, hAu, hgl2, y0, y1, y2, y3⟩ := RX.out _ B9.out
              injection hAu with hAu
              injection hAu with hAu _ _
              subst hAu
              obtain ⟨b2, off2, k2, A2', c2', hxa, hk, hbl, q0, q1, q2, q3, q5⟩ := (LY.out _ B9.out).kid (p := 1) (by rw [HX2.out]; omega)
              rw [HXA.out] at hxa
              injection hxa with hxa
              injection hxa with e1 e2 _
              subst e1 e2
              obtain ⟨r1, r2, r3⟩ := HK.out k2 (List.mem_of_getElem? hk)
              have rd := right_c 36 _ look36 f _ _ k2 _ (KN.out _ K9.out.1).expr r2 q5
              rw [r1, r3] at rd
              rw [HXA.out, HX2.out] at y2
              have RD := Lib.hid rd
              simp only [Nat.one_mul] at q0 q1 q2 q3
              clear rd q5 hk r1 r2 r3
              unfold Nd.val at RD
              go_wp2_with fail
              refine RD.out.mono ?_
              rintro e W10 ⟨rfl, b10⟩
              have K10 := Lib.hid (K9.out.next b10)
              have B10 := Lib.hid (B9.out.trans (b10.mono B9.out.size))
              clear b10 RD
              go_wp2_with fail
              go_roundw
              case rel => exact ⟨p4 + 1, hpl4, rfl, K10.out, B10.out⟩
              case measure => simp [intOf]; omega
            · go_wp2_with fail
              refine (awake_any _).mono ?_
              rintro e W11 ⟨rfl, b11⟩
              have K11 := Lib.hid (KB.out.next b11)
              clear b11
              go_wp2_with fail
              go_ret
              exact ⟨rfl, K11.out.1⟩

end Go.Proofs.Ytkmhijkpbmcgbaa
