/-
  The reference's All: its walk.
-/
import Derived.Test.YtkmhijkpbmcgbaaGreatFresh
import Derived.Test.YtkmhijkpbmcgbaaGreatAllF
import Derived.Test.YtkmhijkpbmcgbaaGreatNodes
import Derived.Test.YtkmhijkpbmcgbaaGreatFindK
import Derived.Laws.OwnMore
namespace Go.Proofs.YtkmhijkpbmcgbaaGreat
set_option linter.all false
open Go.RowKit Go.Shelf

def nodesN (left : Nat) (n : Nd) : List Nd := (allN left n).map (·.1)
theorem nodesN_succ (left : Nat) (n : Nd) : nodesN (left + 1) n = n :: n.kids.flatMap (nodesN left) := by
  unfold nodesN
  simp only [allN, List.map_cons, List.map_flatMap]
def AllRel (w : World) (B : Nat) (left : Nat) (l : List Nd) (A : Option Addr) (n : Nd) (c : Nat) (out i : Value) (W : World) : Prop :=
  ∃ (p : Nat) (es : List Ent), p ≤ l.length ∧ i = .int .i64 p ∧ W.ownsRow (w.heap.size + 1) 24 4 out es.length (es.flatMap cells4) ∧ es.map (·.1) = n :: (l.take p).flatMap (nodesN left) ∧
    Below w.heap.size w W ∧ Whole W B 24 #[.int .i64 n.kind, .string n.text, .slice A l.length c, .int .i64 n.place]

theorem oneCell4 (l : List Ent) : ∀ u ∈ l.flatMap cells4, u.oneCell' = true := fun u hu => by
  obtain ⟨x, _, h⟩ := List.mem_flatMap.1 hu
  simp [cells4] at h
  rcases h with rfl | rfl | rfl | rfl <;> rfl
/-- 'append(out, row...)', the row one of our own too. -/
theorem wpList_append_rows {P : Program} {w : World} {ops : Array Oper} {rest : List Oper} {o : Oper} {a : Act} {Q : Exit → Act → World → Prop} (hgd : o.guard = none) (s x : Operand) (t : TypeId)
    (ho : o.op = .call { callee := .builtin .append, args := #[s, x], argTypes := #[t, t] })
    (base base' : Nat) (e : TypeId) (i : TypeInfo) (z : Value) (size bytes : Nat) (ht : P.underlying t = some (.slice e)) (hi : P.info? e = some i) (hz : i.zero = some z)
    (hsize : i.size = size) (hby : i.bytes = bytes) (hzs : z.cells.size = size) (hsz : 0 < size)
    (v : Value) (n : Nat) (xs : List Value) (hs : a.eval s = v) (hown : w.ownsRow base e size v n xs)
    (u : Value) (m : Nat) (ys : List Value) (hx : a.eval x = u) (hownx : w.ownsRow base' e size u m ys) (h1 : ∀ u ∈ ys, u.oneCell' = true)
    (h63 : n + m ≤ maxLen) (hbytes : (n + m) * bytes ≤ 140737488355328) (hbase : base ≤ w.heap.size)
    (h : ∀ v' w', w'.ownsRow base e size v' (n + m) (xs ++ ys) → w.grownBy w' v.ownBlock → wpList P ops Q rest (a.put o.dst v') w') : wpList P ops Q (o :: rest) a w := by
  rcases hownx.2 with ⟨hu, hm⟩ | ⟨g, cap, cur, hu, hg, hb, hc, hcm, hcs, hys⟩
  · refine wpList_plain hgd fun K hK => ?_
    have hys : ys = [] := List.length_eq_zero_iff.1 (by rw [hownx.1, hm]; simp)
    have hr := run_append_owned_none (P := P) (w := w) base t o.type e i size ht hi v n xs hown
    unfold Oper.wp execOp
    simp only [ho, resolve, invoke, builtin, Sem.run_bind, Sem.run_pure, Result.andThen_ok, List.map_toArray, List.map_cons, List.map_nil, hs, hx, hu, hr]
    exact hK _ _ (h v w (by rw [hys, hm]; simpa using hown) ⟨rfl, rfl, rfl, Nat.le_refl _, fun _ _ _ => rfl⟩)
  · refine wpList_append_own w hgd s x t ho base e i z size bytes ht hi hz hsize hby hzs hsz v n xs hs hown ⟨g, 0, none⟩ m cap ys (by rw [hx, hu]) hownx.1 ?_ h1 h63 hbytes hbase (fun v' w' q1 q2 _ => h v' w' q1 q2)
    intro j y hy
    have e1 : (Addr.add ⟨g, 0, none⟩ j) = ⟨g, j, none⟩ := by simp [Addr.add]; intro h; exact h.symm
    rw [e1]
    have e2 : w.cell? ⟨g, j, none⟩ = cur[j]? := cell_of_row w g j cur e (0, 0) hb
    rw [e2, ← Array.getElem?_toList]
    rw [← hys] at hy
    rw [List.getElem?_take] at hy
    split at hy
    · exact hy
    · cases hy

set_option maxRecDepth 100000 in
set_option maxHeartbeats 1000000 in
theorem refall_any : ∀ (left : Nat) (f : Nat) (v : Value) (n : Nd) (w : World), left ≤ 1000 → NdV w f v n → (∀ m, sizeN m n ≤ 1048576) →
    Calls Tryz.prog 13 #[v, .int .i64 left] w fun e w' => ∃ (u : Value) (es : List Ent), e = .returned u ∧ es.map (·.1) = nodesN left n ∧ w'.ownsRow w.heap.size 24 4 u es.length (es.flatMap cells4) ∧ Below w.heap.size w w'
  | 0, f, v, n, w, hl, hv, hz => by
    obtain ⟨A, c, rfl, hm⟩ := hv.val
    clear hv
    unfold Nd.val
    go_enter Tryz.func13, Tryz.ntmps13
    go_wp2
    go_ret
    exact ⟨_, [], rfl, rfl, World.ownsRow_nil _ _ _ _, (Below.refl _ w).alloc (Nat.le_refl _) _⟩
  | left + 1, 0, v, n, w, hl, hv, hz => hv.elim
  | left + 1, f + 1, v, n, w, hl, hv, hz => by
    have ih := fun v n w h hz => refall_any left f v n w (by omega) h hz
    have HI := Lib.hid ih
    clear ih
    have d0 : decide (((left + 1 : Nat) : Int) = 0) = false := decide_eq_false (by omega)
    have d1 : (((left + 1 : Nat) : Int) == 0) = false := by simp; omega
    obtain ⟨A, c, rfl, ⟨hm, hcap⟩, hc⟩ := hv
    have HC := Lib.hid hc
    have HZ := Lib.hid hz
    clear hc hz
    unfold Nd.val
    go_enter Tryz.func13, Tryz.ntmps13
    go_wp2_with fail
    go_loopw [5, 6] (fun s i W => AllRel w w.heap.size left n.kids A n c s i W) (fun _ i _ => n.kids.length - (intOf i).toNat)
    case atStart =>
      refine ⟨0, [(n, A, c)], Nat.zero_le _, rfl, ?_, by simp, ((Below.refl _ w).alloc (Nat.le_refl _) _).alloc (by simp) _, (Whole.new w 24 _).alloc _⟩
      have := World.ownsRow_lit (base := w.heap.size + 1) (e := 24) (size := 4) (w.alloc (.cells #[.int .i64 n.kind, .string n.text, .slice A n.kids.length c, .int .i64 n.place] 24)) #[.int .i64 n.kind, .string n.text, .slice A n.kids.length c, .int .i64 n.place] 1 (by simp) (by simp only [maxLen]; omega) (by rfl)
      simpa [cells4] using this
    case round =>
      obtain ⟨p, es, hp, rfl, hrow, hes, hB, hW⟩ := hrel
      have c2 := hW.cell 2
      have B := Lib.hid hB
      have WH := Lib.hid hW
      have HROW := Lib.hid hrow
      have HES := Lib.hid hes
      clear hB hW hrow hes
      by_cases hpl : p < n.kids.length
      · obtain ⟨b, off, k, A', c', rfl, hk, hbl, k0, k1, k2, k3, k5⟩ := kid_cells HC.out B.out hpl
        have hzk : ∀ m, sizeN m k ≤ 1048576 := fun m => Nat.le_trans (size_kid hk) (HZ.out (m + 1))
        have HIK := Lib.hid (HI.out _ k wr (k5.below B.out) hzk)
        have HK := Lib.hid hk
        have hes2 : es.length + (nodesN left k).length ≤ 1048576 := by
          have h1 := HZ.out (left + 1)
          rw [← all_size] at h1
          have h2 : (allN (left + 1) n).length = (nodesN (left + 1) n).length := by unfold nodesN; simp
          have h3 : es.length = 1 + ((n.kids.take p).flatMap (nodesN left)).length := by
            have := congrArg List.length HES.out
            simpa [Nat.add_comm] using this
          have h4 := flat_le (nodesN left) n.kids (p + 1)
          rw [flat_snoc (nodesN left) hk, List.length_append] at h4
          rw [h2, nodesN_succ, List.length_cons] at h1
          omega
        have HS2 := Lib.hid hes2
        clear k5 hk hzk hes2
        have hp2 : p < 9223372036854775807 := Nat.lt_of_lt_of_le hpl (by unfold maxLen at hm; omega)
        obtain ⟨i0, hi0, hz0, hz1, hz2⟩ := info_parts Tryz.info24
        unfold Nd.val at HIK
        go_wp2_with fail
        refine HIK.out.mono ?_
        rintro e w1 ⟨u1, es1, rfl, hes1, hrow1, b1⟩
        have hl1 : es1.length = (nodesN left k).length := by rw [← hes1]; simp
        have B1 := Lib.hid (B.out.trans (b1.mono B.out.size))
        have hlw : w.heap.size < wr.heap.size := WH.out.lt
        have W1 := Lib.hid (WH.out.below b1 hlw)
        have hru := HROW.out.1
        have R1 : w1.ownsRow (w.heap.size + 1) 24 4 u5 es.length (es.flatMap cells4) := by
          refine ⟨HROW.out.1, ?_⟩
          rcases HROW.out.2 with h | ⟨g, cap, cur, h1, h2, h3, h4⟩
          · exact .inl h
          · exact .inr ⟨g, cap, cur, h1, h2, (b1.block g (lt_of_heap h3)).trans h3, h4⟩
        have hs2 := HS2.out
        clear k0 k1 k2 k3 HIK hru
        go_wp2_with (refine wpList_append_rows (by rfl) _ _ 22 (by rfl) (w.heap.size + 1) wr.heap.size 24 i0 _ 4 56 Tryz.underlying22 hi0 hz0 hz1 hz2 rfl (by omega) u5 es.length (es.flatMap cells4) (by rfl) R1 u1 es1.length (es1.flatMap cells4) (by rfl) hrow1 (oneCell4 es1) (by simp only [maxLen]; omega) (by omega) (by have := b1.size; omega) ?_; intro v9 w9 own9 gr9)
        have hne : some w.heap.size ≠ u5.ownBlock := by
          intro e
          rcases HROW.out.2 with ⟨h, _⟩ | ⟨g, cap, cur, h1, h2, _⟩
          · rw [h] at e; cases e
          · rw [h1] at e
            injection e with e
            simp only at e
            omega
        go_roundw
        case rel =>
          have hdone : AllRel w w.heap.size left n.kids (some ⟨b, off, none⟩) n c v9 (.int .i64 ((p : Int) + 1)) w9 := by
            refine ⟨p + 1, es ++ es1, by omega, rfl, by simpa using own9, ?_, ?_, W1.out.grown gr9 hne⟩
            · rw [List.map_append, HES.out, hes1, flat_snoc (nodesN left) HK.out]
              rfl
            · refine B1.out.grown gr9 B1.out.size (fun j hj => ?_)
              rcases HROW.out.2 with ⟨h, _⟩ | ⟨g, cap, cur, h1, h2, _⟩
              · rw [h] at hj; cases hj
              · rw [h1] at hj
                injection hj with hj
                simp only at hj
                omega
          first | exact hdone | ((repeat apply Exists.intro); exact ⟨hdone, rfl⟩)
        case measure => simp [intOf]; omega
      · have e : n.kids.take p = n.kids := by rw [List.take_of_length_le (by omega)]
        have hes9 := HES.out
        rw [e] at hes9
        have HE9 := Lib.hid hes9
        clear hes9
        go_wp2_with fail
        go_ret
        refine ⟨_, es, rfl, by rw [HE9.out, nodesN_succ], ?_, B.out⟩
        refine ⟨HROW.out.1, HROW.out.2.imp id fun ⟨g, cap, cur, h1, h2, h3⟩ => ⟨g, cap, cur, h1, by omega, h3⟩⟩

end Go.Proofs.YtkmhijkpbmcgbaaGreat
