/-
  The program's walk through a node and all in it, each of which meets a question that goes down to kids: an iterator's contract.
-/
import Derived.Test.YtkmhijkpbmcgbaaGreatNodes
namespace Go.Proofs.YtkmhijkpbmcgbaaGreat
set_option linter.all false
open Go.RowKit Go.Shelf

attribute [local go_sem] Oper.semAt_some

/-- What comes: a node that reads as a tree in a world, meets a question, and how much depth is left. -/
structure ItemR (w0 : World) (f0 : Nat) (R : Nd → Prop) where
  v : Value
  n : Nd
  left : Nat
  read : NdV w0 f0 v n
  low : left ≤ 101
  ok : R n
def ItemR.key {w0 : World} {f0 : Nat} {R : Nd → Prop} (x : ItemR w0 f0 R) : Nd × Nat := (x.n, x.left)
def ItemR.enc {w0 : World} {f0 : Nat} {R : Nd → Prop} (x : ItemR w0 f0 R) : Array Value := #[x.v, .int .i64 x.left]

def WalkRelR (w0 : World) (f0 : Nat) (R : Nd → Prop) (G : World → Prop) (J : List (ItemR w0 f0 R) → World → Prop) (pre : List (ItemR w0 f0 R)) (left : Nat) (n : Nd) (i : Value) (W : World) : Prop :=
  ∃ (p : Nat) (ys : List (ItemR w0 f0 R)), p ≤ n.kids.length ∧ i = .int .i64 p ∧ ys.map ItemR.key = (n, left + 1) :: (n.kids.take p).flatMap (allN left) ∧ J (pre ++ ys) W ∧ Below w0.heap.size w0 W ∧ G W

set_option maxRecDepth 100000 in
set_option maxHeartbeats 2000000 in
theorem walk_inR (F : Fence) (hd : F.depth = none) (h30 : F.fn 49) (hro : F.round = none) (l N : Nat) (w0 : World) (f0 : Nat) (R : Nd → Prop) (hR : ∀ n k, R n → k ∈ n.kids → R k) (Kp : World → World → Prop) (G : World → Prop) (hW : WalkKeeps w0.heap.size Kp G)
    (J Jx : List (ItemR w0 f0 R) → World → Prop) (hJa : ∀ s W o, J s W → J s (W.alloc o))
    (hY : ∀ m pre x W, J pre W → pre.length < N → YieldAt F m Tryz.prog l (ItemR.enc x) W fun e W' =>
      (e = .returned (.bool true) ∧ J (pre ++ [x]) W' ∧ Kp W W') ∨ (e = .returned (.bool false) ∧ Jx (pre ++ [x]) W')) :
    ∀ (left : Nat) (m f : Nat) (v : Value) (n : Nd) (pre : List (ItemR w0 f0 R)) (W : World), left ≤ 101 → f ≤ f0 → R n → NdV w0 f v n → J pre W → Below w0.heap.size w0 W → G W → pre.length + (allN left n).length ≤ N →
      CallsIn F m Tryz.prog 49 #[v, .int .i64 left, .func (.yield l) #[] #[]] W fun e W' =>
        (e = .returned (.bool true) ∧ ∃ ys, ys.map ItemR.key = allN left n ∧ J (pre ++ ys) W' ∧ Below w0.heap.size w0 W' ∧ G W') ∨ (e = .returned (.bool false) ∧ ∃ q, Jx (pre ++ q) W')
  | 0, m, f, v, n, pre, W, hl, hff, hRn, hv, hJ, hB, hG, hN => by
    obtain ⟨A, c, rfl, hm⟩ := hv.val
    clear hv
    unfold Nd.val
    refine callsIn_of_wp Tryz.func49 rfl h30 ?_ hro
    simp only [Tryz.ntmps49, List.size_toArray, List.length_cons, List.length_nil, Nat.reduceAdd, Nat.reduceSub, Array.replicate_succ, Array.replicate_zero, List.push_toArray, List.append_toArray, List.nil_append, List.cons_append]
    gi_wp2
    go_ret
    exact .inl ⟨rfl, [], rfl, by simpa using hJa _ _ _ hJ, hB.alloc (hB.size) _, hW.alloc _ _ hG⟩
  | left + 1, m, 0, v, n, pre, W, hl, hff, hRn, hv, hJ, hB, hG, hN => hv.elim
  | left + 1, m, f + 1, v, n, pre, W, hl, hff, hRn, hv, hJ, hB, hG, hN => by
    have hdd : ∀ k : Nat, (F.depth.isSome = true → 1 ≤ k) := fun k h => by rw [hd] at h; cases h
    have ih := fun v n pre W => walk_inR F hd h30 hro l N w0 f0 R hR Kp G hW J Jx hJa hY left (m - 1) f v n pre W (by omega) (by omega)
    have HI := Lib.hid ih
    clear ih
    obtain ⟨x, xv, xn, xl⟩ : ∃ x : ItemR w0 f0 R, x.v = v ∧ x.n = n ∧ x.left = left + 1 := ⟨⟨v, n, left + 1, hv.le hff, hl, hRn⟩, rfl, rfl, rfl⟩
    obtain ⟨A, c, rfl, ⟨hm, hcap⟩, hc⟩ := hv
    have hm2 : n.kids.length ≤ 9223372036854775807 := hm
    have HC := Lib.hid hc
    clear hc
    have d1 : (((left + 1 : Nat) : Int) == 0) = false := by simp; omega
    have hlx : pre.length < N := by simp [allN] at hN; omega
    have hy := hY (m - 1) pre x (W.alloc (.cells #[.int .i64 n.kind, .string n.text, .slice A n.kids.length c, .int .i64 n.place] 24)) (hJa _ _ _ hJ) hlx
    unfold ItemR.enc at hy
    rw [xv, xl] at hy
    unfold Nd.val at hy
    obtain ⟨fn, tmps, assign, body, hy, hR⟩ := hy
    rw [show (((left + 1 : Nat) : Int)) = (left : Int) + 1 from by simp] at hy
    have hxk : x.key = (n, left + 1) := by unfold ItemR.key; rw [xn, xl]
    have HX := Lib.hid hxk
    have hR2 := hR.mono (R' := fun e W' => (e = .returned (.bool true) ∧ J (pre ++ [x]) W' ∧ W'.cell? ⟨W.heap.size, 2, none⟩ = some (.slice A n.kids.length c) ∧ Below w0.heap.size w0 W' ∧ G W') ∨ (e = .returned (.bool false) ∧ Jx (pre ++ [x]) W'))
      (fun e W' h => h.elim (fun ⟨he, hj, hk⟩ => by
        obtain ⟨k1, k2, k3⟩ := hW.kept _ _ _ _ hG hk
        exact .inl ⟨he, hj, Whole.cell k1 2, (hB.alloc hB.size _).trans k2, k3⟩) .inr)
    have HN := Lib.hid hN
    clear hR hxk xv xn xl hJ hB hG hN hlx
    unfold Nd.val
    refine callsIn_of_wp Tryz.func49 rfl h30 ?_ hro
    simp only [Tryz.ntmps49, List.size_toArray, List.length_cons, List.length_nil, Nat.reduceAdd, Nat.reduceSub, Array.replicate_succ, Array.replicate_zero, List.push_toArray, List.append_toArray, List.nil_append, List.cons_append]
    gi_wp2_with ((try refine ⟨hdd _, ?_⟩); refine hR2.mono ?_; clear hR2; rintro e W2 (⟨rfl, hJ2, c2, hB2, hG2⟩ | ⟨rfl, hx2⟩))
    · gi_loopw [19] (fun i W => WalkRelR w0 f0 R G J pre left n i W) (fun i _ => n.kids.length - (intOf i).toNat)
      case atStart => exact ⟨0, [x], Nat.zero_le _, rfl, by simp [HX.out], hJ2, hB2, hG2⟩
      case round =>
        obtain ⟨p, ys, hp, rfl, hys, hJ3, hB3, hG3⟩ := hrel
        clear hJ2 hB2 hG2 c2
        by_cases hpl : p < n.kids.length
        · obtain ⟨b, off, k, A', c', rfl, hk, hbl, k0, k1, k2, k3, k5⟩ := kid_cells HC.out hB3 hpl
          have hx1 := flat_snoc (allN left) hk
          have hx2 := flat_le (allN left) n.kids (p + 1)
          have hx3 : ys.length = 1 + ((n.kids.take p).flatMap (allN left)).length := by
            have := congrArg List.length hys
            simpa [Nat.add_comm] using this
          have hx4 : (pre ++ ys).length + (allN left k).length ≤ N := by
            have := HN.out
            rw [hx1, List.length_append] at hx2
            simp only [allN, List.length_cons, List.length_append] at this ⊢
            omega
          have HY := Lib.hid hys
          have H1 := Lib.hid hx1
          have hg := HI.out _ k (pre ++ ys) _ (hR n k hRn (List.mem_of_getElem? hk)) k5 (hJa _ _ (.cells #[.int .i64 k.kind, .string k.text, .slice A' k.kids.length c', .int .i64 k.place] 24) hJ3) (hB3.alloc hB3.size _) (hW.alloc _ _ hG3) hx4
          have HG := Lib.hid hg
          clear hx1 hx2 hx3 hx4 hys hJ3 hB3 hG3 k5 hg
          have hp2 : p < 9223372036854775807 := Nat.lt_of_lt_of_le hpl hm2
          gi_wp2_with ((try refine ⟨hdd _, ?_⟩); gi_at_call 49; refine HG.out.mono ?_; clear HG; rintro e W3 (⟨rfl, zs, hzs, hJ4, hB4, hG4⟩ | ⟨rfl, q, hq⟩))
          · go_roundw
            case rel =>
              refine ⟨p + 1, ys ++ zs, by omega, rfl, ?_, by rw [← List.append_assoc]; exact hJ4, hB4, hG4⟩
              rw [List.map_append, HY.out, hzs, H1.out]
              rfl
            case measure => simp [intOf]; omega
          · go_ret
            exact .inr ⟨rfl, ys ++ q, by rw [← List.append_assoc]; exact hq⟩
        · have hK := Lib.hid hJ3
          gi_wp2
          go_ret
          refine .inl ⟨rfl, ys, ?_, hJ3, hB3, hG3⟩
          rw [hys, List.take_of_length_le (by omega)]
          rfl
    · gi_wp2
      go_ret
      exact .inr ⟨rfl, [x], hx2⟩


set_option maxRecDepth 100000 in
set_option maxHeartbeats 2000000 in
theorem nodes1_stopsR (F : Fence) (hd : F.depth = none) (m : Nat) (h29 : F.fn 48) (h30 : F.fn 49) (hro : F.round = none) (w0 w : World) (f0 : Nat) (R : Nd → Prop) (hR : ∀ n k, R n → k ∈ n.kids → R k) (Kp : World → World → Prop) (G : World → Prop) (hK : WalkKeeps w0.heap.size Kp G)
    (hB : Below w0.heap.size w0 w) (hG : ∀ W, Below w.heap.size w W → G W) (f left : Nat) (n : Nd) (A : Option Addr) (c : Nat) (hv : NdV w0 f (n.val A c) n) (hl : left ≤ 101) (hff : f ≤ f0) (hRn : R n) (B1 B2 : Nat)
    (h1 : Whole w B1 24 (cellsOf n A c)) (h2 : Whole w B2 3 #[.int .i64 left]) :
    SeqStopsK F m Tryz.prog 48 #[.pointer (some ⟨B1, 0, none⟩), .pointer (some ⟨B2, 0, none⟩)] (ItemR.enc (w0 := w0) (f0 := f0) (R := R)) Kp (fun ys => ys.map ItemR.key = allN left n) (fun _ => True) (allN left n).length w := by
  intro l J Jx W hW hJ hJx hY h0
  have hdd : ∀ k : Nat, (F.depth.isSome = true → 1 ≤ k) := fun k h => by rw [hd] at h; cases h
  have h1' := h1.below hW h1.lt
  have h2' := h2.below hW h2.lt
  have a0 : W.cell? ⟨B1, 0, none⟩ = some (.int .i64 n.kind) := h1'.cell 0
  have a1 : W.cell? ⟨B1, 1, none⟩ = some (.string n.text) := h1'.cell 1
  have a2 : W.cell? ⟨B1, 2, none⟩ = some (.slice A n.kids.length c) := h1'.cell 2
  have a3 : W.cell? ⟨B1, 3, none⟩ = some (.int .i64 n.place) := h1'.cell 3
  have a4 : W.cell? ⟨B2, 0, none⟩ = some (.int .i64 left) := h2'.cell 0
  have hc := walk_inR F hd h30 hro l (allN left n).length w0 f0 R hR Kp G hK J Jx (fun s W o hs => hJ s W _ none hs (World.grownBy_alloc W o none) (fun r e => by cases e))
    (fun m' pre x W hj hl => YieldAt.anyDepth hd m' (hY pre x W hj hl)) left (m - 1) f (n.val A c) n [] W hl hff hRn hv h0 (hB.trans (hW.mono hB.size)) (hG W hW) (by simp)
  have HC := Lib.hid hc
  clear hc h1' h2' h1 h2 hW hJ hJx hY h0 hG hK hB hv
  unfold Nd.val at HC
  refine callsIn_of_wp Tryz.func48 rfl h29 ?_ hro
  simp only [Tryz.ntmps48, List.size_toArray, List.length_cons, List.length_nil, Nat.reduceAdd, Nat.reduceSub, Array.replicate_succ, Array.replicate_zero, List.push_toArray, List.append_toArray, List.nil_append, List.cons_append]
  gi_wp2_with ((try refine ⟨hdd _, ?_⟩); gi_at_call 49; refine HC.out.mono ?_; clear HC; rintro e W3 (⟨rfl, zs, hzs, hJ4, hB4, hG4⟩ | ⟨rfl, q, hq⟩))
  · go_end0
    exact ⟨⟨_, rfl⟩, .inl ⟨zs, hzs, by simpa using hJ4⟩⟩
  · go_end0
    exact ⟨⟨_, rfl⟩, .inr ⟨q, trivial, by simpa using hq⟩⟩


end Go.Proofs.YtkmhijkpbmcgbaaGreat
