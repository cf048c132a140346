/-
  The law TreeNones: its walk.
-/
import Derived.Test.YtkmhijkpbmcgbaaLawSwaps
import Derived.Test.YtkmhijkpbmcgbaaFind
import Derived.Test.YtkmhijkpbmcgbaaHeld
namespace Go.Proofs.Ytkmhijkpbmcgbaa
set_option linter.all false
open Go.RowKit Go.Shelf

theorem nd_eta (n : Nd) : Nd.mk n.kind n.text n.kids n.place = n := by cases n; rfl
theorem sw_none (k : Int) (t : ByteArray) (b : Nd) : ∀ (left : Nat) (n : Nd), findN left k n = [] → swN (swapAt k t b) left n = n
  | 0, n, _ => rfl
  | left + 1, n, h => by
    have h1 : (n.kind == k) = false := by
      unfold findN at h
      rw [List.filter_eq_nil_iff] at h
      have := h n (by simp [allN])
      simpa using this
    have h2 : ∀ x ∈ n.kids, swN (swapAt k t b) left x = x := fun x hx => sw_none k t b left x (by
      unfold findN at h ⊢
      rw [List.filter_eq_nil_iff] at h ⊢
      intro y hy
      refine h y ?_
      obtain ⟨p, hp, rfl⟩ := List.mem_map.1 hy
      exact List.mem_map.2 ⟨p, by simp only [allN, List.mem_cons, List.mem_flatMap]; exact .inr ⟨x, hx, hp⟩, rfl⟩)
    have h3 : swapAt k t b n = none := by unfold swapAt; rw [h1]; rfl
    simp only [swN, h3]
    rw [show n.kids.map (swN (swapAt k t b) left) = n.kids from by
      conv => rhs; rw [← List.map_id n.kids]
      exact List.map_congr_left h2]
    exact nd_eta n

theorem sw_same (k : Int) (t : ByteArray) (b : Nd) (hk : b.kind = k) (ht : b.text.toList = t.toList) (hb : b.kids = []) : ∀ (f left : Nat) (n : Nd), depthN (f + 1) n ≤ f → sameN f (swN (swapAt k t b) left n) n = true
  | 0, left, n, h => by simp only [depthN] at h; omega
  | f + 1, 0, n, h => by
    have := same_self (f + 1) n
    simp only [swN]
    rw [this]
    exact decide_eq_true h
  | f + 1, left + 1, n, h => by
    cases hq : (n.kind == k && (n.text.toList == t.toList && ((n.kids.length : Int) == 0))) with
    | true =>
      have e : swN (swapAt k t b) (left + 1) n = b := by simp only [swN, swapAt]; rw [hq]; rfl
      rw [e]
      simp only [Bool.and_eq_true, beq_iff_eq] at hq
      have hn : n.kids = [] := List.length_eq_zero_iff.1 (by omega)
      rw [same_iff]
      refine ⟨by rw [hk, hq.1], by rw [ht, hq.2.1], by rw [hb, hn], fun i x y hx hy => ?_⟩
      rw [hn] at hy
      simp at hy
    | false =>
      have e : swN (swapAt k t b) (left + 1) n = Nd.mk n.kind n.text (n.kids.map (swN (swapAt k t b) left)) n.place := by simp only [swN, swapAt]; rw [hq]; rfl
      rw [e, same_iff]
      refine ⟨rfl, rfl, by simp [Nd.kids], fun i x y hx hy => ?_⟩
      have hx2 : (n.kids.map (swN (swapAt k t b) left))[i]? = some x := hx
      rw [List.getElem?_map, hy] at hx2
      injection hx2 with hx2
      rw [← hx2]
      refine sw_same k t b hk ht hb f left y ?_
      have := depth_kid (f := f + 1) (List.mem_of_getElem? hy)
      omega

/-- A node in its box. -/
def Box1 (w : World) (a : Nd) (A1 : Option Addr) (c1 : Nat) (B1 : Nat) (W : World) : Prop := Below w.heap.size w W ∧ Whole W B1 24 (cellsOf a A1 c1)
section
variable {w W W' : World} {a : Nd} {A1 : Option Addr} {c1 B1 : Nat}
theorem Box1.next (h : Box1 w a A1 c1 B1 W) (hb : Below W.heap.size W W') : Box1 w a A1 c1 B1 W' := ⟨h.1.trans (hb.mono h.1.size), h.2.below hb h.2.lt⟩
theorem Box1.cells (h : Box1 w a A1 c1 B1 W) : W.cell? ⟨B1, 0, none⟩ = some (.int .i64 a.kind) ∧ W.cell? ⟨B1, 1, none⟩ = some (.string a.text) ∧ W.cell? ⟨B1, 2, none⟩ = some (.slice A1 a.kids.length c1) ∧ W.cell? ⟨B1, 3, none⟩ = some (.int .i64 a.place) ∧ B1 < W.heap.size :=
  ⟨h.2.cell 0, h.2.cell 1, h.2.cell 2, h.2.cell 3, h.2.lt⟩
end
theorem leaf_nd (w : World) (k : Int) (t : ByteArray) : NdV w 1 ((Nd.mk k t [] 0).val none 0) (Nd.mk k t [] 0) := ⟨none, 0, rfl, ⟨Nat.zero_le _, Nat.zero_le _⟩, fun h => absurd h (by simp [Nd.kids])⟩
theorem leaf_size (m : Nat) (k : Int) (t : ByteArray) : sizeN m (Nd.mk k t [] 0) ≤ 1048576 := by
  cases m <;> simp [sizeN, Nd.kids]

set_option maxRecDepth 100000 in
set_option maxHeartbeats 2000000 in
theorem lawNones_walk (f : Nat) (v : Value) (n : Nd) (text : ByteArray) (w : World) (hv : NdV w f v n) (hz : ∀ m, sizeN m n ≤ 1048576) :
    Calls Try.prog 8 #[v, .string text] w fun e w' => e = .returned (.bool true) ∧ Below w.heap.size w w' := by
  obtain ⟨A, c, rfl, hm⟩ := hv.val
  have M1 := Lib.hid fun W (h : Below w.heap.size w W) => small_any f _ n W 500 (hv.below h)
  have DP := Lib.hid fun W (h : Below w.heap.size w W) => depth_any f _ n W (hv.below h)
  have FN := Lib.hid fun W (h : Below w.heap.size w W) => find_any f _ n (-1) W (hv.below h) hz
  have SX := Lib.hid fun W (h : Below w.heap.size w W) => swap_any (fun x => x < W.heap.size) f 1 _ _ n (Nd.mk 1 ⟨#[]⟩ [] 0) (-1) text W (fun x hx => hx) (hz 101) (leaf_size 101 _ _) (hv.below h).ndp (leaf_nd W 1 ⟨#[]⟩).ndp
  have SY := Lib.hid fun W (h : Below w.heap.size w W) => swap_any (fun x => x < W.heap.size) f 1 _ _ n (Nd.mk 18 text [] 0) 18 text W (fun x hx => hx) (hz 101) (leaf_size 101 _ _) (hv.below h).ndp (leaf_nd W 18 text).ndp
  have SM := Lib.hid fun W (h : Below w.heap.size w W) g (v1 : Value) m (h1 : NdV W g v1 m) => same_any g f v1 _ m n W h1 (hv.below h)
  have hw1 := Whole.new w 24 (cellsOf n A c)
  have k1 : Box1 w n A c w.heap.size (w.alloc (.cells (cellsOf n A c) 24)) := ⟨(Below.refl _ w).alloc (Nat.le_refl _) _, hw1⟩
  have K1 := Lib.hid k1
  obtain ⟨x0, x1, x2, x3, x4⟩ := k1.cells
  have HZ := Lib.hid hz
  have HVN := Lib.hid hv
  clear hv k1 hw1 hz
  unfold Nd.val at M1 DP FN SX SY SM HVN ⊢
  have e1 : ∀ (k : Int) (t : ByteArray), (Nd.mk k t [] 0).kind = k ∧ (Nd.mk k t [] 0).text = t ∧ (Nd.mk k t [] 0).kids.length = 0 ∧ (Nd.mk k t [] 0).place = 0 := fun _ _ => ⟨rfl, rfl, rfl, rfl⟩
  rw [(e1 1 ⟨#[]⟩).1, (e1 1 ⟨#[]⟩).2.1, (e1 1 ⟨#[]⟩).2.2.1, (e1 1 ⟨#[]⟩).2.2.2] at SX
  rw [(e1 18 text).1, (e1 18 text).2.1, (e1 18 text).2.2.1, (e1 18 text).2.2.2] at SY
  clear e1
  obtain ⟨W1, hW1⟩ : ∃ W1, W1 = w.alloc (.cells (cellsOf n A c) 24) := ⟨_, rfl⟩
  rw [← hW1] at K1 x0 x1 x2 x3 x4
  go_enter Try.func8, Try.ntmps8
  go_wp2_with fail
  first | rw [← hW1] | skip
  clear hW1
  refine (M1.out _ K1.out.1).mono ?_
  rintro e W2 ⟨rfl, b2⟩
  have K2 := Lib.hid (K1.out.next b2)
  clear b2 K1 x0 x1 x2 x3 x4 M1
  obtain ⟨x0, x1, x2, x3, x4⟩ := K2.out.cells
  cases h1 : decide (wrap64 (sizeN 1000 n) ≤ 500)
  case false =>
    go_wp2_with fail
    go_ret
    exact ⟨rfl, K2.out.1⟩
  case true =>
  clear h1
  have hdl := depth_le 101 n
  by_cases hd : depthN 101 n ≤ 100
  · have hdd : decide ((100 : Int) < (depthN 101 n : Int)) = false := decide_eq_false (by omega)
    go_wp2_with fail
    refine (DP.out _ K2.out.1).mono ?_
    rintro e W3 ⟨rfl, b3⟩
    have K3 := Lib.hid (K2.out.next b3)
    clear b3 K2 x0 x1 x2 x3 x4 DP
    obtain ⟨x0, x1, x2, x3, x4⟩ := K3.out.cells
    go_wp2_with fail
    refine (FN.out _ K3.out.1).mono ?_
    rintro e W4 ⟨u, l, rfl, hl, hrow, b4⟩
    obtain ⟨Au, cu, rfl⟩ := row_shape hrow
    have K4 := Lib.hid (K3.out.next b4)
    have HL := Lib.hid hl
    clear b4 K3 x0 x1 x2 x3 x4 hrow hl
    obtain ⟨x0, x1, x2, x3, x4⟩ := K4.out.cells
    by_cases hl0 : l.length = 0
    · have hnil : findN 100 (-1) n = [] := by rw [← HL.out, List.length_eq_zero_iff.1 hl0]; rfl
      have ex : swN (swapAt (-1) text (Nd.mk 1 ⟨#[]⟩ [] 0)) 100 n = n := sw_none _ _ _ 100 n hnil
      have ey : sameN 100 (swN (swapAt 18 text (Nd.mk 18 text [] 0)) 100 n) n = true := sw_same 18 text _ rfl rfl rfl 100 100 n hd
      have es : sameN 100 n n = true := by rw [same_self]; exact decide_eq_true hd
      rw [ex] at SX
      have EY := Lib.hid ey
      have ES := Lib.hid es
      have HN := Lib.hid hnil
      have hg0 : decide ((0 : Int) < (l.length : Int)) = false := decide_eq_false (by omega)
      have hg1 : decide (0 < l.length) = false := decide_eq_false (by omega)
      clear ex ey es hnil hl0
      go_wp2_with fail
      refine (SX.out _ K4.out.1).mono ?_
      rintro e W5 ⟨Ax, cx, rfl, nx, b5⟩
      have K5 := Lib.hid (K4.out.next b5)
      have NX := Lib.hid nx.ndv
      clear b5 K4 x0 x1 x2 x3 x4 nx
      obtain ⟨x0, x1, x2, x3, x4⟩ := K5.out.cells
      have bx := (Below.refl _ W5).alloc (Nat.le_refl _) (.cells #[.int .i64 n.kind, .string n.text, .slice Ax n.kids.length cx, .int .i64 n.place] 24)
      have wx := Whole.new W5 24 #[.int .i64 n.kind, .string n.text, .slice Ax n.kids.length cx, .int .i64 n.place]
      have hsy := SY.out _ (K5.out.next bx).1
      obtain ⟨Y, hY⟩ : ∃ Y, Y = swN (swapAt 18 text (Nd.mk 18 text [] 0)) 100 n := ⟨_, rfl⟩
      rw [← hY] at hsy EY
      clear hY
      have HSY := Lib.hid hsy
      have BX := Lib.hid bx
      have WX := Lib.hid wx
      clear hsy bx wx
      go_wp2_with fail
      refine HSY.out.mono ?_
      rintro e W6 ⟨Ay, cy, rfl, ny, b6⟩
      have K6 := Lib.hid ((K5.out.next BX.out).next b6)
      have NX6 := Lib.hid ((NX.out.below BX.out).below b6)
      have NY6 := Lib.hid ny.ndv
      have WX6 := Lib.hid (WX.out.below b6 (by simp))
      clear b6 BX WX ny K5 NX x0 x1 x2 x3 x4 HSY
      obtain ⟨x0, x1, x2, x3, x4⟩ := K6.out.cells
      have u0 : W6.cell? ⟨W5.heap.size, 0, none⟩ = some (.int .i64 n.kind) := WX6.out.cell 0
      have u1 : W6.cell? ⟨W5.heap.size, 1, none⟩ = some (.string n.text) := WX6.out.cell 1
      have u2 : W6.cell? ⟨W5.heap.size, 2, none⟩ = some (.slice Ax n.kids.length cx) := WX6.out.cell 2
      have u3 : W6.cell? ⟨W5.heap.size, 3, none⟩ = some (.int .i64 n.place) := WX6.out.cell 3
      have u4 := WX6.out.lt
      go_wp2_with fail
      have by_ : Below W6.heap.size W6 (W6.alloc (.cells #[.int .i64 Y.kind, .string Y.text, .slice Ay Y.kids.length cy, .int .i64 Y.place] 24)) := (Below.refl _ W6).alloc (Nat.le_refl _) _
      have wy : Whole (W6.alloc (.cells #[.int .i64 Y.kind, .string Y.text, .slice Ay Y.kids.length cy, .int .i64 Y.place] 24)) W6.heap.size 24 #[.int .i64 Y.kind, .string Y.text, .slice Ay Y.kids.length cy, .int .i64 Y.place] := Whole.new W6 24 _
      obtain ⟨W7, hW7⟩ : ∃ W7, W7 = (W6.alloc (.cells #[.int .i64 Y.kind, .string Y.text, .slice Ay Y.kids.length cy, .int .i64 Y.place] 24)) := ⟨_, rfl⟩
      rw [← hW7]
      rw [← hW7] at by_ wy
      clear hW7
      have k7 := K6.out.next by_
      have NX7 := Lib.hid (NX6.out.below by_)
      have NY7 := Lib.hid (NY6.out.below by_)
      have wx7 := WX6.out.below by_ u4
      clear by_ K6 NX6 NY6 WX6 x0 x1 x2 x3 x4 u0 u1 u2 u3 u4
      have kp : ∀ w', Below W7.heap.size W7 w' → w'.cell? ⟨w.heap.size, 0, none⟩ = some (.int .i64 n.kind) ∧ w'.cell? ⟨w.heap.size, 1, none⟩ = some (.string n.text) ∧ w'.cell? ⟨w.heap.size, 2, none⟩ = some (.slice A n.kids.length c) ∧ w'.cell? ⟨w.heap.size, 3, none⟩ = some (.int .i64 n.place) ∧ w'.cell? ⟨W5.heap.size, 0, none⟩ = some (.int .i64 n.kind) ∧ w'.cell? ⟨W5.heap.size, 1, none⟩ = some (.string n.text) ∧ w'.cell? ⟨W5.heap.size, 2, none⟩ = some (.slice Ax n.kids.length cx) ∧ w'.cell? ⟨W5.heap.size, 3, none⟩ = some (.int .i64 n.place) ∧ w'.cell? ⟨W6.heap.size, 0, none⟩ = some (.int .i64 Y.kind) ∧ w'.cell? ⟨W6.heap.size, 1, none⟩ = some (.string Y.text) ∧ w'.cell? ⟨W6.heap.size, 2, none⟩ = some (.slice Ay Y.kids.length cy) ∧ w'.cell? ⟨W6.heap.size, 3, none⟩ = some (.int .i64 Y.place) := fun w' hW =>
        have h1 := (k7.next hW).2
        have h3 := wx7.below hW wx7.lt
        have h4 := wy.below hW wy.lt
        ⟨h1.cell 0, h1.cell 1, h1.cell 2, h1.cell 3, h3.cell 0, h3.cell 1, h3.cell 2, h3.cell 3, h4.cell 0, h4.cell 1, h4.cell 2, h4.cell 3⟩
      have KP := Lib.hid kp
      have K7 := Lib.hid k7
      have FZ := Lib.hid fun W (g : Nat) (v1 : Value) (h1 : NdV W g v1 n) => (find_any g v1 n (-1) W h1 HZ.out).mono (R' := fun e w' => ∃ Az cz, e = .returned (.slice Az 0 cz) ∧ Below W.heap.size W w') (fun e w' h => by
        obtain ⟨u, l, h1, h2, h3, h4⟩ := h
        obtain ⟨Az, cz, rfl⟩ := row_shape h3
        have : l.length = 0 := by rw [HN.out] at h2; simpa using congrArg List.length h2
        exact ⟨Az, cz, by rw [h1, this], h4⟩)
      clear kp k7 wx7 wy FN hg0 hg1
      have HV := Lib.hid (fun W (h : Below w.heap.size w W) => HVN.out.below h)
      refine Held.begin_ (fun w' => w'.cell? ⟨w.heap.size, 0, none⟩ = some (.int .i64 n.kind) ∧ w'.cell? ⟨w.heap.size, 1, none⟩ = some (.string n.text) ∧ w'.cell? ⟨w.heap.size, 2, none⟩ = some (.slice A n.kids.length c) ∧ w'.cell? ⟨w.heap.size, 3, none⟩ = some (.int .i64 n.place) ∧ w'.cell? ⟨W5.heap.size, 0, none⟩ = some (.int .i64 n.kind) ∧ w'.cell? ⟨W5.heap.size, 1, none⟩ = some (.string n.text) ∧ w'.cell? ⟨W5.heap.size, 2, none⟩ = some (.slice Ax n.kids.length cx) ∧ w'.cell? ⟨W5.heap.size, 3, none⟩ = some (.int .i64 n.place) ∧ w'.cell? ⟨W6.heap.size, 0, none⟩ = some (.int .i64 Y.kind) ∧ w'.cell? ⟨W6.heap.size, 1, none⟩ = some (.string Y.text) ∧ w'.cell? ⟨W6.heap.size, 2, none⟩ = some (.slice Ay Y.kids.length cy) ∧ w'.cell? ⟨W6.heap.size, 3, none⟩ = some (.int .i64 Y.place)) (fun _ => True) 99 (by kernel_rfl) (KP.out _ (Below.refl _ W7).drew) (trivial) ?_
      refine Held.take (i := 0) (oi := { dst := some 30, op := Op.load 24 (Operand.tmp 5), type := 24, pos := "outright.go:84", after := #[], guard := none }) (v := ?_) false [] rfl (by decide) (by kernel_rfl) (by kernel_rfl) (by kernel_rfl) (by kernel_rfl) (fun _ _ _ h => h) (Or.inl ⟨by rfl, ?_⟩) ?_
      rotate_left
      · rintro w ⟨hS0, hS1⟩
        clear hS1
        (try dsimp only at hS0)
        go_simp
        (try with_reducible rfl)
      try simp only [Act.put, List.setIfInBounds_toArray, List.set_cons_zero, List.set_cons_succ]
      refine Held.take (i := 1) (oi := { dst := some 31, op := Op.load 24 (Operand.tmp 2), type := 24, pos := "outright.go:84", after := #[], guard := none }) (v := ?_) false [] rfl (by decide) (by kernel_rfl) (by kernel_rfl) (by kernel_rfl) (by kernel_rfl) (fun _ _ _ h => h) (Or.inl ⟨by rfl, ?_⟩) ?_
      rotate_left
      · rintro w ⟨hS0, hS1⟩
        clear hS1
        (try dsimp only at hS0)
        go_simp
        (try with_reducible rfl)
      try simp only [Act.put, List.setIfInBounds_toArray, List.set_cons_zero, List.set_cons_succ]
      refine Held.step (i := 2) (o := { dst := some 32, op := Op.call { callee := Callee.value (Operand.func 10), args := #[Operand.tmp 30, Operand.tmp 31], argTypes := #[24, 24] }, type := 4, pos := "outright.go:84", after := #[{ on := 0, ground := Ground.data }, { on := 1, ground := Ground.data }], guard := none }) rfl (by kernel_rfl) (fun K hK => ?_)
      go_simp
      go_at_call 10
      refine (SM.out _ (K7.out.1.trans ((Below.refl _ W7).drew.mono K7.out.1.size)) _ _ n (NX7.out.below (Below.refl _ W7).drew)).mono ?_
      rintro e w8 ⟨rfl, b8⟩
      have BB := Lib.hid (((Below.refl _ W7).drew).trans b8)
      have es1 := ES.out
      clear b8
      refine hK.out _ _ ⟨KP.out _ BB.out, fun _ => trivial⟩ ?_
      clear hK K
      try simp only [Act.put, List.setIfInBounds_toArray, List.set_cons_zero, List.set_cons_succ]
      refine Held.take (i := 3) (oi := { dst := some 33, op := Op.move (Operand.tmp 32), type := 4, pos := "outright.go:84", after := #[{ on := 2, ground := Ground.data }, { on := 2, ground := Ground.chain }], guard := none }) (v := ?_) false [] rfl (by decide) (by kernel_rfl) (by kernel_rfl) (by kernel_rfl) (by kernel_rfl) (fun _ _ _ h => h) (Or.inl ⟨by rfl, ?_⟩) ?_
      rotate_left
      · rintro w ⟨hS0, hS1⟩
        clear hS1
        (try dsimp only at hS0)
        go_simp
        (try with_reducible rfl)
      try simp only [Act.put, List.setIfInBounds_toArray, List.set_cons_zero, List.set_cons_succ]
      refine Held.take (i := 4) (oi := { dst := some 34, op := Op.load 24 (Operand.tmp 6), type := 24, pos := "outright.go:84", after := #[{ on := 3, ground := Ground.guard }], guard := some (3, true) }) (v := ?_) false [] rfl (by decide) (by kernel_rfl) (by kernel_rfl) (by kernel_rfl) (by kernel_rfl) (fun _ _ _ h => h) (Or.inl ⟨by rfl, ?_⟩) ?_
      rotate_left
      · rintro w ⟨hS0, hS1⟩
        clear hS1
        (try dsimp only at hS0)
        go_simp
        (try with_reducible rfl)
      try simp only [Act.put, List.setIfInBounds_toArray, List.set_cons_zero, List.set_cons_succ]
      refine Held.take (i := 5) (oi := { dst := some 35, op := Op.load 24 (Operand.tmp 2), type := 24, pos := "outright.go:84", after := #[{ on := 3, ground := Ground.guard }], guard := some (3, true) }) (v := ?_) false [] rfl (by decide) (by kernel_rfl) (by kernel_rfl) (by kernel_rfl) (by kernel_rfl) (fun _ _ _ h => h) (Or.inl ⟨by rfl, ?_⟩) ?_
      rotate_left
      · rintro w ⟨hS0, hS1⟩
        clear hS1
        (try dsimp only at hS0)
        go_simp
        (try with_reducible rfl)
      try simp only [Act.put, List.setIfInBounds_toArray, List.set_cons_zero, List.set_cons_succ]
      refine Held.step (i := 6) (o := { dst := some 36, op := Op.call { callee := Callee.value (Operand.func 10), args := #[Operand.tmp 34, Operand.tmp 35], argTypes := #[24, 24] }, type := 4, pos := "outright.go:84", after := #[{ on := 4, ground := Ground.data }, { on := 5, ground := Ground.data }, { on := 3, ground := Ground.chain }, { on := 3, ground := Ground.guard }], guard := some (3, true) }) rfl (by kernel_rfl) (fun K hK => ?_)
      go_simp
      go_at_call 10
      refine (SM.out _ (K7.out.1.trans (BB.out.mono K7.out.1.size)) _ _ Y (NY7.out.below BB.out)).mono ?_
      rintro e w9 ⟨rfl, b9⟩
      have BB := Lib.hid (BB.out.trans (b9.mono BB.out.size))
      have es2 := EY.out
      clear b9
      refine hK.out _ _ ⟨KP.out _ BB.out, fun _ => trivial⟩ ?_
      clear hK K
      try simp only [Act.put, List.setIfInBounds_toArray, List.set_cons_zero, List.set_cons_succ]
      refine Held.take (i := 7) (oi := { dst := some 37, op := Op.pick (Operand.tmp 33) (Operand.tmp 36) (Operand.const (Value.bool false)), type := 4, pos := "outright.go:84", after := #[{ on := 3, ground := Ground.data }, { on := 6, ground := Ground.data }], guard := none }) (v := ?_) false [] rfl (by decide) (by kernel_rfl) (by kernel_rfl) (by kernel_rfl) (by kernel_rfl) (fun _ _ _ h => h) (Or.inl ⟨by rfl, ?_⟩) ?_
      rotate_left
      · rintro w ⟨hS0, hS1⟩
        clear hS1
        (try dsimp only at hS0)
        go_simp
        (try with_reducible rfl)
      try simp only [Act.put, List.setIfInBounds_toArray, List.set_cons_zero, List.set_cons_succ]
      refine Held.take (i := 8) (oi := { dst := some 38, op := Op.move (Operand.tmp 37), type := 4, pos := "outright.go:84", after := #[{ on := 7, ground := Ground.data }, { on := 6, ground := Ground.chain }], guard := none }) (v := ?_) false [] rfl (by decide) (by kernel_rfl) (by kernel_rfl) (by kernel_rfl) (by kernel_rfl) (fun _ _ _ h => h) (Or.inl ⟨by rfl, ?_⟩) ?_
      rotate_left
      · rintro w ⟨hS0, hS1⟩
        clear hS1
        (try dsimp only at hS0)
        go_simp
        (try with_reducible rfl)
      try simp only [Act.put, List.setIfInBounds_toArray, List.set_cons_zero, List.set_cons_succ]
      refine Held.take (i := 9) (oi := { dst := some 39, op := Op.load 24 (Operand.tmp 2), type := 24, pos := "outright.go:84", after := #[{ on := 8, ground := Ground.guard }], guard := some (8, true) }) (v := ?_) false [] rfl (by decide) (by kernel_rfl) (by kernel_rfl) (by kernel_rfl) (by kernel_rfl) (fun _ _ _ h => h) (Or.inl ⟨by rfl, ?_⟩) ?_
      rotate_left
      · rintro w ⟨hS0, hS1⟩
        clear hS1
        (try dsimp only at hS0)
        go_simp
        (try with_reducible rfl)
      try simp only [Act.put, List.setIfInBounds_toArray, List.set_cons_zero, List.set_cons_succ]
      refine Held.take (i := 12) (oi := { dst := some 42, op := Op.load 24 (Operand.tmp 5), type := 24, pos := "outright.go:84", after := #[{ on := 8, ground := Ground.guard }], guard := some (8, true) }) (v := ?_) false [] rfl (by decide) (by kernel_rfl) (by kernel_rfl) (by kernel_rfl) (by kernel_rfl) (fun _ _ _ h => h) (Or.inl ⟨by rfl, ?_⟩) ?_
      rotate_left
      · rintro w ⟨hS0, hS1⟩
        clear hS1
        (try dsimp only at hS0)
        go_simp
        (try with_reducible rfl)
      try simp only [Act.put, List.setIfInBounds_toArray, List.set_cons_zero, List.set_cons_succ]
      refine Held.step (i := 10) (o := { dst := some 40, op := Op.call { callee := Callee.value (Operand.func 18), args := #[Operand.tmp 39, Operand.const (Value.int IntKind.i64 (-1))], argTypes := #[24, 3] }, type := 22, pos := "outright.go:84", after := #[{ on := 9, ground := Ground.data }, { on := 8, ground := Ground.chain }, { on := 8, ground := Ground.guard }], guard := some (8, true) }) rfl (by kernel_rfl) (fun K hK => ?_)
      go_simp
      go_at_call 18
      refine (FZ.out _ f _ (HV.out _ (K7.out.1.trans (BB.out.mono K7.out.1.size)))).mono ?_
      rintro e w10 ⟨Az, cz, rfl, b10⟩
      have BB := Lib.hid (BB.out.trans (b10.mono BB.out.size))
      clear b10
      refine hK.out _ _ ⟨KP.out _ BB.out, fun _ => trivial⟩ ?_
      clear hK K
      try simp only [Act.put, List.setIfInBounds_toArray, List.set_cons_zero, List.set_cons_succ]
      refine Held.take (i := 11) (oi := { dst := some 41, op := Op.call { callee := Callee.builtin Builtin.len, args := #[Operand.tmp 40], argTypes := #[22] }, type := 3, pos := "outright.go:84", after := #[{ on := 10, ground := Ground.data }, { on := 8, ground := Ground.guard }], guard := some (8, true) }) (v := ?_) false [] rfl (by decide) (by kernel_rfl) (by kernel_rfl) (by kernel_rfl) (by kernel_rfl) (fun _ _ _ h => h) (Or.inl ⟨by rfl, ?_⟩) ?_
      rotate_left
      · rintro w ⟨hS0, hS1⟩
        clear hS1
        (try dsimp only at hS0)
        go_simp
        (try with_reducible rfl)
      try simp only [Act.put, List.setIfInBounds_toArray, List.set_cons_zero, List.set_cons_succ]
      refine Held.step (i := 13) (o := { dst := some 43, op := Op.call { callee := Callee.value (Operand.func 18), args := #[Operand.tmp 42, Operand.const (Value.int IntKind.i64 (-1))], argTypes := #[24, 3] }, type := 22, pos := "outright.go:84", after := #[{ on := 12, ground := Ground.data }, { on := 10, ground := Ground.chain }, { on := 8, ground := Ground.guard }], guard := some (8, true) }) rfl (by kernel_rfl) (fun K hK => ?_)
      go_simp
      go_at_call 18
      refine (FZ.out _ _ _ (NX7.out.below BB.out)).mono ?_
      rintro e w11 ⟨Aq, cq, rfl, b11⟩
      have BB := Lib.hid (BB.out.trans (b11.mono BB.out.size))
      clear b11
      refine hK.out _ _ ⟨KP.out _ BB.out, fun _ => trivial⟩ ?_
      clear hK K
      try simp only [Act.put, List.setIfInBounds_toArray, List.set_cons_zero, List.set_cons_succ]
      refine Held.take (i := 14) (oi := { dst := some 44, op := Op.call { callee := Callee.builtin Builtin.len, args := #[Operand.tmp 43], argTypes := #[22] }, type := 3, pos := "outright.go:84", after := #[{ on := 13, ground := Ground.data }, { on := 8, ground := Ground.guard }], guard := some (8, true) }) (v := ?_) false [] rfl (by decide) (by kernel_rfl) (by kernel_rfl) (by kernel_rfl) (by kernel_rfl) (fun _ _ _ h => h) (Or.inl ⟨by rfl, ?_⟩) ?_
      rotate_left
      · rintro w ⟨hS0, hS1⟩
        clear hS1
        (try dsimp only at hS0)
        go_simp
        (try with_reducible rfl)
      try simp only [Act.put, List.setIfInBounds_toArray, List.set_cons_zero, List.set_cons_succ]
      refine Held.take (i := 15) (oi := { dst := some 45, op := Op.binOp BinOp.eql 3 (Operand.tmp 41) (Operand.tmp 44) 3, type := 4, pos := "outright.go:84", after := #[{ on := 11, ground := Ground.data }, { on := 14, ground := Ground.data }, { on := 8, ground := Ground.guard }], guard := some (8, true) }) (v := ?_) false [] rfl (by decide) (by kernel_rfl) (by kernel_rfl) (by kernel_rfl) (by kernel_rfl) (fun _ _ _ h => h) (Or.inl ⟨by rfl, ?_⟩) ?_
      rotate_left
      · rintro w ⟨hS0, hS1⟩
        clear hS1
        (try dsimp only at hS0)
        go_simp
        (try with_reducible rfl)
      try simp only [Act.put, List.setIfInBounds_toArray, List.set_cons_zero, List.set_cons_succ]
      refine Held.take (i := 16) (oi := { dst := some 46, op := Op.pick (Operand.tmp 38) (Operand.tmp 45) (Operand.const (Value.bool false)), type := 4, pos := "outright.go:84", after := #[{ on := 8, ground := Ground.data }, { on := 15, ground := Ground.data }], guard := none }) (v := ?_) false [] rfl (by decide) (by kernel_rfl) (by kernel_rfl) (by kernel_rfl) (by kernel_rfl) (fun _ _ _ h => h) (Or.inl ⟨by rfl, ?_⟩) ?_
      rotate_left
      · rintro w ⟨hS0, hS1⟩
        clear hS1
        (try dsimp only at hS0)
        go_simp
        (try with_reducible rfl)
      try simp only [Act.put, List.setIfInBounds_toArray, List.set_cons_zero, List.set_cons_succ]
      refine Held.take (i := 17) (oi := { dst := some 47, op := Op.move (Operand.tmp 46), type := 4, pos := "outright.go:84", after := #[{ on := 16, ground := Ground.data }, { on := 13, ground := Ground.chain }], guard := none }) (v := ?_) false [] rfl (by decide) (by kernel_rfl) (by kernel_rfl) (by kernel_rfl) (by kernel_rfl) (fun _ _ _ h => h) (Or.inl ⟨by rfl, ?_⟩) ?_
      rotate_left
      · rintro w ⟨hS0, hS1⟩
        clear hS1
        (try dsimp only at hS0)
        go_simp
        (try with_reducible rfl)
      try simp only [Act.put, List.setIfInBounds_toArray, List.set_cons_zero, List.set_cons_succ]
      refine Held.step (i := 18) (o := { dst := some 48, op := Op.call { callee := Callee.value (Operand.func 12), args := #[], argTypes := #[] }, type := 4, pos := "outright.go:84", after := #[{ on := 17, ground := Ground.chain }, { on := 17, ground := Ground.guard }], guard := some (17, true) }) rfl (by kernel_rfl) (fun K hK => ?_)
      go_simp
      go_at_call 12
      refine (awake_any _).mono ?_
      rintro e w13 ⟨rfl, b13⟩
      have BB := Lib.hid (BB.out.trans (b13.mono BB.out.size))
      clear b13
      refine hK.out _ _ ⟨KP.out _ BB.out, fun _ => trivial⟩ ?_
      clear hK K
      try simp only [Act.put, List.setIfInBounds_toArray, List.set_cons_zero, List.set_cons_succ]
      refine Held.take (i := 19) (oi := { dst := some 49, op := Op.pick (Operand.tmp 47) (Operand.tmp 48) (Operand.const (Value.bool false)), type := 4, pos := "outright.go:84", after := #[{ on := 17, ground := Ground.data }, { on := 18, ground := Ground.data }], guard := none }) (v := ?_) false [] rfl (by decide) (by kernel_rfl) (by kernel_rfl) (by kernel_rfl) (by kernel_rfl) (fun _ _ _ h => h) (Or.inl ⟨by rfl, ?_⟩) ?_
      rotate_left
      · rintro w ⟨hS0, hS1⟩
        clear hS1
        (try dsimp only at hS0)
        go_simp
        (try with_reducible rfl)
      try simp only [Act.put, List.setIfInBounds_toArray, List.set_cons_zero, List.set_cons_succ]
      refine Held.take (i := 20) (oi := { dst := some 4, op := Op.assign (Operand.tmp 49), type := 4, pos := "outright.go:84", after := #[{ on := 19, ground := Ground.data }, { on := 18, ground := Ground.chain }, { on := 0, ground := Ground.phase }, { on := 1, ground := Ground.phase }, { on := 2, ground := Ground.phase }, { on := 3, ground := Ground.phase }, { on := 4, ground := Ground.phase }, { on := 5, ground := Ground.phase }, { on := 6, ground := Ground.phase }, { on := 7, ground := Ground.phase }, { on := 8, ground := Ground.phase }, { on := 9, ground := Ground.phase }, { on := 10, ground := Ground.phase }, { on := 11, ground := Ground.phase }, { on := 12, ground := Ground.phase }, { on := 13, ground := Ground.phase }, { on := 14, ground := Ground.phase }, { on := 15, ground := Ground.phase }, { on := 16, ground := Ground.phase }, { on := 17, ground := Ground.phase }, { on := 18, ground := Ground.phase }, { on := 19, ground := Ground.phase }], guard := none }) (v := ?_) false [] rfl (by decide) (by kernel_rfl) (by kernel_rfl) (by kernel_rfl) (by kernel_rfl) (fun _ _ _ h => h) (Or.inl ⟨by rfl, ?_⟩) ?_
      rotate_left
      · rintro w ⟨hS0, hS1⟩
        clear hS1
        (try dsimp only at hS0)
        go_simp
        (try with_reducible rfl)
      try simp only [Act.put, List.setIfInBounds_toArray, List.set_cons_zero, List.set_cons_succ]
      refine Held.done (by kernel_rfl) ?_ _
      go_wp2_with fail
      go_ret
      exact ⟨rfl, K7.out.1.trans (BB.out.mono K7.out.1.size)⟩
    · have hg0 : decide ((0 : Int) < (l.length : Int)) = true := decide_eq_true (by omega)
      have hg1 : decide (0 < l.length) = true := decide_eq_true (by omega)
      go_wp2_with fail
      go_ret
      exact ⟨rfl, K4.out.1⟩
  · have hdd : decide ((100 : Int) < (depthN 101 n : Int)) = true := decide_eq_true (by omega)
    go_wp2_with fail
    refine (DP.out _ K2.out.1).mono ?_
    rintro e W3 ⟨rfl, b3⟩
    have K3 := Lib.hid (K2.out.next b3)
    clear b3 K2 x0 x1 x2 x3 x4 DP
    obtain ⟨x0, x1, x2, x3, x4⟩ := K3.out.cells
    go_wp2_with fail
    go_ret
    exact ⟨rfl, K3.out.1⟩

end Go.Proofs.Ytkmhijkpbmcgbaa
