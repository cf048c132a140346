/-
  The law TreeSwaps: its walk.
-/
import Derived.Test.YtkmhijkpbmcgbaaLaw
import Derived.Test.YtkmhijkpbmcgbaaSize
import Derived.Test.YtkmhijkpbmcgbaaRefSame
import Derived.Test.YtkmhijkpbmcgbaaRefSwap
import Derived.Test.YtkmhijkpbmcgbaaHeld
namespace Go.Proofs.Ytkmhijkpbmcgbaa
set_option linter.all false
open Go.RowKit Go.Shelf

theorem depth_sw (at_ : Nd → Option Nd) (D : Nat) (hD : ∀ n b, at_ n = some b → ∀ f, depthN f b ≤ D) : ∀ (f left : Nat) (n : Nd), depthN f (swN at_ left n) ≤ depthN f n + D
  | 0, left, n => by simp [depthN]
  | f + 1, 0, n => by simp [swN]
  | f + 1, left + 1, n => by
    simp only [swN]
    cases h : at_ n with
    | some b => have := hD n b h (f + 1); simp only; omega
    | none =>
      simp only
      rw [show depthN (f + 1) (Nd.mk n.kind n.text (n.kids.map (swN at_ left)) n.place) = (((n.kids.map (swN at_ left)).map (depthN f)).foldl max 0) + 1 from rfl]
      have h2 := (foldl_max_le ((n.kids.map (swN at_ left)).map (depthN f)) 0 (depthN (f + 1) n + D - 1)).2 ⟨Nat.zero_le _, fun x hx => by
        simp only [List.map_map, List.mem_map, Function.comp] at hx
        obtain ⟨k, hk, rfl⟩ := hx
        have h3 := depth_sw at_ D hD f left k
        have h4 := depth_kid (f := f) hk
        omega⟩
      have h1 : 1 ≤ depthN (f + 1) n := by simp only [depthN]; omega
      omega
theorem sum_le_of {α : Type} (g h : α → Nat) (l : List α) (hgh : ∀ k ∈ l, g k ≤ h k) : (l.map g).sum ≤ (l.map h).sum := by
  induction l with
  | nil => simp
  | cons x l ih =>
    simp only [List.map_cons, List.sum_cons]
    have h1 := hgh x (by simp)
    have h2 := ih (fun k hk => hgh k (by simp [hk]))
    omega
theorem max_le_sum (g : Nd → Nat) (l : List Nd) : (l.map g).foldl max 0 ≤ (l.map g).sum :=
  (foldl_max_le _ _ _).2 ⟨Nat.zero_le _, fun x hx => by
    obtain ⟨k, hk, rfl⟩ := List.mem_map.1 hx
    exact le_sum_map g l k hk⟩
theorem depth_le_size : ∀ (f : Nat) (n : Nd), depthN f n ≤ sizeN f n
  | 0, n => Nat.le_refl _
  | f + 1, n => by
    simp only [depthN, sizeN]
    have h1 := max_le_sum (depthN f) n.kids
    have h2 := sum_le_of (depthN f) (sizeN f) n.kids (fun k _ => depth_le_size f k)
    omega
/-- Beyond what is there nothing is deeper. -/
theorem depth_all (n : Nd) (f : Nat) (h : depthN f n < f) : ∀ g, depthN g n ≤ depthN f n := by
  have up : ∀ d, depthN (f + d) n = depthN f n := by
    intro d
    induction d with
    | zero => rfl
    | succ d ih => rw [show f + (d + 1) = (f + d) + 1 from rfl, depth_same (f + d) n (by omega), ih]
  intro g
  rcases Nat.le_total f g with hg | hg
  · obtain ⟨d, rfl⟩ := Nat.exists_eq_add_of_le hg
    rw [up d]
    exact Nat.le_refl _
  · obtain ⟨d, rfl⟩ := Nat.exists_eq_add_of_le hg
    have : ∀ e, depthN g n ≤ depthN (g + e) n := by
      intro e
      induction e with
      | zero => exact Nat.le_refl _
      | succ e ih => exact Nat.le_trans ih (depth_mono (g + e) n)
    exact this d
theorem small_of {n : Nd} (hz : ∀ m, sizeN m n ≤ 1048576) {k : Int} (h : decide (wrap64 (sizeN 1000 n) ≤ k) = true) (hk : k ≤ 999) : (sizeN 1000 n : Int) ≤ k ∧ ∀ g, depthN g n ≤ sizeN 1000 n := by
  have h1 := hz 1000
  rw [wrap64_small (by omega) (by omega)] at h
  have h2 : (sizeN 1000 n : Int) ≤ k := of_decide_eq_true h
  refine ⟨h2, fun g => ?_⟩
  have h3 := depth_le_size 1000 n
  exact Nat.le_trans (depth_all n 1000 (by omega) g) h3

/-- Two nodes in their boxes. -/
def Box2 (w : World) (a b : Nd) (A1 A2 : Option Addr) (c1 c2 : Nat) (B1 B2 : Nat) (W : World) : Prop :=
  Below w.heap.size w W ∧ Whole W B1 24 (cellsOf a A1 c1) ∧ Whole W B2 24 (cellsOf b A2 c2)
section
variable {w W W' : World} {a b : Nd} {A1 A2 : Option Addr} {c1 c2 B1 B2 : Nat}
theorem Box2.next (h : Box2 w a b A1 A2 c1 c2 B1 B2 W) (hb : Below W.heap.size W W') : Box2 w a b A1 A2 c1 c2 B1 B2 W' :=
  ⟨h.1.trans (hb.mono h.1.size), h.2.1.below hb h.2.1.lt, h.2.2.below hb h.2.2.lt⟩
theorem Box2.cells (h : Box2 w a b A1 A2 c1 c2 B1 B2 W) :
    W.cell? ⟨B1, 0, none⟩ = some (.int .i64 a.kind) ∧ W.cell? ⟨B1, 1, none⟩ = some (.string a.text) ∧ W.cell? ⟨B1, 2, none⟩ = some (.slice A1 a.kids.length c1) ∧ W.cell? ⟨B1, 3, none⟩ = some (.int .i64 a.place) ∧
    W.cell? ⟨B2, 0, none⟩ = some (.int .i64 b.kind) ∧ W.cell? ⟨B2, 1, none⟩ = some (.string b.text) ∧ W.cell? ⟨B2, 2, none⟩ = some (.slice A2 b.kids.length c2) ∧ W.cell? ⟨B2, 3, none⟩ = some (.int .i64 b.place) ∧ B1 < W.heap.size ∧ B2 < W.heap.size :=
  ⟨h.2.1.cell 0, h.2.1.cell 1, h.2.1.cell 2, h.2.1.cell 3, h.2.2.cell 0, h.2.2.cell 1, h.2.2.cell 2, h.2.2.cell 3, h.2.1.lt, h.2.2.lt⟩
end


/-- The cells of what comes in. -/
abbrev swCells (n b : Nd) (A Ab : Option Addr) (c cb : Nat) (kind : Int) (text : ByteArray) : Array Value :=
  #[.int .i64 n.kind, .string n.text, .slice A n.kids.length c, .int .i64 n.place, .int .i64 b.kind, .string b.text, .slice Ab b.kids.length cb, .int .i64 b.place, .int .i64 kind, .string text]

set_option maxRecDepth 100000 in
set_option maxHeartbeats 2000000 in
theorem lawSwaps_walk (f fb : Nat) (n b : Nd) (A Ab : Option Addr) (c cb : Nat) (kind : Int) (text : ByteArray) (w : World) (hv : NdV w f (n.val A c) n) (hvb : NdV w fb (b.val Ab cb) b) (hz : ∀ m, sizeN m n ≤ 1048576) (hzb : ∀ m, sizeN m b ≤ 1048576) :
    Calls Try.prog 5 #[.agg (swCells n b A Ab c cb kind text)] w fun e w' => e = .returned (.bool true) ∧ Below w.heap.size w w' := by
  have M1 := Lib.hid fun W (h : Below w.heap.size w W) => small_any f _ n W 500 (hv.below h)
  have M2 := Lib.hid fun W (h : Below w.heap.size w W) => small_any fb _ b W 500 (hvb.below h)
  have SW := Lib.hid fun W (h : Below w.heap.size w W) => swap_any (fun x => x < w.heap.size) f fb _ _ n b kind text W (fun x hx => Nat.lt_of_lt_of_le hx h.size) (hz 101) (hzb 101) (hv.ndp.below h) (hvb.ndp.below h)
  have RS := Lib.hid fun W (h : Below w.heap.size w W) => rsw_c fb kind text (b.val Ab cb) b 100 (Nat.le_refl _) (fun x => x < w.heap.size) f _ n W (fun x hx => Nat.lt_of_lt_of_le hx h.size) (hz 101) (hv.ndp.below h) (hvb.ndp.below h)
  have TS := Lib.hid fun W (h : Below w.heap.size w W) => same_any f fb _ _ n b W (hv.below h) (hvb.below h)
  have RT := Lib.hid fun W (h : Below w.heap.size w W) => refsame_any 100 (by omega) f fb _ _ n b W (hv.below h) (hvb.below h)
  have CP := Lib.hid fun W (h : Below w.heap.size w W) => copy_any (fun x => x < w.heap.size) f _ n W (hz 101) (hv.ndp.below h)
  have RN := Lib.hid fun W (h : Below w.heap.size w W) g v1 (h1 : NdV W g v1 n) => refsame_any 1000 (by omega) g f v1 _ n n W h1 (hv.below h)
  have hsm1 := Lib.hid fun h => small_of hz (k := 500) h (by omega)
  have hsm2 := Lib.hid fun h => small_of hzb (k := 500) h (by omega)
  clear hv hvb hz hzb
  unfold Nd.val at M1 M2 SW RS TS RT CP RN
  obtain ⟨w1, hw1⟩ : ∃ w1, w1 = w.alloc (.cells (swCells n b A Ab c cb kind text) 32) := ⟨_, rfl⟩
  have g1 : Whole w1 w.heap.size 32 (swCells n b A Ab c cb kind text) := by rw [hw1]; exact Whole.new w 32 _
  have hb1 : Below w.heap.size w w1 := by rw [hw1]; exact (Below.refl _ w).alloc (Nat.le_refl _) _
  have hs1 : w1.heap.size = w.heap.size + 1 := by rw [hw1]; simp
  have kp : ∀ w', Below (w.heap.size + 1) w1 w' → w'.cell? ⟨w.heap.size, 0, none⟩ = some (.int .i64 n.kind) ∧ w'.cell? ⟨w.heap.size, 1, none⟩ = some (.string n.text) ∧ w'.cell? ⟨w.heap.size, 2, none⟩ = some (.slice A n.kids.length c) ∧ w'.cell? ⟨w.heap.size, 3, none⟩ = some (.int .i64 n.place) ∧ w'.cell? ⟨w.heap.size, 4, none⟩ = some (.int .i64 b.kind) ∧ w'.cell? ⟨w.heap.size, 5, none⟩ = some (.string b.text) ∧ w'.cell? ⟨w.heap.size, 6, none⟩ = some (.slice Ab b.kids.length cb) ∧ w'.cell? ⟨w.heap.size, 7, none⟩ = some (.int .i64 b.place) ∧ w'.cell? ⟨w.heap.size, 8, none⟩ = some (.int .i64 kind) ∧ w'.cell? ⟨w.heap.size, 9, none⟩ = some (.string text) := fun w' hW =>
    have g2 := g1.below hW (Nat.lt_succ_self _)
    ⟨g2.cell 0, g2.cell 1, g2.cell 2, g2.cell 3, g2.cell 4, g2.cell 5, g2.cell 6, g2.cell 7, g2.cell 8, g2.cell 9⟩
  have KP := Lib.hid kp
  have HB1 := Lib.hid hb1
  have HS1 := Lib.hid hs1
  have q0 : w.heap.size < w1.heap.size := by omega
  clear kp hb1 g1 hs1
  go_enter Try.func5, Try.ntmps5
  go_wp2_with fail
  unfold swCells at hw1
  first | rw [← hw1] | (unfold swCells; rw [← hw1])
  clear hw1
  refine Held.begin_ (fun w' => w'.cell? ⟨w.heap.size, 0, none⟩ = some (.int .i64 n.kind) ∧ w'.cell? ⟨w.heap.size, 1, none⟩ = some (.string n.text) ∧ w'.cell? ⟨w.heap.size, 2, none⟩ = some (.slice A n.kids.length c) ∧ w'.cell? ⟨w.heap.size, 3, none⟩ = some (.int .i64 n.place) ∧ w'.cell? ⟨w.heap.size, 4, none⟩ = some (.int .i64 b.kind) ∧ w'.cell? ⟨w.heap.size, 5, none⟩ = some (.string b.text) ∧ w'.cell? ⟨w.heap.size, 6, none⟩ = some (.slice Ab b.kids.length cb) ∧ w'.cell? ⟨w.heap.size, 7, none⟩ = some (.int .i64 b.place) ∧ w'.cell? ⟨w.heap.size, 8, none⟩ = some (.int .i64 kind) ∧ w'.cell? ⟨w.heap.size, 9, none⟩ = some (.string text)) (fun _ => True) 99 (by kernel_rfl) (KP.out _ (by rw [HS1.out.symm]; exact (Below.refl _ w1).drew)) (trivial) ?_
  refine Held.take (i := 0) (oi := { dst := some 9, op := Op.fieldAddr 32 (Operand.tmp 1) 0, type := 0, pos := "law.go:77", after := #[], guard := none }) (v := ?_) false [] rfl (by decide) (by kernel_rfl) (by kernel_rfl) (by kernel_rfl) (by kernel_rfl) (fun _ _ _ h => h) (Or.inl ⟨by rfl, ?_⟩) ?_
  rotate_left
  · rintro w ⟨hS0, hS1⟩
    clear hS1
    (try dsimp only at hS0)
    go_simp
    (try with_reducible rfl)
  try simp only [Act.put, List.setIfInBounds_toArray, List.set_cons_zero, List.set_cons_succ]
  refine Held.take (i := 1) (oi := { dst := some 10, op := Op.load 24 (Operand.tmp 9), type := 24, pos := "law.go:77", after := #[{ on := 0, ground := Ground.data }], guard := none }) (v := ?_) false [] rfl (by decide) (by kernel_rfl) (by kernel_rfl) (by kernel_rfl) (by kernel_rfl) (fun _ _ _ h => h) (Or.inl ⟨by rfl, ?_⟩) ?_
  rotate_left
  · rintro w ⟨hS0, hS1⟩
    clear hS1
    (try dsimp only at hS0)
    go_simp
    (try with_reducible rfl)
  try simp only [Act.put, List.setIfInBounds_toArray, List.set_cons_zero, List.set_cons_succ]
  refine Held.take (i := 2) (oi := { dst := some 11, op := Op.fieldAddr 32 (Operand.tmp 1) 1, type := 0, pos := "law.go:77", after := #[{ on := 10, ground := Ground.gcOnly Departure.lateStores }], guard := none }) (v := ?_) false [] rfl (by decide) (by kernel_rfl) (by kernel_rfl) (by kernel_rfl) (by kernel_rfl) (fun _ _ _ h => h) (Or.inl ⟨by rfl, ?_⟩) ?_
  rotate_left
  · rintro w ⟨hS0, hS1⟩
    clear hS1
    (try dsimp only at hS0)
    go_simp
    (try with_reducible rfl)
  try simp only [Act.put, List.setIfInBounds_toArray, List.set_cons_zero, List.set_cons_succ]
  refine Held.take (i := 3) (oi := { dst := some 12, op := Op.load 24 (Operand.tmp 11), type := 24, pos := "law.go:77", after := #[{ on := 2, ground := Ground.data }, { on := 10, ground := Ground.gcOnly Departure.lateStores }], guard := none }) (v := ?_) false [] rfl (by decide) (by kernel_rfl) (by kernel_rfl) (by kernel_rfl) (by kernel_rfl) (fun _ _ _ h => h) (Or.inl ⟨by rfl, ?_⟩) ?_
  rotate_left
  · rintro w ⟨hS0, hS1⟩
    clear hS1
    (try dsimp only at hS0)
    go_simp
    (try with_reducible rfl)
  try simp only [Act.put, List.setIfInBounds_toArray, List.set_cons_zero, List.set_cons_succ]
  refine Held.take (i := 4) (oi := { dst := some 13, op := Op.fieldAddr 32 (Operand.tmp 1) 2, type := 0, pos := "law.go:77", after := #[{ on := 11, ground := Ground.gcOnly Departure.lateStores }], guard := none }) (v := ?_) false [] rfl (by decide) (by kernel_rfl) (by kernel_rfl) (by kernel_rfl) (by kernel_rfl) (fun _ _ _ h => h) (Or.inl ⟨by rfl, ?_⟩) ?_
  rotate_left
  · rintro w ⟨hS0, hS1⟩
    clear hS1
    (try dsimp only at hS0)
    go_simp
    (try with_reducible rfl)
  try simp only [Act.put, List.setIfInBounds_toArray, List.set_cons_zero, List.set_cons_succ]
  refine Held.take (i := 5) (oi := { dst := some 14, op := Op.load 3 (Operand.tmp 13), type := 3, pos := "law.go:77", after := #[{ on := 4, ground := Ground.data }, { on := 11, ground := Ground.gcOnly Departure.lateStores }], guard := none }) (v := ?_) false [] rfl (by decide) (by kernel_rfl) (by kernel_rfl) (by kernel_rfl) (by kernel_rfl) (fun _ _ _ h => h) (Or.inl ⟨by rfl, ?_⟩) ?_
  rotate_left
  · rintro w ⟨hS0, hS1⟩
    clear hS1
    (try dsimp only at hS0)
    go_simp
    (try with_reducible rfl)
  try simp only [Act.put, List.setIfInBounds_toArray, List.set_cons_zero, List.set_cons_succ]
  refine Held.take (i := 6) (oi := { dst := some 15, op := Op.fieldAddr 32 (Operand.tmp 1) 3, type := 0, pos := "law.go:77", after := #[{ on := 12, ground := Ground.gcOnly Departure.lateStores }], guard := none }) (v := ?_) false [] rfl (by decide) (by kernel_rfl) (by kernel_rfl) (by kernel_rfl) (by kernel_rfl) (fun _ _ _ h => h) (Or.inl ⟨by rfl, ?_⟩) ?_
  rotate_left
  · rintro w ⟨hS0, hS1⟩
    clear hS1
    (try dsimp only at hS0)
    go_simp
    (try with_reducible rfl)
  try simp only [Act.put, List.setIfInBounds_toArray, List.set_cons_zero, List.set_cons_succ]
  refine Held.take (i := 7) (oi := { dst := some 16, op := Op.load 9 (Operand.tmp 15), type := 9, pos := "law.go:77", after := #[{ on := 6, ground := Ground.data }, { on := 12, ground := Ground.gcOnly Departure.lateStores }], guard := none }) (v := ?_) false [] rfl (by decide) (by kernel_rfl) (by kernel_rfl) (by kernel_rfl) (by kernel_rfl) (fun _ _ _ h => h) (Or.inl ⟨by rfl, ?_⟩) ?_
  rotate_left
  · rintro w ⟨hS0, hS1⟩
    clear hS1
    (try dsimp only at hS0)
    go_simp
    (try with_reducible rfl)
  try simp only [Act.put, List.setIfInBounds_toArray, List.set_cons_zero, List.set_cons_succ]
  refine Held.step2 (i := 8) (j := 9) (o := { dst := some 3, op := Op.alloc 24, type := 0, pos := "law.go:77", after := #[], guard := none }) (o' := { dst := some 4, op := Op.alloc 24, type := 0, pos := "law.go:77", after := #[], guard := none }) rfl rfl (by kernel_rfl) (fun K hK => ?_) (fun K hK => ?_)
  go_simp
  refine hK.out _ _ ⟨KP.out _ (by rw [HS1.out.symm]; exact ((Below.refl _ w1).drew).alloc (Nat.le_refl _) _), fun _ => trivial⟩ ?_
  clear hK K
  try simp only [Act.put, List.setIfInBounds_toArray, List.set_cons_zero, List.set_cons_succ]
  refine Held.step (i := 9) (o := { dst := some 4, op := Op.alloc 24, type := 0, pos := "law.go:77", after := #[], guard := none }) rfl (by kernel_rfl) (fun K hK => ?_)
  go_simp
  refine hK.out _ _ ⟨KP.out _ (by rw [HS1.out.symm]; exact (((Below.refl _ w1).drew).alloc (Nat.le_refl _) _).alloc (by simp) _), fun _ => trivial⟩ ?_
  clear hK K
  try simp only [Act.put, List.setIfInBounds_toArray, List.set_cons_zero, List.set_cons_succ]
  refine Held.step (i := 10) (o := { dst := none, op := Op.store 24 (Operand.tmp 3) (Operand.tmp 10), type := 0, pos := "law.go:77", after := #[{ on := 8, ground := Ground.data }, { on := 1, ground := Ground.data }, { on := 0, ground := Ground.phase }, { on := 1, ground := Ground.phase }, { on := 2, ground := Ground.textOnly Departure.lateStores }, { on := 3, ground := Ground.textOnly Departure.lateStores }, { on := 4, ground := Ground.textOnly Departure.lateStores }, { on := 5, ground := Ground.textOnly Departure.lateStores }, { on := 6, ground := Ground.textOnly Departure.lateStores }, { on := 7, ground := Ground.textOnly Departure.lateStores }, { on := 8, ground := Ground.phase }, { on := 9, ground := Ground.phase }], guard := none }) rfl (by kernel_rfl) (fun K hK => ?_)
  go_simp
  refine hK.out _ _ ⟨KP.out _ (by rw [HS1.out.symm]; exact (((Below.refl _ w1).drew).alloc (Nat.le_refl _) _).alloc (by simp) _), fun _ => trivial⟩ ?_
  clear hK K
  try simp only [Act.put, List.setIfInBounds_toArray, List.set_cons_zero, List.set_cons_succ]
  refine Held.step (i := 11) (o := { dst := none, op := Op.store 24 (Operand.tmp 4) (Operand.tmp 12), type := 0, pos := "law.go:77", after := #[{ on := 9, ground := Ground.data }, { on := 3, ground := Ground.data }, { on := 10, ground := Ground.chain }, { on := 0, ground := Ground.phase }, { on := 1, ground := Ground.phase }, { on := 2, ground := Ground.phase }, { on := 3, ground := Ground.phase }, { on := 4, ground := Ground.textOnly Departure.lateStores }, { on := 5, ground := Ground.textOnly Departure.lateStores }, { on := 6, ground := Ground.textOnly Departure.lateStores }, { on := 7, ground := Ground.textOnly Departure.lateStores }, { on := 8, ground := Ground.phase }, { on := 9, ground := Ground.phase }, { on := 10, ground := Ground.phase }], guard := none }) rfl (by kernel_rfl) (fun K hK => ?_)
  go_simp
  refine hK.out _ _ ⟨KP.out _ (by rw [HS1.out.symm]; exact (((Below.refl _ w1).drew).alloc (Nat.le_refl _) _).alloc (by simp) _), fun _ => trivial⟩ ?_
  clear hK K
  try simp only [Act.put, List.setIfInBounds_toArray, List.set_cons_zero, List.set_cons_succ]
  refine Held.take (i := 12) (oi := { dst := some 5, op := Op.assign (Operand.tmp 14), type := 3, pos := "law.go:77", after := #[{ on := 5, ground := Ground.data }, { on := 11, ground := Ground.chain }, { on := 0, ground := Ground.phase }, { on := 1, ground := Ground.phase }, { on := 2, ground := Ground.phase }, { on := 3, ground := Ground.phase }, { on := 4, ground := Ground.phase }, { on := 5, ground := Ground.phase }, { on := 6, ground := Ground.textOnly Departure.lateStores }, { on := 7, ground := Ground.textOnly Departure.lateStores }, { on := 8, ground := Ground.phase }, { on := 9, ground := Ground.phase }, { on := 10, ground := Ground.phase }, { on := 11, ground := Ground.phase }], guard := none }) (v := ?_) false [] rfl (by decide) (by kernel_rfl) (by kernel_rfl) (by kernel_rfl) (by kernel_rfl) (fun _ _ _ h => h) (Or.inl ⟨by rfl, ?_⟩) ?_
  rotate_left
  · rintro w ⟨hS0, hS1⟩
    clear hS1
    (try dsimp only at hS0)
    go_simp
    (try with_reducible rfl)
  try simp only [Act.put, List.setIfInBounds_toArray, List.set_cons_zero, List.set_cons_succ]
  refine Held.take (i := 13) (oi := { dst := some 6, op := Op.assign (Operand.tmp 16), type := 9, pos := "law.go:77", after := #[{ on := 7, ground := Ground.data }, { on := 12, ground := Ground.chain }, { on := 0, ground := Ground.phase }, { on := 1, ground := Ground.phase }, { on := 2, ground := Ground.phase }, { on := 3, ground := Ground.phase }, { on := 4, ground := Ground.phase }, { on := 5, ground := Ground.phase }, { on := 6, ground := Ground.phase }, { on := 7, ground := Ground.phase }, { on := 8, ground := Ground.phase }, { on := 9, ground := Ground.phase }, { on := 10, ground := Ground.phase }, { on := 11, ground := Ground.phase }, { on := 12, ground := Ground.phase }], guard := none }) (v := ?_) false [] rfl (by decide) (by kernel_rfl) (by kernel_rfl) (by kernel_rfl) (by kernel_rfl) (fun _ _ _ h => h) (Or.inl ⟨by rfl, ?_⟩) ?_
  rotate_left
  · rintro w ⟨hS0, hS1⟩
    clear hS1
    (try dsimp only at hS0)
    go_simp
    (try with_reducible rfl)
  try simp only [Act.put, List.setIfInBounds_toArray, List.set_cons_zero, List.set_cons_succ]
  refine Held.done (by kernel_rfl) ?_ _
  have k2 : Box2 w n b A Ab c cb w1.heap.size (w1.heap.size + 1) ((w1.alloc (.cells #[.int .i64 n.kind, .string n.text, .slice A n.kids.length c, .int .i64 n.place] 24)).alloc (.cells #[.int .i64 b.kind, .string b.text, .slice Ab b.kids.length cb, .int .i64 b.place] 24)).drew := by
    have e1 : Whole ((w1.alloc (.cells #[.int .i64 n.kind, .string n.text, .slice A n.kids.length c, .int .i64 n.place] 24)).alloc (.cells #[.int .i64 b.kind, .string b.text, .slice Ab b.kids.length cb, .int .i64 b.place] 24)) w1.heap.size 24 (cellsOf n A c) := (Whole.new w1 24 (cellsOf n A c)).alloc _
    have e2 : Whole ((w1.alloc (.cells #[.int .i64 n.kind, .string n.text, .slice A n.kids.length c, .int .i64 n.place] 24)).alloc (.cells #[.int .i64 b.kind, .string b.text, .slice Ab b.kids.length cb, .int .i64 b.place] 24)) (w1.heap.size + 1) 24 (cellsOf b Ab cb) := by
      have := Whole.new (w1.alloc (.cells #[.int .i64 n.kind, .string n.text, .slice A n.kids.length c, .int .i64 n.place] 24)) 24 (cellsOf b Ab cb)
      simpa using this
    have e0 : Below w.heap.size w ((w1.alloc (.cells #[.int .i64 n.kind, .string n.text, .slice A n.kids.length c, .int .i64 n.place] 24)).alloc (.cells #[.int .i64 b.kind, .string b.text, .slice Ab b.kids.length cb, .int .i64 b.place] 24)).drew := HB1.out.trans ((((Below.refl _ w1).alloc (Nat.le_refl _) _).alloc (by simp) _).drew.mono HB1.out.size)
    exact ⟨e0, e1.drew, e2.drew⟩
  revert k2
  generalize ((w1.alloc (.cells #[.int .i64 n.kind, .string n.text, .slice A n.kids.length c, .int .i64 n.place] 24)).alloc (.cells #[.int .i64 b.kind, .string b.text, .slice Ab b.kids.length cb, .int .i64 b.place] 24)).drew = W2
  generalize w1.heap.size + 1 = Bb
  generalize w1.heap.size = Bn
  intro k2
  clear KP HB1 HS1 q0
  rotate_left
  go_simp
  refine hK.out _ _ ⟨KP.out _ (by rw [HS1.out.symm]; exact ((Below.refl _ w1).drew).alloc (Nat.le_refl _) _), fun _ => trivial⟩ ?_
  clear hK K
  try simp only [Act.put, List.setIfInBounds_toArray, List.set_cons_zero, List.set_cons_succ]
  refine Held.step (i := 8) (o := { dst := some 3, op := Op.alloc 24, type := 0, pos := "law.go:77", after := #[], guard := none }) rfl (by kernel_rfl) (fun K hK => ?_)
  go_simp
  refine hK.out _ _ ⟨KP.out _ (by rw [HS1.out.symm]; exact (((Below.refl _ w1).drew).alloc (Nat.le_refl _) _).alloc (by simp) _), fun _ => trivial⟩ ?_
  clear hK K
  try simp only [Act.put, List.setIfInBounds_toArray, List.set_cons_zero, List.set_cons_succ]
  refine Held.step (i := 10) (o := { dst := none, op := Op.store 24 (Operand.tmp 3) (Operand.tmp 10), type := 0, pos := "law.go:77", after := #[{ on := 8, ground := Ground.data }, { on := 1, ground := Ground.data }, { on := 0, ground := Ground.phase }, { on := 1, ground := Ground.phase }, { on := 2, ground := Ground.textOnly Departure.lateStores }, { on := 3, ground := Ground.textOnly Departure.lateStores }, { on := 4, ground := Ground.textOnly Departure.lateStores }, { on := 5, ground := Ground.textOnly Departure.lateStores }, { on := 6, ground := Ground.textOnly Departure.lateStores }, { on := 7, ground := Ground.textOnly Departure.lateStores }, { on := 8, ground := Ground.phase }, { on := 9, ground := Ground.phase }], guard := none }) rfl (by kernel_rfl) (fun K hK => ?_)
  go_simp
  refine hK.out _ _ ⟨KP.out _ (by rw [HS1.out.symm]; exact (((Below.refl _ w1).drew).alloc (Nat.le_refl _) _).alloc (by simp) _), fun _ => trivial⟩ ?_
  clear hK K
  try simp only [Act.put, List.setIfInBounds_toArray, List.set_cons_zero, List.set_cons_succ]
  refine Held.step (i := 11) (o := { dst := none, op := Op.store 24 (Operand.tmp 4) (Operand.tmp 12), type := 0, pos := "law.go:77", after := #[{ on := 9, ground := Ground.data }, { on := 3, ground := Ground.data }, { on := 10, ground := Ground.chain }, { on := 0, ground := Ground.phase }, { on := 1, ground := Ground.phase }, { on := 2, ground := Ground.phase }, { on := 3, ground := Ground.phase }, { on := 4, ground := Ground.textOnly Departure.lateStores }, { on := 5, ground := Ground.textOnly Departure.lateStores }, { on := 6, ground := Ground.textOnly Departure.lateStores }, { on := 7, ground := Ground.textOnly Departure.lateStores }, { on := 8, ground := Ground.phase }, { on := 9, ground := Ground.phase }, { on := 10, ground := Ground.phase }], guard := none }) rfl (by kernel_rfl) (fun K hK => ?_)
  go_simp
  refine hK.out _ _ ⟨KP.out _ (by rw [HS1.out.symm]; exact (((Below.refl _ w1).drew).alloc (Nat.le_refl _) _).alloc (by simp) _), fun _ => trivial⟩ ?_
  clear hK K
  try simp only [Act.put, List.setIfInBounds_toArray, List.set_cons_zero, List.set_cons_succ]
  refine Held.take (i := 12) (oi := { dst := some 5, op := Op.assign (Operand.tmp 14), type := 3, pos := "law.go:77", after := #[{ on := 5, ground := Ground.data }, { on := 11, ground := Ground.chain }, { on := 0, ground := Ground.phase }, { on := 1, ground := Ground.phase }, { on := 2, ground := Ground.phase }, { on := 3, ground := Ground.phase }, { on := 4, ground := Ground.phase }, { on := 5, ground := Ground.phase }, { on := 6, ground := Ground.textOnly Departure.lateStores }, { on := 7, ground := Ground.textOnly Departure.lateStores }, { on := 8, ground := Ground.phase }, { on := 9, ground := Ground.phase }, { on := 10, ground := Ground.phase }, { on := 11, ground := Ground.phase }], guard := none }) (v := ?_) false [] rfl (by decide) (by kernel_rfl) (by kernel_rfl) (by kernel_rfl) (by kernel_rfl) (fun _ _ _ h => h) (Or.inl ⟨by rfl, ?_⟩) ?_
  rotate_left
  · rintro w ⟨hS0, hS1⟩
    clear hS1
    (try dsimp only at hS0)
    go_simp
    (try with_reducible rfl)
  try simp only [Act.put, List.setIfInBounds_toArray, List.set_cons_zero, List.set_cons_succ]
  refine Held.take (i := 13) (oi := { dst := some 6, op := Op.assign (Operand.tmp 16), type := 9, pos := "law.go:77", after := #[{ on := 7, ground := Ground.data }, { on := 12, ground := Ground.chain }, { on := 0, ground := Ground.phase }, { on := 1, ground := Ground.phase }, { on := 2, ground := Ground.phase }, { on := 3, ground := Ground.phase }, { on := 4, ground := Ground.phase }, { on := 5, ground := Ground.phase }, { on := 6, ground := Ground.phase }, { on := 7, ground := Ground.phase }, { on := 8, ground := Ground.phase }, { on := 9, ground := Ground.phase }, { on := 10, ground := Ground.phase }, { on := 11, ground := Ground.phase }, { on := 12, ground := Ground.phase }], guard := none }) (v := ?_) false [] rfl (by decide) (by kernel_rfl) (by kernel_rfl) (by kernel_rfl) (by kernel_rfl) (fun _ _ _ h => h) (Or.inl ⟨by rfl, ?_⟩) ?_
  rotate_left
  · rintro w ⟨hS0, hS1⟩
    clear hS1
    (try dsimp only at hS0)
    go_simp
    (try with_reducible rfl)
  try simp only [Act.put, List.setIfInBounds_toArray, List.set_cons_zero, List.set_cons_succ]
  refine Held.done (by kernel_rfl) ?_ _
  have k2 : Box2 w n b A Ab c cb (w1.heap.size + 1) w1.heap.size ((w1.alloc (.cells #[.int .i64 b.kind, .string b.text, .slice Ab b.kids.length cb, .int .i64 b.place] 24)).alloc (.cells #[.int .i64 n.kind, .string n.text, .slice A n.kids.length c, .int .i64 n.place] 24)).drew := by
    have e1 : Whole ((w1.alloc (.cells #[.int .i64 b.kind, .string b.text, .slice Ab b.kids.length cb, .int .i64 b.place] 24)).alloc (.cells #[.int .i64 n.kind, .string n.text, .slice A n.kids.length c, .int .i64 n.place] 24)) w1.heap.size 24 (cellsOf b Ab cb) := (Whole.new w1 24 (cellsOf b Ab cb)).alloc _
    have e2 : Whole ((w1.alloc (.cells #[.int .i64 b.kind, .string b.text, .slice Ab b.kids.length cb, .int .i64 b.place] 24)).alloc (.cells #[.int .i64 n.kind, .string n.text, .slice A n.kids.length c, .int .i64 n.place] 24)) (w1.heap.size + 1) 24 (cellsOf n A c) := by
      have := Whole.new (w1.alloc (.cells #[.int .i64 b.kind, .string b.text, .slice Ab b.kids.length cb, .int .i64 b.place] 24)) 24 (cellsOf n A c)
      simpa using this
    have e0 : Below w.heap.size w ((w1.alloc (.cells #[.int .i64 b.kind, .string b.text, .slice Ab b.kids.length cb, .int .i64 b.place] 24)).alloc (.cells #[.int .i64 n.kind, .string n.text, .slice A n.kids.length c, .int .i64 n.place] 24)).drew := HB1.out.trans ((((Below.refl _ w1).alloc (Nat.le_refl _) _).alloc (by simp) _).drew.mono HB1.out.size)
    exact ⟨e0, e2.drew, e1.drew⟩
  revert k2
  generalize ((w1.alloc (.cells #[.int .i64 b.kind, .string b.text, .slice Ab b.kids.length cb, .int .i64 b.place] 24)).alloc (.cells #[.int .i64 n.kind, .string n.text, .slice A n.kids.length c, .int .i64 n.place] 24)).drew = W2
  generalize w1.heap.size + 1 = Bn
  generalize w1.heap.size = Bb
  intro k2
  clear KP HB1 HS1 q0
  all_goals
    have K2 := Lib.hid k2
    obtain ⟨x0, x1, x2, x3, x4, x5, x6, x7, x8, x9⟩ := k2.cells
    clear k2
    go_wp2_with fail
    refine (M1.out _ K2.out.1).mono ?_
    rintro e W3 ⟨rfl, b3⟩
    have K3 := Lib.hid (K2.out.next b3)
    clear b3 K2 x0 x1 x2 x3 x4 x5 x6 x7 x8 x9 M1
    obtain ⟨x0, x1, x2, x3, x4, x5, x6, x7, x8, x9⟩ := K3.out.cells
    cases h1 : decide (wrap64 (sizeN 1000 n) ≤ 500)
    case false =>
      go_wp2_with fail
      go_ret
      exact ⟨rfl, K3.out.1⟩
    case true =>
    have h1' := Lib.hid h1
    clear h1
    go_wp2_with fail
    refine (M2.out _ K3.out.1).mono ?_
    rintro e W4 ⟨rfl, b4⟩
    have K4 := Lib.hid (K3.out.next b4)
    clear b4 K3 x0 x1 x2 x3 x4 x5 x6 x7 x8 x9 M2
    obtain ⟨x0, x1, x2, x3, x4, x5, x6, x7, x8, x9⟩ := K4.out.cells
    cases h2 : decide (wrap64 (sizeN 1000 b) ≤ 500)
    case false =>
      go_wp2_with fail
      go_ret
      exact ⟨rfl, K4.out.1⟩
    case true =>
    have h2' := Lib.hid h2
    clear h2
    go_wp2_with fail
    refine (SW.out _ K4.out.1).mono ?_
    rintro e W5 ⟨Ax, cx, rfl, nx, b5⟩
    have K5 := Lib.hid (K4.out.next b5)
    have NX := Lib.hid nx.ndv
    clear b5 K4 x0 x1 x2 x3 x4 x5 x6 x7 x8 x9 SW nx
    obtain ⟨x0, x1, x2, x3, x4, x5, x6, x7, x8, x9⟩ := K5.out.cells
    obtain ⟨X, hX⟩ : ∃ X, X = swN (swapAt kind text b) 100 n := ⟨_, rfl⟩
    rw [← hX] at NX RS ⊢
    have HX := Lib.hid hX
    clear hX
    go_wp2_with fail
    have bx : Below W5.heap.size W5 (W5.alloc (.cells #[.int .i64 X.kind, .string X.text, .slice Ax X.kids.length cx, .int .i64 X.place] 24)) := (Below.refl _ W5).alloc (Nat.le_refl _) _
    have wx : Whole (W5.alloc (.cells #[.int .i64 X.kind, .string X.text, .slice Ax X.kids.length cx, .int .i64 X.place] 24)) W5.heap.size 24 #[.int .i64 X.kind, .string X.text, .slice Ax X.kids.length cx, .int .i64 X.place] := Whole.new W5 24 _
    refine (RS.out _ (K5.out.next bx).1).mono ?_
    rintro e W6 ⟨Ay, cy, rfl, ny, b6⟩
    have K6 := Lib.hid ((K5.out.next bx).next b6)
    have NX6 := Lib.hid ((NX.out.below bx).below b6)
    have NY6 := Lib.hid ny.ndv
    have WX6 := Lib.hid (wx.below b6 (by simp))
    clear b6 bx wx ny K5 NX x0 x1 x2 x3 x4 x5 x6 x7 x8 x9 RS
    obtain ⟨x0, x1, x2, x3, x4, x5, x6, x7, x8, x9⟩ := K6.out.cells
    have u0 : W6.cell? ⟨W5.heap.size, 0, none⟩ = some (.int .i64 X.kind) := WX6.out.cell 0
    have u1 : W6.cell? ⟨W5.heap.size, 1, none⟩ = some (.string X.text) := WX6.out.cell 1
    have u2 : W6.cell? ⟨W5.heap.size, 2, none⟩ = some (.slice Ax X.kids.length cx) := WX6.out.cell 2
    have u3 : W6.cell? ⟨W5.heap.size, 3, none⟩ = some (.int .i64 X.place) := WX6.out.cell 3
    have u4 := WX6.out.lt
    go_wp2_with fail
    have by_ : Below W6.heap.size W6 (W6.alloc (.cells #[.int .i64 X.kind, .string X.text, .slice Ay X.kids.length cy, .int .i64 X.place] 24)) := (Below.refl _ W6).alloc (Nat.le_refl _) _
    have wy : Whole (W6.alloc (.cells #[.int .i64 X.kind, .string X.text, .slice Ay X.kids.length cy, .int .i64 X.place] 24)) W6.heap.size 24 #[.int .i64 X.kind, .string X.text, .slice Ay X.kids.length cy, .int .i64 X.place] := Whole.new W6 24 _
    obtain ⟨W7, hW7⟩ : ∃ W7, W7 = (W6.alloc (.cells #[.int .i64 X.kind, .string X.text, .slice Ay X.kids.length cy, .int .i64 X.place] 24)) := ⟨_, rfl⟩
    rw [← hW7]
    rw [← hW7] at by_ wy
    clear hW7
    have k7 := K6.out.next by_
    have NX7 := Lib.hid (NX6.out.below by_)
    have NY7 := Lib.hid (NY6.out.below by_)
    have wx7 := WX6.out.below by_ u4
    clear by_ K6 NX6 NY6 WX6 x0 x1 x2 x3 x4 x5 x6 x7 x8 x9 u0 u1 u2 u3 u4
    revert wx7 wy
    generalize W5.heap.size = Bx
    generalize W6.heap.size = By
    intro wy wx7
    have kp : ∀ w', Below W7.heap.size W7 w' → w'.cell? ⟨Bn, 0, none⟩ = some (.int .i64 n.kind) ∧ w'.cell? ⟨Bn, 1, none⟩ = some (.string n.text) ∧ w'.cell? ⟨Bn, 2, none⟩ = some (.slice A n.kids.length c) ∧ w'.cell? ⟨Bn, 3, none⟩ = some (.int .i64 n.place) ∧ w'.cell? ⟨Bb, 0, none⟩ = some (.int .i64 b.kind) ∧ w'.cell? ⟨Bb, 1, none⟩ = some (.string b.text) ∧ w'.cell? ⟨Bb, 2, none⟩ = some (.slice Ab b.kids.length cb) ∧ w'.cell? ⟨Bb, 3, none⟩ = some (.int .i64 b.place) ∧ w'.cell? ⟨Bx, 0, none⟩ = some (.int .i64 X.kind) ∧ w'.cell? ⟨Bx, 1, none⟩ = some (.string X.text) ∧ w'.cell? ⟨Bx, 2, none⟩ = some (.slice Ax X.kids.length cx) ∧ w'.cell? ⟨Bx, 3, none⟩ = some (.int .i64 X.place) ∧ w'.cell? ⟨By, 0, none⟩ = some (.int .i64 X.kind) ∧ w'.cell? ⟨By, 1, none⟩ = some (.string X.text) ∧ w'.cell? ⟨By, 2, none⟩ = some (.slice Ay X.kids.length cy) ∧ w'.cell? ⟨By, 3, none⟩ = some (.int .i64 X.place) := fun w' hW =>
      have h1 := (k7.next hW).2.1
      have h2 := (k7.next hW).2.2
      have h3 := wx7.below hW wx7.lt
      have h4 := wy.below hW wy.lt
      ⟨h1.cell 0, h1.cell 1, h1.cell 2, h1.cell 3, h2.cell 0, h2.cell 1, h2.cell 2, h2.cell 3, h3.cell 0, h3.cell 1, h3.cell 2, h3.cell 3, h4.cell 0, h4.cell 1, h4.cell 2, h4.cell 3⟩
    have KP := Lib.hid kp
    have K7 := Lib.hid k7
    clear kp k7 wx7 wy
    have hd1 := hsm1.out h1'.out
    have hd2 := hsm2.out h2'.out
    have hdx : sameN 1000 X X = true := by
      rw [same_self]
      have e := depth_sw (swapAt kind text b) (sizeN 1000 b) (fun y q hq g => by
        unfold swapAt at hq
        split at hq
        · injection hq with hq; subst hq; exact hd2.2 g
        · cases hq) 1001 100 n
      rw [← HX.out] at e
      have := hd1.2 1001
      rw [show 1000 + 1 = 1001 from rfl]
      exact decide_eq_true (by omega)
    have hdn : sameN 1000 n n = true := by
      rw [same_self]
      have := hd1.2 1001
      rw [show 1000 + 1 = 1001 from rfl]
      exact decide_eq_true (by omega)
    rw [hdn] at RN
    have RXY := Lib.hid fun W (h : Below W7.heap.size W7 W) => refsame_any 1000 (by omega) _ _ _ _ X X W (NX7.out.below h) (NY7.out.below h)
    rw [hdx] at RXY
    clear hd1 hd2 hdx hdn h1' h2' hsm1 hsm2 HX NX7 NY7
    refine Held.begin_ (fun w' => w'.cell? ⟨Bn, 0, none⟩ = some (.int .i64 n.kind) ∧ w'.cell? ⟨Bn, 1, none⟩ = some (.string n.text) ∧ w'.cell? ⟨Bn, 2, none⟩ = some (.slice A n.kids.length c) ∧ w'.cell? ⟨Bn, 3, none⟩ = some (.int .i64 n.place) ∧ w'.cell? ⟨Bb, 0, none⟩ = some (.int .i64 b.kind) ∧ w'.cell? ⟨Bb, 1, none⟩ = some (.string b.text) ∧ w'.cell? ⟨Bb, 2, none⟩ = some (.slice Ab b.kids.length cb) ∧ w'.cell? ⟨Bb, 3, none⟩ = some (.int .i64 b.place) ∧ w'.cell? ⟨Bx, 0, none⟩ = some (.int .i64 X.kind) ∧ w'.cell? ⟨Bx, 1, none⟩ = some (.string X.text) ∧ w'.cell? ⟨Bx, 2, none⟩ = some (.slice Ax X.kids.length cx) ∧ w'.cell? ⟨Bx, 3, none⟩ = some (.int .i64 X.place) ∧ w'.cell? ⟨By, 0, none⟩ = some (.int .i64 X.kind) ∧ w'.cell? ⟨By, 1, none⟩ = some (.string X.text) ∧ w'.cell? ⟨By, 2, none⟩ = some (.slice Ay X.kids.length cy) ∧ w'.cell? ⟨By, 3, none⟩ = some (.int .i64 X.place)) (fun _ => True) 99 (by kernel_rfl) (KP.out _ (Below.refl _ W7).drew) (trivial) ?_
    refine Held.take (i := 0) (oi := { dst := some 35, op := Op.load 24 (Operand.tmp 7), type := 24, pos := "law.go:83", after := #[], guard := none }) (v := ?_) false [] rfl (by decide) (by kernel_rfl) (by kernel_rfl) (by kernel_rfl) (by kernel_rfl) (fun _ _ _ h => h) (Or.inl ⟨by rfl, ?_⟩) ?_
    rotate_left
    · rintro w ⟨hS0, hS1⟩
      clear hS1
      (try dsimp only at hS0)
      go_simp
      (try with_reducible rfl)
    try simp only [Act.put, List.setIfInBounds_toArray, List.set_cons_zero, List.set_cons_succ]
    refine Held.take (i := 1) (oi := { dst := some 36, op := Op.load 24 (Operand.tmp 8), type := 24, pos := "law.go:83", after := #[], guard := none }) (v := ?_) false [] rfl (by decide) (by kernel_rfl) (by kernel_rfl) (by kernel_rfl) (by kernel_rfl) (fun _ _ _ h => h) (Or.inl ⟨by rfl, ?_⟩) ?_
    rotate_left
    · rintro w ⟨hS0, hS1⟩
      clear hS1
      (try dsimp only at hS0)
      go_simp
      (try with_reducible rfl)
    try simp only [Act.put, List.setIfInBounds_toArray, List.set_cons_zero, List.set_cons_succ]
    refine Held.step (i := 2) (o := { dst := some 37, op := Op.call { callee := Callee.value (Operand.func 16), args := #[Operand.tmp 35, Operand.tmp 36, Operand.const (Value.int IntKind.i64 1000)], argTypes := #[24, 24, 3] }, type := 4, pos := "law.go:83", after := #[{ on := 0, ground := Ground.data }, { on := 1, ground := Ground.data }], guard := none }) rfl (by kernel_rfl) (fun K hK => ?_)
    go_simp
    go_at_call 16
    refine (RXY.out _ ((Below.refl _ W7).drew)).mono ?_
    rintro e w8 ⟨rfl, b8⟩
    have BB := Lib.hid (((Below.refl _ W7).drew).trans b8)
    clear b8
    refine hK.out _ _ ⟨KP.out _ BB.out, fun _ => trivial⟩ ?_
    clear hK K
    try simp only [Act.put, List.setIfInBounds_toArray, List.set_cons_zero, List.set_cons_succ]
    refine Held.take (i := 3) (oi := { dst := some 38, op := Op.move (Operand.tmp 37), type := 4, pos := "law.go:83", after := #[{ on := 2, ground := Ground.data }, { on := 2, ground := Ground.chain }], guard := none }) (v := ?_) false [] rfl (by decide) (by kernel_rfl) (by kernel_rfl) (by kernel_rfl) (by kernel_rfl) (fun _ _ _ h => h) (Or.inl ⟨by rfl, ?_⟩) ?_
    rotate_left
    · rintro w ⟨hS0, hS1⟩
      clear hS1
      (try dsimp only at hS0)
      go_simp
      (try with_reducible rfl)
    try simp only [Act.put, List.setIfInBounds_toArray, List.set_cons_zero, List.set_cons_succ]
    refine Held.take (i := 4) (oi := { dst := some 39, op := Op.load 24 (Operand.tmp 3), type := 24, pos := "law.go:83", after := #[{ on := 3, ground := Ground.guard }], guard := some (3, true) }) (v := ?_) false [] rfl (by decide) (by kernel_rfl) (by kernel_rfl) (by kernel_rfl) (by kernel_rfl) (fun _ _ _ h => h) (Or.inl ⟨by rfl, ?_⟩) ?_
    rotate_left
    · rintro w ⟨hS0, hS1⟩
      clear hS1
      (try dsimp only at hS0)
      go_simp
      (try with_reducible rfl)
    try simp only [Act.put, List.setIfInBounds_toArray, List.set_cons_zero, List.set_cons_succ]
    refine Held.take (i := 5) (oi := { dst := some 40, op := Op.load 24 (Operand.tmp 4), type := 24, pos := "law.go:83", after := #[{ on := 3, ground := Ground.guard }], guard := some (3, true) }) (v := ?_) false [] rfl (by decide) (by kernel_rfl) (by kernel_rfl) (by kernel_rfl) (by kernel_rfl) (fun _ _ _ h => h) (Or.inl ⟨by rfl, ?_⟩) ?_
    rotate_left
    · rintro w ⟨hS0, hS1⟩
      clear hS1
      (try dsimp only at hS0)
      go_simp
      (try with_reducible rfl)
    try simp only [Act.put, List.setIfInBounds_toArray, List.set_cons_zero, List.set_cons_succ]
    refine Held.take (i := 7) (oi := { dst := some 42, op := Op.load 24 (Operand.tmp 3), type := 24, pos := "law.go:83", after := #[{ on := 3, ground := Ground.guard }], guard := some (3, true) }) (v := ?_) false [] rfl (by decide) (by kernel_rfl) (by kernel_rfl) (by kernel_rfl) (by kernel_rfl) (fun _ _ _ h => h) (Or.inl ⟨by rfl, ?_⟩) ?_
    rotate_left
    · rintro w ⟨hS0, hS1⟩
      clear hS1
      (try dsimp only at hS0)
      go_simp
      (try with_reducible rfl)
    try simp only [Act.put, List.setIfInBounds_toArray, List.set_cons_zero, List.set_cons_succ]
    refine Held.take (i := 8) (oi := { dst := some 43, op := Op.load 24 (Operand.tmp 4), type := 24, pos := "law.go:83", after := #[{ on := 3, ground := Ground.guard }], guard := some (3, true) }) (v := ?_) false [] rfl (by decide) (by kernel_rfl) (by kernel_rfl) (by kernel_rfl) (by kernel_rfl) (fun _ _ _ h => h) (Or.inl ⟨by rfl, ?_⟩) ?_
    rotate_left
    · rintro w ⟨hS0, hS1⟩
      clear hS1
      (try dsimp only at hS0)
      go_simp
      (try with_reducible rfl)
    try simp only [Act.put, List.setIfInBounds_toArray, List.set_cons_zero, List.set_cons_succ]
    refine Held.step (i := 6) (o := { dst := some 41, op := Op.call { callee := Callee.value (Operand.func 10), args := #[Operand.tmp 39, Operand.tmp 40], argTypes := #[24, 24] }, type := 4, pos := "law.go:83", after := #[{ on := 4, ground := Ground.data }, { on := 5, ground := Ground.data }, { on := 3, ground := Ground.chain }, { on := 3, ground := Ground.guard }], guard := some (3, true) }) rfl (by kernel_rfl) (fun K hK => ?_)
    go_simp
    go_at_call 10
    refine (TS.out _ (K7.out.1.trans (BB.out.mono K7.out.1.size))).mono ?_
    rintro e w9 ⟨rfl, b9⟩
    have BB := Lib.hid (BB.out.trans (b9.mono BB.out.size))
    clear b9
    refine hK.out _ _ ⟨KP.out _ BB.out, fun _ => trivial⟩ ?_
    clear hK K
    try simp only [Act.put, List.setIfInBounds_toArray, List.set_cons_zero, List.set_cons_succ]
    refine Held.step (i := 9) (o := { dst := some 44, op := Op.call { callee := Callee.value (Operand.func 16), args := #[Operand.tmp 42, Operand.tmp 43, Operand.const (Value.int IntKind.i64 100)], argTypes := #[24, 24, 3] }, type := 4, pos := "law.go:83", after := #[{ on := 7, ground := Ground.data }, { on := 8, ground := Ground.data }, { on := 6, ground := Ground.chain }, { on := 3, ground := Ground.guard }], guard := some (3, true) }) rfl (by kernel_rfl) (fun K hK => ?_)
    go_simp
    go_at_call 16
    refine (RT.out _ (K7.out.1.trans (BB.out.mono K7.out.1.size))).mono ?_
    rintro e w10 ⟨rfl, b10⟩
    have BB := Lib.hid (BB.out.trans (b10.mono BB.out.size))
    clear b10
    refine hK.out _ _ ⟨KP.out _ BB.out, fun _ => trivial⟩ ?_
    clear hK K
    try simp only [Act.put, List.setIfInBounds_toArray, List.set_cons_zero, List.set_cons_succ]
    refine Held.take (i := 10) (oi := { dst := some 45, op := Op.binOp BinOp.eql 4 (Operand.tmp 41) (Operand.tmp 44) 4, type := 4, pos := "law.go:83", after := #[{ on := 6, ground := Ground.data }, { on := 9, ground := Ground.data }, { on := 3, ground := Ground.guard }], guard := some (3, true) }) (v := ?_) false [] rfl (by decide) (by kernel_rfl) (by kernel_rfl) (by kernel_rfl) (by kernel_rfl) (fun _ _ _ h => h) (Or.inl ⟨by rfl, ?_⟩) ?_
    rotate_left
    · rintro w ⟨hS0, hS1⟩
      clear hS1
      (try dsimp only at hS0)
      go_simp
      (try with_reducible rfl)
    try simp only [Act.put, List.setIfInBounds_toArray, List.set_cons_zero, List.set_cons_succ]
    refine Held.take (i := 11) (oi := { dst := some 46, op := Op.pick (Operand.tmp 38) (Operand.tmp 45) (Operand.const (Value.bool false)), type := 4, pos := "law.go:83", after := #[{ on := 3, ground := Ground.data }, { on := 10, ground := Ground.data }], guard := none }) (v := ?_) false [] rfl (by decide) (by kernel_rfl) (by kernel_rfl) (by kernel_rfl) (by kernel_rfl) (fun _ _ _ h => h) (Or.inl ⟨by rfl, ?_⟩) ?_
    rotate_left
    · rintro w ⟨hS0, hS1⟩
      clear hS1
      (try dsimp only at hS0)
      go_simp
      (try with_reducible rfl)
    try simp only [Act.put, List.setIfInBounds_toArray, List.set_cons_zero, List.set_cons_succ]
    refine Held.take (i := 12) (oi := { dst := some 47, op := Op.move (Operand.tmp 46), type := 4, pos := "law.go:83", after := #[{ on := 11, ground := Ground.data }, { on := 9, ground := Ground.chain }], guard := none }) (v := ?_) false [] rfl (by decide) (by kernel_rfl) (by kernel_rfl) (by kernel_rfl) (by kernel_rfl) (fun _ _ _ h => h) (Or.inl ⟨by rfl, ?_⟩) ?_
    rotate_left
    · rintro w ⟨hS0, hS1⟩
      clear hS1
      (try dsimp only at hS0)
      go_simp
      (try with_reducible rfl)
    try simp only [Act.put, List.setIfInBounds_toArray, List.set_cons_zero, List.set_cons_succ]
    refine Held.take (i := 13) (oi := { dst := some 48, op := Op.load 24 (Operand.tmp 3), type := 24, pos := "law.go:83", after := #[{ on := 12, ground := Ground.guard }], guard := some (12, true) }) (v := ?_) false [] rfl (by decide) (by kernel_rfl) (by kernel_rfl) (by kernel_rfl) (by kernel_rfl) (fun _ _ _ h => h) (Or.inl ⟨by rfl, ?_⟩) ?_
    rotate_left
    · rintro w ⟨hS0, hS1⟩
      clear hS1
      (try dsimp only at hS0)
      go_simp
      (try with_reducible rfl)
    try simp only [Act.put, List.setIfInBounds_toArray, List.set_cons_zero, List.set_cons_succ]
    refine Held.take (i := 15) (oi := { dst := some 50, op := Op.load 24 (Operand.tmp 3), type := 24, pos := "law.go:83", after := #[{ on := 12, ground := Ground.guard }], guard := some (12, true) }) (v := ?_) false [] rfl (by decide) (by kernel_rfl) (by kernel_rfl) (by kernel_rfl) (by kernel_rfl) (fun _ _ _ h => h) (Or.inl ⟨by rfl, ?_⟩) ?_
    rotate_left
    · rintro w ⟨hS0, hS1⟩
      clear hS1
      (try dsimp only at hS0)
      go_simp
      (try with_reducible rfl)
    try simp only [Act.put, List.setIfInBounds_toArray, List.set_cons_zero, List.set_cons_succ]
    refine Held.step (i := 14) (o := { dst := some 49, op := Op.call { callee := Callee.value (Operand.func 17), args := #[Operand.tmp 48], argTypes := #[24] }, type := 24, pos := "law.go:83", after := #[{ on := 13, ground := Ground.data }, { on := 12, ground := Ground.chain }, { on := 12, ground := Ground.guard }], guard := some (12, true) }) rfl (by kernel_rfl) (fun K hK => ?_)
    go_simp
    go_at_call 17
    refine (CP.out _ (K7.out.1.trans (BB.out.mono K7.out.1.size))).mono ?_
    rintro e w11 ⟨Ac, cc, rfl, nc, b11⟩
    have NC := Lib.hid nc.ndv
    have BB := Lib.hid (BB.out.trans (b11.mono BB.out.size))
    clear b11 nc
    refine hK.out _ _ ⟨KP.out _ BB.out, fun _ => trivial⟩ ?_
    clear hK K
    try simp only [Act.put, List.setIfInBounds_toArray, List.set_cons_zero, List.set_cons_succ]
    refine Held.step (i := 16) (o := { dst := some 51, op := Op.call { callee := Callee.value (Operand.func 16), args := #[Operand.tmp 49, Operand.tmp 50, Operand.const (Value.int IntKind.i64 1000)], argTypes := #[24, 24, 3] }, type := 4, pos := "law.go:83", after := #[{ on := 14, ground := Ground.data }, { on := 15, ground := Ground.data }, { on := 14, ground := Ground.chain }, { on := 12, ground := Ground.guard }], guard := some (12, true) }) rfl (by kernel_rfl) (fun K hK => ?_)
    go_simp
    go_at_call 16
    refine (RN.out _ (K7.out.1.trans (BB.out.mono K7.out.1.size)) f _ NC.out).mono ?_
    rintro e w12 ⟨rfl, b12⟩
    have BB := Lib.hid (BB.out.trans (b12.mono BB.out.size))
    clear b12
    refine hK.out _ _ ⟨KP.out _ BB.out, fun _ => trivial⟩ ?_
    clear hK K
    try simp only [Act.put, List.setIfInBounds_toArray, List.set_cons_zero, List.set_cons_succ]
    refine Held.take (i := 17) (oi := { dst := some 52, op := Op.pick (Operand.tmp 47) (Operand.tmp 51) (Operand.const (Value.bool false)), type := 4, pos := "law.go:83", after := #[{ on := 12, ground := Ground.data }, { on := 16, ground := Ground.data }], guard := none }) (v := ?_) false [] rfl (by decide) (by kernel_rfl) (by kernel_rfl) (by kernel_rfl) (by kernel_rfl) (fun _ _ _ h => h) (Or.inl ⟨by rfl, ?_⟩) ?_
    rotate_left
    · rintro w ⟨hS0, hS1⟩
      clear hS1
      (try dsimp only at hS0)
      go_simp
      (try with_reducible rfl)
    try simp only [Act.put, List.setIfInBounds_toArray, List.set_cons_zero, List.set_cons_succ]
    refine Held.take (i := 18) (oi := { dst := some 53, op := Op.move (Operand.tmp 52), type := 4, pos := "law.go:83", after := #[{ on := 17, ground := Ground.data }, { on := 16, ground := Ground.chain }], guard := none }) (v := ?_) false [] rfl (by decide) (by kernel_rfl) (by kernel_rfl) (by kernel_rfl) (by kernel_rfl) (fun _ _ _ h => h) (Or.inl ⟨by rfl, ?_⟩) ?_
    rotate_left
    · rintro w ⟨hS0, hS1⟩
      clear hS1
      (try dsimp only at hS0)
      go_simp
      (try with_reducible rfl)
    try simp only [Act.put, List.setIfInBounds_toArray, List.set_cons_zero, List.set_cons_succ]
    refine Held.step (i := 19) (o := { dst := some 54, op := Op.call { callee := Callee.value (Operand.func 12), args := #[], argTypes := #[] }, type := 4, pos := "law.go:83", after := #[{ on := 18, ground := Ground.chain }, { on := 18, ground := Ground.guard }], guard := some (18, true) }) rfl (by kernel_rfl) (fun K hK => ?_)
    go_simp
    go_at_call 12
    refine (awake_any _).mono ?_
    rintro e w13 ⟨rfl, b13⟩
    have BB := Lib.hid (BB.out.trans (b13.mono BB.out.size))
    clear b13
    refine hK.out _ _ ⟨KP.out _ BB.out, fun _ => trivial⟩ ?_
    clear hK K
    try simp only [Act.put, List.setIfInBounds_toArray, List.set_cons_zero, List.set_cons_succ]
    refine Held.take (i := 20) (oi := { dst := some 55, op := Op.pick (Operand.tmp 53) (Operand.tmp 54) (Operand.const (Value.bool false)), type := 4, pos := "law.go:83", after := #[{ on := 18, ground := Ground.data }, { on := 19, ground := Ground.data }], guard := none }) (v := ?_) false [] rfl (by decide) (by kernel_rfl) (by kernel_rfl) (by kernel_rfl) (by kernel_rfl) (fun _ _ _ h => h) (Or.inl ⟨by rfl, ?_⟩) ?_
    rotate_left
    · rintro w ⟨hS0, hS1⟩
      clear hS1
      (try dsimp only at hS0)
      go_simp
      (try with_reducible rfl)
    try simp only [Act.put, List.setIfInBounds_toArray, List.set_cons_zero, List.set_cons_succ]
    refine Held.take (i := 21) (oi := { dst := some 2, op := Op.assign (Operand.tmp 55), type := 4, pos := "law.go:83", after := #[{ on := 20, ground := Ground.data }, { on := 19, ground := Ground.chain }, { on := 0, ground := Ground.phase }, { on := 1, ground := Ground.phase }, { on := 2, ground := Ground.phase }, { on := 3, ground := Ground.phase }, { on := 4, ground := Ground.phase }, { on := 5, ground := Ground.phase }, { on := 6, ground := Ground.phase }, { on := 7, ground := Ground.phase }, { on := 8, ground := Ground.phase }, { on := 9, ground := Ground.phase }, { on := 10, ground := Ground.phase }, { on := 11, ground := Ground.phase }, { on := 12, ground := Ground.phase }, { on := 13, ground := Ground.phase }, { on := 14, ground := Ground.phase }, { on := 15, ground := Ground.phase }, { on := 16, ground := Ground.phase }, { on := 17, ground := Ground.phase }, { on := 18, ground := Ground.phase }, { on := 19, ground := Ground.phase }, { on := 20, ground := Ground.phase }], guard := none }) (v := ?_) false [] rfl (by decide) (by kernel_rfl) (by kernel_rfl) (by kernel_rfl) (by kernel_rfl) (fun _ _ _ h => h) (Or.inl ⟨by rfl, ?_⟩) ?_
    rotate_left
    · rintro w ⟨hS0, hS1⟩
      clear hS1
      (try dsimp only at hS0)
      go_simp
      (try with_reducible rfl)
    try simp only [Act.put, List.setIfInBounds_toArray, List.set_cons_zero, List.set_cons_succ]
    refine Held.done (by kernel_rfl) ?_ _
    go_wp2_with fail
    go_ret
    exact ⟨rfl, K7.out.1.trans (BB.out.mono K7.out.1.size)⟩

end Go.Proofs.Ytkmhijkpbmcgbaa
