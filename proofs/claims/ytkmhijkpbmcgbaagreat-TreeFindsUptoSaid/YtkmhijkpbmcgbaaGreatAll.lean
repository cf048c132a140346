/-
  Function values that answer questions on nodes; the program's all, or: walks.
-/
import Derived.Test.YtkmhijkpbmcgbaaGreatWalk
namespace Go.Proofs.YtkmhijkpbmcgbaaGreat
set_option linter.all false
open Go.RowKit Go.Shelf

/-- A slice that reads as a list of nodes. -/
def LstAt (w : World) (f : Nat) (l : List Nd) (A : Option Addr) : Prop := 0 < l.length → ∃ b off, A = some ⟨b, off, none⟩ ∧ ∀ i k, l[i]? = some k → ∃ A' c',
      w.cell? ⟨b, off + i * 4, none⟩ = some (.int .i64 k.kind) ∧ w.cell? ⟨b, off + i * 4 + 1, none⟩ = some (.string k.text) ∧
      w.cell? ⟨b, off + i * 4 + 2, none⟩ = some (.slice A' k.kids.length c') ∧ w.cell? ⟨b, off + i * 4 + 3, none⟩ = some (.int .i64 k.place) ∧ NdV w f (k.val A' c') k
theorem LstAt.below {w w' : World} (hb : Below w.heap.size w w') {f : Nat} {l : List Nd} {A : Option Addr} (h : LstAt w f l A) : LstAt w' f l A := fun h0 => by
  obtain ⟨b, off, hA, hi⟩ := h h0
  refine ⟨b, off, hA, fun i k hik => ?_⟩
  obtain ⟨A', c', h1, h2, h3, h4, h5⟩ := hi i k hik
  exact ⟨A', c', (hb.cell (cell_lt h1)).trans h1, (hb.cell (cell_lt h2)).trans h2, (hb.cell (cell_lt h3)).trans h3, (hb.cell (cell_lt h4)).trans h4, h5.below hb⟩
theorem LstAt.kid {w : World} {f : Nat} {l : List Nd} {A : Option Addr} {p : Nat} (h : LstAt w f l A) (hp : p < l.length) : ∃ b off k A' c', A = some ⟨b, off, none⟩ ∧ l[p]? = some k ∧ b < w.heap.size ∧
      w.cell? ⟨b, off + p * 4, none⟩ = some (.int .i64 k.kind) ∧ w.cell? ⟨b, off + p * 4 + 1, none⟩ = some (.string k.text) ∧
      w.cell? ⟨b, off + p * 4 + 2, none⟩ = some (.slice A' k.kids.length c') ∧ w.cell? ⟨b, off + p * 4 + 3, none⟩ = some (.int .i64 k.place) ∧ NdV w f (k.val A' c') k := by
  obtain ⟨b, off, hA, hi⟩ := h (by omega)
  obtain ⟨k, hk⟩ : ∃ k, l[p]? = some k := ⟨_, List.getElem?_eq_getElem hp⟩
  obtain ⟨A', c', h1, h2, h3, h4, h5⟩ := hi p k hk
  exact ⟨b, off, k, A', c', hA, hk, cell_lt h1, h1, h2, h3, h4, h5⟩

/-- A function's entry. -/
def Enters (g : Nat) : Prop := ∀ args w, (callFunc g args).run Tryz.prog w = .ok (.enter g args) w

/-- A function value that answers a question on nodes, in a world and later. -/
def SaysAt (w : World) (f : Nat) (g : Nat) (cb : Array Value) (q : Nd → Bool) : Prop :=
  (∀ args w, (callFunc g args).run Tryz.prog w = .ok (.enter g args) w) ∧ ∀ W v n, Below w.heap.size w W → NdV W f v n → Calls Tryz.prog g (#[v] ++ cb) W fun e W' => e = .returned (.bool (q n)) ∧ Below W.heap.size W W'
def Says (w : World) (f : Nat) (fv : Value) (q : Nd → Bool) : Prop := ∃ g cb, fv = .func (.func g) #[] cb ∧ SaysAt w f g cb q
theorem SaysAt.below {w w' : World} (hb : Below w.heap.size w w') {f g : Nat} {cb : Array Value} {q : Nd → Bool} (h : SaysAt w f g cb q) : SaysAt w' f g cb q :=
  ⟨h.1, fun W v n hW hv => h.2 W v n (hb.trans (hW.mono hb.size)) hv⟩
theorem Says.below {w w' : World} (hb : Below w.heap.size w w') {f : Nat} {fv : Value} {q : Nd → Bool} (h : Says w f fv q) : Says w' f fv q := by
  obtain ⟨g, cb, h1, h2⟩ := h
  exact ⟨g, cb, h1, h2.below hb⟩

set_option maxRecDepth 100000 in
set_option maxHeartbeats 1000000 in
theorem all1_c (f g : Nat) (cb : Array Value) (q : Nd → Bool) (v : Value) (n : Nd) (w : World) (hs : SaysAt w f g cb q) (hv : NdV w f v n) (B : Nat) (hB : w.cell? ⟨B, 0, none⟩ = some (.func (.func g) #[] cb)) :
    Calls Tryz.prog 58 #[v, .pointer (some ⟨B, 0, none⟩)] w fun e w' => e = .returned (.bool (!q n)) ∧ Below w.heap.size w w' := by
  obtain ⟨A, c, rfl, hm⟩ := hv.val
  have hlt := cell_lt hB
  have hb : Below w.heap.size w (w.alloc (.cells #[.int .i64 n.kind, .string n.text, .slice A n.kids.length c, .int .i64 n.place] 24)) := (Below.refl _ w).alloc (Nat.le_refl _) _
  have eg := hs.1
  have hc := hs.2 _ _ n hb (hv.below hb)
  have HC := Lib.hid hc
  have HB := Lib.hid hb
  clear hc hb hv hs
  unfold Nd.val at HC ⊢
  go_enter Tryz.func58, Tryz.ntmps58
  go_wp2_with fail
  refine HC.out.mono ?_
  rintro e w1 ⟨rfl, b1⟩
  have b2 := HB.out.trans (b1.mono HB.out.size)
  clear b1 HB HC
  go_wp2_with fail
  go_ret
  exact ⟨rfl, b2⟩

def IdxRel (w : World) (l : List Nd) (q : Nd → Bool) (i : Value) (W : World) : Prop :=
  ∃ p : Nat, p ≤ l.length ∧ i = .int .i64 p ∧ (l.take p).any q = false ∧ Below w.heap.size w W

set_option maxRecDepth 100000 in
set_option maxHeartbeats 1000000 in
theorem index_c (f g : Nat) (cb : Array Value) (q : Nd → Bool) (l : List Nd) (A : Option Addr) (c : Nat) (w : World) (hs : SaysAt w f g cb q) (hl : LstAt w f l A) (hm : l.length ≤ maxLen) :
    Calls Tryz.prog 92 #[.slice A l.length c, .func (.func g) #[] cb] w fun e w' => ∃ j : Int, e = .returned (.int .i64 j) ∧ ((0 ≤ j ∧ l.any q = true) ∨ (j < 0 ∧ l.any q = false)) ∧ Below w.heap.size w w' := by
  have eg := hs.1
  have HS := Lib.hid hs
  have HL := Lib.hid hl
  have hm2 : l.length ≤ 9223372036854775807 := hm
  clear hs hl
  go_enter Tryz.func92, Tryz.ntmps92
  go_wp2_with fail
  go_loopw [8] (fun i W => IdxRel w l q i W) (fun i _ => l.length - (intOf i).toNat)
  case atStart => exact ⟨0, Nat.zero_le _, rfl, by simp, Below.refl _ _⟩
  case round =>
    obtain ⟨p, hp, rfl, hany, hb⟩ := hrel
    by_cases hpl : p < l.length
    · obtain ⟨b, off, k, A', c', rfl, hk, hbl, k0, k1, k2, k3, k5⟩ := (HL.out.below hb).kid hpl
      have hc := HS.out.2 _ _ k hb k5
      have HC := Lib.hid hc
      have HB := Lib.hid hb
      have HK := Lib.hid hk
      have HA := Lib.hid hany
      have hp2 : p < 9223372036854775807 := by omega
      clear hc hb hk k5 hany
      unfold Nd.val at HC
      go_wp2_with fail
      refine HC.out.mono ?_
      rintro e w1 ⟨rfl, b1⟩
      have b2 := HB.out.trans (b1.mono HB.out.size)
      have HB2 := Lib.hid b2
      clear b1 b2 HB HC
      cases hq : q k with
      | true =>
        go_wp2_with fail
        go_ret
        exact ⟨p, rfl, .inl ⟨by omega, List.any_eq_true.2 ⟨k, List.mem_of_getElem? HK.out, hq⟩⟩, HB2.out⟩
      | false =>
        go_wp2_with fail
        go_roundw
        case rel => exact ⟨p + 1, by omega, rfl, by rw [take_snoc HK.out, List.any_append, HA.out]; simp [hq], HB2.out⟩
        case measure => simp [intOf]; omega
    · have e : l.any q = false := by rw [List.take_of_length_le (by omega)] at hany; exact hany
      have E := Lib.hid e
      have HB := Lib.hid hb
      clear hany hb e
      go_wp2_with fail
      go_ret
      exact ⟨-1, rfl, .inr ⟨by omega, E.out⟩, HB.out⟩

set_option maxRecDepth 100000 in
set_option maxHeartbeats 1000000 in
theorem contains_c (f g : Nat) (cb : Array Value) (q : Nd → Bool) (l : List Nd) (A : Option Addr) (c : Nat) (w : World) (hs : SaysAt w f g cb q) (hl : LstAt w f l A) (hm : l.length ≤ maxLen) :
    Calls Tryz.prog 57 #[.slice A l.length c, .func (.func g) #[] cb] w fun e w' => e = .returned (.bool (l.any q)) ∧ Below w.heap.size w w' := by
  have HC := Lib.hid (index_c f g cb q l A c w hs hl hm)
  clear hs hl
  go_enter Tryz.func57, Tryz.ntmps57
  go_wp2_with (go_at_call 92; refine HC.out.mono ?_; rintro e w1 ⟨j, rfl, hj, b1⟩)
  rcases hj with ⟨hj, ha⟩ | ⟨hj, ha⟩
  · go_ret
    exact ⟨by rw [ha]; simp [hj], b1⟩
  · go_ret
    exact ⟨by rw [ha]; simp; omega, b1⟩

set_option maxRecDepth 100000 in
set_option maxHeartbeats 1000000 in
theorem all_c (f g : Nat) (cb : Array Value) (q : Nd → Bool) (l : List Nd) (A : Option Addr) (c : Nat) (w : World) (hs : SaysAt w f g cb q) (hl : LstAt w f l A) (hm : l.length ≤ maxLen) :
    Calls Tryz.prog 30 #[.slice A l.length c, .func (.func g) #[] cb] w fun e w' => e = .returned (.bool (l.all q)) ∧ Below w.heap.size w w' := by
  have hb : Below w.heap.size w (w.alloc (.cells #[.func (.func g) #[] cb] 33)) := (Below.refl _ w).alloc (Nat.le_refl _) _
  have hcell : (w.alloc (.cells #[.func (.func g) #[] cb] 33)).cell? ⟨w.heap.size, 0, none⟩ = some (.func (.func g) #[] cb) := (Whole.new w 33 #[.func (.func g) #[] cb]).cell 0
  have hsay : SaysAt (w.alloc (.cells #[.func (.func g) #[] cb] 33)) f 58 #[.pointer (some ⟨w.heap.size, 0, none⟩)] (fun n => !q n) := by
    refine ⟨enters_of Tryz.func58 (by kernel_rfl) rfl, fun W v n hW hv => ?_⟩
    exact all1_c f g cb q v n W (hs.below (hb.trans (hW.mono (by simp)))) hv w.heap.size ((hW.cell (p := ⟨w.heap.size, 0, none⟩) (by simp)).trans hcell)
  have HC := Lib.hid (contains_c f 58 _ _ l A c _ hsay (hl.below hb) hm)
  have HB := Lib.hid hb
  have e : l.all q = !(l.any fun n => !q n) := by
    rw [List.any_eq_not_all_not]
    simp
  rw [e]
  generalize (l.any fun n => !q n) = r at HC ⊢
  have hmf : ∀ fn first cap w, (Instr.makeFunc fn first cap).run Tryz.prog w = .ok (.func fn first cap) w := fun _ _ _ _ => rfl
  clear hs hl hb hcell hsay e
  go_enter Tryz.func30, Tryz.ntmps30
  go_wp2_with (go_at_call 57; refine HC.out.mono ?_; rintro e w1 ⟨rfl, b1⟩)
  go_ret
  exact ⟨rfl, HB.out.trans (b1.mono HB.out.size)⟩

set_option maxRecDepth 100000 in
set_option maxHeartbeats 1000000 in
theorem or1_c (f g1 g2 : Nat) (cb1 cb2 : Array Value) (q1 q2 : Nd → Bool) (v : Value) (n : Nd) (w : World) (h1 : SaysAt w f g1 cb1 q1) (h2 : SaysAt w f g2 cb2 q2) (hv : NdV w f v n) (B1 B2 : Nat)
    (c1 : w.cell? ⟨B1, 0, none⟩ = some (.func (.func g1) #[] cb1)) (c2 : w.cell? ⟨B2, 0, none⟩ = some (.func (.func g2) #[] cb2)) :
    Calls Tryz.prog 96 #[v, .pointer (some ⟨B1, 0, none⟩), .pointer (some ⟨B2, 0, none⟩)] w fun e w' => e = .returned (.bool (q1 n || q2 n)) ∧ Below w.heap.size w w' := by
  obtain ⟨A, c, rfl, hm⟩ := hv.val
  have l1 := cell_lt c1
  have l2 := cell_lt c2
  have hb : Below w.heap.size w (w.alloc (.cells #[.int .i64 n.kind, .string n.text, .slice A n.kids.length c, .int .i64 n.place] 24)) := (Below.refl _ w).alloc (Nat.le_refl _) _
  have eg1 := h1.1
  have eg2 := h2.1
  have hw : Whole (w.alloc (.cells #[.int .i64 n.kind, .string n.text, .slice A n.kids.length c, .int .i64 n.place] 24)) w.heap.size 24 #[.int .i64 n.kind, .string n.text, .slice A n.kids.length c, .int .i64 n.place] := Whole.new w 24 _
  have hv0 := hv.below hb
  have hc1 := (h1.2 _ _ n hb hv0).mono (R' := fun e w' => e = .returned (.bool (q1 n)) ∧ Below w.heap.size w w' ∧ NdV w' f (n.val A c) n ∧ w'.cell? ⟨B2, 0, none⟩ = some (.func (.func g2) #[] cb2) ∧
      Whole w' w.heap.size 24 #[.int .i64 n.kind, .string n.text, .slice A n.kids.length c, .int .i64 n.place]) (fun e w' h => by
    have b2 := hb.trans (h.2.mono hb.size)
    exact ⟨h.1, b2, hv0.below h.2, (b2.cell (p := ⟨B2, 0, none⟩) l2).trans c2, hw.below h.2 hw.lt⟩)
  have HC1 := Lib.hid hc1
  have HC2 := Lib.hid h2
  clear hc1 hb hv h1 h2 hw hv0
  unfold Nd.val at HC1 HC2 ⊢
  go_enter Tryz.func96, Tryz.ntmps96
  go_wp2_with fail
  refine HC1.out.mono ?_
  rintro e w1 ⟨rfl, b1, n1, k2, hw1⟩
  have HB1 := Lib.hid b1
  have HC3 := Lib.hid (HC2.out.2 w1 _ n b1 n1)
  have s0 : w1.cell? ⟨w.heap.size, 0, none⟩ = some (.int .i64 n.kind) := hw1.cell 0
  have s1 : w1.cell? ⟨w.heap.size, 1, none⟩ = some (.string n.text) := hw1.cell 1
  have s2 : w1.cell? ⟨w.heap.size, 2, none⟩ = some (.slice A n.kids.length c) := hw1.cell 2
  have s3 : w1.cell? ⟨w.heap.size, 3, none⟩ = some (.int .i64 n.place) := hw1.cell 3
  clear b1 n1 hw1 HC1 HC2
  cases hq : q1 n with
  | true =>
    go_wp2_with fail
    go_ret
    exact ⟨by rw [hq]; rfl, HB1.out⟩
  | false =>
    go_wp2_with fail
    refine HC3.out.mono ?_
    rintro e w2 ⟨rfl, b2⟩
    go_wp2_with fail
    go_ret
    exact ⟨by rw [hq, Bool.false_or]; rfl, HB1.out.trans (b2.mono HB1.out.size)⟩

set_option maxRecDepth 100000 in
set_option maxHeartbeats 1000000 in
theorem or_c (f g1 g2 : Nat) (cb1 cb2 : Array Value) (q1 q2 : Nd → Bool) (w : World) (h1 : SaysAt w f g1 cb1 q1) (h2 : SaysAt w f g2 cb2 q2) :
    Calls Tryz.prog 63 #[.func (.func g1) #[] cb1, .func (.func g2) #[] cb2] w fun e w' => e = .returned (.func (.func 96) #[] #[.pointer (some ⟨w.heap.size, 0, none⟩), .pointer (some ⟨w.heap.size + 1, 0, none⟩)]) ∧
      SaysAt w' f 96 #[.pointer (some ⟨w.heap.size, 0, none⟩), .pointer (some ⟨w.heap.size + 1, 0, none⟩)] (fun n => q1 n || q2 n) ∧ Below w.heap.size w w' := by
  have hb : Below w.heap.size w ((w.alloc (.cells #[.func (.func g1) #[] cb1] 33)).alloc (.cells #[.func (.func g2) #[] cb2] 33)) := ((Below.refl _ w).alloc (Nat.le_refl _) _).alloc (by simp) _
  have a1 := ((Whole.new w 33 #[.func (.func g1) #[] cb1]).alloc (.cells #[.func (.func g2) #[] cb2] 33))
  have a2 : Whole ((w.alloc (.cells #[.func (.func g1) #[] cb1] 33)).alloc (.cells #[.func (.func g2) #[] cb2] 33)) (w.heap.size + 1) 33 #[.func (.func g2) #[] cb2] := by
    have := Whole.new (w.alloc (.cells #[.func (.func g1) #[] cb1] 33)) 33 #[.func (.func g2) #[] cb2]
    simpa using this
  have hsay : SaysAt ((w.alloc (.cells #[.func (.func g1) #[] cb1] 33)).alloc (.cells #[.func (.func g2) #[] cb2] 33)) f 96 #[.pointer (some ⟨w.heap.size, 0, none⟩), .pointer (some ⟨w.heap.size + 1, 0, none⟩)] (fun n => q1 n || q2 n) := by
    refine ⟨enters_of Tryz.func96 (by kernel_rfl) rfl, fun W v n hW hv => ?_⟩
    have hbW := hb.trans (hW.mono hb.size)
    exact or1_c f g1 g2 cb1 cb2 q1 q2 v n W (h1.below hbW) (h2.below hbW) hv _ _ ((hW.cell (p := ⟨w.heap.size, 0, none⟩) a1.lt).trans (a1.cell 0)) ((hW.cell (p := ⟨w.heap.size + 1, 0, none⟩) a2.lt).trans (a2.cell 0))
  have HS := Lib.hid hsay
  have HB := Lib.hid hb
  clear h1 h2 hb a1 a2 hsay
  have hmf : ∀ fn first cap w, (Instr.makeFunc fn first cap).run Tryz.prog w = .ok (.func fn first cap) w := fun _ _ _ _ => rfl
  go_enter Tryz.func63, Tryz.ntmps63
  go_wp2_with fail
  go_ret
  exact ⟨rfl, HS.out, HB.out⟩

end Go.Proofs.YtkmhijkpbmcgbaaGreat
