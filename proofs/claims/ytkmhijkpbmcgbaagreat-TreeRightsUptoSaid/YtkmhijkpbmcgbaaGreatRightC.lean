/-
  The program's Right, at any sort whose question answers.
-/
import Derived.Test.YtkmhijkpbmcgbaaGreatAskZ
import Derived.Test.YtkmhijkpbmcgbaaGreatMono
import Derived.Test.YtkmhijkpbmcgbaaGreatAwake
namespace Go.Proofs.YtkmhijkpbmcgbaaGreat
set_option linter.all false
open Go.RowKit Go.Shelf Go.Maps
open Go.RowKit Go.Shelf

def LookAt (s : ByteArray) (fn : Nat) : Prop := ∀ (w : World) (b n : Nat), w.ownsMap Tryz.prog 9 RF b n sortsD → (Instr.lookup 35 (.map (some b)) (.string s) true).run Tryz.prog w = .ok (.tuple #[.func (.func fn) #[] #[], .bool true]) w

set_option maxRecDepth 100000 in
set_option maxHeartbeats 1000000 in
theorem right_c (fn : Nat) (s : ByteArray) (hl : LookAt s fn) (F : Nat) (q : Nd → Bool) (v : Value) (n : Nd) (w : World) (S : SaysF w F fn #[] q) (hft : Fits n) (hv : NdV w F v n) :
    Calls Tryz.prog 6 #[v, .string s] w fun e w' => e = .returned (.bool (okN n && q n)) ∧ Below w.heap.size w w' := by
  obtain ⟨A, c, rfl, hm⟩ := hv.val
  have hb : Below w.heap.size w (w.alloc (.cells #[.int .i64 n.kind, .string n.text, .slice A n.kids.length c, .int .i64 n.place] 24)) := (Below.refl _ w).alloc (Nat.le_refl _) _
  have hw := Whole.new w 24 #[.int .i64 n.kind, .string n.text, .slice A n.kids.length c, .int .i64 n.place]
  have HS := Lib.hid (sorts_any (w.alloc (.cells #[.int .i64 n.kind, .string n.text, .slice A n.kids.length c, .int .i64 n.place] 24)))
  have HW := Lib.hid hw
  have HB := Lib.hid hb
  have DP := Lib.hid fun W (h : Below w.heap.size w W) => depth_any F _ n W (hv.below h)
  have SZ := Lib.hid fun W (h : Below w.heap.size w W) => size_any F _ n W (hv.below h)
  have QA := Lib.hid fun W (h : Below w.heap.size w W) => S.2 W _ n h hft (hv.below h)
  have HL := Lib.hid hl
  have eg := S.1
  clear hv hb hw S hft
  unfold Nd.val at DP SZ QA ⊢
  unfold okN
  have d1 : decide ((depthN 101 n : Int) ≤ 100) = decide (depthN 101 n ≤ 100) := by simp only [decide_eq_decide]; omega
  have DD := Lib.hid d1
  clear d1
  generalize q n = r at QA ⊢
  go_enter Tryz.func6, Tryz.ntmps6
  go_wp2_with fail
  refine HS.out.mono ?_
  rintro e w1 ⟨rfl, o1, b1⟩
  have hl := HL.out w1 _ _ o1
  rw [World.size_alloc] at hl
  have B1 := Lib.hid (HB.out.trans (b1.mono HB.out.size))
  have W1 := Lib.hid (HW.out.below b1 (by simp))
  have d0 : w1.cell? ⟨w.heap.size, 0, none⟩ = some (.int .i64 n.kind) := W1.out.cell 0
  have d1 : w1.cell? ⟨w.heap.size, 1, none⟩ = some (.string n.text) := W1.out.cell 1
  have d2 : w1.cell? ⟨w.heap.size, 2, none⟩ = some (.slice A n.kids.length c) := W1.out.cell 2
  have d3 : w1.cell? ⟨w.heap.size, 3, none⟩ = some (.int .i64 n.place) := W1.out.cell 3
  clear o1 b1 HS HW HB HL
  go_wp2_with fail
  refine (DP.out w1 B1.out).mono ?_
  rintro e w2 ⟨rfl, b2⟩
  have B2 := Lib.hid (B1.out.trans (b2.mono B1.out.size))
  have W2 := Lib.hid (W1.out.below b2 W1.out.lt)
  clear d0 d1 d2 d3 b2 hl
  have d0 : w2.cell? ⟨w.heap.size, 0, none⟩ = some (.int .i64 n.kind) := W2.out.cell 0
  have d1 : w2.cell? ⟨w.heap.size, 1, none⟩ = some (.string n.text) := W2.out.cell 1
  have d2 : w2.cell? ⟨w.heap.size, 2, none⟩ = some (.slice A n.kids.length c) := W2.out.cell 2
  have d3 : w2.cell? ⟨w.heap.size, 3, none⟩ = some (.int .i64 n.place) := W2.out.cell 3
  clear DP W1 B1
  have e1 := DD.out
  cases hd : decide (depthN 101 n ≤ 100) with
  | false =>
    rw [hd] at e1
    go_wp2_with fail
    go_ret
    exact ⟨by rw [hd]; rfl, B2.out⟩
  | true =>
    rw [hd] at e1
    go_wp2_with fail
    refine (SZ.out w2 B2.out).mono ?_
    rintro e w3 ⟨rfl, b3⟩
    have B3 := Lib.hid (B2.out.trans (b3.mono B2.out.size))
    have W3 := Lib.hid (W2.out.below b3 W2.out.lt)
    clear d0 d1 d2 d3 b3
    have d0 : w3.cell? ⟨w.heap.size, 0, none⟩ = some (.int .i64 n.kind) := W3.out.cell 0
    have d1 : w3.cell? ⟨w.heap.size, 1, none⟩ = some (.string n.text) := W3.out.cell 1
    have d2 : w3.cell? ⟨w.heap.size, 2, none⟩ = some (.slice A n.kids.length c) := W3.out.cell 2
    have d3 : w3.cell? ⟨w.heap.size, 3, none⟩ = some (.int .i64 n.place) := W3.out.cell 3
    clear SZ W2 B2
    cases hz : decide (wrap64 (sizeN 100 n) ≤ 65536) with
    | false =>
      go_wp2_with fail
      go_ret
      exact ⟨by rw [hd, hz]; rfl, B3.out⟩
    | true =>
      have QB := Lib.hid (QA.out w3 B3.out)
      clear QA
      go_wp2_with fail
      refine QB.out.mono ?_
      rintro e w4 ⟨rfl, b4⟩
      have B4 := Lib.hid (B3.out.trans (b4.mono B3.out.size))
      clear b4
      go_wp2_with fail
      go_ret
      exact ⟨by rw [hd, hz]; rfl, B4.out⟩

set_option maxRecDepth 100000 in
theorem look_by {w : World} {b n : Nat} (h : w.ownsMap Tryz.prog 9 RF b n sortsD) (s : ByteArray) (kl : List UInt8) (hs : keyOf Tryz.prog 9 (.string s) = some (.string kl)) (fn : Nat) (e1 : has sortsD (.string kl) = true) (e2 : sortsD.atKey (.string kl) .nil = .lit (.int .i64 fn)) :
    (Instr.lookup 35 (.map (some b)) (.string s) true).run Tryz.prog w = .ok (.tuple #[.func (.func fn) #[] #[], .bool true]) w := by
  obtain ⟨v, ps, hrun, hv⟩ := h.look_ok (string_keyed (P := Tryz.prog) Tryz.underlying9) Tryz.underlying35 (z := .nilFunc) (zd := .nil) (zp := []) (by rfl) (by rfl) (key := .string s) (kl := .string kl) hs
  rw [e2] at hv
  rw [e1] at hrun
  obtain ⟨g, hg, rfl⟩ := RF_inv hv
  obtain rfl : g = fn := by omega
  exact hrun
set_option maxRecDepth 100000 in
theorem look31 : LookAt ⟨#[102, 105, 108, 101]⟩ 28 := fun w b n h => look_by h _ [102, 105, 108, 101] (by rfl) 28 (by rfl) (by rfl)
set_option maxRecDepth 100000 in
theorem look34 : LookAt ⟨#[100, 101, 99, 108, 97, 114, 97, 116, 105, 111, 110]⟩ 31 := fun w b n h => look_by h _ [100, 101, 99, 108, 97, 114, 97, 116, 105, 111, 110] (by rfl) 31 (by rfl) (by rfl)
set_option maxRecDepth 100000 in
theorem look36 : LookAt ⟨#[101, 120, 112, 114, 101, 115, 115, 105, 111, 110]⟩ 33 := fun w b n h => look_by h _ [101, 120, 112, 114, 101, 115, 115, 105, 111, 110] (by rfl) 33 (by rfl) (by rfl)
set_option maxRecDepth 100000 in
theorem look37 : LookAt ⟨#[115, 116, 97, 116, 101, 109, 101, 110, 116]⟩ 34 := fun w b n h => look_by h _ [115, 116, 97, 116, 101, 109, 101, 110, 116] (by rfl) 34 (by rfl) (by rfl)

theorem Know.file {w : World} {F : Nat} {g : Q → Nd → Bool} (k : Know w F g) : SaysF w (F + 1) 28 #[] (fileB g) := ⟨enters_of Tryz.func28 (by kernel_rfl) rfl, fun W v n hW hft hv => by
  have b := k.below hW
  by_cases h : n.kind = 1
  · have e : fileB g n = (nameB n.text && n.kids.all (declB g)) := by unfold fileB; rw [h]; rfl
    rw [e]
    exact file1_any g F v n W (b.decl.le (Nat.le_succ _)) h hft hv
  · have e : fileB g n = false := by
      unfold fileB
      have : (n.kind == 1) = false := by simpa using h
      rw [this]; rfl
    rw [e]
    exact fileo_any v F n W h hv⟩

end Go.Proofs.YtkmhijkpbmcgbaaGreat
