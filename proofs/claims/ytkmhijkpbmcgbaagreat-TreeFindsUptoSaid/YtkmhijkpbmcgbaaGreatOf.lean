/-
  The program's of and named: walks.
-/
import Derived.Test.YtkmhijkpbmcgbaaGreatAll
namespace Go.Proofs.YtkmhijkpbmcgbaaGreat
set_option linter.all false
open Go.RowKit Go.Shelf

/-- A function value's answer on one node. -/
def AnsAt (w : World) (f : Nat) (g : Nat) (cb : Array Value) (k : Nd) (r : Bool) : Prop :=
  (∀ args w, (callFunc g args).run Tryz.prog w = .ok (.enter g args) w) ∧ ∀ W v, Below w.heap.size w W → NdV W f v k → Calls Tryz.prog g (#[v] ++ cb) W fun e W' => e = .returned (.bool r) ∧ Below W.heap.size W W'
theorem AnsAt.below {w w' : World} (hb : Below w.heap.size w w') {f g : Nat} {cb : Array Value} {k : Nd} {r : Bool} (h : AnsAt w f g cb k r) : AnsAt w' f g cb k r :=
  ⟨h.1, fun W v hW hv => h.2 W v (hb.trans (hW.mono hb.size)) hv⟩
theorem SaysAt.ans {w : World} {f g : Nat} {cb : Array Value} {q : Nd → Bool} (h : SaysAt w f g cb q) (k : Nd) : AnsAt w f g cb k (q k) := ⟨h.1, fun W v hW hv => h.2 W v k hW hv⟩

/-- A slice of function values. -/
def FsAt (w : World) (F : Option Addr) (fs : List (Nat × Array Value)) : Prop := 0 < fs.length → ∃ b off, F = some ⟨b, off, none⟩ ∧ ∀ i g, fs[i]? = some g → w.cell? ⟨b, off + i, none⟩ = some (.func (.func g.1) #[] g.2)
theorem FsAt.below {w w' : World} (hb : Below w.heap.size w w') {F : Option Addr} {fs : List (Nat × Array Value)} (h : FsAt w F fs) : FsAt w' F fs := fun h0 => by
  obtain ⟨b, off, hA, hi⟩ := h h0
  exact ⟨b, off, hA, fun i g hg => (hb.cell (cell_lt (hi i g hg))).trans (hi i g hg)⟩

def OfRel (w : World) (n : Nd) (A : Option Addr) (c : Nat) (qs : List (Nd → Bool)) (i : Value) (W : World) : Prop :=
  ∃ p : Nat, p ≤ n.kids.length ∧ i = .int .i64 p ∧ ((n.kids.take p).zip (qs.take p)).all (fun x => x.2 x.1) = true ∧ Below w.heap.size w W ∧ Whole W w.heap.size 24 #[.int .i64 n.kind, .string n.text, .slice A n.kids.length c, .int .i64 n.place]

def ofN (n : Nd) (kind : Int) (qs : List (Nd → Bool)) : Bool := n.kind == kind && n.text.toList.isEmpty && (n.kids.length == qs.length) && (n.kids.zip qs).all (fun x => x.2 x.1)

set_option maxRecDepth 100000 in
set_option maxHeartbeats 2000000 in
theorem of_c (f : Nat) (v : Value) (n : Nd) (kind : Int) (F : Option Addr) (cf : Nat) (fs : List (Nat × Array Value)) (qs : List (Nd → Bool)) (hlen : qs.length = fs.length) (hfl : fs.length ≤ 1000) (w : World) (hv : NdV w (f + 1) v n) (hF : FsAt w F fs)
    (ha : ∀ (i : Nat) (g : Nat × Array Value) (q : Nd → Bool) (k : Nd), fs[i]? = some g → qs[i]? = some q → n.kids[i]? = some k → AnsAt w f g.1 g.2 k (q k)) :
    Calls Tryz.prog 59 #[v, .int .i64 kind, .slice F fs.length cf] w fun e w' => e = .returned (.bool (ofN n kind qs)) ∧ Below w.heap.size w w' := by
  obtain ⟨A, c, rfl, ⟨hm, hcap⟩, hc⟩ := hv
  have hb : Below w.heap.size w (w.alloc (.cells #[.int .i64 n.kind, .string n.text, .slice A n.kids.length c, .int .i64 n.place] 24)) := (Below.refl _ w).alloc (Nat.le_refl _) _
  have HB := Lib.hid hb
  have HC := Lib.hid hc
  have HF := Lib.hid hF
  have HA := Lib.hid ha
  have HL := Lib.hid hlen
  clear hb hc hF ha
  unfold Nd.val
  cases hk : (n.kind == kind) with
  | false =>
    have hk2 : ¬ n.kind = kind := by simpa using hk
    have hk3 : (n.kind != kind) = true := by simpa using hk
    have e : ofN n kind qs = false := by unfold ofN; rw [hk]; simp
    rw [e]
    clear e hlen
    go_enter Tryz.func59, Tryz.ntmps59
    go_wp2_with fail
    go_ret
    exact ⟨rfl, HB.out⟩
  | true =>
  have hk2 : n.kind = kind := by simpa using hk
  subst hk2
  have hk3 : (n.kind != n.kind) = false := by simp
  cases ht : n.text.toList.isEmpty with
  | false =>
    have ht3 : (!n.text.toList.isEmpty) = true := by rw [ht]; rfl
    have e : ofN n n.kind qs = false := by unfold ofN; rw [ht]; simp
    rw [e]
    clear e hlen
    go_enter Tryz.func59, Tryz.ntmps59
    go_wp2_with fail
    go_ret
    exact ⟨rfl, HB.out⟩
  | true =>
  have ht3 : (!n.text.toList.isEmpty) = false := by rw [ht]; rfl
  by_cases hne : n.kids.length = fs.length
  · have e : ofN n n.kind qs = (n.kids.zip qs).all (fun x => x.2 x.1) := by unfold ofN; rw [hk, ht, hne, hlen]; simp
    rw [e]
    clear e hlen
    have d0 : ((n.kids.length : Int) == (fs.length : Int)) = true := by rw [hne]; simp
    have d1 : ((n.kids.length : Int) != (fs.length : Int)) = false := by rw [hne]; simp
    have HN := Lib.hid hne
    clear hne
    go_enter Tryz.func59, Tryz.ntmps59
    go_wp2_with fail
    go_loopw [28] (fun i W => OfRel w n A c qs i W) (fun i _ => n.kids.length - (intOf i).toNat)
    case atStart => exact ⟨0, Nat.zero_le _, rfl, by simp, HB.out, Whole.new w 24 _⟩
    case round =>
      obtain ⟨p, hp, rfl, hall, hbw, hw⟩ := hrel
      have q1 := hw.lt
      have c2 : wr.cell? ⟨w.heap.size, 2, none⟩ = some (.slice A n.kids.length c) := hw.cell 2
      by_cases hpl : p < n.kids.length
      · obtain ⟨b, off, k, A', c', hAe, hkk, hbl, k0, k1, k2, k3, k5⟩ := kid_cells HC.out hbw hpl
        have hpf : p < fs.length := by have := HN.out; omega
        obtain ⟨b2, off2, hFe, hfi⟩ := (HF.out.below hbw) (by omega)
        obtain ⟨g, hg⟩ : ∃ g, fs[p]? = some g := ⟨_, List.getElem?_eq_getElem hpf⟩
        obtain ⟨q, hq⟩ : ∃ q, qs[p]? = some q := ⟨_, List.getElem?_eq_getElem (by have := HL.out; omega)⟩
        have gc := hfi p g hg
        have hans := HA.out p g q k hg hq hkk
        obtain ⟨g, cb⟩ := g
        have eg := hans.1
        have hc := hans.2 wr _ hbw (k5.below hbw)
        have HCC := Lib.hid hc
        have HW := Lib.hid hw
        have HBW := Lib.hid hbw
        have HK := Lib.hid hkk
        have HQ := Lib.hid hq
        have HAL := Lib.hid hall
        have hp2 : p < 9223372036854775807 := by omega
        subst hAe hFe
        clear hc hw hbw k5 hans hkk hq hall hfi hg
        unfold Nd.val at HCC
        go_wp2_with fail
        refine HCC.out.mono ?_
        rintro e w1 ⟨rfl, b1⟩
        have W1 := Lib.hid (HW.out.below b1 q1)
        have B1 := Lib.hid (HBW.out.trans (b1.mono HBW.out.size))
        clear b1 HW HBW HCC
        cases hr : q k with
        | true =>
          go_wp2_with fail
          go_roundw
          case rel =>
            have hd : OfRel w n (some ⟨b, off, none⟩) c qs (.int .i64 ((p : Int) + 1)) w1 := ⟨p + 1, by omega, rfl, by
              rw [take_snoc HK.out, take_snoc HQ.out, List.zip_append (by have := HL.out; have := HN.out; simp; omega), List.all_append, HAL.out]; simp [hr], B1.out, W1.out⟩
            first | exact hd | ((repeat apply Exists.intro); exact ⟨hd, rfl⟩)
          case measure => simp [intOf]; omega
        | false =>
          have e : (n.kids.zip qs).all (fun x => x.2 x.1) = false := by
            rw [List.all_eq_false]
            refine ⟨(k, q), ?_, by simp [hr]⟩
            apply List.mem_of_getElem? (i := p)
            rw [List.getElem?_zip_eq_some]
            exact ⟨HK.out, HQ.out⟩
          have E := Lib.hid e
          clear e
          go_wp2_with fail
          go_ret
          exact ⟨by rw [E.out]; rfl, B1.out⟩
      · have e : (n.kids.zip qs).all (fun x => x.2 x.1) = true := by
          rw [List.take_of_length_le (by omega), List.take_of_length_le (by have := HL.out; have := HN.out; omega)] at hall
          exact hall
        have E := Lib.hid e
        have B1 := Lib.hid hbw
        have hpf : ¬ p < fs.length := by have := HN.out; omega
        clear hall hbw hw e
        go_wp2_with fail
        go_ret
        exact ⟨by rw [E.out]; rfl, B1.out⟩
  · have e : ofN n n.kind qs = false := by
      have : (n.kids.length == qs.length) = false := by rw [hlen]; simpa using hne
      unfold ofN; rw [this]; simp
    rw [e]
    clear e
    have d0 : ((n.kids.length : Int) == (fs.length : Int)) = false := by simp; omega
    have d1 : ((n.kids.length : Int) != (fs.length : Int)) = true := by simp; omega
    clear hlen
    go_enter Tryz.func59, Tryz.ntmps59
    go_wp2_with fail
    go_ret
    exact ⟨rfl, HB.out⟩

end Go.Proofs.YtkmhijkpbmcgbaaGreat
