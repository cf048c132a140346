/-
  A region that draws its order, walked in one line: loads are taken first; a cell that the region itself writes need hold only till that store has come up.
-/
import Derived.Deep.RegionHeld3
import Derived.StillTail
import Derived.OrdersIn
import Derived.OwnWalkIn
import Derived.Lib.Hide
import Derived.Below
namespace Go.Proofs.YtkmhijkpbmcgbaaGreat.Held
set_option linter.all false
open Go Go.RowKit

section
variable {P : Program} {ops : Array Oper} {Q : Exit → Act → World → Prop} {md : Region.Mode}

/-- What holds all the way, and what holds till one operation has come up. -/
def S (C0 C1 : World → Prop) (st : Nat) (L : Array Bool) (w : World) : Prop := C0 w ∧ (L.getD st false = false → C1 w)
/-- Who has come up came up behind those for whom it waits. -/
def Closed (md : Region.Mode) (ops : Array Oper) (L : Array Bool) : Prop := L.size = ops.size ∧ ∀ j oj, ops[j]? = some oj → L.getD j false = true → ∀ e ∈ oj.after, Region.binds md e = true → L.getD e.on false = true
/-- Each waits for the next. -/
def pathB (md : Region.Mode) (ops : Array Oper) : Nat → List Nat → Bool
  | _, [] => true
  | j, i :: l => Region.waitsFor md ops j i && pathB md ops i l

theorem closed_start : Closed md ops (Array.replicate ops.size false) := ⟨by simp, fun j oj hj h => by rw [getD_replicate_false] at h; cases h⟩
theorem Closed.set {i : Nat} {L : Array Bool} (h : Closed md ops L) (hi : i ∈ Region.ready md ops L) : Closed md ops (L.setIfInBounds i true) := by
  obtain ⟨_, oi, hoi, hall⟩ := mem_ready.1 hi
  refine ⟨by simp [h.1], fun j oj hj hl e he hb => ?_⟩
  by_cases hij : i = j
  · subst hij
    have : oj = oi := Option.some.inj (hj.symm.trans hoi)
    subst this
    exact getD_set_true (hall e he hb)
  · rw [getD_set_ne false hij] at hl
    exact getD_set_true (h.2 j oj hj hl e he hb)
theorem Closed.path {L : Array Bool} (h : Closed md ops L) : ∀ {j i : Nat} {l : List Nat}, pathB md ops j (l ++ [i]) = true → L.getD i false = false → L.getD j false = false
  | j, i, [], hp, hu => by
    simp only [List.nil_append, pathB, Bool.and_true] at hp
    obtain ⟨oj, hoj, e, he, hb, hon⟩ := Region.waitsFor_spec hp
    cases hl : L.getD j false with
    | false => rfl
    | true => have := h.2 j oj hoj hl e he hb; rw [hon, hu] at this; cases this
  | j, i, k :: l, hp, hu => by
    simp only [List.cons_append, pathB, Bool.and_eq_true] at hp
    have hk := h.path (j := k) (l := l) hp.2 hu
    obtain ⟨oj, hoj, e, he, hb, hon⟩ := Region.waitsFor_spec hp.1
    cases hl : L.getD j false with
    | false => rfl
    | true => have := h.2 j oj hoj hl e he hb; rw [hon, hk] at this; cases this

/-- One operation comes up. -/
def Op1 (P : Program) (ops : Array Oper) (Q : Exit → Act → World → Prop) (i : Nat) (K : Act → World → Prop) (a : Act) (w : World) : Prop :=
  match ops[i]? with
  | none => K a w
  | some o => if Region.wanted o (yielded ops a.tmps) then o.wp P a w K Q else K (a.put o.dst undef) w
theorem Op1.mono {i : Nat} {a : Act} {w : World} {K K' : Act → World → Prop} (h : ∀ a w, K a w → K' a w) (hh : Op1 P ops Q i K a w) : Op1 P ops Q i K' a w := by
  unfold Op1 at *
  split
  · exact h _ _ (by simpa [*] using hh)
  · rename_i o ho
    simp only [ho] at hh
    split
    · rename_i hw
      simp only [hw, if_true] at hh
      unfold Oper.wp at *
      generalize (execOp a.eval o).run P w = r at *
      cases r with
      | ok x w' =>
        cases x <;> simp only [Oper.upon] at hh ⊢ <;>
          first
            | exact h _ _ hh
            | exact Calls.mono hh (fun e w'' he => by cases e <;> first | exact h _ _ he | exact he)
            | exact Rows.mono hh (fun _ _ he => h _ _ he)
      | halt x w' => cases x <;> simp only [Oper.upon] at hh ⊢ <;> exact hh
    · rename_i hw; simp only [hw] at hh; exact h _ _ hh
theorem Op1.wpOp {i : Nat} {a : Act} {w : World} {K : Act → World → Prop} (hh : Op1 P ops Q i K a w) : wpOp P ops Q i K a w := by
  unfold Op1 at hh
  unfold Go.wpOp
  split
  · rename_i ho; simpa [ho] using hh
  · rename_i o ho
    simp only [ho] at hh
    split
    · rename_i hw; simp only [hw, if_true] at hh; exact .inl hh
    · rename_i hw; simp only [hw] at hh; exact hh
theorem yields {i : Nat} {o : Oper} {v : Value} {a : Act} {R : World → Prop} (hi : ops[i]? = some o) (hy : YieldsIf P ops R o v a) {K : Act → World → Prop} {w : World} (hS : R w) (h : K (a.put o.dst v) w) : Op1 P ops Q i K a w := by
  unfold Op1
  simp only [hi]
  rcases hy with ⟨hw, hv⟩ | ⟨hw, rfl⟩
  · simp only [hw, if_true, Oper.wp, hv w hS, Oper.upon]; exact h
  · simp only [hw, Bool.false_eq_true, if_false]; exact h
theorem op1_step {i : Nat} {o : Oper} {K : Act → World → Prop} {a : Act} {w : World} (ho : ops[i]? = some o)
    (h : ∀ K' : Act → World → Prop, (∀ a w, K a w → K' a w) → if Region.wanted o (yielded ops a.tmps) = true then Oper.wp P o a w K' Q else K' (a.put o.dst undef) w) : Op1 P ops Q i K a w := by
  unfold Op1
  rw [ho]
  exact h K (fun _ _ h => h)
theorem op1_put {R : World → Prop} {j : Nat} {oi oj : Oper} {v : Value} (hj : ops[j]? = some oj) (hap : oi.apart ops oj = true)
    (hsi : ∀ cs b, oi.op ≠ .select cs b) (hsj : ∀ cs b, oj.op ≠ .select cs b)
    (hQ : ∀ c a w, Q (.panic c) (a.put oi.dst v) w → Q (.panic c) a w) {K : Act → World → Prop} {a : Act} {w : World}
    (hy : YieldsIf P ops R oi v a) (h : Op1 P ops Q j K (a.put oi.dst v) w) :
    Op1 P ops Q j (fun a' w' => YieldsIf P ops R oi v a' ∧ K (a'.put oi.dst v) w') a w := by
  obtain ⟨h1, h2, h3⟩ := Oper.apart_spec hap
  have keep : ∀ (a : Act), YieldsIf P ops R oi v a → ∀ u, YieldsIf P ops R oi v (a.put oj.dst u) := fun a hy u =>
    hy.of_same (execOp_put oi hsi a oj.dst u h3) (wanted_put oi a oj.dst u h3)
  have keepD : ∀ d, YieldsIf P ops R oi v { a with defers := d :: a.defers } := fun d => hy.of_same rfl rfl
  unfold Op1 at *
  simp only [hj] at *
  rw [wanted_put oj a oi.dst v h1] at h
  split
  · rename_i hw
    simp only [hw, if_true] at h
    unfold Oper.wp at *
    rw [execOp_put oj hsj a oi.dst v h1] at h
    generalize (execOp a.eval oj).run P w = r at *
    cases r with
    | ok n w' =>
      cases n <;> simp only [Oper.upon] at h ⊢
      case value u => exact ⟨keep a hy u, by rw [← Act.put_comm a v u h2]; exact h⟩
      case skip => exact ⟨keep a hy _, by rw [← Act.put_comm a v undef h2]; exact h⟩
      case defer d =>
        refine ⟨keep _ (keepD d) _, ?_⟩
        rw [← Act.put_comm _ v undef h2, ← Act.put_defers]
        exact h
      case enter f args =>
        refine Calls.mono h fun e w'' he => ?_
        cases e with
        | returned u => exact ⟨keep a hy u, by rw [← Act.put_comm a v u h2]; exact he⟩
        | panicked c => exact hQ _ _ _ he
        | outgrown => exact he
      case row row args => exact Rows.mono h fun u w'' he => ⟨keep a hy u, by rw [← Act.put_comm a v u h2]; exact he⟩
    | halt x w' =>
      cases x <;> simp only [Oper.upon] at h ⊢
      case panic u => exact hQ _ _ _ h
  · rename_i hw
    simp only [hw] at h
    exact ⟨keep a hy _, by rw [← Act.put_comm a v undef h2]; exact h⟩

/-- Whatever order is picked from here on. -/
def Any (P : Program) (md : Region.Mode) (ops : Array Oper) (Q : Exit → Act → World → Prop) (C0 C1 : World → Prop) (st : Nat) : Nat → Array Bool → Act → World → Prop
  | 0, L, a, w => Region.ready md ops L = [] ∧ Q .normal a w
  | fuel + 1, L, a, w => (Region.ready md ops L = [] → Q .normal a w) ∧
    ∀ i ∈ Region.ready md ops L, Op1 P ops Q i (fun a' w' => S C0 C1 st (L.setIfInBounds i true) w' ∧ Any P md ops Q C0 C1 st fuel (L.setIfInBounds i true) a' w') a w
variable {C0 C1 : World → Prop} {st : Nat}

theorem any_of : ∀ (fuel : Nat) (L : Array Bool) (a : Act) (w : World), Any P md ops Q C0 C1 st fuel L a w → wpAny P md ops Q fuel L a w
  | 0, _, _, _, h => h
  | fuel + 1, _, _, _, h => ⟨h.1, fun i hi => wpOp_mono (fun a' w' h' => any_of fuel _ a' w' h'.2) (h.2 i hi).wpOp⟩

theorem un {i : Nat} {L : Array Bool} (h : L.getD i true = false) : L.getD i false = false := getD_both h

theorem first {i : Nat} {oi : Oper} {v : Value} (b : Bool) (l : List Nat) (hi : ops[i]? = some oi) (his : i ≠ st) (hpath : b = true → pathB md ops st (l ++ [i]) = true) (hsel : ∀ (j : Nat) (o : Oper) cs b, ops[j]? = some o → o.op ≠ .select cs b)
    (hQ : ∀ c a w, Q (.panic c) (a.put oi.dst v) w → Q (.panic c) a w) :
    ∀ (fuel : Nat) (L : Array Bool) (a : Act) (w : World),
      (∀ j oj, ops[j]? = some oj → j ≠ i → L.getD j true = false → (∀ e ∈ oj.after, Region.binds md e = true → e.on ≠ i) → oi.apart ops oj = true) →
      i ∈ Region.ready md ops L → YieldsIf P ops (fun w => C0 w ∧ (b = true → C1 w)) oi v a → Closed md ops L → S C0 C1 st L w →
      Any P md ops Q C0 C1 st fuel (L.setIfInBounds i true) (a.put oi.dst v) w → Any P md ops Q C0 C1 st (fuel + 1) L a w := by
  intro fuel
  induction fuel with
  | zero =>
    intro L a w _ hr hy hC hS H
    have hun := un (mem_ready.1 hr).1
    refine ⟨fun h => (by rw [h] at hr; cases hr), fun j hj => ?_⟩
    by_cases hji : j = i
    · subst hji
      exact yields hi hy ⟨hS.1, fun hb => hS.2 (hC.path (hpath hb) hun)⟩ ⟨⟨hS.1, fun h => hS.2 (by rw [getD_set_ne false his] at h; exact h)⟩, H⟩
    · have := ready_mono hj hji
      rw [H.1] at this
      cases this
  | succ fuel ih =>
    intro L a w hfree hr hy hC hS H
    have hun := un (mem_ready.1 hr).1
    refine ⟨fun h => (by rw [h] at hr; cases hr), fun j hj => ?_⟩
    by_cases hji : j = i
    · subst hji
      exact yields hi hy ⟨hS.1, fun hb => hS.2 (hC.path (hpath hb) hun)⟩ ⟨⟨hS.1, fun h => hS.2 (by rw [getD_set_ne false his] at h; exact h)⟩, H⟩
    · have h1 := H.2 j (ready_mono hj hji)
      obtain ⟨hjun, oj, hoj, hall⟩ := mem_ready.1 hj
      have hnot : ∀ e ∈ oj.after, Region.binds md e = true → e.on ≠ i := fun e he hb heq => by
        have h1 := hall e he hb
        rw [heq, hun] at h1
        cases h1
      have h2 := op1_put hoj (hfree j oj hoj hji hjun hnot) (fun cs b => hsel i oi cs b hi) (fun cs b => hsel j oj cs b hoj) hQ hy h1
      have hfree' : ∀ k ok, ops[k]? = some ok → k ≠ i → (L.setIfInBounds j true).getD k true = false →
          (∀ e ∈ ok.after, Region.binds md e = true → e.on ≠ i) → oi.apart ops ok = true := fun k ok hk hki hu hno => by
        refine hfree k ok hk hki ?_ hno
        by_cases hjk : j = k
        · subst hjk; exact hjun
        · rw [getD_set_ne true hjk] at hu; exact hu
      refine Op1.mono (fun a' w' h3 => ?_) h2
      obtain ⟨hy', hS', hA⟩ := h3
      have hS2 : S C0 C1 st (L.setIfInBounds j true) w' := ⟨hS'.1, fun h => hS'.2 (by rw [Array.setIfInBounds_comm _ _ (Ne.symm hji), getD_set_ne false his]; exact h)⟩
      refine ⟨hS2, ih (L.setIfInBounds j true) a' w' hfree' (ready_mono hr (Ne.symm hji)) hy' (hC.set hj) hS2 ?_⟩
      rw [Array.setIfInBounds_comm _ _ hji]
      exact hA

/-- The goal of a walk. -/
def Goal (P : Program) (md : Region.Mode) (ops : Array Oper) (Q : Exit → Act → World → Prop) (C0 C1 : World → Prop) (st : Nat) (fuel : Nat) (L : Array Bool) (a : Act) (w : World) : Prop :=
  Closed md ops L → S C0 C1 st L w → Any P md ops Q C0 C1 st fuel L a w

theorem take {i : Nat} {oi : Oper} {v : Value} {fuel : Nat} {L : Array Bool} {a : Act} {w : World} (b : Bool) (l : List Nat) (hi : ops[i]? = some oi) (his : (i == st) = false) (hpath : (!b || pathB md ops st (l ++ [i])) = true)
    (hs : Region.noSelect ops = true) (hf : Region.free md ops L i = true) (hr : (Region.ready md ops L).contains i = true)
    (hQ : ∀ c a w, Q (.panic c) (a.put oi.dst v) w → Q (.panic c) a w) (hy : YieldsIf P ops (fun w => C0 w ∧ (b = true → C1 w)) oi v a)
    (h : Goal P md ops Q C0 C1 st fuel (L.setIfInBounds i true) (a.put oi.dst v) w) : Goal P md ops Q C0 C1 st (fuel + 1) L a w := fun hC hS => by
  have hr' : i ∈ Region.ready md ops L := by simpa using hr
  have hne : i ≠ st := by simpa using his
  refine first b l hi hne (fun hb => by simpa [hb] using hpath) (Region.noSelect_spec hs) hQ fuel L a w (Region.free_spec hi hf) hr' hy hC hS ?_
  exact h (hC.set hr') ⟨hS.1, fun h => hS.2 (by rw [getD_set_ne false hne] at h; exact h)⟩

theorem step {i : Nat} {o : Oper} {fuel : Nat} {L : Array Bool} {a : Act} {w : World} (ho : ops[i]? = some o) (hr : Region.ready md ops L = [i])
    (h : ∀ K' : Act → World → Prop, Hid (∀ a w, S C0 C1 st (L.setIfInBounds i true) w → Goal P md ops Q C0 C1 st fuel (L.setIfInBounds i true) a w → K' a w) → if Region.wanted o (yielded ops a.tmps) = true then Oper.wp P o a w K' Q else K' (a.put o.dst undef) w) :
    Goal P md ops Q C0 C1 st (fuel + 1) L a w := fun hC hS => by
  refine ⟨fun h0 => (by rw [h0] at hr; cases hr), fun j hj => ?_⟩
  have hj' := hj
  rw [hr] at hj'
  obtain rfl : j = i := by simpa using hj'
  exact op1_step ho (fun K' hK => h K' (Lib.hid fun a w hS hG => hK a w ⟨hS, hG (hC.set hj) hS⟩))

theorem step2 {i j : Nat} {o o' : Oper} {fuel : Nat} {L : Array Bool} {a : Act} {w : World} (ho : ops[i]? = some o) (ho' : ops[j]? = some o') (hr : Region.ready md ops L = [i, j])
    (h : ∀ K' : Act → World → Prop, Hid (∀ a w, S C0 C1 st (L.setIfInBounds i true) w → Goal P md ops Q C0 C1 st fuel (L.setIfInBounds i true) a w → K' a w) → if Region.wanted o (yielded ops a.tmps) = true then Oper.wp P o a w K' Q else K' (a.put o.dst undef) w)
    (h' : ∀ K' : Act → World → Prop, Hid (∀ a w, S C0 C1 st (L.setIfInBounds j true) w → Goal P md ops Q C0 C1 st fuel (L.setIfInBounds j true) a w → K' a w) → if Region.wanted o' (yielded ops a.tmps) = true then Oper.wp P o' a w K' Q else K' (a.put o'.dst undef) w) :
    Goal P md ops Q C0 C1 st (fuel + 1) L a w := fun hC hS => by
  refine ⟨fun h0 => (by rw [h0] at hr; cases hr), fun k hk => ?_⟩
  have hk' := hk
  rw [hr] at hk'
  rcases List.mem_cons.1 hk' with rfl | h2
  · exact op1_step ho (fun K' hK => h K' (Lib.hid fun a w hS hG => hK a w ⟨hS, hG (hC.set hk) hS⟩))
  · obtain rfl : k = j := by simpa using h2
    exact op1_step ho' (fun K' hK => h' K' (Lib.hid fun a w hS hG => hK a w ⟨hS, hG (hC.set hk) hS⟩))

theorem done {L : Array Bool} {a : Act} {w : World} (hr : Region.ready md ops L = []) (h : Q .normal a w) : ∀ fuel, Goal P md ops Q C0 C1 st fuel L a w
  | 0 => fun _ _ => ⟨hr, h⟩
  | _ + 1 => fun _ _ => ⟨fun _ => h, by rw [hr]; simp⟩

/-- Is no operation a deferral? -/
def noDefer (ops : Array Oper) : Bool := ops.toList.all fun o => match o.op with | .defer _ => false | _ => true
theorem any_in {l n : Nat} (hd : noDefer ops = true) : ∀ (fuel : Nat) (L : Array Bool) (a : Act) (w : World), Any P md ops Q C0 C1 st fuel L a w → wpAnyIn (Fence.wide.inRound l) n P md ops Q fuel L a w
  | 0, _, _, _, h => h
  | fuel + 1, L, a, w, h => ⟨h.1, fun i hi => by
    have h2 : Op1 P ops Q i (wpAnyIn (Fence.wide.inRound l) n P md ops Q fuel (L.setIfInBounds i true)) a w := Op1.mono (fun a' w' h' => any_in hd fuel _ a' w' h'.2) (h.2 i hi)
    unfold Op1 at h2
    unfold wpOpIn
    split
    · rename_i ho; simpa [ho] using h2
    · rename_i o ho
      simp only [ho] at h2
      have hno : ∀ c, o.op ≠ .defer c := fun c hc => by
        have hm : o ∈ ops.toList := by
          rw [← Array.getElem?_toList] at ho
          exact List.mem_of_getElem? ho
        have := List.all_eq_true.1 hd o hm
        rw [hc] at this
        cases this
      split
      · rename_i hw
        simp only [hw, if_true] at h2
        refine ⟨fun _ _ => trivial, ?_⟩
        rw [Oper.semAt_plain _ _ _ hno]
        unfold Oper.wp at h2
        generalize (execOp a.eval o).run P w = r at *
        cases r with
        | ok x w' =>
          cases x <;> simp only [Oper.upon, Oper.uponIn] at h2 ⊢ <;>
            first
              | exact h2
              | exact ⟨fun h => (by cases h), callsIn_wide.2 h2⟩
              | exact ⟨fun h => (by cases h), fun c cs _ => let ⟨v, w', r, s⟩ := h2 c cs; ⟨v, w', r, stepsIn_wide.2 s⟩⟩
        | halt x w' => cases x <;> simp only [Oper.upon, Oper.uponIn] at h2 ⊢ <;> exact h2
      · rename_i hw
        simp only [hw] at h2
        exact ⟨fun _ _ => trivial, h2⟩⟩

/-- The beginning, in a round of a range over a function. -/
theorem beginIn_ (C0 C1 : World → Prop) (st : Nat) {l n : Nat} {id : Nat} {a : Act} {w : World} (hm : P.follows .mixedOrders = true) (hd : noDefer ops = true) (h0 : C0 w.drew) (h1 : C1 w.drew)
    (h : Goal P .any ops Q C0 C1 st ops.size (Array.replicate ops.size false) a w.drew) : (Code.region id ops true).wpIn (Fence.wide.inRound l) n P Q a w :=
  wpIn_region_any hm (any_in hd _ _ _ _ (h closed_start ⟨h0, fun _ => h1⟩))

theorem begin_ (C0 C1 : World → Prop) (st : Nat) {id : Nat} {a : Act} {w : World} (hm : P.follows .mixedOrders = true) (h0 : C0 w.drew) (h1 : C1 w.drew)
    (h : Goal P .any ops Q C0 C1 st ops.size (Array.replicate ops.size false) a w.drew) : (Code.region id ops true).wp P Q a w :=
  wp_region_any hm (any_of _ _ _ _ (h closed_start ⟨h0, fun _ => h1⟩))

end
end Go.Proofs.YtkmhijkpbmcgbaaGreat.Held
