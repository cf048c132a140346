/-
  TreeSwaps holds where what comes in is of bulk at most 1048576: a node with another one in the place of some is as the document says, so are whether two are the same, and a copy.
-/
import Derived.Test.YtkmhijkpbmcgbaaRows
import Derived.WalkKit
import Derived.ProofKit
import Derived.OpenShut
import Derived.ShutString
import Derived.ChangeOld
import Derived.Below
import Derived.Test.YtkmhijkpbmcgbaaLawSwaps
import Derived.Test.YtkmhijkpbmcgbaaOpenUp
import Derived.JoinedCond
namespace Go.Proofs.Ytkmhijkpbmcgbaa.treeSwaps
set_option linter.all false
open Go.ChangeShapes Go.WideShapes Go.ChangeAt Go.RowKit
open Go.ChangeMaps (open_string shut_string)

theorem own : ownKnob Try.prog.godebug = none := by kernel_rfl
theorem laidOut : laidOutB Try.prog = true := by kernel_rfl
theorem cz32 : Try.prog.cellsOf 32 = 10 := by kernel_rfl

theorem one_le {H : Type} (d : DataW H) : 1 ≤ Rows.uptoBulk d := by
  cases d with
  | lit l => cases l <;> simp [Rows.uptoBulk]
  | nil => simp [Rows.uptoBulk]
  | ptr d => simp [Rows.uptoBulk]
  | slice elems spare => simp [Rows.uptoBulk]
  | agg parts => simp [Rows.uptoBulk]
  | iface t d => simp [Rows.uptoBulk]
  | map entries => simp [Rows.uptoBulk]
  | held h => simp [Rows.uptoBulk]

theorem opened {H : Type} {enc : TypeId × Value → H} {W : World} {cs : Array Value} {x : DataW H} {ps : List MemPlace} (h : DataW.Trod enc Try.prog W 0 (fun _ => true) true 32 (.agg cs) x ps) :
    ∃ (n b : Nd) (A Ab : Option Addr) (c cb : Nat) (kind : Int) (text : ByteArray) (f : Nat), Value.agg cs = .agg (swCells n b A Ab c cb kind text) ∧ NdV W f (n.val A c) n ∧ NdV W f (b.val Ab cb) b ∧ (∀ m, sizeN m n ≤ Rows.uptoBulk x) ∧ (∀ m, sizeN m b ≤ Rows.uptoBulk x) := by
  obtain ⟨fuel, hf⟩ := h
  obtain ⟨xs, m, hfu, hxx, hlen, hxl, hfi⟩ := DataW.trod_struct Try.underlying32 hf
  rw [cz32] at hlen
  have hlen2 : cs.toList.length = 10 := by simpa [Value.cells] using hlen
  match hcs : cs.toList, hlen2 with
  | [a0, a1, a2, a3, b0, b1, b2, b3, k, t], _ =>
    match xs, hxl with
    | [y0, y1, y2, y3], _ =>
      have h0 := hfi 0 _ rfl
      have h1 := hfi 1 _ rfl
      have h2 := hfi 2 _ rfl
      have h3 := hfi 3 _ rfl
      simp [cz3, cz9, cz24, Value.cells, hcs] at h0 h1 h2 h3
      obtain ⟨n, A, c, e0, hn, hbn⟩ := open_node_up _ _ _ h0
      obtain ⟨b, Ab, cb, e1, hb, hbb⟩ := open_node_up _ _ _ h1
      obtain ⟨kk, e2, _, _⟩ := DataW.trod_int Try.underlying3 h2
      obtain ⟨ss, e3, _, _⟩ := DataW.trod_string Try.underlying9 h3
      simp only [List.cons.injEq, and_true] at e0 e1 e2 e3
      obtain ⟨rfl, rfl, rfl, rfl⟩ := e0
      obtain ⟨rfl, rfl, rfl, rfl⟩ := e1
      subst e2 e3
      have hx : x = .agg ([y0, y1, y2, y3].map (·.1)) := (Prod.mk.inj hxx).1
      refine ⟨n, b, A, Ab, c, cb, kk, ss, _, ?_, hn, hb, fun q => ?_, fun q => ?_⟩
      · congr 1
        apply Array.toList_inj.1
        rw [hcs]
      · rw [hx]
        have := hbn q
        simp only [List.map_cons, List.map_nil, Rows.uptoBulk, Rows.uptoBulkAll]
        omega
      · rw [hx]
        have := hbb q
        simp only [List.map_cons, List.map_nil, Rows.uptoBulk, Rows.uptoBulkAll]
        omega

theorem contract (H : Type) (enc : TypeId × Value → H) (W : World) (base : Nat) (args : Array Value) (ds gs : List (DataW H)) (before : List MemPlace)
    (hval0 : ∀ (j : Nat) t v, Try.f5.params[j]? = some t → args[j]? = some v → Value.okWide Try.prog W .any base t v)
    (hW : DataW.Whole enc Try.prog Try.f5.params.toList Rows.treeSwapsSpec.vars false W args.toList ds gs before) (hk : Rows.uptoSmall H (ds ++ gs) = true) :
    Calls Try.prog 5 args W fun e W' => ∃ v, e = .returned v ∧ Rows.treeSwapsSpec.post enc Try.prog Try.f5 false true false false W args v W' := by
  have hval : ∀ (j : Nat) t v, Try.f5.params[j]? = some t → args[j]? = some v → Value.okWide Try.prog W .any base t v := hval0
  have hW' := hW
  obtain ⟨p, q, hA0, hV, rfl, hfz, hnd⟩ := hW
  have hA : DataW.TrodAll enc Try.prog W 0 (fun _ => true) true Try.f5.params.toList args.toList ds p := hA0
  rw [Try.params5] at hA hval
  obtain ⟨v0, vs0, d0, ds0, p0, q0, hargs, rfl, rfl, h0, r0⟩ := trodAll_cons hA
  obtain ⟨rfl, rfl, rfl⟩ := trodAll_nil r0
  obtain rfl : args = #[v0] := by cases args; simp_all
  obtain ⟨rfl, rfl⟩ := trodVars_none hV
  obtain ⟨cs, rfl, hsz⟩ := okWide_struct Try.underlying32 (hval 0 32 v0 rfl rfl)
  have k0 := h0
  have lt0 : ∀ x ∈ p0, x.block < W.heap.size := by obtain ⟨m, hm⟩ := k0; exact DataW.trod_lt m _ _ _ hm
  have hbk : Rows.uptoBulk d0 ≤ 1048576 := by
    have h := of_decide_eq_true hk
    simp only [List.append_nil, Rows.uptoBulkAll, Nat.add_zero] at h
    exact h
  obtain ⟨n, b, A, Ab, c, cb, kind, text, f, e0, hn, hb, hzn, hzb⟩ := opened h0
  clear hA0 hval0
  rw [e0] at hW' k0 ⊢
  refine (lawSwaps_walk f f n b A Ab c cb kind text W hn hb (fun m => Nat.le_trans (hzn m) hbk) (fun m => Nat.le_trans (hzb m) hbk)).mono fun e W' ⟨he, bel⟩ => ?_
  subst he
  exact ⟨_, rfl, _, _, _, [], _, [], hW', trodAll_mk1 (shut_bool Try.underlying4 _), (trodAll_cons_mk (Below.trod laidOut (by kernel_rfl) (of_decide_eq_true (by kernel_rfl)) k0 bel lt0) trodAll_mk0), rfl, bel.frame _, fun h => by cases h⟩

set_option maxRecDepth 100000 in
theorem lifted (os : Os) (started : os.Started) (H : Type) (enc : TypeId × Value → H) (F : Stop.Interp) :
    ReturnsInHanded {} Try.checked os 5 .any ((Rows.OpenSpec.upto Rows.treeSwapsSpec).pre6 enc Try.prog Try.f5 Rows.treeSwapsUptoRow.domain false) (((Rows.OpenSpec.upto Rows.treeSwapsSpec).at F).post enc Try.prog Try.f5 false true false false) := by
  refine returnsInHanded_of_cond (C := Try.checked) (s := Rows.OpenSpec.upto Rows.treeSwapsSpec) (k := Rows.uptoSmall) rfl own started (by kernel_rfl) Try.func5
    (OpenSpec.witness (enc := enc) (C := Try.checked) (s := Rows.OpenSpec.upto Rows.treeSwapsSpec) (k := Rows.uptoSmall) rfl false ⟨#[], #[.agg #[.int .i64 0, .string ⟨#[]⟩, .slice none 0 0, .int .i64 0, .int .i64 0, .string ⟨#[]⟩, .slice none 0 0, .int .i64 0, .int .i64 0, .string ⟨#[]⟩]], []⟩ 8 (by kernel_rfl) (by kernel_rfl) (by kernel_rfl)
      (x := ([.agg [.agg [.lit (.int .i64 0), .lit (.string []), .nil, .lit (.int .i64 0)], .agg [.lit (.int .i64 0), .lit (.string []), .nil, .lit (.int .i64 0)], .lit (.int .i64 0), .lit (.string [])]], [], [])) (by kernel_rfl) rfl (by kernel_rfl)) ?_
  intro W base args ds gs before hval hW _ hk _
  exact contract H enc W base args ds gs before hval hW hk

theorem over : Rows.treeSwapsUptoRow.holds Try.pinned (Rows.OpenSpec.upto Rows.treeSwapsSpec) :=
  OpenClaim.holds_of_cond 5 Try.f5 rfl rfl rfl rfl rfl rfl rfl ⟨rfl, rfl, rfl, rfl, rfl⟩ rfl rfl rfl rfl rfl (by kernel_rfl) Try.func5 (by kernel_rfl)
    (of_decide_eq_true (by kernel_rfl)) (by unfold Func.isWrapper; first | (rw [if_pos (by decide +kernel)]; kernel_rfl) | (rw [if_neg (by decide +kernel)]; exact ⟨rfl, rfl⟩))
    (fun os started H enc _ F => lifted os started H enc F)

/-- THE STATEMENT -/
theorem proved : Rows.TreeSwapsUptoSaid := over
#print axioms proved
end Go.Proofs.Ytkmhijkpbmcgbaa.treeSwaps
