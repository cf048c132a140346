/-
  The reference's questions answer as the plain functions say, at whatever depth.
-/
import Derived.Test.YtkmhijkpbmcgbaaGreatRefStmts
import Derived.Test.YtkmhijkpbmcgbaaGreatRefDecls
import Derived.Test.YtkmhijkpbmcgbaaGreatRefExprs
import Derived.Test.YtkmhijkpbmcgbaaGreatRefLists
namespace Go.Proofs.YtkmhijkpbmcgbaaGreat
set_option linter.all false
open Go.RowKit Go.Shelf

theorem typ_kinds : ∀ (F : Nat) (k : Nd), isN F .typ k = true → k.kind = 10 ∨ k.kind = 11 ∨ k.kind = 12
  | 0, _, h => by cases h
  | F + 1, k, h => by
    have h : typB (isN F) k = true := h
    unfold typB at h
    split at h
    · exact .inl ‹_›
    split at h
    · exact .inr (.inl ‹_›)
    split at h
    · exact .inr (.inr ‹_›)
    cases h
section
variable {w : World} {F : Nat}
theorem RKnow.inter (k : RKnow w F (isN F)) : SaysF w (F + 1) 41 #[] (interB (isN F)) := ⟨enters_of Tryz.func41 (by kernel_rfl) rfl, fun W v n hW hft hv => rinter_any _ F v n W (k.typ.below hW) hft hv⟩
theorem RKnow.fields (k : RKnow w F (isN F)) : SaysF w (F + 1) 40 #[] (structB (isN F)) := ⟨enters_of Tryz.func40 (by kernel_rfl) rfl, fun W v n hW hft hv => rfields_any _ F v n W (k.typ.below hW) hft hv⟩
theorem RKnow.params (k : RKnow w F (isN F)) : SaysF w (F + 1) 38 #[] (paramsB (isN F)) := ⟨enters_of Tryz.func38 (by kernel_rfl) rfl, fun W v n hW hft hv => rparams_any _ F v n W (k.typ.below hW) ((k.inter.le (Nat.le_succ _)).below hW) hft hv⟩
theorem RKnow.var (k : RKnow w F (isN F)) : SaysF w (F + 1) 37 #[] (varB (isN F)) := ⟨enters_of Tryz.func37 (by kernel_rfl) rfl, fun W v n hW hft hv => rvar_any _ F v n W (k.typ.below hW) (k.expr.below hW) hft hv⟩
theorem RKnow.block (k : RKnow w F (isN F)) : SaysF w (F + 1) 39 #[] (blockB (isN F)) := ⟨enters_of Tryz.func39 (by kernel_rfl) rfl, fun W v n hW hft hv => rblock_any _ F v n W (k.stmt.below hW) hft hv⟩
theorem RKnow.sig (k : RKnow w F (isN F)) (W : World) (v : Value) (n : Nd) (hW : Below w.heap.size w W) (hft : Fits n) (hv : NdV W (F + 1) v n) :
    Calls Tryz.prog 22 #[v, .bool true] W fun e w' => e = .returned (.bool (isSigB (isN F) n)) ∧ Below W.heap.size W w' :=
  rsig_any _ F true nameB rfl v n W (k.typ.below hW) hft hv
theorem RKnow.decl (k : RKnow w F (isN F)) : SaysF w (F + 1) 18 #[] (declB (isN F)) := ⟨enters_of Tryz.func18 (by kernel_rfl) rfl, fun W v n hW hft hv => by
  have b := k.below hW
  have le := Nat.le_succ F
  have sg : ∀ W' v n, Below W.heap.size W W' → Fits n → NdV W' F v n → Calls Tryz.prog 22 #[v, .bool true] W' fun e w' => e = .returned (.bool (isSigB (isN F) n)) ∧ Below W'.heap.size W' w' := fun W' v n h hf hv => b.sig W' v n h hf (hv.le le)
  unfold declB
  by_cases h2 : n.kind = 2
  · rw [if_pos h2]; exact rdecl2_any _ F v n W (b.params.le le) sg (b.block.le le) h2 hft hv
  rw [if_neg h2]
  by_cases h3 : n.kind = 3
  · rw [if_pos h3]; exact rdecl3_any _ F v n W (b.params.le le) b.typ (b.fields.le le) (b.inter.le le) h3 hft hv
  rw [if_neg h3]
  by_cases h4 : n.kind = 4
  · rw [if_pos h4]; exact rdecl4_any _ F v n W b.typ (b.params.le le) h4 hft hv
  rw [if_neg h4]
  by_cases h5 : n.kind = 5
  · exact rdecl5_any _ F v n W b.var h5 hft hv
  have e : varB (isN F) n = false := by
    unfold varB
    rw [named_eq (by omega)]
    have : (n.kind == 5) = false := by simpa using h5
    rw [this]; simp
  rw [e]
  exact rdeclo_any (isN F) F v n W (b.params.le le) h5 h2 h3 h4 hft hv⟩
theorem RKnow.typs (k : RKnow w F (isN F)) : SaysF w (F + 1) 19 #[] (typB (isN F)) := ⟨enters_of Tryz.func19 (by kernel_rfl) rfl, fun W v n hW hft hv => by
  have b := k.below hW
  unfold typB
  by_cases h10 : n.kind = 10
  · rw [if_pos h10]; exact rtype10_any _ F v n W b.typ h10 hft hv
  rw [if_neg h10]
  by_cases h11 : n.kind = 11
  · rw [if_pos h11]; exact rtype11_any _ F v n W b.typ h11 hft hv
  rw [if_neg h11]
  by_cases h12 : n.kind = 12
  · rw [if_pos h12]; exact rtype12_any _ F v n W b.typ h12 hft hv
  rw [if_neg h12]
  exact rtypeo_any F v n W h10 h11 h12 hv⟩
theorem RKnow.exprs (k : RKnow w F (isN F)) : SaysF w (F + 1) 20 #[] (exprB (isN F)) := ⟨enters_of Tryz.func20 (by kernel_rfl) rfl, fun W v n hW hft hv => by
  have b := k.below hW
  have le := Nat.le_succ F
  have sg : ∀ W' v n, Below W.heap.size W W' → Fits n → NdV W' F v n → Calls Tryz.prog 22 #[v, .bool true] W' fun e w' => e = .returned (.bool (isSigB (isN F) n)) ∧ Below W'.heap.size W' w' := fun W' v n h hf hv => b.sig W' v n h hf (hv.le le)
  unfold exprB
  by_cases h16 : n.kind = 16
  · rw [if_pos h16]; exact rexpr16_any (isN F) F v n W h16 hft hv
  rw [if_neg h16]
  by_cases h17 : n.kind = 17
  · rw [if_pos h17]; exact rexpr17_any (isN F) F v n W h17 hft hv
  rw [if_neg h17]
  by_cases h18 : n.kind = 18
  · rw [if_pos h18]; exact rexpr18_any (isN F) F v n W h18 hft hv
  rw [if_neg h18]
  by_cases h19 : n.kind = 19
  · rw [if_pos h19]; exact rexpr19_any _ F v n W b.expr h19 hft hv
  rw [if_neg h19]
  by_cases h20 : n.kind = 20
  · rw [if_pos h20]; exact rexpr20_any _ F v n W b.expr h20 hft hv
  rw [if_neg h20]
  by_cases h21 : n.kind = 21
  · rw [if_pos h21]; exact rexpr21_any _ F v n W b.expr h21 hft hv
  rw [if_neg h21]
  by_cases h22 : n.kind = 22
  · rw [if_pos h22]; exact rexpr22_any _ F v n W b.typ b.expr h22 hft hv
  rw [if_neg h22]
  by_cases h23 : n.kind = 23
  · rw [if_pos h23]; exact rexpr23_any _ F v n W b.expr h23 hft hv
  rw [if_neg h23]
  by_cases h24 : n.kind = 24
  · rw [if_pos h24]; exact rexpr24_any _ F v n W b.typ b.expr (typ_kinds F) h24 hft hv
  rw [if_neg h24]
  by_cases h25 : n.kind = 25
  · exact rexpr25_any _ F v n W sg (b.block.le le) h25 hft hv
  rw [of_kind h25]
  exact rexpro_any F v n W h16 h17 h18 h19 h20 h21 h22 h23 h24 h25 hv⟩
theorem RKnow.stmts (k : RKnow w F (isN F)) : SaysF w (F + 1) 21 #[] (stmtB (isN F)) := ⟨enters_of Tryz.func21 (by kernel_rfl) rfl, fun W v n hW hft hv => by
  have b := k.below hW
  have le := Nat.le_succ F
  have FX : ∀ k, Low F k → ∀ q, isN F q k = askN (isN F) q k := fun k h q => is_fix h q
  unfold stmtB
  by_cases h5 : n.kind = 5
  · rw [if_pos h5]; exact rstmt5_any _ F v n W b.var h5 hft hv
  rw [if_neg h5]
  by_cases h26 : n.kind = 26
  · rw [if_pos h26]; exact rstmt26_any _ F v n W b.expr h26 hft hv
  rw [if_neg h26]
  by_cases h27 : n.kind = 27
  · rw [if_pos h27]; exact rstmt27_any _ F v n W b.expr h27 hft hv
  rw [if_neg h27]
  by_cases h28 : n.kind = 28
  · rw [if_pos h28]; exact rstmt28_any _ F v n W b.expr h28 hft hv
  rw [if_neg h28]
  by_cases h29 : n.kind = 29
  · rw [if_pos h29]; exact rstmt29_any _ F v n W b.expr h29 hft hv
  rw [if_neg h29]
  by_cases h30 : n.kind = 30
  · rw [if_pos h30]; exact rstmt30_any _ F v n W b.expr (b.block.le le) b.stmt FX h30 hft hv
  rw [if_neg h30]
  by_cases h31 : n.kind = 31
  · rw [if_pos h31]; exact rstmt31_any _ F v n W b.stmt b.expr (b.block.le le) FX h31 hft hv
  rw [if_neg h31]
  by_cases h32 : n.kind = 32
  · rw [if_pos h32]; exact rstmt32_any _ F v n W (Nat.le_of_lt hft.text) b.expr (b.block.le le) h32 hft hv
  rw [if_neg h32]
  by_cases h33 : n.kind = 33
  · rw [if_pos h33]; exact rstmt33_any _ F v n W b.expr h33 hft hv
  rw [if_neg h33]
  by_cases h34 : n.kind = 34
  · rw [if_pos (.inl h34), h34]; exact rstmt34_any (isN F) F v n W h34 hft hv
  by_cases h35 : n.kind = 35
  · rw [if_pos (.inr h35), h35]; exact rstmt35_any (isN F) F v n W h35 hft hv
  rw [if_neg (by rintro (h | h); exact h34 h; exact h35 h)]
  exact rstmto_any _ F v n W b.block h5 h26 h27 h28 h29 h30 h31 h32 h33 h34 h35 hft hv⟩
end
theorem rknow : ∀ (F : Nat) (w : World), RKnow w F (isN F)
  | 0, w => ⟨⟨enters_of Tryz.func19 (by kernel_rfl) rfl, fun W v n hW hft hv => hv.elim⟩, ⟨enters_of Tryz.func20 (by kernel_rfl) rfl, fun W v n hW hft hv => hv.elim⟩, ⟨enters_of Tryz.func21 (by kernel_rfl) rfl, fun W v n hW hft hv => hv.elim⟩⟩
  | F + 1, w => ⟨(rknow F w).typs, (rknow F w).exprs, (rknow F w).stmts⟩

end Go.Proofs.YtkmhijkpbmcgbaaGreat
