/-
  The questions answer as the plain functions say, at whatever depth.
-/
import Derived.Test.YtkmhijkpbmcgbaaAskF
namespace Go.Proofs.Ytkmhijkpbmcgbaa
set_option linter.all false
open Go.RowKit Go.Shelf

/-- The four questions that come back, at a depth. -/
structure Know (w : World) (F : Nat) (g : Q → Nd → Bool) : Prop where
  mx : Mx w
  typ : SaysF w F 35 #[] (g .typ)
  expr : SaysF w F 36 #[] (g .expr)
  stmt : SaysF w F 37 #[] (g .stmt)
  iff : SaysF w F 61 #[] (g .iff)
theorem Know.below {w w' : World} {F : Nat} {g : Q → Nd → Bool} (h : Know w F g) (hb : Below w.heap.size w w') : Know w' F g :=
  ⟨h.mx.below hb, h.typ.below hb, h.expr.below hb, h.stmt.below hb, h.iff.below hb⟩
section
variable {w : World} {F : Nat} {g : Q → Nd → Bool}
theorem Know.sig (k : Know w F g) : SaysF w (F + 1) 38 #[] (isSigB g) := ⟨enters_of Try.func38 (by kernel_rfl) rfl, fun W v n hW hft hv => issig_any g F v n W (k.typ.below hW) hft hv⟩
theorem Know.term (k : Know w F g) : SaysF w (F + 1) 73 #[] (termB g) := ⟨enters_of Try.func73 (by kernel_rfl) rfl, fun W v n hW hft hv => term_any g F v n W (k.typ.below hW) hft hv⟩
theorem Know.field (k : Know w F g) : SaysF w (F + 1) 72 #[] (fieldB g) := ⟨enters_of Try.func72 (by kernel_rfl) rfl, fun W v n hW hft hv => field_any g F v n W (k.typ.below hW) hft hv⟩
theorem Know.str (k : Know w F g) : SaysF w (F + 1) 47 #[] (structB g) := ⟨enters_of Try.func47 (by kernel_rfl) rfl, fun W v n hW hft hv => struct_any g F v n W ((k.field.le (Nat.le_succ _)).below hW) hft hv⟩
theorem Know.inter (k : Know w F g) : SaysF w (F + 1) 48 #[] (interB g) := ⟨enters_of Try.func48 (by kernel_rfl) rfl, fun W v n hW hft hv => inter_any g F v n W ((k.term.le (Nat.le_succ _)).below hW) hft hv⟩
theorem Know.named1 (k : Know w F g) : SaysF w F 68 #[] (named1B g) := ⟨enters_of Try.func68 (by kernel_rfl) rfl, fun W v n hW hft hv => named1_any g F v n W (k.typ.below hW) hft hv⟩
theorem Know.params (k : Know w F g) : SaysF w (F + 1) 44 #[] (paramsB g) := ⟨enters_of Try.func44 (by kernel_rfl) rfl, fun W v n hW hft hv => params_any g F v n W (k.named1.below hW) ((k.inter.le (Nat.le_succ _)).below hW) hft hv⟩
theorem Know.var (k : Know w F g) : SaysF w (F + 1) 49 #[] (varB g) := ⟨enters_of Try.func49 (by kernel_rfl) rfl, fun W v n hW hft hv => var_any g F v n W (k.typ.below hW) (k.expr.below hW) hft hv⟩
theorem Know.block (k : Know w F g) : SaysF w (F + 1) 45 #[] (blockB g) := ⟨enters_of Try.func45 (by kernel_rfl) rfl, fun W v n hW hft hv => block_any g F v n W (k.stmt.below hW) hft hv⟩
theorem Know.call1 (k : Know w F g) : SaysF w F 80 #[] (call1B g) := ⟨enters_of Try.func80 (by kernel_rfl) rfl, fun W v n hW hft hv => call1_any g F v n W (k.expr.below hW) hft hv⟩
theorem Know.short (k : Know w F g) : SaysF w (F + 1) 57 #[] (shortB g) := ⟨enters_of Try.func57 (by kernel_rfl) rfl, fun W v n hW hft hv => short_any g F v n W (k.expr.below hW) hft hv⟩
theorem Know.set (k : Know w F g) : SaysF w (F + 1) 58 #[] (setB g) := ⟨enters_of Try.func58 (by kernel_rfl) rfl, fun W v n hW hft hv => set_any g F v n W (k.expr.below hW) hft hv⟩
theorem Know.inc (k : Know w F g) : SaysF w (F + 1) 59 #[] (incB g) := ⟨enters_of Try.func59 (by kernel_rfl) rfl, fun W v n hW hft hv => inc_any g F v n W (k.expr.below hW) hft hv⟩
theorem Know.call (k : Know w F g) : SaysF w (F + 1) 60 #[] (callB g) := ⟨enters_of Try.func60 (by kernel_rfl) rfl, fun W v n hW hft hv => call_any g F v n W (k.call1.below hW) hft hv⟩
theorem Know.part (k : Know w F g) : SaysF w F 56 #[] (partB g) := ⟨enters_of Try.func56 (by kernel_rfl) rfl, fun W v n hW hft hv => part_any g F v n W (k.typ.below hW) (k.expr.below hW) hft hv⟩
theorem Know.ifs (k : Know w F g) : SaysF w (F + 1) 61 #[] (ifB g) := ⟨enters_of Try.func61 (by kernel_rfl) rfl, fun W v n hW hft hv => if_any g F v n W (k.expr.below hW) ((k.block.le (Nat.le_succ _)).below hW) (k.iff.below hW) hft hv⟩
theorem Know.decl (k : Know w F g) : SaysF w (F + 1) 34 #[] (declB g) := ⟨enters_of Try.func34 (by kernel_rfl) rfl, fun W v n hW hft hv => by
  have b := k.below hW
  have le := Nat.le_succ F
  unfold declB
  by_cases h2 : n.kind = 2
  · rw [if_pos h2]
    exact decl2_any g F v n W (b.params.le le) (b.sig.le le) (b.block.le le) h2 hft hv
  rw [if_neg h2]
  by_cases h3 : n.kind = 3
  · rw [if_pos h3]
    exact decl3_any g F v n W (b.params.le le) b.typ (b.str.le le) (b.inter.le le) h3 hft hv
  rw [if_neg h3]
  by_cases h4 : n.kind = 4
  · rw [if_pos h4]
    exact decl4_any g F v n W (b.params.le le) b.typ h4 hft hv
  rw [if_neg h4]
  exact declo_any g F v n W b.var h2 h3 h4 hft hv⟩
theorem Know.typs (k : Know w F g) : SaysF w (F + 1) 35 #[] (typB g) := ⟨enters_of Try.func35 (by kernel_rfl) rfl, fun W v n hW hft hv => by
  have b := k.below hW
  unfold typB
  by_cases h10 : n.kind = 10
  · rw [if_pos h10]
    exact type10_any g F v n W b.typ h10 hft hv
  rw [if_neg h10]
  by_cases h11 : n.kind = 11
  · rw [if_pos h11]
    exact type11_any g F v n W b.typ h11 hft hv
  rw [if_neg h11]
  by_cases h12 : n.kind = 12
  · rw [if_pos h12]
    exact type12_any g F v n W b.typ h12 hft hv
  rw [if_neg h12]
  exact typeo_any g F v n W h10 h11 h12 hft hv⟩
theorem Know.exprs (k : Know w F g) : SaysF w (F + 1) 36 #[] (exprB g) := ⟨enters_of Try.func36 (by kernel_rfl) rfl, fun W v n hW hft hv => by
  have b := k.below hW
  have le := Nat.le_succ F
  have ht := Nat.le_of_lt hft.text
  unfold exprB
  by_cases h16 : n.kind = 16
  · rw [if_pos h16]; exact expr16_any g F v n W h16 hft hv
  rw [if_neg h16]
  by_cases h17 : n.kind = 17
  · rw [if_pos h17]; exact expr17_any g F v n W h17 hft hv
  rw [if_neg h17]
  by_cases h18 : n.kind = 18
  · rw [if_pos h18]; exact expr18_any g F v n W h18 hft hv
  rw [if_neg h18]
  by_cases h19 : n.kind = 19
  · rw [if_pos h19]; exact expr19_any g F v n W b.expr h19 hft hv
  rw [if_neg h19]
  by_cases h20 : n.kind = 20
  · rw [if_pos h20]; exact expr20_any g F v n W b.expr (binary_s n.text W b.mx ht) h20 hft hv
  rw [if_neg h20]
  by_cases h21 : n.kind = 21
  · rw [if_pos h21]; exact expr21_any g F v n W b.expr h21 hft hv
  rw [if_neg h21]
  by_cases h22 : n.kind = 22
  · rw [if_pos h22]; exact expr22_any g F v n W b.expr b.part h22 hft hv
  rw [if_neg h22]
  by_cases h23 : n.kind = 23
  · rw [if_pos h23]; exact expr23_any g F v n W b.expr h23 hft hv
  rw [if_neg h23]
  by_cases h24 : n.kind = 24
  · rw [if_pos h24]; exact expr24_any g F v n W b.typ b.expr h24 hft hv
  rw [if_neg h24]
  exact expro_any g F v n W (b.sig.le le) (b.block.le le) h16 h17 h18 h19 h20 h21 h22 h23 h24 hft hv⟩
theorem Know.stmts (k : Know w F g) : SaysF w (F + 1) 37 #[] (stmtB g) := ⟨enters_of Try.func37 (by kernel_rfl) rfl, fun W v n hW hft hv => by
  have b := k.below hW
  have le := Nat.le_succ F
  have ht := Nat.le_of_lt hft.text
  unfold stmtB
  by_cases h5 : n.kind = 5
  · rw [if_pos h5]; exact stmt5_any g F v n W b.var h5 hft hv
  rw [if_neg h5]
  by_cases h26 : n.kind = 26
  · rw [if_pos h26]; exact stmt26_any g F v n W b.short h26 hft hv
  rw [if_neg h26]
  by_cases h27 : n.kind = 27
  · rw [if_pos h27]; exact stmt27_any g F v n W b.set h27 hft hv
  rw [if_neg h27]
  by_cases h28 : n.kind = 28
  · rw [if_pos h28]; exact stmt28_any g F v n W b.inc h28 hft hv
  rw [if_neg h28]
  by_cases h29 : n.kind = 29
  · rw [if_pos h29]; exact stmt29_any g F v n W b.call h29 hft hv
  rw [if_neg h29]
  by_cases h30 : n.kind = 30
  · rw [if_pos h30]; exact stmt30_any g F v n W b.ifs h30 hft hv
  rw [if_neg h30]
  by_cases h31 : n.kind = 31
  · rw [if_pos h31]; exact stmt31_any g F v n W b.expr (b.block.le le) (b.short.le le) (b.set.le le) (b.inc.le le) (b.call.le le) h31 hft hv
  rw [if_neg h31]
  by_cases h32 : n.kind = 32
  · rw [if_pos h32]; exact stmt32_any g F v n W b.expr (b.block.le le) (ranged_s n.text W b.mx ht) h32 hft hv
  rw [if_neg h32]
  by_cases h33 : n.kind = 33
  · rw [if_pos h33]; exact stmt33_any g F v n W b.expr h33 hft hv
  rw [if_neg h33]
  by_cases h34 : n.kind = 34
  · rw [if_pos (.inl h34), h34]; exact stmt34_any g F v n W h34 hft hv
  by_cases h35 : n.kind = 35
  · rw [if_pos (.inr h35), h35]; exact stmt35_any g F v n W h35 hft hv
  rw [if_neg (by rintro (h | h); exact h34 h; exact h35 h)]
  exact stmto_any g F v n W b.block h5 h26 h27 h28 h29 h30 h31 h32 h33 h34 h35 hft hv⟩
end
theorem know : ∀ (F : Nat) (w : World), Mx w → Know w F (isN F)
  | 0, w, hx => ⟨hx, ⟨enters_of Try.func35 (by kernel_rfl) rfl, fun W v n hW hft hv => hv.elim⟩, ⟨enters_of Try.func36 (by kernel_rfl) rfl, fun W v n hW hft hv => hv.elim⟩, ⟨enters_of Try.func37 (by kernel_rfl) rfl, fun W v n hW hft hv => hv.elim⟩, ⟨enters_of Try.func61 (by kernel_rfl) rfl, fun W v n hW hft hv => hv.elim⟩⟩
  | F + 1, w, hx => ⟨hx, (know F w hx).typs, (know F w hx).exprs, (know F w hx).stmts, (know F w hx).ifs⟩

end Go.Proofs.Ytkmhijkpbmcgbaa
