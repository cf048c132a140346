/-
  From the row's listed tables to what the contract on utf8.DecodeRune asks; that contract at this program; where bytes cease to be a text: plain.
-/
import Derived.Test.YtfabnfdadadlnaaDoorLines
import Derived.Test.YtfabnfdadadlnaaDoorRows
import Derived.Shelf.Spec.DecodeRune
import Derived.Lib.LaidU8
import Derived.PinnedBridge
import Derived.LaidMore
namespace Go.Proofs
open Go.Shelf
def Tryd.lays7n32_ren : Go.Shelf.Ren := ⟨fun | 32 => 9 | 49 => 13 | n => n, fun | 30 => 22 | 21 => 21 | 3 => 3 | 0 => 0 | 5 => 5 | 4 => 4 | 33 => 26 | 66 => 37 | 25 => 38 | 69 => 41 | 68 => 40 | n => n, fun | 2 => 0 | 3 => 1 | n => n⟩
theorem Tryd.lays7n32 : Go.Proofs.Lays7.n32 Tryd.prog Tryd.lays7n32_ren := {
  mixed := by kernel_rfl
  f32 := Tryd.func9.trans (congrArg some (by kernel_rfl))
  f49 := Tryd.func13.trans (congrArg some (by kernel_rfl))
  t0 := Tryd.underlying0
  a0 := Tryd.isAgg0
  z0 := Tryd.sizeOf0
  v0 := Tryd.zeroValue0
  i0 := by kernel_rfl
  t3 := Tryd.underlying3
  a3 := Tryd.isAgg3
  z3 := Tryd.sizeOf3
  v3 := Tryd.zeroValue3
  i3 := by kernel_rfl
  t4 := Tryd.underlying4
  a4 := Tryd.isAgg4
  z4 := Tryd.sizeOf4
  v4 := Tryd.zeroValue4
  i4 := by kernel_rfl
  t5 := Tryd.underlying5
  a5 := Tryd.isAgg5
  z5 := Tryd.sizeOf5
  v5 := Tryd.zeroValue5
  i5 := by kernel_rfl
  t21 := Tryd.underlying21
  a21 := Tryd.isAgg21
  z21 := Tryd.sizeOf21
  v21 := Tryd.zeroValue21
  i21 := by kernel_rfl
  t25 := Tryd.underlying38
  a25 := Tryd.isAgg38
  z25 := Tryd.sizeOf38
  v25 := Tryd.zeroValue38
  i25 := by kernel_rfl
  t30 := Tryd.underlying22
  a30 := Tryd.isAgg22
  z30 := Tryd.sizeOf22
  v30 := Tryd.zeroValue22
  i30 := by kernel_rfl
  t33 := Tryd.underlying26
  a33 := Tryd.isAgg26
  z33 := Tryd.sizeOf26
  v33 := Tryd.zeroValue26
  i33 := by kernel_rfl
  t66 := Tryd.underlying37
  a66 := Tryd.isAgg37
  z66 := Tryd.sizeOf37
  t68 := Tryd.underlying40
  a68 := Tryd.isAgg40
  z68 := Tryd.sizeOf40
  v68 := Tryd.zeroValue40
  i68 := by kernel_rfl
  t69 := Tryd.underlying41
  a69 := Tryd.isAgg41
  z69 := Tryd.sizeOf41
  v69 := Tryd.zeroValue41
  i69 := by kernel_rfl
  g2 := by kernel_rfl
  g3 := by kernel_rfl }
end Go.Proofs
namespace Go.Proofs.YtfabnfdadadlnaaDoor
set_option linter.all false
open Go.RowKit Go.Lib

theorem Tabs.below {g h : Nat} {w w' : World} (hb : Below w.heap.size w w') (t : Lib.Utf8Tabs g h w) : Lib.Utf8Tabs g h w' := by
  refine ⟨fun c hc => ?_, fun i hi => ?_⟩
  · have := t.1 c hc
    exact (hb.cell (p := ⟨g, c, none⟩) (cell_lt this)).trans this
  · have := t.2 i hi
    exact ⟨(hb.cell (p := ⟨h, 2 * i, none⟩) (cell_lt this.1)).trans this.1, (hb.cell (p := ⟨h, 2 * i + 1, none⟩) (cell_lt this.2)).trans this.2⟩

theorem accept_eq : (Rows.laid_unicode_utf8_acceptRanges : DataW Unit) = acceptData := by kernel_rfl

theorem tabs_of_laid {w : World} (h : laidMetH Tryd.prog Rows.placeWrongRow.laid w) : Lib.Utf8Tabs 0 1 w := by
  rw [MakeChecks.laidMetH_plain _ _ _ (by kernel_rfl)] at h
  have h3 : VarReads Tryd.prog w "unicode/utf8.first" firstData := by
    rw [← Pinned.utf8First_eq]
    exact laidMet.reads h (.tail _ (.head _))
  have h4 : VarReads Tryd.prog w "unicode/utf8.acceptRanges" acceptData := by
    rw [← accept_eq]
    exact laidMet.reads h (.head _)
  have c5 : Tryd.prog.cellsOf 5 = 1 := by kernel_rfl
  have c37 : Tryd.prog.cellsOf 37 = 256 := by kernel_rfl
  have c40 : Tryd.prog.cellsOf 40 = 2 := by kernel_rfl
  refine ⟨fun c hc => ?_, fun i hi => ?_⟩
  · obtain ⟨g, t, cs, fuel, p, hg, hty, hvar, hd⟩ := h3
    obtain rfl := Option.some.inj ((show Tryd.prog.globalNamed "unicode/utf8.first" = some 0 by kernel_rfl).symm.trans hg)
    obtain rfl := Option.some.inj ((show (Tryd.prog.globals[0]?).map (·.type) = some 37 by kernel_rfl).symm.trans hty)
    have hcs := cells_of_tab Tryd.underlying37 Tryd.underlying5 c5 c37 hd
    have := World.var?_cell hg hvar c
    rw [this, ← Array.getElem?_toList, hcs]
    simp [firstTab, hc]
  · obtain ⟨g, t, cs, fuel, p, hg, hty, hvar, hd⟩ := h4
    obtain rfl := Option.some.inj ((show Tryd.prog.globalNamed "unicode/utf8.acceptRanges" = some 1 by kernel_rfl).symm.trans hg)
    obtain rfl := Option.some.inj ((show (Tryd.prog.globals[1]?).map (·.type) = some 41 by kernel_rfl).symm.trans hty)
    obtain ⟨fuel', d, q, hdi, he⟩ := array_elem Tryd.underlying41 hd i hi
    simp only [List.getElem?_map, List.getElem?_range hi, Option.map_some, Option.some.injEq] at hdi
    subst hdi
    rw [c40] at he
    have hcs := ints_of_struct Tryd.underlying40 (fun j f hj => by
      match j, hj with
      | 0, hj => simp at hj; subst hj; exact ⟨Tryd.underlying5, rfl, c5⟩
      | 1, hj => simp at hj; subst hj; exact ⟨Tryd.underlying5, rfl, c5⟩
      | j + 2, hj => simp at hj) (by rw [c40]; rfl) he
    have e0 := congrArg (·[0]?) hcs
    have e1 := congrArg (·[1]?) hcs
    simp only [List.getElem?_take, List.getElem?_drop] at e0 e1
    constructor
    · rw [World.var?_cell hg hvar (2 * i), ← Array.getElem?_toList]
      simpa [Nat.mul_comm] using e0
    · rw [World.var?_cell hg hvar (2 * i + 1), ← Array.getElem?_toList]
      simpa [Nat.mul_comm] using e1

/-- utf8.DecodeRune at the rest of some bytes. -/
theorem decode_any (b off n c : Nat) (l : List UInt8) (w : World) (hT : Lib.Utf8Tabs 0 1 w) (hl : l.length = n) (h0 : l ≠ [])
    (hc : ∀ i, i < n → w.cell? ⟨b, off + i, none⟩ = some (.int .u8 ((l.getD i 0).toNat : Int))) :
    Calls Tryd.prog 9 #[.slice (some ⟨b, off, none⟩) n c] w fun e w' => e = .returned (.tuple #[.int .i32 (Pl.dec l).1, .int .i64 (Pl.dec l).2]) ∧ Below w.heap.size w w' := by
  have hs : (⟨l.toArray⟩ : ByteArray).size = n := by simp [ByteArray.size, hl]
  have := Any7.utf8_DecodeRune Tryd.lays7n32 ⟨l.toArray⟩ b off c w hT (fun j hj => by
    rw [hs] at hj
    rw [hc j hj]
    have := Pl.get_drop ⟨l.toArray⟩ 0 j
    simp only [Nat.zero_add, List.drop_zero] at this
    rw [this])
  have hd : Lib.decodeGo ⟨l.toArray⟩ = Pl.dec l := by
    have h1 := Pl.decode_dec ⟨l.toArray⟩ 0 (by rw [hs]; have := List.length_pos_iff.2 h0; omega)
    unfold Lib.decodeGo
    rw [if_neg (by rw [hs]; have := List.length_pos_iff.2 h0; omega), h1]
    simp
  rw [hd, hs] at this
  exact this

/-- Where bytes cease to be a text: plain. -/
def wrongF : Nat → List (Nat × Nat) → Int
  | _, [] => -1
  | pos, (c, n) :: r => if c = 0 ∨ (c = 65533 ∧ n = 1) ∨ (c = 65279 ∧ 0 < pos) then pos else wrongF (pos + n) r
def wrongB (l : List UInt8) : Int := wrongF 0 (Pl.signs l)

end Go.Proofs.YtfabnfdadadlnaaDoor
