/-
  From the row's reading of a slice of bytes to the walks' word for it.
-/
import Derived.Test.YtfabnfdadadlnaaDoorWords
import Derived.OpenShut
namespace Go.Proofs.YtfabnfdadadlnaaDoor
set_option linter.all false
open Go.RowKit Go.ChangeShapes Go.WideShapes

theorem bts_of_row {w : World} {a : Option Addr} {len cap : Nat} {zs : List Int}
    (h : (a = none ∧ len = 0 ∧ cap = 0 ∧ zs = []) ∨ ∃ x, a = some x ∧ len ≤ cap ∧ cap ≤ maxLen ∧ zs.length = cap ∧ (∀ i, i < zs.length → w.cell? (x.add i) = some (.int .u8 (zs.getD i 0))) ∧ ∀ n ∈ zs, (Lit.int .u8 n).wf = true) :
    ∃ l, Bts w a len l := by
  rcases h with ⟨rfl, rfl, rfl, rfl⟩ | ⟨x, rfl, hl, _, hz, hc, hw⟩
  · exact ⟨[], rfl, fun h => absurd h (by omega)⟩
  · refine ⟨(zs.take len).map fun n => UInt8.ofNat n.toNat, by simp; omega, fun hn => ?_⟩
    obtain ⟨b, off, rfl, hcell⟩ := ints_at hc (by omega)
    refine ⟨b, off, rfl, fun i hi => ?_⟩
    rw [hcell i (by omega)]
    have hil : i < zs.length := by omega
    have hm : zs[i] ∈ zs := List.getElem_mem hil
    have hb := bounds_u8 (hw _ hm)
    have e : ((zs.take len).map fun n => UInt8.ofNat n.toNat).getD i 0 = UInt8.ofNat zs[i].toNat := by
      simp [List.getD_eq_getElem?_getD, List.getElem?_map, List.getElem?_take, hi, List.getElem?_eq_getElem hil]
    rw [e]
    have e2 : (UInt8.ofNat zs[i].toNat).toNat = zs[i].toNat := by
      rw [UInt8.toNat_ofNat']
      omega
    rw [e2]
    simp [List.getD_eq_getElem?_getD, List.getElem?_eq_getElem hil]
    omega

end Go.Proofs.YtfabnfdadadlnaaDoor
