/-
  The program's Right and the document's answer the same, at any sort.
-/
import Derived.Test.YtkmhijkpbmcgbaaGreatRefRight
import Derived.StringKeys
namespace Go.Proofs.YtkmhijkpbmcgbaaGreat
set_option linter.all false
open Go.RowKit Go.Shelf Go.Maps

set_option maxRecDepth 100000 in
theorem look32 : LookAt ⟨#[116, 121, 112, 101]⟩ 32 := fun w b n h => look_by h _ [116, 121, 112, 101] (by rfl) 32 (by rfl) (by rfl)
set_option maxRecDepth 100000 in
theorem look35 : LookAt ⟨#[115, 105, 103, 110, 97, 116, 117, 114, 101]⟩ 35 := fun w b n h => look_by h _ [115, 105, 103, 110, 97, 116, 117, 114, 101] (by rfl) 35 (by rfl) (by rfl)

theorem RF_nil {v : Value} {ps : List MemPlace} (h : RF v = some (.nil, ps)) : v = .nilFunc := by
  unfold RF at h
  split at h
  · split at h
    · simp at h
    · cases h
  · rfl
  · cases h
theorem key_ne {a b : List UInt8} (h : a ≠ b) : Lit.string a ≠ Lit.string b := fun e => h (by injection e)
theorem not_in {l : List UInt8} (h0 : l ≠ [102, 105, 108, 101]) (h1 : l ≠ [100, 101, 99, 108, 97, 114, 97, 116, 105, 111, 110]) (h2 : l ≠ [116, 121, 112, 101]) (h3 : l ≠ [101, 120, 112, 114, 101, 115, 115, 105, 111, 110]) (h4 : l ≠ [115, 116, 97, 116, 101, 109, 101, 110, 116]) (h5 : l ≠ [115, 105, 103, 110, 97, 116, 117, 114, 101]) :
    has sortsD (.string l) = false ∧ sortsD.atKey (.string l) .nil = .nil := by
  unfold sortsD
  rw [has_put_other (key_ne h5), has_put_other (key_ne h4), has_put_other (key_ne h3), has_put_other (key_ne h2), has_put_other (key_ne h1), has_put_other (key_ne h0),
    atKey_put_other (key_ne h5), atKey_put_other (key_ne h4), atKey_put_other (key_ne h3), atKey_put_other (key_ne h2), atKey_put_other (key_ne h1), atKey_put_other (key_ne h0)]
  exact ⟨rfl, rfl⟩
set_option maxRecDepth 100000 in
theorem look_none {w : World} {b n : Nat} (h : w.ownsMap Tryz.prog 9 RF b n sortsD) (s : ByteArray) (hs : s.size ≤ maxLen) (hh : has sortsD (.string s.data.toList) = false ∧ sortsD.atKey (.string s.data.toList) .nil = .nil) :
    (Instr.lookup 35 (.map (some b)) (.string s) true).run Tryz.prog w = .ok (.tuple #[.nilFunc, .bool false]) w := by
  obtain ⟨v, ps, hrun, hv⟩ := h.look_ok (string_keyed (P := Tryz.prog) Tryz.underlying9) Tryz.underlying35 (z := .nilFunc) (zd := .nil) (zp := []) (by rfl) (by rfl) (key := .string s) (kl := .string s.data.toList) (Go.WideMaps.keyOf_string_mk Tryz.underlying9 hs)
  rw [hh.2] at hv
  rw [hh.1] at hrun
  obtain rfl := RF_nil hv
  exact hrun

set_option maxRecDepth 100000 in
set_option maxHeartbeats 1000000 in
theorem right_none (s : ByteArray) (hs : s.size ≤ maxLen) (hh : has sortsD (.string s.data.toList) = false ∧ sortsD.atKey (.string s.data.toList) .nil = .nil) (F : Nat) (v : Value) (n : Nd) (w : World) (hv : NdV w F v n) :
    Calls Tryz.prog 6 #[v, .string s] w fun e w' => e = .returned (.bool (okN n && false)) ∧ Below w.heap.size w w' := by
  obtain ⟨A, c, rfl, hm⟩ := hv.val
  have hb : Below w.heap.size w (w.alloc (.cells #[.int .i64 n.kind, .string n.text, .slice A n.kids.length c, .int .i64 n.place] 24)) := (Below.refl _ w).alloc (Nat.le_refl _) _
  have HS := Lib.hid (sorts_any (w.alloc (.cells #[.int .i64 n.kind, .string n.text, .slice A n.kids.length c, .int .i64 n.place] 24)))
  have HB := Lib.hid hb
  have HL := Lib.hid fun w b n (h : World.ownsMap w Tryz.prog 9 RF b n sortsD) => look_none h s hs hh
  clear hv hb hh
  unfold Nd.val
  go_enter Tryz.func6, Tryz.ntmps6
  go_wp2_with fail
  refine HS.out.mono ?_
  rintro e w1 ⟨rfl, o1, b1⟩
  have hl := HL.out w1 _ _ o1
  rw [World.size_alloc] at hl
  have B1 := Lib.hid (HB.out.trans (b1.mono HB.out.size))
  clear o1 b1 HS HB HL
  go_wp2_with fail
  go_ret
  exact ⟨by simp, B1.out⟩

/-- At any sort: the two answer the same. -/
theorem both (F : Nat) (v : Value) (n : Nd) (w : World) (hF : 0 < F) (hft : Fits n) (hx : Mx w) (hv : NdV w F v n) (s : ByteArray) (hs : s.size ≤ maxLen) : ∃ r : Bool,
    (∀ W, Below w.heap.size w W → Calls Tryz.prog 6 #[v, .string s] W fun e w' => e = .returned (.bool r) ∧ Below W.heap.size W w') ∧
    (∀ W, Below w.heap.size w W → Calls Tryz.prog 7 #[v, .string s] W fun e w' => e = .returned (.bool r) ∧ Below W.heap.size W w') := by
  have K : ∀ W, Below w.heap.size w W → Know W F (isN F) := fun W h => know F W (hx.below h)
  have hup : ∀ W, Below w.heap.size w W → NdV W (F + 1) v n := fun W h => (hv.below h).up
  have ba : ∀ l : List UInt8, s.data.toList = l → s = ⟨l.toArray⟩ := fun l h => by rw [← h]
  by_cases h0 : s.data.toList = [102, 105, 108, 101]
  · obtain rfl := ba _ h0
    exact ⟨okN n && fileB (isN F) n, fun W h => right_c 28 _ look31 (F + 1) _ v n W (K W h).file hft (hup W h),
      fun W h => rright_file (isN F) (F + 1) v n W (rknow F W).decl (by omega) hft (hup W h)⟩
  by_cases h1 : s.data.toList = [100, 101, 99, 108, 97, 114, 97, 116, 105, 111, 110]
  · obtain rfl := ba _ h1
    exact ⟨okN n && declB (isN F) n, fun W h => right_c 31 _ look34 (F + 1) _ v n W (K W h).decl hft (hup W h),
      fun W h => rright_decl (isN F) (F + 1) v n W (rknow F W).decl hft (hup W h)⟩
  by_cases h2 : s.data.toList = [116, 121, 112, 101]
  · obtain rfl := ba _ h2
    exact ⟨okN n && isN F .typ n, fun W h => right_c 32 _ look32 F _ v n W (K W h).typ hft (hv.below h),
      fun W h => rright_typ (isN F) F v n W (rknow F W).typ hft (hv.below h)⟩
  by_cases h3 : s.data.toList = [101, 120, 112, 114, 101, 115, 115, 105, 111, 110]
  · obtain rfl := ba _ h3
    exact ⟨okN n && isN F .expr n, fun W h => right_c 33 _ look36 F _ v n W (K W h).expr hft (hv.below h),
      fun W h => rright_expr (isN F) F v n W (rknow F W).expr hft (hv.below h)⟩
  by_cases h4 : s.data.toList = [115, 116, 97, 116, 101, 109, 101, 110, 116]
  · obtain rfl := ba _ h4
    exact ⟨okN n && isN F .stmt n, fun W h => right_c 34 _ look37 F _ v n W (K W h).stmt hft (hv.below h),
      fun W h => rright_stmt (isN F) F v n W (rknow F W).stmt hft (hv.below h)⟩
  by_cases h5 : s.data.toList = [115, 105, 103, 110, 97, 116, 117, 114, 101]
  · obtain rfl := ba _ h5
    exact ⟨okN n && isSigB (isN F) n, fun W h => right_c 35 _ look35 (F + 1) _ v n W (K W h).sig hft (hup W h),
      fun W h => rright_sig (isN F) (F + 1) v n W (rknow F W).sig hft (hup W h)⟩
  have hb : ∀ l : List UInt8, s.data.toList ≠ l → (s.toList == l) = false := fun l h => by
    rw [ByteArray.toList_eq]
    simpa using h
  exact ⟨okN n && false, fun W h => right_none s hs (not_in h0 h1 h2 h3 h4 h5) F v n W (hv.below h),
    fun W h => rright_other (isN F) F v n W s (hb _ h0) (hb _ h1) (hb _ h2) (hb _ h3) (hb _ h4) (hb _ h5) hft (hv.below h)⟩

end Go.Proofs.YtkmhijkpbmcgbaaGreat
