/-
  The chapter's example: what isExpr and isType say of it: walks.
-/
import Derived.Test.YtkmhijkpbmcgbaaGreatNamed
namespace Go.Proofs.YtkmhijkpbmcgbaaGreat
set_option linter.all false
open Go.RowKit Go.Shelf

def one : Nd := .mk 16 ⟨#[49]⟩ [] 0
def neg : Nd := .mk 19 ⟨#[45]⟩ [one] 0

theorem no_text : (⟨#[]⟩ : ByteArray).toList = [] := by
  unfold ByteArray.toList
  unfold ByteArray.toList.loop
  rfl
theorem fs_nil (w : World) : FsAt w none [] := fun h => absurd h (by simp)

set_option maxRecDepth 100000 in
set_option maxHeartbeats 1000000 in
theorem expr_one (f : Nat) (v : Value) (w : World) (hv : NdV w (f + 1) v one) : Calls Tryz.prog 33 #[v] w fun e w' => e = .returned (.bool true) ∧ Below w.heap.size w w' := by
  obtain ⟨A, c, rfl, hm⟩ := hv.val
  have hb : Below w.heap.size w (w.alloc (.cells #[.int .i64 16, .string ⟨#[49]⟩, .slice A 0 c, .int .i64 0] 24)) := (Below.refl _ w).alloc (Nat.le_refl _) _
  have h1 := named_c f 69 #[] (one.val A c) one true _ (plain_one _) (hv.below hb)
  have e1 : one.val A c = .agg #[.int .i64 16, .string ⟨#[49]⟩, .slice A 0 c, .int .i64 0] := rfl
  have h2 := h1.mono (R' := fun e w' => ∃ A c, e = .returned (.agg #[.int .i64 16, .string ⟨#[]⟩, .slice A 0 c, .int .i64 0]) ∧ NdV w' (f + 1) (.agg #[.int .i64 16, .string ⟨#[]⟩, .slice A 0 c, .int .i64 0]) (namedN one true) ∧ Below w.heap.size w w')
    (fun e w' h => by
      obtain ⟨A, c, h1, h2, h3⟩ := h
      exact ⟨A, c, h1, h2, hb.trans (h3.mono hb.size)⟩)
  rw [e1] at h2
  rw [e1]
  have H2 := Lib.hid h2
  clear h1 h2 hv e1 hm hb
  go_enter Tryz.func33, Tryz.ntmps33
  go_wp2_with fail
  refine H2.out.mono ?_
  rintro e w1 ⟨A1, c1, rfl, n1, b1⟩
  have h3 := of_c f _ (namedN one true) 16 none 0 [] [] rfl (by simp) w1 n1 (fs_nil w1) (fun i g q k h => by simp at h)
  have e3 : ofN (namedN one true) 16 [] = true := by
    unfold ofN
    rw [show (namedN one true).text = ⟨#[]⟩ from rfl, no_text]
    rfl
  rw [e3] at h3
  have H3 := Lib.hid h3
  have B1 := Lib.hid b1
  clear h3 b1 n1 e3 H2
  simp only [List.length_nil] at H3
  go_wp2_with fail
  refine H3.out.mono ?_
  rintro e w2 ⟨rfl, b2⟩
  go_wp2_with fail
  go_ret
  exact ⟨rfl, B1.out.trans (b2.mono B1.out.size)⟩

set_option maxRecDepth 100000 in
set_option maxHeartbeats 1000000 in
theorem expr_neg (f : Nat) (v : Value) (w : World) (hv : NdV w (f + 1 + 1) v neg) : Calls Tryz.prog 33 #[v] w fun e w' => e = .returned (.bool true) ∧ Below w.heap.size w w' := by
  obtain ⟨A, c, rfl, hm⟩ := hv.val
  have hb : Below w.heap.size w (w.alloc (.cells #[.int .i64 19, .string ⟨#[45]⟩, .slice A 1 c, .int .i64 0] 24)) := (Below.refl _ w).alloc (Nat.le_refl _) _
  have h1 := named_c (f + 1) 71 #[] (neg.val A c) neg true _ (unary_minus _) (hv.below hb)
  have e1 : neg.val A c = .agg #[.int .i64 19, .string ⟨#[45]⟩, .slice A 1 c, .int .i64 0] := rfl
  have h2 := h1.mono (R' := fun e w' => ∃ A c, e = .returned (.agg #[.int .i64 19, .string ⟨#[]⟩, .slice A 1 c, .int .i64 0]) ∧ NdV w' (f + 1 + 1) (.agg #[.int .i64 19, .string ⟨#[]⟩, .slice A 1 c, .int .i64 0]) (namedN neg true) ∧ Below w.heap.size w w')
    (fun e w' h => by
      obtain ⟨A, c, h1, h2, h3⟩ := h
      exact ⟨A, c, h1, h2, hb.trans (h3.mono hb.size)⟩)
  rw [e1] at h2
  rw [e1]
  have H2 := Lib.hid h2
  clear h1 h2 hv e1 hm hb
  go_enter Tryz.func33, Tryz.ntmps33
  go_wp2_with fail
  refine H2.out.mono ?_
  rintro e w1 ⟨A1, c1, rfl, n1, b1⟩
  have b2 : Below w1.heap.size w1 (w1.alloc (.cells #[.func (.func 33) #[] #[]] 33)) := (Below.refl _ w1).alloc (Nat.le_refl _) _
  have hfs : FsAt (w1.alloc (.cells #[.func (.func 33) #[] #[]] 33)) (some ⟨w1.heap.size, 0, none⟩) [(33, #[])] := fun _ => ⟨w1.heap.size, 0, rfl, fun i g hg => by
    rcases i with _ | i
    · simp at hg
      subst hg
      exact (Whole.new w1 33 #[.func (.func 33) #[] #[]]).cell 0
    · simp at hg⟩
  have h3 := of_c (f + 1) _ (namedN neg true) 19 (some ⟨w1.heap.size, 0, none⟩) 1 [(33, #[])] [fun _ => true] rfl (by simp) _ (n1.below b2) hfs (fun i g q k hg hq hk => by
    rcases i with _ | i
    · simp at hg hq
      subst hg hq
      have hk1 : k = one := by simpa [namedN, neg, Nd.kids] using hk.symm
      subst hk1
      exact ⟨enters_of Tryz.func33 (by kernel_rfl) rfl, fun W v hW hv => expr_one f v W hv⟩
    · simp at hg)
  have e3 : ofN (namedN neg true) 19 [fun _ => true] = true := by
    unfold ofN
    rw [show (namedN neg true).text = ⟨#[]⟩ from rfl, no_text]
    rfl
  rw [e3] at h3
  have H3 := Lib.hid h3
  have B1 := Lib.hid (b1.trans (b2.mono b1.size))
  clear h3 b1 b2 n1 e3 H2 hfs
  simp only [List.length_cons, List.length_nil, Nat.zero_add] at H3
  go_wp2_with fail
  refine H3.out.mono ?_
  rintro e w2 ⟨rfl, b2⟩
  go_wp2_with fail
  go_ret
  exact ⟨rfl, B1.out.trans (b2.mono B1.out.size)⟩

set_option maxRecDepth 100000 in
set_option maxHeartbeats 1000000 in
theorem type_neg (f : Nat) (v : Value) (w : World) (hv : NdV w f v neg) : Calls Tryz.prog 32 #[v] w fun e w' => e = .returned (.bool false) ∧ Below w.heap.size w w' := by
  obtain ⟨A, c, rfl, hm⟩ := hv.val
  have e1 : neg.val A c = .agg #[.int .i64 19, .string ⟨#[45]⟩, .slice A 1 c, .int .i64 0] := rfl
  rw [e1]
  clear hv e1 hm
  go_enter Tryz.func32, Tryz.ntmps32
  go_wp2_with fail
  go_ret
  exact ⟨rfl, (Below.refl _ w).alloc (Nat.le_refl _) _⟩

end Go.Proofs.YtkmhijkpbmcgbaaGreat
