/-
  A copy of what is not too deep shares no row; a node with another text in its first kid.
-/
import Derived.Test.YtkmhijkpbmcgbaaFindOwn
import Derived.Test.YtkmhijkpbmcgbaaLawNones
namespace Go.Proofs.Ytkmhijkpbmcgbaa
set_option linter.all false
open Go.RowKit Go.Shelf

theorem NdP.deep {S : Nat → Nat → Prop} {w : World} : ∀ {d f : Nat} {v : Value} {n : Nd}, depthN (d + 1) n ≤ d → NdP S w d f v n → NdP (fun d b => d ≠ 0 ∧ S d b) w d f v n
  | _, 0, _, _, _, h => h.elim
  | d, f + 1, v, n, hd, ⟨A, c, hv, hl, hc⟩ => ⟨A, c, hv, hl, fun h0 => by
      obtain ⟨b, off, hA, hS, hi⟩ := hc h0
      have h1 : 1 ≤ depthN (d + 1) n := by simp only [depthN]; omega
      refine ⟨b, off, hA, ⟨by omega, hS⟩, fun i k hik => ?_⟩
      obtain ⟨A', c', h1, h2, h3, h4, h5⟩ := hi i k hik
      refine ⟨A', c', h1, h2, h3, h4, NdP.deep ?_ h5⟩
      have := depth_kid (f := d) (List.mem_of_getElem? hik)
      cases d with
      | zero => omega
      | succ d => simp only [Nat.succ_sub_one]; omega⟩

/-- A node with another text in its first kid. -/
def bump (n : Nd) (t : ByteArray) : Nd := match n.kids with
  | [] => n
  | k :: l => .mk n.kind n.text (.mk k.kind t k.kids k.place :: l) n.place
theorem bump_eq {n : Nd} {t : ByteArray} {k : Nd} {l : List Nd} (h : n.kids = k :: l) : bump n t = .mk n.kind n.text (.mk k.kind t k.kids k.place :: l) n.place := by
  unfold bump
  rw [h]
theorem NdV.retext {w : World} {f : Nat} {A : Option Addr} {c : Nat} {k : Nd} (t : ByteArray) (h : NdV w f (k.val A c) k) : NdV w f ((Nd.mk k.kind t k.kids k.place).val A c) (Nd.mk k.kind t k.kids k.place) := by
  cases f with
  | zero => exact h.elim
  | succ f =>
    obtain ⟨A1, c1, hv, hl, hc⟩ := h
    unfold Nd.val at hv
    injection hv with hv
    simp only [Array.mk.injEq, List.cons.injEq, Value.slice.injEq, and_true, true_and] at hv
    obtain ⟨hA, hcc⟩ := hv
    exact ⟨A, c, rfl, hl, by rw [hA]; exact hc⟩
theorem bump_same (n : Nd) (t : ByteArray) (k : Nd) (hk : n.kids[0]? = some k) (ht : t.toList ≠ k.text.toList) (f : Nat) : sameN (f + 1 + 1) (bump n t) n = false := by
  cases h : sameN (f + 1 + 1) (bump n t) n with
  | false => rfl
  | true =>
    rw [same_iff] at h
    obtain ⟨_, _, _, h4⟩ := h
    cases hn : n.kids with
    | nil => rw [hn] at hk; simp at hk
    | cons k0 l =>
      rw [hn] at hk
      have hk0 : k0 = k := by simpa using hk
      have h5 := h4 0 (.mk k0.kind t k0.kids k0.place) k0 (by rw [bump_eq hn]; rfl) (by rw [hn]; rfl)
      rw [same_iff] at h5
      exact absurd h5.2.1 (by rw [hk0]; exact ht)

theorem Own1.bump {T : Nat → Prop} {S : Nat → Nat → Prop} {w : World} {f : Nat} {A : Option Addr} {c : Nat} {n : Nd} (h : Own1 T S w 99 f A n) (h0 : 0 < n.kids.length) (hm : n.kids.length ≤ maxLen) (t : ByteArray) {g : Nat} (hg : A = some ⟨g, 0, none⟩) :
    NdV (w.setCell ⟨g, 1, none⟩ (.string t)) (f + 1) ((Go.Proofs.Ytkmhijkpbmcgbaa.bump n t).val A c) (Go.Proofs.Ytkmhijkpbmcgbaa.bump n t) := by
  obtain ⟨g', hA, hT, hfz, hi⟩ := h h0
  rw [hg] at hA
  injection hA with hA
  injection hA with hA _ _
  subst hA
  cases hn : n.kids with
  | nil => rw [hn] at h0; simp at h0
  | cons k0 l =>
  have e1 : (Go.Proofs.Ytkmhijkpbmcgbaa.bump n t).kids = .mk k0.kind t k0.kids k0.place :: l := by rw [bump_eq hn]; rfl
  have hlen : (Go.Proofs.Ytkmhijkpbmcgbaa.bump n t).kids.length = n.kids.length := by rw [e1, hn]; rfl
  refine ⟨A, c, rfl, by rw [hlen]; exact hm, fun _ => ⟨g, 0, hg, fun i k hik => ?_⟩⟩
  have hsub : ∀ {d f : Nat} {v : Value} {m : Nd}, NdP (fun d b => S d b ∧ b ≠ g) w d f v m → NdV (w.setCell ⟨g, 1, none⟩ (.string t)) f v m := fun h => (h.far ⟨g, 1, none⟩ _ (fun d b hs => hs.2)).ndv
  have hfar : ∀ o v, o ≠ 1 → w.cell? ⟨g, o, none⟩ = some v → (w.setCell ⟨g, 1, none⟩ (.string t)).cell? ⟨g, o, none⟩ = some v := fun o v ho hv => by
    rw [World.cell?_setCell_other _ _ _ _ (fun e => ho (by injection e with _ h2 _; exact h2.symm))]
    exact hv
  cases i with
  | zero =>
    obtain ⟨A', c', h1, h2, h3, h4, h5⟩ := hi 0 k0 (by rw [hn]; rfl)
    rw [e1] at hik
    have hk : k = .mk k0.kind t k0.kids k0.place := by simpa using hik.symm
    subst hk
    refine ⟨A', c', hfar _ _ (by omega) h1, ?_, hfar _ _ (by omega) h3, hfar _ _ (by omega) h4, (hsub h5).retext t⟩
    exact World.cell?_setCell_same' _ _ _ (by rw [show (⟨g, 1, none⟩ : Addr) = ⟨g, 0 + 0 * 4 + 1, none⟩ from rfl, h2]; rfl)
  | succ i =>
    rw [e1] at hik
    have hk : n.kids[i + 1]? = some k := by rw [hn]; simpa using hik
    obtain ⟨A', c', h1, h2, h3, h4, h5⟩ := hi (i + 1) k hk
    exact ⟨A', c', hfar _ _ (by omega) h1, hfar _ _ (by omega) h2, hfar _ _ (by omega) h3, hfar _ _ (by omega) h4, hsub h5⟩

end Go.Proofs.Ytkmhijkpbmcgbaa
