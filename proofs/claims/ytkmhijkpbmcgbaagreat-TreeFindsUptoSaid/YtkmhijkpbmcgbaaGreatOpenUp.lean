/-
  From the row's reading of a node to the walks' word for it; how large it is.
-/
import Derived.Test.YtkmhijkpbmcgbaaGreatOpen
import Derived.Test.YtkmhijkpbmcgbaaGreatRows
import Derived.Deep.Slices
import Derived.Deep.Fields
import Derived.OpenShut
namespace Go.Proofs.YtkmhijkpbmcgbaaGreat
set_option linter.all false
open Go.RowKit Go.ChangeShapes Go.WideShapes Go.Deep

theorem bulk_sum {H : Type} (m : Nat) : ∀ (l : List Nd) (ds : List (DataW H)), l.length = ds.length → (∀ (i : Nat) (k : Nd) (d : DataW H), l[i]? = some k → ds[i]? = some d → sizeN m k ≤ Rows.uptoBulk d) → (l.map (sizeN m)).sum ≤ Rows.uptoBulkAll ds
  | [], [], _, _ => by simp
  | [], _ :: _, h, _ => by simp at h
  | _ :: _, [], h, _ => by simp at h
  | k :: l, d :: ds, h, hp => by
    have h1 := hp 0 k d rfl rfl
    have h2 := bulk_sum m l ds (by simpa using h) (fun i k d hk hd => hp (i + 1) k d (by simpa using hk) (by simpa using hd))
    simp only [List.map_cons, List.sum_cons, Rows.uptoBulkAll]
    omega

set_option maxRecDepth 100000 in
theorem open_node_up {H : Type} {enc : TypeId × Value → H} {w : World} {base : Nat} {spare : Nat → Bool} {held : Bool} :
    ∀ (fuel : Nat) (cs : List Value) (x : DataW H × List MemPlace), DataW.trod enc Tryz.prog w base spare held fuel 24 cs = some x →
      ∃ (n : Nd) (A : Option Addr) (c : Nat), cs = [.int .i64 n.kind, .string n.text, .slice A n.kids.length c, .int .i64 n.place] ∧ NdV w (fuel + 1) (n.val A c) n ∧ ∀ m, sizeN m n ≤ Rows.uptoBulk x.1 := by
  intro fuel
  induction fuel using Nat.strongRecOn with
  | ind fuel ih =>
    intro cs x h
    obtain ⟨xs, m, hfu, hxx, hlen, hxl, hf⟩ := DataW.trod_struct Tryz.underlying24 h
    rw [cz24] at hlen
    match cs, hlen with
    | [c0, c1, c2, c3], _ =>
      match xs, hxl with
      | [y0, y1, y2, y3], _ =>
        have h0 := hf 0 _ rfl
        have h1 := hf 1 _ rfl
        have h2 := hf 2 _ rfl
        have h3 := hf 3 _ rfl
        simp [cz3, cz9, cz22] at h0 h1 h2 h3
        obtain ⟨k, e0, _, _⟩ := DataW.trod_int Tryz.underlying3 h0
        obtain ⟨s, e1, _, _⟩ := DataW.trod_string Tryz.underlying9 h1
        obtain ⟨a, e3, _, _⟩ := DataW.trod_int Tryz.underlying3 h3
        simp only [List.cons.injEq, and_true] at e0 e1 e3
        subst e0 e1 e3
        rcases DataW.trod_slice Tryz.underlying22 h2 with ⟨e2, _⟩ | ⟨ad, len, cap, elems, rest, m2, hm2, e2, ey, _, hl, hcap, hel, hi, _, _⟩
        · simp only [List.cons.injEq, and_true] at e2
          subst e2
          refine ⟨.mk k s [] a, none, 0, rfl, ⟨none, 0, rfl, ⟨Nat.zero_le _, Nat.zero_le _⟩, fun h => absurd h (by simp [Nd.kids])⟩, fun m => ?_⟩
          rw [hxx]
          simp only [Rows.uptoBulk]
          cases m with
          | zero => simp [sizeN]
          | succ m => simp [sizeN, Nd.kids]
        · simp only [List.cons.injEq, and_true] at e2
          subst e2
          rw [cz24] at hi
          have hkid : ∀ i, i < len → ∃ (n : Nd) (A : Option Addr) (c : Nat), w.cells? base (ad.add (i * 4)) 4 = some [.int .i64 n.kind, .string n.text, .slice A n.kids.length c, .int .i64 n.place] ∧ NdV w fuel (n.val A c) n ∧ ∀ m y, elems[i]? = some y → sizeN m n ≤ Rows.uptoBulk y.1 := by
            intro i hil
            have hii := hi i hil
            rw [List.getElem?_eq_getElem (by omega)] at hii
            rw [Option.bind_eq_some_iff] at hii
            obtain ⟨cs', hcs, ht⟩ := hii
            obtain ⟨n, A, c, e, hn, hb⟩ := ih m2 (by omega) cs' _ ht
            exact ⟨n, A, c, by rw [hcs, e], hn.le (by omega), fun m y hy => by
              rw [List.getElem?_eq_getElem (by omega)] at hy
              injection hy with hy
              rw [← hy]
              exact hb m⟩
          let g : Nat → Nd := fun i => if h : i < len then (hkid i h).choose else .mk 0 ⟨#[]⟩ [] 0
          have hg : ∀ i, i < len → ∃ (A : Option Addr) (c : Nat), w.cells? base (ad.add (i * 4)) 4 = some [.int .i64 (g i).kind, .string (g i).text, .slice A (g i).kids.length c, .int .i64 (g i).place] ∧ NdV w fuel ((g i).val A c) (g i) ∧ ∀ m y, elems[i]? = some y → sizeN m (g i) ≤ Rows.uptoBulk y.1 := by
            intro i hil
            have : g i = (hkid i hil).choose := by simp [g, hil]
            rw [this]
            exact (hkid i hil).choose_spec
          have hll : ((List.range len).map g).length = len := by simp
          refine ⟨.mk k s ((List.range len).map g) a, some ad, cap, by simp [Nd.kind, Nd.text, Nd.kids, Nd.place], ⟨some ad, cap, rfl, ⟨by simp [Nd.kids]; omega, by simp [Nd.kids]; omega⟩, fun h0 => ?_⟩, fun m => ?_⟩
          rotate_left
          · rw [hxx]
            cases m with
            | zero => simp [sizeN]
            | succ m =>
              have hsum := bulk_sum m ((List.range len).map g) (elems.map (·.1)) (by simp [hel]) (fun i k d hk hd => by
                have hil : i < len := by
                  rcases Nat.lt_or_ge i len with h | h
                  · exact h
                  · rw [List.getElem?_eq_none (by rw [hll]; exact h)] at hk
                    cases hk
                rw [List.getElem?_map, List.getElem?_range hil] at hk
                injection hk with hk
                rw [List.getElem?_map] at hd
                obtain ⟨y, hy, rfl⟩ := Option.map_eq_some_iff.1 hd
                subst hk
                obtain ⟨_, _, _, _, hb⟩ := hg i hil
                exact hb m y hy)
              have e2 : y2.1 = .slice (elems.map (·.1)) (rest.map (·.1)) := by rw [ey]
              simp only [sizeN, Nd.kids, List.map_cons, List.map_nil, Rows.uptoBulk, Rows.uptoBulkAll, e2]
              omega
          have h0' : 0 < len := by simpa [Nd.kids] using h0
          obtain ⟨b, off, spot⟩ := ad
          have hspot : spot = none := by
            obtain ⟨A', c', hc, _⟩ := hg 0 h0'
            obtain ⟨_, hl2, hat⟩ := World.cells?_some hc
            have := World.cell?_spot (hat 0 (by omega))
            simpa [Addr.add] using this
          subst hspot
          refine ⟨b, off, rfl, fun i kk hik => ?_⟩
          have hil : i < len := by
            rcases Nat.lt_or_ge i len with h | h
            · exact h
            · rw [show (Nd.mk k s ((List.range len).map g) a).kids = (List.range len).map g from rfl, List.getElem?_eq_none (by rw [hll]; exact h)] at hik
              cases hik
          have hkk : kk = g i := by
            rw [show (Nd.mk k s ((List.range len).map g) a).kids = (List.range len).map g from rfl, List.getElem?_map, List.getElem?_range hil] at hik
            simpa using hik.symm
          subst hkk
          obtain ⟨A', c', hc, hn, _⟩ := hg i hil
          obtain ⟨_, hl2, hat⟩ := World.cells?_some hc
          refine ⟨A', c', ?_, ?_, ?_, ?_, hn⟩
          · have hh := hat 0 (by omega)
            rw [add_none, add_none] at hh
            simpa using hh
          · have hh := hat 1 (by omega)
            rw [add_none, add_none] at hh
            simpa using hh
          · have hh := hat 2 (by omega)
            rw [add_none, add_none] at hh
            simpa using hh
          · have hh := hat 3 (by omega)
            rw [add_none, add_none] at hh
            simpa using hh

end Go.Proofs.YtkmhijkpbmcgbaaGreat
