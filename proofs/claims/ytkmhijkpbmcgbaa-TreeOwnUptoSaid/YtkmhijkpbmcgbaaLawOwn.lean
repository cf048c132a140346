/-
  The law TreeOwn: its walk.
-/
import Derived.Test.YtkmhijkpbmcgbaaOwnLaws
namespace Go.Proofs.Ytkmhijkpbmcgbaa
set_option linter.all false
open Go.RowKit Go.Shelf

namespace Held
open Go
variable {P : Program} {ops : Array Oper} {Q : Exit → Act → World → Prop} {md : Region.Mode} {C0 C1 : World → Prop} {st : Nat}
theorem step3 {i j k : Nat} {o o' o'' : Oper} {fuel : Nat} {L : Array Bool} {a : Act} {w : World} (ho : ops[i]? = some o) (ho' : ops[j]? = some o') (ho'' : ops[k]? = some o'') (hr : Region.ready md ops L = [i, j, k])
    (h : ∀ K' : Act → World → Prop, Hid (∀ a w, S C0 C1 st (L.setIfInBounds i true) w → Goal P md ops Q C0 C1 st fuel (L.setIfInBounds i true) a w → K' a w) → if Region.wanted o (yielded ops a.tmps) = true then Oper.wp P o a w K' Q else K' (a.put o.dst undef) w)
    (h' : ∀ K' : Act → World → Prop, Hid (∀ a w, S C0 C1 st (L.setIfInBounds j true) w → Goal P md ops Q C0 C1 st fuel (L.setIfInBounds j true) a w → K' a w) → if Region.wanted o' (yielded ops a.tmps) = true then Oper.wp P o' a w K' Q else K' (a.put o'.dst undef) w)
    (h'' : ∀ K' : Act → World → Prop, Hid (∀ a w, S C0 C1 st (L.setIfInBounds k true) w → Goal P md ops Q C0 C1 st fuel (L.setIfInBounds k true) a w → K' a w) → if Region.wanted o'' (yielded ops a.tmps) = true then Oper.wp P o'' a w K' Q else K' (a.put o''.dst undef) w) :
    Goal P md ops Q C0 C1 st (fuel + 1) L a w := fun hC hS => by
  refine ⟨fun h0 => (by rw [h0] at hr; cases hr), fun m hk => ?_⟩
  have hk' := hk
  rw [hr] at hk'
  rcases List.mem_cons.1 hk' with rfl | h2
  · exact op1_step ho (fun K' hK => h K' (Lib.hid fun a w hS hG => hK a w ⟨hS, hG (hC.set hk) hS⟩))
  rcases List.mem_cons.1 h2 with rfl | h2
  · exact op1_step ho' (fun K' hK => h' K' (Lib.hid fun a w hS hG => hK a w ⟨hS, hG (hC.set hk) hS⟩))
  · obtain rfl : m = k := by simpa using h2
    exact op1_step ho'' (fun K' hK => h'' K' (Lib.hid fun a w hS hG => hK a w ⟨hS, hG (hC.set hk) hS⟩))
theorem wp_via {c : Code} {a : Act} {w : World} (R : Act → Exit → Act → World → Prop) (h : c.wp P (R a) a w) (hq : ∀ e b W, R a e b W → Q e b W) : c.wp P Q a w := Code.wp_mono hq h
end Held

theorem Own1.deep {T : Nat → Prop} {S : Nat → Nat → Prop} {w : World} {f : Nat} {A : Option Addr} {n : Nd} (hd : depthN 101 n ≤ 100) (h : Own1 T S w 99 f A n) : Own1 T (fun d b => d ≠ 0 ∧ S d b) w 99 f A n := fun h0 => by
  obtain ⟨g, hA, hg, hfz, hi⟩ := h h0
  refine ⟨g, hA, hg, hfz, fun i k hik => ?_⟩
  obtain ⟨A', c', h1, h2, h3, h4, h5⟩ := hi i k hik
  refine ⟨A', c', h1, h2, h3, h4, (NdP.deep ?_ h5).weak fun d b h => ⟨⟨h.1, h.2.1⟩, h.2.2⟩⟩
  have h6 : depthN 100 k + 1 ≤ depthN 101 n := depth_kid (f := 100) (List.mem_of_getElem? hik)
  show depthN 100 k ≤ 99
  omega
theorem copy_own (f : Nat) (v : Value) (n : Nd) (w : World) (hv : NdV w f v n) (hz : sizeN 101 n ≤ 1048576) (hd : depthN 101 n ≤ 100) :
    Calls Try.prog 17 #[v] w fun e w' => ∃ A c, e = .returned (.agg #[.int .i64 n.kind, .string n.text, .slice A n.kids.length c, .int .i64 n.place]) ∧ NdV w' f (n.val A c) n ∧ Below w.heap.size w w' ∧
      NdP (fun _ b => w.heap.size ≤ b ∧ b < w'.heap.size) w' 100 f (n.val A c) n ∧ Own1 (fun g => w.heap.size ≤ g ∧ g < w'.heap.size) (fun _ b => w.heap.size ≤ b ∧ b < w'.heap.size) w' 99 (f - 1) A n :=
  (copy_row (fun b => b < w.heap.size) f v n w hz hv.ndp).mono fun e w' h => by
    obtain ⟨A, c, h1, h2, h3, h4⟩ := h
    refine ⟨A, c, h1, h2.ndv, h3, ?_, ?_⟩
    · have h5 := NdP.deep hd h2
      refine h5.keep (fun d b hs => ?_) fun _ _ _ _ _ hv => hv
      rcases Nat.lt_or_ge b w'.heap.size with hl | hl
      · left
        rcases hs.2 with ⟨h0, _⟩ | h0
        · exact absurd h0 hs.1
        · exact ⟨h0, hl⟩
      · exact .inr hl
    · refine (h4.deep hd).and_lt.weak (fun g hg => ⟨by omega, hg.2⟩) (fun d b hs => ⟨?_, hs.2⟩)
      rcases hs.1.2 with ⟨h0, _⟩ | h0
      · exact absurd h0 hs.1.1
      · omega

/-- Copies c and d of a node in their boxes: c's rows lie in neither box, nor d's. -/
def Own3 (w : World) (n : Nd) (A : Option Addr) (c f : Nat) (Ac : Option Addr) (cc : Nat) (Ad : Option Addr) (cd B3 B4 : Nat) (W : World) : Prop :=
  Box1 w n A c w.heap.size W ∧ Whole W B3 24 (cellsOf n Ac cc) ∧ Whole W B4 24 (cellsOf n Ad cd) ∧ w.heap.size < B3 ∧ w.heap.size < B4 ∧ NdV W f (n.val Ac cc) n ∧ ∃ K, K ≤ W.heap.size ∧
    Own1 (fun g => w.heap.size < g ∧ g < K ∧ g ≠ B3 ∧ g ≠ B4) (fun _ _ => True) W 99 (f - 1) Ac n ∧ NdP (fun _ b => K ≤ b) W 100 f (n.val Ad cd) n
theorem Own3.next {w W W' : World} {n : Nd} {A Ac Ad : Option Addr} {c f cc cd B3 B4 : Nat} (h : Own3 w n A c f Ac cc Ad cd B3 B4 W) (hb : Below W.heap.size W W') : Own3 w n A c f Ac cc Ad cd B3 B4 W' := by
  obtain ⟨h1, h2, h3, h4, h5, h6, K, hK, h7, h8⟩ := h
  exact ⟨h1.next hb, h2.below hb h2.lt, h3.below hb h3.lt, h4, h5, h6.below hb, K, Nat.le_trans hK hb.size, h7.below hb, h8.below hb⟩
theorem Own3.cells {w W : World} {n : Nd} {A Ac Ad : Option Addr} {c f cc cd B3 B4 : Nat} (h : Own3 w n A c f Ac cc Ad cd B3 B4 W) :
    W.cell? ⟨w.heap.size, 0, none⟩ = some (.int .i64 n.kind) ∧ W.cell? ⟨w.heap.size, 1, none⟩ = some (.string n.text) ∧ W.cell? ⟨w.heap.size, 2, none⟩ = some (.slice A n.kids.length c) ∧ W.cell? ⟨w.heap.size, 3, none⟩ = some (.int .i64 n.place) ∧
    W.cell? ⟨B3, 0, none⟩ = some (.int .i64 n.kind) ∧ W.cell? ⟨B3, 1, none⟩ = some (.string n.text) ∧ W.cell? ⟨B3, 2, none⟩ = some (.slice Ac n.kids.length cc) ∧ W.cell? ⟨B3, 3, none⟩ = some (.int .i64 n.place) ∧
    W.cell? ⟨B4, 0, none⟩ = some (.int .i64 n.kind) ∧ W.cell? ⟨B4, 1, none⟩ = some (.string n.text) ∧ W.cell? ⟨B4, 2, none⟩ = some (.slice Ad n.kids.length cd) ∧ W.cell? ⟨B4, 3, none⟩ = some (.int .i64 n.place) :=
  ⟨h.1.2.cell 0, h.1.2.cell 1, h.1.2.cell 2, h.1.2.cell 3, h.2.1.cell 0, h.2.1.cell 1, h.2.1.cell 2, h.2.1.cell 3, h.2.2.1.cell 0, h.2.2.1.cell 1, h.2.2.1.cell 2, h.2.2.1.cell 3⟩
theorem set4w {w : World} {g B : Nat} {cs : Array Value} (h : Whole w g 24 cs) (hne : g ≠ B) (a b c d : Value) : Whole (((((w.setCell ⟨B, 0, none⟩ a).setCell ⟨B, 1, none⟩ b).setCell ⟨B, 2, none⟩ c).setCell ⟨B, 3, none⟩ d)) g 24 cs :=
  (((h.far (p := ⟨B, 0, none⟩) hne _).far (p := ⟨B, 1, none⟩) hne _).far (p := ⟨B, 2, none⟩) hne _).far (p := ⟨B, 3, none⟩) hne _
theorem own3_fin {w V : World} {n : Nd} {A Ac Ad : Option Addr} {c f cc cd B3 B4 : Nat} (sc ec sd ed : Nat) (hx : Box1 w n A c w.heap.size V) (h3 : Whole V B3 24 #[.int .i64 0, .string ⟨#[]⟩, .slice none 0 0, .int .i64 0]) (h4 : Whole V B4 24 #[.int .i64 0, .string ⟨#[]⟩, .slice none 0 0, .int .i64 0])
    (hne : B3 ≠ B4) (l3 : w.heap.size < B3) (l4 : w.heap.size < B4) (n3 : B3 < sc ∨ ec ≤ B3) (n4 : B4 < sc ∨ ec ≤ B4) (m3 : B3 < sd ∨ ed ≤ B3) (m4 : B4 < sd ∨ ed ≤ B4) (hcd : ec ≤ sd) (hsc : w.heap.size < sc ∧ ec ≤ V.heap.size)
    (oc : Own1 (fun g => sc ≤ g ∧ g < ec) (fun _ b => sc ≤ b ∧ b < ec) V 99 (f - 1) Ac n) (od : NdP (fun _ b => sd ≤ b ∧ b < ed) V 100 f (n.val Ad cd) n) (nc : NdP (fun _ b => sc ≤ b ∧ b < ec) V 100 f (n.val Ac cc) n) :
    Own3 w n A c f Ac cc Ad cd B3 B4 (((((((((V.setCell ⟨B3, 0, none⟩ (.int .i64 n.kind)).setCell ⟨B3, 1, none⟩ (.string n.text)).setCell ⟨B3, 2, none⟩ (.slice Ac n.kids.length cc)).setCell ⟨B3, 3, none⟩ (.int .i64 n.place)).setCell ⟨B4, 0, none⟩ (.int .i64 n.kind)).setCell ⟨B4, 1, none⟩ (.string n.text)).setCell ⟨B4, 2, none⟩ (.slice Ad n.kids.length cd)).setCell ⟨B4, 3, none⟩ (.int .i64 n.place))) := by
  have hb3 := fun {W : World} (h : Below w.heap.size w W) (o : Nat) (u : Value) => h.setCell (p := ⟨B3, o, none⟩) (by simp only; omega) u
  have hb4 := fun {W : World} (h : Below w.heap.size w W) (o : Nat) (u : Value) => h.setCell (p := ⟨B4, o, none⟩) (by simp only; omega) u
  have ho3 := fun {W : World} (h : Own1 (fun g => sc ≤ g ∧ g < ec) (fun _ b => sc ≤ b ∧ b < ec) W 99 (f - 1) Ac n) (o : Nat) (u : Value) => h.far ⟨B3, o, none⟩ u (fun g hg => by simp only; omega) (fun d g hg => by simp only; omega)
  have ho4 := fun {W : World} (h : Own1 (fun g => sc ≤ g ∧ g < ec) (fun _ b => sc ≤ b ∧ b < ec) W 99 (f - 1) Ac n) (o : Nat) (u : Value) => h.far ⟨B4, o, none⟩ u (fun g hg => by simp only; omega) (fun d g hg => by simp only; omega)
  have hd3 := fun {W : World} (h : NdP (fun _ b => sd ≤ b ∧ b < ed) W 100 f (n.val Ad cd) n) (o : Nat) (u : Value) => h.far ⟨B3, o, none⟩ u (fun d g hg => by simp only; omega)
  have hd4 := fun {W : World} (h : NdP (fun _ b => sd ≤ b ∧ b < ed) W 100 f (n.val Ad cd) n) (o : Nat) (u : Value) => h.far ⟨B4, o, none⟩ u (fun d g hg => by simp only; omega)
  have hc3 := fun {W : World} (h : NdP (fun _ b => sc ≤ b ∧ b < ec) W 100 f (n.val Ac cc) n) (o : Nat) (u : Value) => h.far ⟨B3, o, none⟩ u (fun d g hg => by simp only; omega)
  have hc4 := fun {W : World} (h : NdP (fun _ b => sc ≤ b ∧ b < ec) W 100 f (n.val Ac cc) n) (o : Nat) (u : Value) => h.far ⟨B4, o, none⟩ u (fun d g hg => by simp only; omega)
  refine ⟨⟨hb4 (hb4 (hb4 (hb4 (hb3 (hb3 (hb3 (hb3 hx.1 _ _) _ _) _ _) _ _) _ _) _ _) _ _) _ _, set4w (set4w hx.2 (by omega) _ _ _ _) (by omega) _ _ _ _⟩, ?_, ?_, l3, l4, ?_, ec, ?_, ?_, ?_⟩
  · exact set4w ((((h3.put 0 (.int .i64 n.kind)).put 1 (.string n.text)).put 2 (.slice Ac n.kids.length cc)).put 3 (.int .i64 n.place)) hne _ _ _ _
  · exact (((((set4w h4 (by omega) _ _ _ _).put 0 (.int .i64 n.kind)).put 1 (.string n.text)).put 2 (.slice Ad n.kids.length cd)).put 3 (.int .i64 n.place))
  · exact (hc4 (hc4 (hc4 (hc4 (hc3 (hc3 (hc3 (hc3 nc _ _) _ _) _ _) _ _) _ _) _ _) _ _) _ _).ndv
  · simp only [World.size_setCell]; omega
  · exact (ho4 (ho4 (ho4 (ho4 (ho3 (ho3 (ho3 (ho3 oc _ _) _ _) _ _) _ _) _ _) _ _) _ _) _ _).weak (fun g hg => by omega) (fun _ _ _ => trivial)
  · exact (hd4 (hd4 (hd4 (hd4 (hd3 (hd3 (hd3 (hd3 od _ _) _ _) _ _) _ _) _ _) _ _) _ _) _ _).weak (fun d g hg => by omega)

/-- The copies in their boxes, c as m now. -/
def Own5 (w : World) (n : Nd) (A : Option Addr) (c f : Nat) (Ac : Option Addr) (cc : Nat) (Ad : Option Addr) (cd B3 B4 : Nat) (m : Nd) (W : World) : Prop :=
  Box1 w n A c w.heap.size W ∧ Whole W B3 24 (cellsOf n Ac cc) ∧ Whole W B4 24 (cellsOf n Ad cd) ∧ (∃ F, NdV W F (n.val Ac cc) m) ∧ NdV W f (n.val Ad cd) n
theorem Own5.next {w W W' : World} {n m : Nd} {A Ac Ad : Option Addr} {c f cc cd B3 B4 : Nat} (h : Own5 w n A c f Ac cc Ad cd B3 B4 m W) (hb : Below W.heap.size W W') : Own5 w n A c f Ac cc Ad cd B3 B4 m W' := by
  obtain ⟨h1, h2, h3, ⟨F, h4⟩, h5⟩ := h
  exact ⟨h1.next hb, h2.below hb h2.lt, h3.below hb h3.lt, ⟨F, h4.below hb⟩, h5.below hb⟩
theorem Own5.cells {w W : World} {n m : Nd} {A Ac Ad : Option Addr} {c f cc cd B3 B4 : Nat} (h : Own5 w n A c f Ac cc Ad cd B3 B4 m W) :
    W.cell? ⟨w.heap.size, 0, none⟩ = some (.int .i64 n.kind) ∧ W.cell? ⟨w.heap.size, 1, none⟩ = some (.string n.text) ∧ W.cell? ⟨w.heap.size, 2, none⟩ = some (.slice A n.kids.length c) ∧ W.cell? ⟨w.heap.size, 3, none⟩ = some (.int .i64 n.place) ∧
    W.cell? ⟨B3, 0, none⟩ = some (.int .i64 n.kind) ∧ W.cell? ⟨B3, 1, none⟩ = some (.string n.text) ∧ W.cell? ⟨B3, 2, none⟩ = some (.slice Ac n.kids.length cc) ∧ W.cell? ⟨B3, 3, none⟩ = some (.int .i64 n.place) ∧
    W.cell? ⟨B4, 0, none⟩ = some (.int .i64 n.kind) ∧ W.cell? ⟨B4, 1, none⟩ = some (.string n.text) ∧ W.cell? ⟨B4, 2, none⟩ = some (.slice Ad n.kids.length cd) ∧ W.cell? ⟨B4, 3, none⟩ = some (.int .i64 n.place) :=
  ⟨h.1.2.cell 0, h.1.2.cell 1, h.1.2.cell 2, h.1.2.cell 3, h.2.1.cell 0, h.2.1.cell 1, h.2.1.cell 2, h.2.1.cell 3, h.2.2.1.cell 0, h.2.2.1.cell 1, h.2.2.1.cell 2, h.2.2.1.cell 3⟩
theorem own5_same {w W : World} {n : Nd} {A Ac Ad : Option Addr} {c f cc cd B3 B4 : Nat} (h : Own3 w n A c f Ac cc Ad cd B3 B4 W) : Own5 w n A c f Ac cc Ad cd B3 B4 n W :=
  ⟨h.1, h.2.1, h.2.2.1, ⟨f, h.2.2.2.2.2.1⟩, h.2.2.2.2.2.2.choose_spec.2.2.ndv⟩
theorem own5_bump {w W : World} {n : Nd} {A Ad : Option Addr} {c f cc cd B3 B4 g : Nat} (h : Own3 w n A c f (some ⟨g, 0, none⟩) cc Ad cd B3 B4 W) (h0 : 0 < n.kids.length) (hm : n.kids.length ≤ maxLen) (t : ByteArray) :
    Own5 w n A c f (some ⟨g, 0, none⟩) cc Ad cd B3 B4 (bump n t) (W.setCell ⟨g, 1, none⟩ (.string t)).drew := by
  obtain ⟨h1, h2, h3, h4, h5, h6, K, hK, h7, h8⟩ := h
  obtain ⟨g', hg, hT, _, _⟩ := h7 h0
  injection hg with hg
  injection hg with hg _ _
  subst hg
  have hv : (bump n t).val (some ⟨g, 0, none⟩) cc = n.val (some ⟨g, 0, none⟩) cc := by
    cases hn : n.kids with
    | nil => rw [hn] at h0; simp at h0
    | cons k l =>
      rw [bump_eq hn]
      unfold Nd.val
      simp [Nd.kind, Nd.text, Nd.kids, Nd.place, ← hn]
      cases n
      simp_all [Nd.kids]
  refine ⟨⟨(h1.1.setCell (p := ⟨g, 1, none⟩) (by simp only; omega) _).drew, (h1.2.far (p := ⟨g, 1, none⟩) (by simp only; omega) _).drew⟩, (h2.far (p := ⟨g, 1, none⟩) (fun e => hT.2.2.1 e.symm) _).drew, (h3.far (p := ⟨g, 1, none⟩) (fun e => hT.2.2.2 e.symm) _).drew, ⟨f - 1 + 1, ?_⟩, ?_⟩
  · rw [← hv]
    exact (h7.bump (c := cc) h0 hm t rfl).below (Below.refl _ _).drew
  · exact ((h8.far ⟨g, 1, none⟩ (.string t) (fun d b hb => by simp only; omega)).ndv).below (Below.refl _ _).drew

/-- Between two rounds. -/
def Rounds (Ws : World) (l : List Ent) (Au : Option Addr) (i : Value) (W : World) : Prop := ∃ p : Nat, p ≤ l.length ∧ i = .int .i64 p ∧ Below Ws.heap.size Ws W ∧ ∀ j x, l[j]? = some x → ∃ gu, Au = some ⟨gu, 0, none⟩ ∧ W.cell? ⟨gu, 0 + j * 4 + 2, none⟩ = some (.slice x.2.1 x.1.kids.length x.2.2) ∧
    (0 < x.1.kids.length → ∃ g v, x.2.1 = some ⟨g, 0, none⟩ ∧ g ≠ gu ∧ Ws.heap.size ≤ g ∧ W.frozen? ⟨g, 0, none⟩ = false ∧ W.cell? ⟨g, 0, none⟩ = some v)
theorem rounds_start {Ws W : World} {f : Nat} {l : List Ent} {Au : Option Addr} {cu : Nat} (hr : RowNd (FS Ws) (Ws.heap.size + 3) W 100 f (.slice Au l.length cu) l) (ho : OwnAll (FT Ws) (FS Ws) W (f - 1) (.slice Au l.length cu) l) (hb : Below Ws.heap.size Ws W) : Rounds Ws l Au (.int .i64 0) W := by
  refine ⟨0, Nat.zero_le _, rfl, hb, fun j x hx => ?_⟩
  have hj : j < l.length := by
    rcases Nat.lt_or_ge j l.length with h | h
    · exact h
    · rw [List.getElem?_eq_none h] at hx; cases hx
  rcases hr.1.2 with ⟨hv, h0⟩ | ⟨gu, cap, cur, hv, hbs, hg, hnc, _, _, htk⟩
  · omega
  · injection hv with hA _ _
    subst hA
    refine ⟨gu, rfl, ?_, fun h0 => ?_⟩
    · rw [show 0 + j * 4 + 2 = 0 + (j * 4 + 2) by omega, cell_of_row _ _ _ _ _ _ hg]
      have h3 : (cur.toList.take (l.length * 4))[j * 4 + 2]? = some (.slice x.2.1 x.1.kids.length x.2.2) := by rw [htk, flat4 l j 2 _ hx (by omega)]; rfl
      rw [List.getElem?_take] at h3
      split at h3
      · simpa using h3
      · cases h3
    · obtain ⟨g, hA, hT, hfz, hi⟩ := ho x (List.mem_of_getElem? hx) h0
      obtain ⟨A', c', q0, _⟩ := hi 0 _ (List.getElem?_eq_getElem h0)
      refine ⟨g, _, hA, fun e => hT.2 (by rw [e]; rfl), by have := hT.1; omega, hfz 0, q0⟩
theorem rounds_skip {Ws W : World} {l : List Ent} {Au : Option Addr} {p : Nat} (h : Rounds Ws l Au (.int .i64 p) W) (hp : p < l.length) : Rounds Ws l Au (.int .i64 ((p : Int) + 1)) W := by
  obtain ⟨p', _, hi, hb, hr⟩ := h
  exact ⟨p + 1, hp, rfl, hb, hr⟩
theorem rounds_set {Ws W : World} {l : List Ent} {Au : Option Addr} {p : Nat} {g gu : Nat} (h : Rounds Ws l Au (.int .i64 p) W) (hp : p < l.length) (hau : Au = some ⟨gu, 0, none⟩) (hg : g ≠ gu) (hs : Ws.heap.size ≤ g) (u : Value) : Rounds Ws l Au (.int .i64 ((p : Int) + 1)) (W.setCell ⟨g, 0, none⟩ u) := by
  obtain ⟨p', _, hi, hb, hr⟩ := h
  refine ⟨p + 1, hp, rfl, hb.setCell (p := ⟨g, 0, none⟩) hs u, fun j x hx => ?_⟩
  obtain ⟨gu', hA, hc, hk⟩ := hr j x hx
  rw [hau] at hA
  injection hA with hA
  injection hA with hA _ _
  subst hA
  refine ⟨gu, hau, by rw [World.cell?_setCell_other _ _ _ _ (fun e => hg (by injection e))]; exact hc, fun h0 => ?_⟩
  obtain ⟨g2, v, h1, h2, h3, h4, h5⟩ := hk h0
  by_cases hgg : g2 = g
  · subst hgg
    exact ⟨g2, u, h1, h2, h3, by rw [World.frozen?_setCell]; exact h4, World.cell?_setCell_same' _ _ _ (by rw [h5]; rfl)⟩
  · exact ⟨g2, v, h1, h2, h3, by rw [World.frozen?_setCell]; exact h4, by rw [World.cell?_setCell_other _ _ _ _ (fun e => hgg (by injection e with e1 _ _; exact e1.symm))]; exact h5⟩

set_option maxRecDepth 100000 in
set_option maxHeartbeats 2000000 in
theorem lawOwn_walk (f : Nat) (v : Value) (n : Nd) (w : World) (hv : NdV w f v n) (hz : ∀ m, sizeN m n ≤ 1048576) (ht : ∀ k, n.kids[0]? = some k → k.text.size + 1 ≤ 9223372036854775807) :
    Calls Try.prog 6 #[v] w fun e w' => e = .returned (.bool true) ∧ Below w.heap.size w w' := by
  obtain ⟨A, c, rfl, hm⟩ := hv.val
  have M1 := Lib.hid fun W (h : Below w.heap.size w W) => small_any f _ n W 500 (hv.below h)
  have DP := Lib.hid fun W (h : Below w.heap.size w W) => depth_any f _ n W (hv.below h)
  have CP := Lib.hid fun W (h : Below w.heap.size w W) (hd : depthN 101 n ≤ 100) => copy_own f _ n W (hv.below h) (hz 101) hd
  have FN := Lib.hid fun W (h : Below w.heap.size w W) => findO_any f _ n n.kind W (hv.below h) hz
  have SM := Lib.hid fun W (h : Below w.heap.size w W) g (v1 : Value) m (h1 : NdV W g v1 m) => same_any g f v1 _ m n W h1 (hv.below h)
  have SN := Lib.hid fun W (h : Below w.heap.size w W) g (v1 : Value) m (h1 : NdV W g v1 m) => same_any f g _ v1 n m W (hv.below h) h1
  have HZ := Lib.hid hz
  have HT := Lib.hid ht
  have HVN := Lib.hid hv
  have hw1 := Whole.new w 24 (cellsOf n A c)
  have k1 : Box1 w n A c w.heap.size (w.alloc (.cells (cellsOf n A c) 24)) := ⟨(Below.refl _ w).alloc (Nat.le_refl _) _, hw1⟩
  have K1 := Lib.hid k1
  obtain ⟨x0, x1, x2, x3, x4⟩ := k1.cells
  clear hv k1 hw1 hz ht
  unfold Nd.val at M1 DP HVN CP FN SN ⊢
  obtain ⟨W1, hW1⟩ : ∃ W1, W1 = w.alloc (.cells (cellsOf n A c) 24) := ⟨_, rfl⟩
  rw [← hW1] at K1 x0 x1 x2 x3 x4
  go_enter Try.func6, Try.ntmps6
  go_wp2_with fail
  first | rw [← hW1] | skip
  clear hW1
  refine (M1.out _ K1.out.1).mono ?_
  rintro e W2 ⟨rfl, b2⟩
  have K2 := Lib.hid (K1.out.next b2)
  clear b2 K1 x0 x1 x2 x3 x4 M1
  obtain ⟨x0, x1, x2, x3, x4⟩ := K2.out.cells
  cases h1 : decide (wrap64 (sizeN 1000 n) ≤ 500)
  case false =>
    go_wp2_with fail
    go_ret
    exact ⟨rfl, K2.out.1⟩
  case true =>
  clear h1
  have hdl := depth_le 101 n
  by_cases hd : depthN 101 n ≤ 100
  · have hdd : decide ((100 : Int) < (depthN 101 n : Int)) = false := decide_eq_false (by omega)
    go_wp2_with fail
    refine (DP.out _ K2.out.1).mono ?_
    rintro e W3 ⟨rfl, b3⟩
    have K3 := Lib.hid (K2.out.next b3)
    clear b3 K2 x0 x1 x2 x3 x4 DP
    obtain ⟨x0, x1, x2, x3, x4⟩ := K3.out.cells
    go_wp2_with fail
    have CP := Lib.hid fun W (h : Below w.heap.size w W) => CP.out W h hd
    have kp : ∀ w', Below W3.heap.size W3 w' → w'.cell? ⟨w.heap.size, 0, none⟩ = some (.int .i64 n.kind) ∧ w'.cell? ⟨w.heap.size, 1, none⟩ = some (.string n.text) ∧ w'.cell? ⟨w.heap.size, 2, none⟩ = some (.slice A n.kids.length c) ∧ w'.cell? ⟨w.heap.size, 3, none⟩ = some (.int .i64 n.place) := fun w' hW =>
      have h1 := (K3.out.next hW).2
      ⟨h1.cell 0, h1.cell 1, h1.cell 2, h1.cell 3⟩
    have KP := Lib.hid kp
    clear kp
    refine Held.wp_via (fun a e b W => e = Exit.normal ∧ ∃ B3 B4 Ac cc Ad cd, b = ((((((a.put (some 15) (.agg #[.int .i64 n.kind, .string n.text, .slice A n.kids.length c, .int .i64 n.place])).put (some 17) (.agg #[.int .i64 n.kind, .string n.text, .slice A n.kids.length c, .int .i64 n.place])).put (some 16) (.agg #[.int .i64 n.kind, .string n.text, .slice Ac n.kids.length cc, .int .i64 n.place])).put (some 18) (.agg #[.int .i64 n.kind, .string n.text, .slice Ad n.kids.length cd, .int .i64 n.place])).put (some 3) (.pointer (some ⟨B3, 0, none⟩))).put (some 4) (.pointer (some ⟨B4, 0, none⟩))) ∧ Own3 w n A c f Ac cc Ad cd B3 B4 W) ?_ ?_
    rotate_left
    · rintro e b W4 ⟨rfl, B3, B4, Ac, cc, Ad, cd, rfl, k4⟩
      try simp only [Act.put, List.setIfInBounds_toArray, List.set_cons_zero, List.set_cons_succ]
      clear K3 x0 x1 x2 x3 x4 KP CP
      have K4 := Lib.hid k4
      obtain ⟨x0, x1, x2, x3, c0, c1, c2, c3, d0, d1, d2, d3⟩ := k4.cells
      have x4 := k4.1.2.lt
      clear k4
      by_cases h0 : 0 < n.kids.length
      · have h0i : decide ((0 : Int) < (n.kids.length : Int)) = true := decide_eq_true (by omega)
        have h0n : decide (0 < n.kids.length) = true := decide_eq_true h0
        obtain ⟨g, hAg, hT, hfz, hi⟩ := K4.out.2.2.2.2.2.2.choose_spec.2.1 h0
        obtain ⟨k, hk⟩ : ∃ k, n.kids[0]? = some k := ⟨_, List.getElem?_eq_getElem h0⟩
        obtain ⟨A', c', _, g0, _, _, _⟩ := hi 0 k hk
        have g0 : W4.cell? ⟨g, 1, none⟩ = some (.string k.text) := g0
        have g1 := hfz 1
        have t1 := HT.out k hk
        have t2 : ¬ (9223372036854775807 < k.text.size + 1) := by omega
        have t3 : decide (9223372036854775807 < k.text.size + 1) = false := decide_eq_false t2
        have gx : g < W4.heap.size := cell_lt g0
        have HK0 := Lib.hid hk
        have GB : Hid (g ≠ B3) := Lib.hid hT.2.2.1
        clear hT hfz hi hk
        subst hAg
        go_wp2_with fail
        refine Held.begin_ (fun w' => w'.cell? ⟨B3, 2, none⟩ = some (.slice (some ⟨g, 0, none⟩) n.kids.length cc) ∧ w'.frozen? ⟨g, 1, none⟩ = false) (fun w' => w'.cell? ⟨g, 1, none⟩ = some (.string k.text)) 10 (by kernel_rfl) (⟨c2, g1⟩) (g0) ?_
        refine Held.take (i := 0) (oi := { dst := some 23, op := Op.fieldAddr 24 (Operand.tmp 3) 2, type := 0, pos := "outright.go:26", after := #[], guard := none }) (v := ?_) false [] rfl (by decide) (by kernel_rfl) (by kernel_rfl) (by kernel_rfl) (by kernel_rfl) (fun _ _ _ h => h) (Or.inl ⟨by rfl, ?_⟩) ?_
        rotate_left
        · rintro w ⟨hS0, hS1⟩
          clear hS1
          (try dsimp only at hS0)
          go_simp
          (try with_reducible rfl)
        try simp only [Act.put, List.setIfInBounds_toArray, List.set_cons_zero, List.set_cons_succ]
        refine Held.take (i := 1) (oi := { dst := some 24, op := Op.load 22 (Operand.tmp 23), type := 22, pos := "outright.go:26", after := #[{ on := 0, ground := Ground.data }], guard := none }) (v := ?_) false [] rfl (by decide) (by kernel_rfl) (by kernel_rfl) (by kernel_rfl) (by kernel_rfl) (fun _ _ _ h => h) (Or.inl ⟨by rfl, ?_⟩) ?_
        rotate_left
        · rintro w ⟨hS0, hS1⟩
          clear hS1
          (try dsimp only at hS0)
          go_simp
          (try with_reducible rfl)
        try simp only [Act.put, List.setIfInBounds_toArray, List.set_cons_zero, List.set_cons_succ]
        refine Held.take (i := 2) (oi := { dst := some 25, op := Op.fieldAddr 24 (Operand.tmp 3) 2, type := 0, pos := "outright.go:26", after := #[], guard := none }) (v := ?_) false [] rfl (by decide) (by kernel_rfl) (by kernel_rfl) (by kernel_rfl) (by kernel_rfl) (fun _ _ _ h => h) (Or.inl ⟨by rfl, ?_⟩) ?_
        rotate_left
        · rintro w ⟨hS0, hS1⟩
          clear hS1
          (try dsimp only at hS0)
          go_simp
          (try with_reducible rfl)
        try simp only [Act.put, List.setIfInBounds_toArray, List.set_cons_zero, List.set_cons_succ]
        refine Held.take (i := 3) (oi := { dst := some 26, op := Op.load 22 (Operand.tmp 25), type := 22, pos := "outright.go:26", after := #[{ on := 2, ground := Ground.data }], guard := none }) (v := ?_) false [] rfl (by decide) (by kernel_rfl) (by kernel_rfl) (by kernel_rfl) (by kernel_rfl) (fun _ _ _ h => h) (Or.inl ⟨by rfl, ?_⟩) ?_
        rotate_left
        · rintro w ⟨hS0, hS1⟩
          clear hS1
          (try dsimp only at hS0)
          go_simp
          (try with_reducible rfl)
        try simp only [Act.put, List.setIfInBounds_toArray, List.set_cons_zero, List.set_cons_succ]
        refine Held.take (i := 4) (oi := { dst := some 27, op := Op.indexAddr 22 (Operand.tmp 26) (Operand.const (Value.int IntKind.i64 0)), type := 0, pos := "outright.go:26", after := #[{ on := 3, ground := Ground.data }], guard := none }) (v := ?_) false [] rfl (by decide) (by kernel_rfl) (by kernel_rfl) (by kernel_rfl) (by kernel_rfl) (fun _ _ _ h => h) (Or.inl ⟨by rfl, ?_⟩) ?_
        rotate_left
        · rintro w ⟨hS0, hS1⟩
          clear hS1
          (try dsimp only at hS0)
          go_simp
          (try with_reducible rfl)
        try simp only [Act.put, List.setIfInBounds_toArray, List.set_cons_zero, List.set_cons_succ]
        refine Held.take (i := 5) (oi := { dst := some 28, op := Op.fieldAddr 24 (Operand.tmp 27) 1, type := 0, pos := "outright.go:26", after := #[{ on := 4, ground := Ground.data }], guard := none }) (v := ?_) false [] rfl (by decide) (by kernel_rfl) (by kernel_rfl) (by kernel_rfl) (by kernel_rfl) (fun _ _ _ h => h) (Or.inl ⟨by rfl, ?_⟩) ?_
        rotate_left
        · rintro w ⟨hS0, hS1⟩
          clear hS1
          (try dsimp only at hS0)
          go_simp
          (try with_reducible rfl)
        try simp only [Act.put, List.setIfInBounds_toArray, List.set_cons_zero, List.set_cons_succ]
        refine Held.take (i := 6) (oi := { dst := some 29, op := Op.load 9 (Operand.tmp 28), type := 9, pos := "outright.go:26", after := #[{ on := 5, ground := Ground.data }], guard := none }) (v := ?_) true [] rfl (by decide) (by kernel_rfl) (by kernel_rfl) (by kernel_rfl) (by kernel_rfl) (fun _ _ _ h => h) (Or.inl ⟨by rfl, ?_⟩) ?_
        rotate_left
        · rintro w ⟨hS0, hS1⟩
          have hS2 := hS1 rfl
          clear hS1
          (try dsimp only at hS2)
          (try dsimp only at hS0)
          go_simp
          (try with_reducible rfl)
        try simp only [Act.put, List.setIfInBounds_toArray, List.set_cons_zero, List.set_cons_succ]
        refine Held.take (i := 7) (oi := { dst := some 30, op := Op.binOp BinOp.add 9 (Operand.tmp 29) (Operand.const (Value.string { data := #[120] })) 9, type := 9, pos := "outright.go:26", after := #[{ on := 6, ground := Ground.data }], guard := none }) (v := ?_) false [] rfl (by decide) (by kernel_rfl) (by kernel_rfl) (by kernel_rfl) (by kernel_rfl) (fun _ _ _ h => h) (Or.inl ⟨by rfl, ?_⟩) ?_
        rotate_left
        · rintro w ⟨hS0, hS1⟩
          clear hS1
          (try dsimp only at hS0)
          go_simp
          (try with_reducible rfl)
        try simp only [Act.put, List.setIfInBounds_toArray, List.set_cons_zero, List.set_cons_succ]
        refine Held.take (i := 8) (oi := { dst := some 31, op := Op.indexAddr 22 (Operand.tmp 24) (Operand.const (Value.int IntKind.i64 0)), type := 0, pos := "outright.go:26", after := #[{ on := 1, ground := Ground.data }, { on := 0, ground := Ground.phase }, { on := 1, ground := Ground.phase }, { on := 2, ground := Ground.phase }, { on := 3, ground := Ground.phase }, { on := 4, ground := Ground.phase }, { on := 5, ground := Ground.phase }, { on := 6, ground := Ground.phase }, { on := 7, ground := Ground.phase }], guard := none }) (v := ?_) false [] rfl (by decide) (by kernel_rfl) (by kernel_rfl) (by kernel_rfl) (by kernel_rfl) (fun _ _ _ h => h) (Or.inl ⟨by rfl, ?_⟩) ?_
        rotate_left
        · rintro w ⟨hS0, hS1⟩
          clear hS1
          (try dsimp only at hS0)
          go_simp
          (try with_reducible rfl)
        try simp only [Act.put, List.setIfInBounds_toArray, List.set_cons_zero, List.set_cons_succ]
        refine Held.take (i := 9) (oi := { dst := some 32, op := Op.fieldAddr 24 (Operand.tmp 31) 1, type := 0, pos := "outright.go:26", after := #[{ on := 8, ground := Ground.data }, { on := 0, ground := Ground.phase }, { on := 1, ground := Ground.phase }, { on := 2, ground := Ground.phase }, { on := 3, ground := Ground.phase }, { on := 4, ground := Ground.phase }, { on := 5, ground := Ground.phase }, { on := 6, ground := Ground.phase }, { on := 7, ground := Ground.phase }], guard := none }) (v := ?_) false [] rfl (by decide) (by kernel_rfl) (by kernel_rfl) (by kernel_rfl) (by kernel_rfl) (fun _ _ _ h => h) (Or.inl ⟨by rfl, ?_⟩) ?_
        rotate_left
        · rintro w ⟨hS0, hS1⟩
          clear hS1
          (try dsimp only at hS0)
          go_simp
          (try with_reducible rfl)
        try simp only [Act.put, List.setIfInBounds_toArray, List.set_cons_zero, List.set_cons_succ]
        refine Held.step (i := 10) (o := { dst := none, op := Op.store 9 (Operand.tmp 32) (Operand.tmp 30), type := 0, pos := "outright.go:26", after := #[{ on := 9, ground := Ground.data }, { on := 7, ground := Ground.data }, { on := 0, ground := Ground.phase }, { on := 1, ground := Ground.phase }, { on := 2, ground := Ground.phase }, { on := 3, ground := Ground.phase }, { on := 4, ground := Ground.phase }, { on := 5, ground := Ground.phase }, { on := 6, ground := Ground.phase }, { on := 7, ground := Ground.phase }], guard := none }) rfl (by kernel_rfl) (fun K hK => ?_)
        go_simp
        refine hK.out _ _ ⟨⟨by show (W4.setCell _ _).cell? _ = _; rw [World.cell?_setCell_other _ _ _ _ (fun e => GB.out (by injection e))]; exact c2, by show (W4.setCell _ _).frozen? _ = _; rw [World.frozen?_setCell]; exact g1⟩, fun h => absurd h (by decide)⟩ ?_
        clear hK K
        try simp only [Act.put, List.setIfInBounds_toArray, List.set_cons_zero, List.set_cons_succ]
        refine Held.done (by kernel_rfl) ?_ _
        have k5 := own5_bump K4.out h0 hm (k.text ++ { data := #[120] })
        have es : sameN 100 (bump n (k.text ++ { data := #[120] })) n = false := bump_same n _ k HK0.out (by
          intro e
          rw [ByteArray.toList_eq, ByteArray.toList_eq, ByteArray.data_append] at e
          simp at e) 98
        have bb : Below W4.heap.size W4 W4 := Below.refl _ _
        generalize (k.text ++ { data := #[120] } : ByteArray) = tx at k5 es ⊢
        obtain ⟨m, hmm⟩ : ∃ m, m = bump n tx := ⟨_, rfl⟩
        rw [← hmm] at k5 es
        clear hmm
        generalize (W4.setCell ⟨g, 1, none⟩ (.string tx)).drew = W5 at k5 ⊢
        have K5 := Lib.hid k5
        have ES := Lib.hid es
        clear k5 es bb g0 g1 t1 t2 t3 gx HK0 GB K4 x0 x1 x2 x3 c0 c1 c2 c3 d0 d1 d2 d3 x4
        obtain ⟨x0, x1, x2, x3, _⟩ := K5.out.cells
        go_wp2_with fail
        refine (FN.out _ K5.out.1.1).mono ?_
        clear x0 x1 x2 x3
        rintro e W6 ⟨u, l, rfl, hl, hrow, hown, b6⟩
        obtain ⟨Au, cu, rfl⟩ := row_shape hrow
        have hlm : l.length ≤ 9223372036854775807 := by
          rcases hrow.1.2 with ⟨_, h⟩ | ⟨_, _, _, _, _, _, h1, h2, _⟩
          · omega
          · exact Nat.le_trans h1 h2
        have RS := Lib.hid (rounds_start hrow hown b6)
        clear hrow hown b6 hl
        go_wp2_with fail
        go_loopw [6] (fun i W => Rounds W5 l Au i W) (fun i _ => l.length - (intOf i).toNat)
        case atStart => exact RS.out
        case round =>
          clear RS
          have HR := Lib.hid hrel
          obtain ⟨p, hp, rfl, hb, hr⟩ := hrel
          by_cases hpl : p < l.length
          · obtain ⟨gu, rfl, q0, hk⟩ := hr p _ (List.getElem?_eq_getElem hpl)
            generalize l[p] = x at q0 hk
            rw [show 0 + p * 4 + 2 = p * 4 + 2 by omega] at q0
            have hp2 : p < 9223372036854775807 := by omega
            clear hr hb
            by_cases hx0 : 0 < x.1.kids.length
            · obtain ⟨g7, v7, hxa, hgu, hgs, hfz, hcell⟩ := hk hx0
              rw [hxa] at q0
              have HG := Lib.hid hgu
              have HS := Lib.hid hgs
              clear hk hxa hgu hgs
              have hx0i : decide ((0 : Int) < (x.1.kids.length : Int)) = true := decide_eq_true (by omega)
              have hx0n : decide (0 < x.1.kids.length) = true := decide_eq_true hx0
              go_wp2_with fail
              go_roundw
              case rel => exact rounds_set HR.out hpl rfl HG.out HS.out _
              case measure => simp [intOf]; omega
            · have hx0i : decide ((0 : Int) < (x.1.kids.length : Int)) = false := decide_eq_false (by omega)
              have hx0n : decide (0 < x.1.kids.length) = false := decide_eq_false hx0
              clear hk
              go_wp2_with fail
              go_roundw
              case rel => exact rounds_skip HR.out hpl
              case measure => simp [intOf]; omega
          · clear hr HR
            have K7 := Lib.hid (K5.out.next hb)
            clear hb
            obtain ⟨x0, x1, x2, x3, c0, c1, c2, c3, d0, d1, d2, d3⟩ := K7.out.cells
            go_wp2_with fail
            have es1 : sameN 100 n n = true := by rw [same_self]; exact decide_eq_true hd
            refine (SN.out _ K7.out.1.1 _ _ n K7.out.2.2.2.2).mono ?_
            rintro e W8 ⟨rfl, b8⟩
            rw [es1]
            have K8 := Lib.hid (K7.out.next b8)
            clear b8 K7 x0 x1 x2 x3 c0 c1 c2 c3 d0 d1 d2 d3
            obtain ⟨x0, x1, x2, x3, c0, c1, c2, c3, d0, d1, d2, d3⟩ := K8.out.cells
            have z1 : decide ((n.kids.length : Int) = 0) = false := decide_eq_false (by omega)
            have z2 : decide (n.kids.length = 0) = false := decide_eq_false (by omega)
            have hkn : n.kids ≠ [] := fun e => by rw [e] at h0; simp at h0
            have z3 : decide (n.kids = []) = false := decide_eq_false hkn
            go_wp2_with fail
            obtain ⟨F, hF⟩ := K8.out.2.2.2.1
            refine (same_any F f _ _ m n W8 hF K8.out.2.2.2.2).mono ?_
            rintro e W9 ⟨rfl, b9⟩
            rw [ES.out]
            have K9 := Lib.hid (K8.out.next b9)
            clear b9 K8 x0 x1 x2 x3 c0 c1 c2 c3 d0 d1 d2 d3 hF
            go_wp2_with fail
            refine (awake_any _).mono ?_
            rintro e W10 ⟨rfl, b10⟩
            have K10 := Lib.hid (K9.out.next b10)
            clear b10 K9
            go_wp2_with fail
            go_ret
            exact ⟨rfl, K10.out.1.1⟩
      · have h0i : decide ((0 : Int) < (n.kids.length : Int)) = false := decide_eq_false (by omega)
        have h0n : decide (0 < n.kids.length) = false := decide_eq_false h0
        go_wp2_with fail
        have K5 := Lib.hid (own5_same K4.out)
        clear K4 x0 x1 x2 x3 c0 c1 c2 c3 d0 d1 d2 d3 x4
        refine (FN.out _ K5.out.1.1).mono ?_
        rintro e W6 ⟨u, l, rfl, hl, hrow, hown, b6⟩
        obtain ⟨Au, cu, rfl⟩ := row_shape hrow
        have hlm : l.length ≤ 9223372036854775807 := by
          rcases hrow.1.2 with ⟨_, h⟩ | ⟨_, _, _, _, _, _, h1, h2, _⟩
          · omega
          · exact Nat.le_trans h1 h2
        have RS := Lib.hid (rounds_start hrow hown b6)
        clear hrow hown b6 hl
        go_wp2_with fail
        go_loopw [6] (fun i W => Rounds W4 l Au i W) (fun i _ => l.length - (intOf i).toNat)
        case atStart => exact RS.out
        case round =>
          clear RS
          have HR := Lib.hid hrel
          obtain ⟨p, hp, rfl, hb, hr⟩ := hrel
          by_cases hpl : p < l.length
          · obtain ⟨gu, rfl, q0, hk⟩ := hr p _ (List.getElem?_eq_getElem hpl)
            generalize l[p] = x at q0 hk
            rw [show 0 + p * 4 + 2 = p * 4 + 2 by omega] at q0
            have hp2 : p < 9223372036854775807 := by omega
            clear hr hb
            by_cases hx0 : 0 < x.1.kids.length
            · obtain ⟨g7, v7, hxa, hgu, hgs, hfz, hcell⟩ := hk hx0
              rw [hxa] at q0
              have HG := Lib.hid hgu
              have HS := Lib.hid hgs
              clear hk hxa hgu hgs
              have hx0i : decide ((0 : Int) < (x.1.kids.length : Int)) = true := decide_eq_true (by omega)
              have hx0n : decide (0 < x.1.kids.length) = true := decide_eq_true hx0
              go_wp2_with fail
              go_roundw
              case rel => exact rounds_set HR.out hpl rfl HG.out HS.out _
              case measure => simp [intOf]; omega
            · have hx0i : decide ((0 : Int) < (x.1.kids.length : Int)) = false := decide_eq_false (by omega)
              have hx0n : decide (0 < x.1.kids.length) = false := decide_eq_false hx0
              clear hk
              go_wp2_with fail
              go_roundw
              case rel => exact rounds_skip HR.out hpl
              case measure => simp [intOf]; omega
          · clear hr HR
            have K7 := Lib.hid (K5.out.next hb)
            clear hb
            obtain ⟨x0, x1, x2, x3, c0, c1, c2, c3, d0, d1, d2, d3⟩ := K7.out.cells
            go_wp2_with fail
            have es1 : sameN 100 n n = true := by rw [same_self]; exact decide_eq_true hd
            refine (SN.out _ K7.out.1.1 _ _ n K7.out.2.2.2.2).mono ?_
            rintro e W8 ⟨rfl, b8⟩
            rw [es1]
            have K8 := Lib.hid (K7.out.next b8)
            clear b8 K7 x0 x1 x2 x3 c0 c1 c2 c3 d0 d1 d2 d3
            obtain ⟨x0, x1, x2, x3, c0, c1, c2, c3, d0, d1, d2, d3⟩ := K8.out.cells
            have z1 : decide ((n.kids.length : Int) = 0) = true := decide_eq_true (by omega)
            have z2 : decide (n.kids.length = 0) = true := decide_eq_true (by omega)
            have z3 : decide (n.kids = []) = true := decide_eq_true (List.length_eq_zero_iff.1 (by omega))
            go_wp2_with fail
            rotate_left
            · exact absurd (of_decide_eq_true z3) ‹¬ n.kids = []›
            refine (awake_any _).mono ?_
            rintro e W10 ⟨rfl, b10⟩
            have K10 := Lib.hid (K8.out.next b10)
            clear b10 K8
            go_wp2_with fail
            go_ret
            exact ⟨rfl, K10.out.1.1⟩
    obtain ⟨V0, hV0⟩ : ∃ V, V = W3.drew := ⟨_, rfl⟩
    have D0 : Hid (Below W3.heap.size W3 V0) := by rw [hV0]; exact Lib.hid (Below.refl _ W3).drew
    refine Held.begin_ (fun w' => w'.cell? ⟨w.heap.size, 0, none⟩ = some (.int .i64 n.kind) ∧ w'.cell? ⟨w.heap.size, 1, none⟩ = some (.string n.text) ∧ w'.cell? ⟨w.heap.size, 2, none⟩ = some (.slice A n.kids.length c) ∧ w'.cell? ⟨w.heap.size, 3, none⟩ = some (.int .i64 n.place)) (fun _ => True) 99 (by kernel_rfl) (KP.out _ (Below.refl _ W3).drew) (trivial) ?_
    refine Held.take (i := 0) (oi := { dst := some 15, op := Op.load 24 (Operand.tmp 1), type := 24, pos := "outright.go:24", after := #[], guard := none }) (v := ?_) false [] rfl (by decide) (by kernel_rfl) (by kernel_rfl) (by kernel_rfl) (by kernel_rfl) (fun _ _ _ h => nomatch h.1) (Or.inl ⟨by rfl, ?_⟩) ?_
    rotate_left
    · rintro w ⟨hS0, hS1⟩
      clear hS1
      (try dsimp only at hS0)
      go_simp
      (try with_reducible rfl)
    try simp only [Act.put, List.setIfInBounds_toArray, List.set_cons_zero, List.set_cons_succ]
    refine Held.take (i := 2) (oi := { dst := some 17, op := Op.load 24 (Operand.tmp 1), type := 24, pos := "outright.go:24", after := #[], guard := none }) (v := ?_) false [] rfl (by decide) (by kernel_rfl) (by kernel_rfl) (by kernel_rfl) (by kernel_rfl) (fun _ _ _ h => nomatch h.1) (Or.inl ⟨by rfl, ?_⟩) ?_
    rotate_left
    · rintro w ⟨hS0, hS1⟩
      clear hS1
      (try dsimp only at hS0)
      go_simp
      (try with_reducible rfl)
    try simp only [Act.put, List.setIfInBounds_toArray, List.set_cons_zero, List.set_cons_succ]
    rw [← hV0]
    clear hV0
    refine Held.step3 (i := 1) (j := 4) (k := 5) (o := { dst := some 16, op := Op.call { callee := Callee.value (Operand.func 17), args := #[Operand.tmp 15], argTypes := #[24] }, type := 24, pos := "outright.go:24", after := #[{ on := 0, ground := Ground.data }], guard := none }) (o' := { dst := some 3, op := Op.alloc 24, type := 0, pos := "outright.go:24", after := #[], guard := none }) (o'' := { dst := some 4, op := Op.alloc 24, type := 0, pos := "outright.go:24", after := #[], guard := none }) rfl rfl rfl (by kernel_rfl) (fun K hK => ?_) (fun K hK => ?_) (fun K hK => ?_)
    go_simp
    go_at_call 17
    refine (CP.out _ (K3.out.1.trans (D0.out.mono K3.out.1.size))).mono ?_
    rintro e V1 ⟨Ac, cc, rfl, nv, bb, nd, ow⟩
    have b1 := Lib.hid bb
    have D1 := Lib.hid (D0.out.trans (b1.out.mono D0.out.size))
    have OC := Lib.hid ow
    have NC := Lib.hid nd
    clear nv bb nd ow
    refine hK.out _ _ ⟨KP.out _ D1.out, fun _ => trivial⟩ ?_
    clear hK K
    try simp only [Act.put, List.setIfInBounds_toArray, List.set_cons_zero, List.set_cons_succ]
    refine Held.step3 (i := 3) (j := 4) (k := 5) (o := { dst := some 18, op := Op.call { callee := Callee.value (Operand.func 17), args := #[Operand.tmp 17], argTypes := #[24] }, type := 24, pos := "outright.go:24", after := #[{ on := 2, ground := Ground.data }, { on := 1, ground := Ground.chain }], guard := none }) (o' := { dst := some 3, op := Op.alloc 24, type := 0, pos := "outright.go:24", after := #[], guard := none }) (o'' := { dst := some 4, op := Op.alloc 24, type := 0, pos := "outright.go:24", after := #[], guard := none }) rfl rfl rfl (by kernel_rfl) (fun K hK => ?_) (fun K hK => ?_) (fun K hK => ?_)
    go_simp
    go_at_call 17
    refine (CP.out _ (K3.out.1.trans (D1.out.mono K3.out.1.size))).mono ?_
    rintro e V2 ⟨Ad, cd, rfl, nv, bb, nd, ow⟩
    have b2 := Lib.hid bb
    have D2 := Lib.hid (D1.out.trans (b2.out.mono D1.out.size))
    have OD0 := Lib.hid nv
    have OD := Lib.hid nd
    clear nv bb nd ow
    refine hK.out _ _ ⟨KP.out _ D2.out, fun _ => trivial⟩ ?_
    clear hK K
    try simp only [Act.put, List.setIfInBounds_toArray, List.set_cons_zero, List.set_cons_succ]
    refine Held.step2 (i := 4) (j := 5) (o := { dst := some 3, op := Op.alloc 24, type := 0, pos := "outright.go:24", after := #[], guard := none }) (o' := { dst := some 4, op := Op.alloc 24, type := 0, pos := "outright.go:24", after := #[], guard := none }) rfl rfl (by kernel_rfl) (fun K hK => ?_) (fun K hK => ?_)
    go_simp
    refine hK.out _ _ ⟨KP.out _ (D2.out.alloc D2.out.size _), fun _ => trivial⟩ ?_
    clear hK K
    try simp only [Act.put, List.setIfInBounds_toArray, List.set_cons_zero, List.set_cons_succ]
    obtain ⟨V3, hV⟩ : ∃ V, V = V2.alloc (.cells #[.int .i64 0, .string ⟨#[]⟩, .slice none 0 0, .int .i64 0] 24) := ⟨_, rfl⟩
    rw [← hV]
    have b3 : Hid (Below V2.heap.size V2 V3) := by rw [hV]; exact Lib.hid ((Below.refl _ V2).alloc (Nat.le_refl _) _)
    have H4 : Hid (Whole V3 V2.heap.size 24 #[.int .i64 0, .string ⟨#[]⟩, .slice none 0 0, .int .i64 0]) := by rw [hV]; exact Lib.hid (Whole.new V2 24 _)
    have D3 := Lib.hid (D2.out.trans (b3.out.mono D2.out.size))
    clear hV
    refine Held.step (i := 5) (o := { dst := some 4, op := Op.alloc 24, type := 0, pos := "outright.go:24", after := #[], guard := none }) rfl (by kernel_rfl) (fun K hK => ?_)
    go_simp
    refine hK.out _ _ ⟨KP.out _ (D3.out.alloc D3.out.size _), fun _ => trivial⟩ ?_
    clear hK K
    try simp only [Act.put, List.setIfInBounds_toArray, List.set_cons_zero, List.set_cons_succ]
    obtain ⟨V4, hV⟩ : ∃ V, V = V3.alloc (.cells #[.int .i64 0, .string ⟨#[]⟩, .slice none 0 0, .int .i64 0] 24) := ⟨_, rfl⟩
    rw [← hV]
    have b4 : Hid (Below V3.heap.size V3 V4) := by rw [hV]; exact Lib.hid ((Below.refl _ V3).alloc (Nat.le_refl _) _)
    have H5 : Hid (Whole V4 V3.heap.size 24 #[.int .i64 0, .string ⟨#[]⟩, .slice none 0 0, .int .i64 0]) := by rw [hV]; exact Lib.hid (Whole.new V3 24 _)
    have D4 := Lib.hid (D3.out.trans (b4.out.mono D3.out.size))
    clear hV
    have T4 : Below V4.heap.size V4 V4 := Below.refl _ V4
    have T3 : Below V3.heap.size V3 V4 := b4.out.trans (T4.mono b4.out.size)
    have T2 : Below V2.heap.size V2 V4 := b3.out.trans (T3.mono b3.out.size)
    have T1 : Below V1.heap.size V1 V4 := b2.out.trans (T2.mono b2.out.size)
    have T0 : Below V0.heap.size V0 V4 := b1.out.trans (T1.mono b1.out.size)
    have s1 := b1.out.size
    have s2 := b2.out.size
    have s3 := b3.out.size
    have s4 := b4.out.size
    have h3 := H4.out.below T3 H4.out.lt
    have h4 := H5.out.below T4 H5.out.lt
    have l3 := H4.out.lt
    have l4 := H5.out.lt
    have oc := OC.out.below T1
    have od := OD.out.below T2
    have nc := NC.out.below T1
    have kx := (K3.out.next (D0.out.trans (T0.mono D0.out.size)))
    have z30 : V4.cell? ⟨V2.heap.size, 0, none⟩ = some (.int .i64 0) := h3.cell 0
    have y30 : V4.frozen? ⟨V2.heap.size, 0, none⟩ = false := h3.free 0
    have z31 : V4.cell? ⟨V2.heap.size, 1, none⟩ = some (.string ⟨#[]⟩) := h3.cell 1
    have y31 : V4.frozen? ⟨V2.heap.size, 1, none⟩ = false := h3.free 1
    have z32 : V4.cell? ⟨V2.heap.size, 2, none⟩ = some (.slice none 0 0) := h3.cell 2
    have y32 : V4.frozen? ⟨V2.heap.size, 2, none⟩ = false := h3.free 2
    have z33 : V4.cell? ⟨V2.heap.size, 3, none⟩ = some (.int .i64 0) := h3.cell 3
    have y33 : V4.frozen? ⟨V2.heap.size, 3, none⟩ = false := h3.free 3
    refine Held.step (i := 6) (o := { dst := none, op := Op.store 24 (Operand.tmp 3) (Operand.tmp 16), type := 0, pos := "outright.go:24", after := #[{ on := 4, ground := Ground.data }, { on := 1, ground := Ground.data }, { on := 3, ground := Ground.chain }, { on := 0, ground := Ground.phase }, { on := 1, ground := Ground.phase }, { on := 2, ground := Ground.textOnly Departure.lateStores }, { on := 3, ground := Ground.textOnly Departure.lateStoresUnsure }, { on := 4, ground := Ground.phase }, { on := 5, ground := Ground.phase }], guard := none }) rfl (by kernel_rfl) (fun K hK => ?_)
    go_simp
    refine hK.out _ _ ⟨KP.out _ (((((D0.out.trans (T0.mono D0.out.size)).setCell (p := ⟨V2.heap.size, 0, none⟩) (by have := D0.out.size; simp only; omega) _).setCell (p := ⟨V2.heap.size, 1, none⟩) (by have := D0.out.size; simp only; omega) _).setCell (p := ⟨V2.heap.size, 2, none⟩) (by have := D0.out.size; simp only; omega) _).setCell (p := ⟨V2.heap.size, 3, none⟩) (by have := D0.out.size; simp only; omega) _), fun _ => trivial⟩ ?_
    clear hK K
    try simp only [Act.put, List.setIfInBounds_toArray, List.set_cons_zero, List.set_cons_succ]
    obtain ⟨V5, hV5⟩ : ∃ V, V = ((((V4.setCell ⟨V2.heap.size, 0, none⟩ (.int .i64 n.kind)).setCell ⟨V2.heap.size, 1, none⟩ (.string n.text)).setCell ⟨V2.heap.size, 2, none⟩ (.slice Ac n.kids.length cc)).setCell ⟨V2.heap.size, 3, none⟩ (.int .i64 n.place)) := ⟨_, rfl⟩
    rw [← hV5]
    have h45 : Whole V5 V3.heap.size 24 #[.int .i64 0, .string ⟨#[]⟩, .slice none 0 0, .int .i64 0] := by
      rw [hV5]
      exact (((h4.far (p := ⟨V2.heap.size, 0, none⟩) (by simp only; omega) _).far (p := ⟨V2.heap.size, 1, none⟩) (by simp only; omega) _).far (p := ⟨V2.heap.size, 2, none⟩) (by simp only; omega) _).far (p := ⟨V2.heap.size, 3, none⟩) (by simp only; omega) _
    have b5 : Below W3.heap.size W3 V5 := by
      rw [hV5]
      exact (((((D0.out.trans (T0.mono D0.out.size)).setCell (p := ⟨V2.heap.size, 0, none⟩) (by have := D0.out.size; simp only; omega) _).setCell (p := ⟨V2.heap.size, 1, none⟩) (by have := D0.out.size; simp only; omega) _).setCell (p := ⟨V2.heap.size, 2, none⟩) (by have := D0.out.size; simp only; omega) _).setCell (p := ⟨V2.heap.size, 3, none⟩) (by have := D0.out.size; simp only; omega) _)
    have z40 : V5.cell? ⟨V3.heap.size, 0, none⟩ = some (.int .i64 0) := h45.cell 0
    have y40 : V5.frozen? ⟨V3.heap.size, 0, none⟩ = false := h45.free 0
    have z41 : V5.cell? ⟨V3.heap.size, 1, none⟩ = some (.string ⟨#[]⟩) := h45.cell 1
    have y41 : V5.frozen? ⟨V3.heap.size, 1, none⟩ = false := h45.free 1
    have z42 : V5.cell? ⟨V3.heap.size, 2, none⟩ = some (.slice none 0 0) := h45.cell 2
    have y42 : V5.frozen? ⟨V3.heap.size, 2, none⟩ = false := h45.free 2
    have z43 : V5.cell? ⟨V3.heap.size, 3, none⟩ = some (.int .i64 0) := h45.cell 3
    have y43 : V5.frozen? ⟨V3.heap.size, 3, none⟩ = false := h45.free 3
    have HV5 := Lib.hid hV5
    clear hV5
    refine Held.step (i := 7) (o := { dst := none, op := Op.store 24 (Operand.tmp 4) (Operand.tmp 18), type := 0, pos := "outright.go:24", after := #[{ on := 5, ground := Ground.data }, { on := 3, ground := Ground.data }, { on := 6, ground := Ground.chain }, { on := 0, ground := Ground.phase }, { on := 1, ground := Ground.phase }, { on := 2, ground := Ground.phase }, { on := 3, ground := Ground.phase }, { on := 4, ground := Ground.phase }, { on := 5, ground := Ground.phase }, { on := 6, ground := Ground.phase }], guard := none }) rfl (by kernel_rfl) (fun K hK => ?_)
    go_simp
    refine hK.out _ _ ⟨KP.out _ ((((b5.setCell (p := ⟨V3.heap.size, 0, none⟩) (by have := D0.out.size; simp only; omega) _).setCell (p := ⟨V3.heap.size, 1, none⟩) (by have := D0.out.size; simp only; omega) _).setCell (p := ⟨V3.heap.size, 2, none⟩) (by have := D0.out.size; simp only; omega) _).setCell (p := ⟨V3.heap.size, 3, none⟩) (by have := D0.out.size; simp only; omega) _), fun _ => trivial⟩ ?_
    clear hK K
    try simp only [Act.put, List.setIfInBounds_toArray, List.set_cons_zero, List.set_cons_succ]
    refine Held.done (by kernel_rfl) ?_ _
    rw [HV5.out]
    exact ⟨rfl, V2.heap.size, V3.heap.size, Ac, cc, Ad, cd, rfl, own3_fin V0.heap.size V1.heap.size V1.heap.size V2.heap.size kx h3 h4 (by have := D0.out.size; omega) (by have := D0.out.size; omega) (by have := D0.out.size; omega) (by have := D0.out.size; omega) (by have := D0.out.size; omega) (by have := D0.out.size; omega) (by have := D0.out.size; omega) (by have := D0.out.size; omega) (by have := D0.out.size; omega) oc od nc⟩
    go_simp
    refine hK.out _ _ ⟨KP.out _ (D2.out.alloc D2.out.size _), fun _ => trivial⟩ ?_
    clear hK K
    try simp only [Act.put, List.setIfInBounds_toArray, List.set_cons_zero, List.set_cons_succ]
    obtain ⟨V3, hV⟩ : ∃ V, V = V2.alloc (.cells #[.int .i64 0, .string ⟨#[]⟩, .slice none 0 0, .int .i64 0] 24) := ⟨_, rfl⟩
    rw [← hV]
    have b3 : Hid (Below V2.heap.size V2 V3) := by rw [hV]; exact Lib.hid ((Below.refl _ V2).alloc (Nat.le_refl _) _)
    have H5 : Hid (Whole V3 V2.heap.size 24 #[.int .i64 0, .string ⟨#[]⟩, .slice none 0 0, .int .i64 0]) := by rw [hV]; exact Lib.hid (Whole.new V2 24 _)
    have D3 := Lib.hid (D2.out.trans (b3.out.mono D2.out.size))
    clear hV
    refine Held.step (i := 4) (o := { dst := some 3, op := Op.alloc 24, type := 0, pos := "outright.go:24", after := #[], guard := none }) rfl (by kernel_rfl) (fun K hK => ?_)
    go_simp
    refine hK.out _ _ ⟨KP.out _ (D3.out.alloc D3.out.size _), fun _ => trivial⟩ ?_
    clear hK K
    try simp only [Act.put, List.setIfInBounds_toArray, List.set_cons_zero, List.set_cons_succ]
    obtain ⟨V4, hV⟩ : ∃ V, V = V3.alloc (.cells #[.int .i64 0, .string ⟨#[]⟩, .slice none 0 0, .int .i64 0] 24) := ⟨_, rfl⟩
    rw [← hV]
    have b4 : Hid (Below V3.heap.size V3 V4) := by rw [hV]; exact Lib.hid ((Below.refl _ V3).alloc (Nat.le_refl _) _)
    have H4 : Hid (Whole V4 V3.heap.size 24 #[.int .i64 0, .string ⟨#[]⟩, .slice none 0 0, .int .i64 0]) := by rw [hV]; exact Lib.hid (Whole.new V3 24 _)
    have D4 := Lib.hid (D3.out.trans (b4.out.mono D3.out.size))
    clear hV
    have T4 : Below V4.heap.size V4 V4 := Below.refl _ V4
    have T3 : Below V3.heap.size V3 V4 := b4.out.trans (T4.mono b4.out.size)
    have T2 : Below V2.heap.size V2 V4 := b3.out.trans (T3.mono b3.out.size)
    have T1 : Below V1.heap.size V1 V4 := b2.out.trans (T2.mono b2.out.size)
    have T0 : Below V0.heap.size V0 V4 := b1.out.trans (T1.mono b1.out.size)
    have s1 := b1.out.size
    have s2 := b2.out.size
    have s3 := b3.out.size
    have s4 := b4.out.size
    have h3 := H4.out.below T4 H4.out.lt
    have h4 := H5.out.below T3 H5.out.lt
    have l3 := H4.out.lt
    have l4 := H5.out.lt
    have oc := OC.out.below T1
    have od := OD.out.below T2
    have nc := NC.out.below T1
    have kx := (K3.out.next (D0.out.trans (T0.mono D0.out.size)))
    have z30 : V4.cell? ⟨V3.heap.size, 0, none⟩ = some (.int .i64 0) := h3.cell 0
    have y30 : V4.frozen? ⟨V3.heap.size, 0, none⟩ = false := h3.free 0
    have z31 : V4.cell? ⟨V3.heap.size, 1, none⟩ = some (.string ⟨#[]⟩) := h3.cell 1
    have y31 : V4.frozen? ⟨V3.heap.size, 1, none⟩ = false := h3.free 1
    have z32 : V4.cell? ⟨V3.heap.size, 2, none⟩ = some (.slice none 0 0) := h3.cell 2
    have y32 : V4.frozen? ⟨V3.heap.size, 2, none⟩ = false := h3.free 2
    have z33 : V4.cell? ⟨V3.heap.size, 3, none⟩ = some (.int .i64 0) := h3.cell 3
    have y33 : V4.frozen? ⟨V3.heap.size, 3, none⟩ = false := h3.free 3
    refine Held.step (i := 6) (o := { dst := none, op := Op.store 24 (Operand.tmp 3) (Operand.tmp 16), type := 0, pos := "outright.go:24", after := #[{ on := 4, ground := Ground.data }, { on := 1, ground := Ground.data }, { on := 3, ground := Ground.chain }, { on := 0, ground := Ground.phase }, { on := 1, ground := Ground.phase }, { on := 2, ground := Ground.textOnly Departure.lateStores }, { on := 3, ground := Ground.textOnly Departure.lateStoresUnsure }, { on := 4, ground := Ground.phase }, { on := 5, ground := Ground.phase }], guard := none }) rfl (by kernel_rfl) (fun K hK => ?_)
    go_simp
    refine hK.out _ _ ⟨KP.out _ (((((D0.out.trans (T0.mono D0.out.size)).setCell (p := ⟨V3.heap.size, 0, none⟩) (by have := D0.out.size; simp only; omega) _).setCell (p := ⟨V3.heap.size, 1, none⟩) (by have := D0.out.size; simp only; omega) _).setCell (p := ⟨V3.heap.size, 2, none⟩) (by have := D0.out.size; simp only; omega) _).setCell (p := ⟨V3.heap.size, 3, none⟩) (by have := D0.out.size; simp only; omega) _), fun _ => trivial⟩ ?_
    clear hK K
    try simp only [Act.put, List.setIfInBounds_toArray, List.set_cons_zero, List.set_cons_succ]
    obtain ⟨V5, hV5⟩ : ∃ V, V = ((((V4.setCell ⟨V3.heap.size, 0, none⟩ (.int .i64 n.kind)).setCell ⟨V3.heap.size, 1, none⟩ (.string n.text)).setCell ⟨V3.heap.size, 2, none⟩ (.slice Ac n.kids.length cc)).setCell ⟨V3.heap.size, 3, none⟩ (.int .i64 n.place)) := ⟨_, rfl⟩
    rw [← hV5]
    have h45 : Whole V5 V2.heap.size 24 #[.int .i64 0, .string ⟨#[]⟩, .slice none 0 0, .int .i64 0] := by
      rw [hV5]
      exact (((h4.far (p := ⟨V3.heap.size, 0, none⟩) (by simp only; omega) _).far (p := ⟨V3.heap.size, 1, none⟩) (by simp only; omega) _).far (p := ⟨V3.heap.size, 2, none⟩) (by simp only; omega) _).far (p := ⟨V3.heap.size, 3, none⟩) (by simp only; omega) _
    have b5 : Below W3.heap.size W3 V5 := by
      rw [hV5]
      exact (((((D0.out.trans (T0.mono D0.out.size)).setCell (p := ⟨V3.heap.size, 0, none⟩) (by have := D0.out.size; simp only; omega) _).setCell (p := ⟨V3.heap.size, 1, none⟩) (by have := D0.out.size; simp only; omega) _).setCell (p := ⟨V3.heap.size, 2, none⟩) (by have := D0.out.size; simp only; omega) _).setCell (p := ⟨V3.heap.size, 3, none⟩) (by have := D0.out.size; simp only; omega) _)
    have z40 : V5.cell? ⟨V2.heap.size, 0, none⟩ = some (.int .i64 0) := h45.cell 0
    have y40 : V5.frozen? ⟨V2.heap.size, 0, none⟩ = false := h45.free 0
    have z41 : V5.cell? ⟨V2.heap.size, 1, none⟩ = some (.string ⟨#[]⟩) := h45.cell 1
    have y41 : V5.frozen? ⟨V2.heap.size, 1, none⟩ = false := h45.free 1
    have z42 : V5.cell? ⟨V2.heap.size, 2, none⟩ = some (.slice none 0 0) := h45.cell 2
    have y42 : V5.frozen? ⟨V2.heap.size, 2, none⟩ = false := h45.free 2
    have z43 : V5.cell? ⟨V2.heap.size, 3, none⟩ = some (.int .i64 0) := h45.cell 3
    have y43 : V5.frozen? ⟨V2.heap.size, 3, none⟩ = false := h45.free 3
    have HV5 := Lib.hid hV5
    clear hV5
    refine Held.step (i := 7) (o := { dst := none, op := Op.store 24 (Operand.tmp 4) (Operand.tmp 18), type := 0, pos := "outright.go:24", after := #[{ on := 5, ground := Ground.data }, { on := 3, ground := Ground.data }, { on := 6, ground := Ground.chain }, { on := 0, ground := Ground.phase }, { on := 1, ground := Ground.phase }, { on := 2, ground := Ground.phase }, { on := 3, ground := Ground.phase }, { on := 4, ground := Ground.phase }, { on := 5, ground := Ground.phase }, { on := 6, ground := Ground.phase }], guard := none }) rfl (by kernel_rfl) (fun K hK => ?_)
    go_simp
    refine hK.out _ _ ⟨KP.out _ ((((b5.setCell (p := ⟨V2.heap.size, 0, none⟩) (by have := D0.out.size; simp only; omega) _).setCell (p := ⟨V2.heap.size, 1, none⟩) (by have := D0.out.size; simp only; omega) _).setCell (p := ⟨V2.heap.size, 2, none⟩) (by have := D0.out.size; simp only; omega) _).setCell (p := ⟨V2.heap.size, 3, none⟩) (by have := D0.out.size; simp only; omega) _), fun _ => trivial⟩ ?_
    clear hK K
    try simp only [Act.put, List.setIfInBounds_toArray, List.set_cons_zero, List.set_cons_succ]
    refine Held.done (by kernel_rfl) ?_ _
    rw [HV5.out]
    exact ⟨rfl, V3.heap.size, V2.heap.size, Ac, cc, Ad, cd, rfl, own3_fin V0.heap.size V1.heap.size V1.heap.size V2.heap.size kx h3 h4 (by have := D0.out.size; omega) (by have := D0.out.size; omega) (by have := D0.out.size; omega) (by have := D0.out.size; omega) (by have := D0.out.size; omega) (by have := D0.out.size; omega) (by have := D0.out.size; omega) (by have := D0.out.size; omega) (by have := D0.out.size; omega) oc od nc⟩
    go_simp
    refine hK.out _ _ ⟨KP.out _ (D1.out.alloc D1.out.size _), fun _ => trivial⟩ ?_
    clear hK K
    try simp only [Act.put, List.setIfInBounds_toArray, List.set_cons_zero, List.set_cons_succ]
    obtain ⟨V2, hV⟩ : ∃ V, V = V1.alloc (.cells #[.int .i64 0, .string ⟨#[]⟩, .slice none 0 0, .int .i64 0] 24) := ⟨_, rfl⟩
    rw [← hV]
    have b2 : Hid (Below V1.heap.size V1 V2) := by rw [hV]; exact Lib.hid ((Below.refl _ V1).alloc (Nat.le_refl _) _)
    have H4 : Hid (Whole V2 V1.heap.size 24 #[.int .i64 0, .string ⟨#[]⟩, .slice none 0 0, .int .i64 0]) := by rw [hV]; exact Lib.hid (Whole.new V1 24 _)
    have D2 := Lib.hid (D1.out.trans (b2.out.mono D1.out.size))
    clear hV
    refine Held.step2 (i := 3) (j := 5) (o := { dst := some 18, op := Op.call { callee := Callee.value (Operand.func 17), args := #[Operand.tmp 17], argTypes := #[24] }, type := 24, pos := "outright.go:24", after := #[{ on := 2, ground := Ground.data }, { on := 1, ground := Ground.chain }], guard := none }) (o' := { dst := some 4, op := Op.alloc 24, type := 0, pos := "outright.go:24", after := #[], guard := none }) rfl rfl (by kernel_rfl) (fun K hK => ?_) (fun K hK => ?_)
    go_simp
    go_at_call 17
    refine (CP.out _ (K3.out.1.trans (D2.out.mono K3.out.1.size))).mono ?_
    rintro e V3 ⟨Ad, cd, rfl, nv, bb, nd, ow⟩
    have b3 := Lib.hid bb
    have D3 := Lib.hid (D2.out.trans (b3.out.mono D2.out.size))
    have OD0 := Lib.hid nv
    have OD := Lib.hid nd
    clear nv bb nd ow
    refine hK.out _ _ ⟨KP.out _ D3.out, fun _ => trivial⟩ ?_
    clear hK K
    try simp only [Act.put, List.setIfInBounds_toArray, List.set_cons_zero, List.set_cons_succ]
    refine Held.step (i := 5) (o := { dst := some 4, op := Op.alloc 24, type := 0, pos := "outright.go:24", after := #[], guard := none }) rfl (by kernel_rfl) (fun K hK => ?_)
    go_simp
    refine hK.out _ _ ⟨KP.out _ (D3.out.alloc D3.out.size _), fun _ => trivial⟩ ?_
    clear hK K
    try simp only [Act.put, List.setIfInBounds_toArray, List.set_cons_zero, List.set_cons_succ]
    obtain ⟨V4, hV⟩ : ∃ V, V = V3.alloc (.cells #[.int .i64 0, .string ⟨#[]⟩, .slice none 0 0, .int .i64 0] 24) := ⟨_, rfl⟩
    rw [← hV]
    have b4 : Hid (Below V3.heap.size V3 V4) := by rw [hV]; exact Lib.hid ((Below.refl _ V3).alloc (Nat.le_refl _) _)
    have H5 : Hid (Whole V4 V3.heap.size 24 #[.int .i64 0, .string ⟨#[]⟩, .slice none 0 0, .int .i64 0]) := by rw [hV]; exact Lib.hid (Whole.new V3 24 _)
    have D4 := Lib.hid (D3.out.trans (b4.out.mono D3.out.size))
    clear hV
    have T4 : Below V4.heap.size V4 V4 := Below.refl _ V4
    have T3 : Below V3.heap.size V3 V4 := b4.out.trans (T4.mono b4.out.size)
    have T2 : Below V2.heap.size V2 V4 := b3.out.trans (T3.mono b3.out.size)
    have T1 : Below V1.heap.size V1 V4 := b2.out.trans (T2.mono b2.out.size)
    have T0 : Below V0.heap.size V0 V4 := b1.out.trans (T1.mono b1.out.size)
    have s1 := b1.out.size
    have s2 := b2.out.size
    have s3 := b3.out.size
    have s4 := b4.out.size
    have h3 := H4.out.below T2 H4.out.lt
    have h4 := H5.out.below T4 H5.out.lt
    have l3 := H4.out.lt
    have l4 := H5.out.lt
    have oc := OC.out.below T1
    have od := OD.out.below T3
    have nc := NC.out.below T1
    have kx := (K3.out.next (D0.out.trans (T0.mono D0.out.size)))
    have z30 : V4.cell? ⟨V1.heap.size, 0, none⟩ = some (.int .i64 0) := h3.cell 0
    have y30 : V4.frozen? ⟨V1.heap.size, 0, none⟩ = false := h3.free 0
    have z31 : V4.cell? ⟨V1.heap.size, 1, none⟩ = some (.string ⟨#[]⟩) := h3.cell 1
    have y31 : V4.frozen? ⟨V1.heap.size, 1, none⟩ = false := h3.free 1
    have z32 : V4.cell? ⟨V1.heap.size, 2, none⟩ = some (.slice none 0 0) := h3.cell 2
    have y32 : V4.frozen? ⟨V1.heap.size, 2, none⟩ = false := h3.free 2
    have z33 : V4.cell? ⟨V1.heap.size, 3, none⟩ = some (.int .i64 0) := h3.cell 3
    have y33 : V4.frozen? ⟨V1.heap.size, 3, none⟩ = false := h3.free 3
    refine Held.step (i := 6) (o := { dst := none, op := Op.store 24 (Operand.tmp 3) (Operand.tmp 16), type := 0, pos := "outright.go:24", after := #[{ on := 4, ground := Ground.data }, { on := 1, ground := Ground.data }, { on := 3, ground := Ground.chain }, { on := 0, ground := Ground.phase }, { on := 1, ground := Ground.phase }, { on := 2, ground := Ground.textOnly Departure.lateStores }, { on := 3, ground := Ground.textOnly Departure.lateStoresUnsure }, { on := 4, ground := Ground.phase }, { on := 5, ground := Ground.phase }], guard := none }) rfl (by kernel_rfl) (fun K hK => ?_)
    go_simp
    refine hK.out _ _ ⟨KP.out _ (((((D0.out.trans (T0.mono D0.out.size)).setCell (p := ⟨V1.heap.size, 0, none⟩) (by have := D0.out.size; simp only; omega) _).setCell (p := ⟨V1.heap.size, 1, none⟩) (by have := D0.out.size; simp only; omega) _).setCell (p := ⟨V1.heap.size, 2, none⟩) (by have := D0.out.size; simp only; omega) _).setCell (p := ⟨V1.heap.size, 3, none⟩) (by have := D0.out.size; simp only; omega) _), fun _ => trivial⟩ ?_
    clear hK K
    try simp only [Act.put, List.setIfInBounds_toArray, List.set_cons_zero, List.set_cons_succ]
    obtain ⟨V5, hV5⟩ : ∃ V, V = ((((V4.setCell ⟨V1.heap.size, 0, none⟩ (.int .i64 n.kind)).setCell ⟨V1.heap.size, 1, none⟩ (.string n.text)).setCell ⟨V1.heap.size, 2, none⟩ (.slice Ac n.kids.length cc)).setCell ⟨V1.heap.size, 3, none⟩ (.int .i64 n.place)) := ⟨_, rfl⟩
    rw [← hV5]
    have h45 : Whole V5 V3.heap.size 24 #[.int .i64 0, .string ⟨#[]⟩, .slice none 0 0, .int .i64 0] := by
      rw [hV5]
      exact (((h4.far (p := ⟨V1.heap.size, 0, none⟩) (by simp only; omega) _).far (p := ⟨V1.heap.size, 1, none⟩) (by simp only; omega) _).far (p := ⟨V1.heap.size, 2, none⟩) (by simp only; omega) _).far (p := ⟨V1.heap.size, 3, none⟩) (by simp only; omega) _
    have b5 : Below W3.heap.size W3 V5 := by
      rw [hV5]
      exact (((((D0.out.trans (T0.mono D0.out.size)).setCell (p := ⟨V1.heap.size, 0, none⟩) (by have := D0.out.size; simp only; omega) _).setCell (p := ⟨V1.heap.size, 1, none⟩) (by have := D0.out.size; simp only; omega) _).setCell (p := ⟨V1.heap.size, 2, none⟩) (by have := D0.out.size; simp only; omega) _).setCell (p := ⟨V1.heap.size, 3, none⟩) (by have := D0.out.size; simp only; omega) _)
    have z40 : V5.cell? ⟨V3.heap.size, 0, none⟩ = some (.int .i64 0) := h45.cell 0
    have y40 : V5.frozen? ⟨V3.heap.size, 0, none⟩ = false := h45.free 0
    have z41 : V5.cell? ⟨V3.heap.size, 1, none⟩ = some (.string ⟨#[]⟩) := h45.cell 1
    have y41 : V5.frozen? ⟨V3.heap.size, 1, none⟩ = false := h45.free 1
    have z42 : V5.cell? ⟨V3.heap.size, 2, none⟩ = some (.slice none 0 0) := h45.cell 2
    have y42 : V5.frozen? ⟨V3.heap.size, 2, none⟩ = false := h45.free 2
    have z43 : V5.cell? ⟨V3.heap.size, 3, none⟩ = some (.int .i64 0) := h45.cell 3
    have y43 : V5.frozen? ⟨V3.heap.size, 3, none⟩ = false := h45.free 3
    have HV5 := Lib.hid hV5
    clear hV5
    refine Held.step (i := 7) (o := { dst := none, op := Op.store 24 (Operand.tmp 4) (Operand.tmp 18), type := 0, pos := "outright.go:24", after := #[{ on := 5, ground := Ground.data }, { on := 3, ground := Ground.data }, { on := 6, ground := Ground.chain }, { on := 0, ground := Ground.phase }, { on := 1, ground := Ground.phase }, { on := 2, ground := Ground.phase }, { on := 3, ground := Ground.phase }, { on := 4, ground := Ground.phase }, { on := 5, ground := Ground.phase }, { on := 6, ground := Ground.phase }], guard := none }) rfl (by kernel_rfl) (fun K hK => ?_)
    go_simp
    refine hK.out _ _ ⟨KP.out _ ((((b5.setCell (p := ⟨V3.heap.size, 0, none⟩) (by have := D0.out.size; simp only; omega) _).setCell (p := ⟨V3.heap.size, 1, none⟩) (by have := D0.out.size; simp only; omega) _).setCell (p := ⟨V3.heap.size, 2, none⟩) (by have := D0.out.size; simp only; omega) _).setCell (p := ⟨V3.heap.size, 3, none⟩) (by have := D0.out.size; simp only; omega) _), fun _ => trivial⟩ ?_
    clear hK K
    try simp only [Act.put, List.setIfInBounds_toArray, List.set_cons_zero, List.set_cons_succ]
    refine Held.done (by kernel_rfl) ?_ _
    rw [HV5.out]
    exact ⟨rfl, V1.heap.size, V3.heap.size, Ac, cc, Ad, cd, rfl, own3_fin V0.heap.size V1.heap.size V2.heap.size V3.heap.size kx h3 h4 (by have := D0.out.size; omega) (by have := D0.out.size; omega) (by have := D0.out.size; omega) (by have := D0.out.size; omega) (by have := D0.out.size; omega) (by have := D0.out.size; omega) (by have := D0.out.size; omega) (by have := D0.out.size; omega) (by have := D0.out.size; omega) oc od nc⟩
    go_simp
    refine hK.out _ _ ⟨KP.out _ (D2.out.alloc D2.out.size _), fun _ => trivial⟩ ?_
    clear hK K
    try simp only [Act.put, List.setIfInBounds_toArray, List.set_cons_zero, List.set_cons_succ]
    obtain ⟨V3, hV⟩ : ∃ V, V = V2.alloc (.cells #[.int .i64 0, .string ⟨#[]⟩, .slice none 0 0, .int .i64 0] 24) := ⟨_, rfl⟩
    rw [← hV]
    have b3 : Hid (Below V2.heap.size V2 V3) := by rw [hV]; exact Lib.hid ((Below.refl _ V2).alloc (Nat.le_refl _) _)
    have H5 : Hid (Whole V3 V2.heap.size 24 #[.int .i64 0, .string ⟨#[]⟩, .slice none 0 0, .int .i64 0]) := by rw [hV]; exact Lib.hid (Whole.new V2 24 _)
    have D3 := Lib.hid (D2.out.trans (b3.out.mono D2.out.size))
    clear hV
    refine Held.step (i := 3) (o := { dst := some 18, op := Op.call { callee := Callee.value (Operand.func 17), args := #[Operand.tmp 17], argTypes := #[24] }, type := 24, pos := "outright.go:24", after := #[{ on := 2, ground := Ground.data }, { on := 1, ground := Ground.chain }], guard := none }) rfl (by kernel_rfl) (fun K hK => ?_)
    go_simp
    go_at_call 17
    refine (CP.out _ (K3.out.1.trans (D3.out.mono K3.out.1.size))).mono ?_
    rintro e V4 ⟨Ad, cd, rfl, nv, bb, nd, ow⟩
    have b4 := Lib.hid bb
    have D4 := Lib.hid (D3.out.trans (b4.out.mono D3.out.size))
    have OD0 := Lib.hid nv
    have OD := Lib.hid nd
    clear nv bb nd ow
    refine hK.out _ _ ⟨KP.out _ D4.out, fun _ => trivial⟩ ?_
    clear hK K
    try simp only [Act.put, List.setIfInBounds_toArray, List.set_cons_zero, List.set_cons_succ]
    have T4 : Below V4.heap.size V4 V4 := Below.refl _ V4
    have T3 : Below V3.heap.size V3 V4 := b4.out.trans (T4.mono b4.out.size)
    have T2 : Below V2.heap.size V2 V4 := b3.out.trans (T3.mono b3.out.size)
    have T1 : Below V1.heap.size V1 V4 := b2.out.trans (T2.mono b2.out.size)
    have T0 : Below V0.heap.size V0 V4 := b1.out.trans (T1.mono b1.out.size)
    have s1 := b1.out.size
    have s2 := b2.out.size
    have s3 := b3.out.size
    have s4 := b4.out.size
    have h3 := H4.out.below T2 H4.out.lt
    have h4 := H5.out.below T3 H5.out.lt
    have l3 := H4.out.lt
    have l4 := H5.out.lt
    have oc := OC.out.below T1
    have od := OD.out.below T4
    have nc := NC.out.below T1
    have kx := (K3.out.next (D0.out.trans (T0.mono D0.out.size)))
    have z30 : V4.cell? ⟨V1.heap.size, 0, none⟩ = some (.int .i64 0) := h3.cell 0
    have y30 : V4.frozen? ⟨V1.heap.size, 0, none⟩ = false := h3.free 0
    have z31 : V4.cell? ⟨V1.heap.size, 1, none⟩ = some (.string ⟨#[]⟩) := h3.cell 1
    have y31 : V4.frozen? ⟨V1.heap.size, 1, none⟩ = false := h3.free 1
    have z32 : V4.cell? ⟨V1.heap.size, 2, none⟩ = some (.slice none 0 0) := h3.cell 2
    have y32 : V4.frozen? ⟨V1.heap.size, 2, none⟩ = false := h3.free 2
    have z33 : V4.cell? ⟨V1.heap.size, 3, none⟩ = some (.int .i64 0) := h3.cell 3
    have y33 : V4.frozen? ⟨V1.heap.size, 3, none⟩ = false := h3.free 3
    refine Held.step (i := 6) (o := { dst := none, op := Op.store 24 (Operand.tmp 3) (Operand.tmp 16), type := 0, pos := "outright.go:24", after := #[{ on := 4, ground := Ground.data }, { on := 1, ground := Ground.data }, { on := 3, ground := Ground.chain }, { on := 0, ground := Ground.phase }, { on := 1, ground := Ground.phase }, { on := 2, ground := Ground.textOnly Departure.lateStores }, { on := 3, ground := Ground.textOnly Departure.lateStoresUnsure }, { on := 4, ground := Ground.phase }, { on := 5, ground := Ground.phase }], guard := none }) rfl (by kernel_rfl) (fun K hK => ?_)
    go_simp
    refine hK.out _ _ ⟨KP.out _ (((((D0.out.trans (T0.mono D0.out.size)).setCell (p := ⟨V1.heap.size, 0, none⟩) (by have := D0.out.size; simp only; omega) _).setCell (p := ⟨V1.heap.size, 1, none⟩) (by have := D0.out.size; simp only; omega) _).setCell (p := ⟨V1.heap.size, 2, none⟩) (by have := D0.out.size; simp only; omega) _).setCell (p := ⟨V1.heap.size, 3, none⟩) (by have := D0.out.size; simp only; omega) _), fun _ => trivial⟩ ?_
    clear hK K
    try simp only [Act.put, List.setIfInBounds_toArray, List.set_cons_zero, List.set_cons_succ]
    obtain ⟨V5, hV5⟩ : ∃ V, V = ((((V4.setCell ⟨V1.heap.size, 0, none⟩ (.int .i64 n.kind)).setCell ⟨V1.heap.size, 1, none⟩ (.string n.text)).setCell ⟨V1.heap.size, 2, none⟩ (.slice Ac n.kids.length cc)).setCell ⟨V1.heap.size, 3, none⟩ (.int .i64 n.place)) := ⟨_, rfl⟩
    rw [← hV5]
    have h45 : Whole V5 V2.heap.size 24 #[.int .i64 0, .string ⟨#[]⟩, .slice none 0 0, .int .i64 0] := by
      rw [hV5]
      exact (((h4.far (p := ⟨V1.heap.size, 0, none⟩) (by simp only; omega) _).far (p := ⟨V1.heap.size, 1, none⟩) (by simp only; omega) _).far (p := ⟨V1.heap.size, 2, none⟩) (by simp only; omega) _).far (p := ⟨V1.heap.size, 3, none⟩) (by simp only; omega) _
    have b5 : Below W3.heap.size W3 V5 := by
      rw [hV5]
      exact (((((D0.out.trans (T0.mono D0.out.size)).setCell (p := ⟨V1.heap.size, 0, none⟩) (by have := D0.out.size; simp only; omega) _).setCell (p := ⟨V1.heap.size, 1, none⟩) (by have := D0.out.size; simp only; omega) _).setCell (p := ⟨V1.heap.size, 2, none⟩) (by have := D0.out.size; simp only; omega) _).setCell (p := ⟨V1.heap.size, 3, none⟩) (by have := D0.out.size; simp only; omega) _)
    have z40 : V5.cell? ⟨V2.heap.size, 0, none⟩ = some (.int .i64 0) := h45.cell 0
    have y40 : V5.frozen? ⟨V2.heap.size, 0, none⟩ = false := h45.free 0
    have z41 : V5.cell? ⟨V2.heap.size, 1, none⟩ = some (.string ⟨#[]⟩) := h45.cell 1
    have y41 : V5.frozen? ⟨V2.heap.size, 1, none⟩ = false := h45.free 1
    have z42 : V5.cell? ⟨V2.heap.size, 2, none⟩ = some (.slice none 0 0) := h45.cell 2
    have y42 : V5.frozen? ⟨V2.heap.size, 2, none⟩ = false := h45.free 2
    have z43 : V5.cell? ⟨V2.heap.size, 3, none⟩ = some (.int .i64 0) := h45.cell 3
    have y43 : V5.frozen? ⟨V2.heap.size, 3, none⟩ = false := h45.free 3
    have HV5 := Lib.hid hV5
    clear hV5
    refine Held.step (i := 7) (o := { dst := none, op := Op.store 24 (Operand.tmp 4) (Operand.tmp 18), type := 0, pos := "outright.go:24", after := #[{ on := 5, ground := Ground.data }, { on := 3, ground := Ground.data }, { on := 6, ground := Ground.chain }, { on := 0, ground := Ground.phase }, { on := 1, ground := Ground.phase }, { on := 2, ground := Ground.phase }, { on := 3, ground := Ground.phase }, { on := 4, ground := Ground.phase }, { on := 5, ground := Ground.phase }, { on := 6, ground := Ground.phase }], guard := none }) rfl (by kernel_rfl) (fun K hK => ?_)
    go_simp
    refine hK.out _ _ ⟨KP.out _ ((((b5.setCell (p := ⟨V2.heap.size, 0, none⟩) (by have := D0.out.size; simp only; omega) _).setCell (p := ⟨V2.heap.size, 1, none⟩) (by have := D0.out.size; simp only; omega) _).setCell (p := ⟨V2.heap.size, 2, none⟩) (by have := D0.out.size; simp only; omega) _).setCell (p := ⟨V2.heap.size, 3, none⟩) (by have := D0.out.size; simp only; omega) _), fun _ => trivial⟩ ?_
    clear hK K
    try simp only [Act.put, List.setIfInBounds_toArray, List.set_cons_zero, List.set_cons_succ]
    refine Held.done (by kernel_rfl) ?_ _
    rw [HV5.out]
    exact ⟨rfl, V1.heap.size, V2.heap.size, Ac, cc, Ad, cd, rfl, own3_fin V0.heap.size V1.heap.size V3.heap.size V4.heap.size kx h3 h4 (by have := D0.out.size; omega) (by have := D0.out.size; omega) (by have := D0.out.size; omega) (by have := D0.out.size; omega) (by have := D0.out.size; omega) (by have := D0.out.size; omega) (by have := D0.out.size; omega) (by have := D0.out.size; omega) (by have := D0.out.size; omega) oc od nc⟩
    go_simp
    refine hK.out _ _ ⟨KP.out _ (D1.out.alloc D1.out.size _), fun _ => trivial⟩ ?_
    clear hK K
    try simp only [Act.put, List.setIfInBounds_toArray, List.set_cons_zero, List.set_cons_succ]
    obtain ⟨V2, hV⟩ : ∃ V, V = V1.alloc (.cells #[.int .i64 0, .string ⟨#[]⟩, .slice none 0 0, .int .i64 0] 24) := ⟨_, rfl⟩
    rw [← hV]
    have b2 : Hid (Below V1.heap.size V1 V2) := by rw [hV]; exact Lib.hid ((Below.refl _ V1).alloc (Nat.le_refl _) _)
    have H5 : Hid (Whole V2 V1.heap.size 24 #[.int .i64 0, .string ⟨#[]⟩, .slice none 0 0, .int .i64 0]) := by rw [hV]; exact Lib.hid (Whole.new V1 24 _)
    have D2 := Lib.hid (D1.out.trans (b2.out.mono D1.out.size))
    clear hV
    refine Held.step2 (i := 3) (j := 4) (o := { dst := some 18, op := Op.call { callee := Callee.value (Operand.func 17), args := #[Operand.tmp 17], argTypes := #[24] }, type := 24, pos := "outright.go:24", after := #[{ on := 2, ground := Ground.data }, { on := 1, ground := Ground.chain }], guard := none }) (o' := { dst := some 3, op := Op.alloc 24, type := 0, pos := "outright.go:24", after := #[], guard := none }) rfl rfl (by kernel_rfl) (fun K hK => ?_) (fun K hK => ?_)
    go_simp
    go_at_call 17
    refine (CP.out _ (K3.out.1.trans (D2.out.mono K3.out.1.size))).mono ?_
    rintro e V3 ⟨Ad, cd, rfl, nv, bb, nd, ow⟩
    have b3 := Lib.hid bb
    have D3 := Lib.hid (D2.out.trans (b3.out.mono D2.out.size))
    have OD0 := Lib.hid nv
    have OD := Lib.hid nd
    clear nv bb nd ow
    refine hK.out _ _ ⟨KP.out _ D3.out, fun _ => trivial⟩ ?_
    clear hK K
    try simp only [Act.put, List.setIfInBounds_toArray, List.set_cons_zero, List.set_cons_succ]
    refine Held.step (i := 4) (o := { dst := some 3, op := Op.alloc 24, type := 0, pos := "outright.go:24", after := #[], guard := none }) rfl (by kernel_rfl) (fun K hK => ?_)
    go_simp
    refine hK.out _ _ ⟨KP.out _ (D3.out.alloc D3.out.size _), fun _ => trivial⟩ ?_
    clear hK K
    try simp only [Act.put, List.setIfInBounds_toArray, List.set_cons_zero, List.set_cons_succ]
    obtain ⟨V4, hV⟩ : ∃ V, V = V3.alloc (.cells #[.int .i64 0, .string ⟨#[]⟩, .slice none 0 0, .int .i64 0] 24) := ⟨_, rfl⟩
    rw [← hV]
    have b4 : Hid (Below V3.heap.size V3 V4) := by rw [hV]; exact Lib.hid ((Below.refl _ V3).alloc (Nat.le_refl _) _)
    have H4 : Hid (Whole V4 V3.heap.size 24 #[.int .i64 0, .string ⟨#[]⟩, .slice none 0 0, .int .i64 0]) := by rw [hV]; exact Lib.hid (Whole.new V3 24 _)
    have D4 := Lib.hid (D3.out.trans (b4.out.mono D3.out.size))
    clear hV
    have T4 : Below V4.heap.size V4 V4 := Below.refl _ V4
    have T3 : Below V3.heap.size V3 V4 := b4.out.trans (T4.mono b4.out.size)
    have T2 : Below V2.heap.size V2 V4 := b3.out.trans (T3.mono b3.out.size)
    have T1 : Below V1.heap.size V1 V4 := b2.out.trans (T2.mono b2.out.size)
    have T0 : Below V0.heap.size V0 V4 := b1.out.trans (T1.mono b1.out.size)
    have s1 := b1.out.size
    have s2 := b2.out.size
    have s3 := b3.out.size
    have s4 := b4.out.size
    have h3 := H4.out.below T4 H4.out.lt
    have h4 := H5.out.below T2 H5.out.lt
    have l3 := H4.out.lt
    have l4 := H5.out.lt
    have oc := OC.out.below T1
    have od := OD.out.below T3
    have nc := NC.out.below T1
    have kx := (K3.out.next (D0.out.trans (T0.mono D0.out.size)))
    have z30 : V4.cell? ⟨V3.heap.size, 0, none⟩ = some (.int .i64 0) := h3.cell 0
    have y30 : V4.frozen? ⟨V3.heap.size, 0, none⟩ = false := h3.free 0
    have z31 : V4.cell? ⟨V3.heap.size, 1, none⟩ = some (.string ⟨#[]⟩) := h3.cell 1
    have y31 : V4.frozen? ⟨V3.heap.size, 1, none⟩ = false := h3.free 1
    have z32 : V4.cell? ⟨V3.heap.size, 2, none⟩ = some (.slice none 0 0) := h3.cell 2
    have y32 : V4.frozen? ⟨V3.heap.size, 2, none⟩ = false := h3.free 2
    have z33 : V4.cell? ⟨V3.heap.size, 3, none⟩ = some (.int .i64 0) := h3.cell 3
    have y33 : V4.frozen? ⟨V3.heap.size, 3, none⟩ = false := h3.free 3
    refine Held.step (i := 6) (o := { dst := none, op := Op.store 24 (Operand.tmp 3) (Operand.tmp 16), type := 0, pos := "outright.go:24", after := #[{ on := 4, ground := Ground.data }, { on := 1, ground := Ground.data }, { on := 3, ground := Ground.chain }, { on := 0, ground := Ground.phase }, { on := 1, ground := Ground.phase }, { on := 2, ground := Ground.textOnly Departure.lateStores }, { on := 3, ground := Ground.textOnly Departure.lateStoresUnsure }, { on := 4, ground := Ground.phase }, { on := 5, ground := Ground.phase }], guard := none }) rfl (by kernel_rfl) (fun K hK => ?_)
    go_simp
    refine hK.out _ _ ⟨KP.out _ (((((D0.out.trans (T0.mono D0.out.size)).setCell (p := ⟨V3.heap.size, 0, none⟩) (by have := D0.out.size; simp only; omega) _).setCell (p := ⟨V3.heap.size, 1, none⟩) (by have := D0.out.size; simp only; omega) _).setCell (p := ⟨V3.heap.size, 2, none⟩) (by have := D0.out.size; simp only; omega) _).setCell (p := ⟨V3.heap.size, 3, none⟩) (by have := D0.out.size; simp only; omega) _), fun _ => trivial⟩ ?_
    clear hK K
    try simp only [Act.put, List.setIfInBounds_toArray, List.set_cons_zero, List.set_cons_succ]
    obtain ⟨V5, hV5⟩ : ∃ V, V = ((((V4.setCell ⟨V3.heap.size, 0, none⟩ (.int .i64 n.kind)).setCell ⟨V3.heap.size, 1, none⟩ (.string n.text)).setCell ⟨V3.heap.size, 2, none⟩ (.slice Ac n.kids.length cc)).setCell ⟨V3.heap.size, 3, none⟩ (.int .i64 n.place)) := ⟨_, rfl⟩
    rw [← hV5]
    have h45 : Whole V5 V1.heap.size 24 #[.int .i64 0, .string ⟨#[]⟩, .slice none 0 0, .int .i64 0] := by
      rw [hV5]
      exact (((h4.far (p := ⟨V3.heap.size, 0, none⟩) (by simp only; omega) _).far (p := ⟨V3.heap.size, 1, none⟩) (by simp only; omega) _).far (p := ⟨V3.heap.size, 2, none⟩) (by simp only; omega) _).far (p := ⟨V3.heap.size, 3, none⟩) (by simp only; omega) _
    have b5 : Below W3.heap.size W3 V5 := by
      rw [hV5]
      exact (((((D0.out.trans (T0.mono D0.out.size)).setCell (p := ⟨V3.heap.size, 0, none⟩) (by have := D0.out.size; simp only; omega) _).setCell (p := ⟨V3.heap.size, 1, none⟩) (by have := D0.out.size; simp only; omega) _).setCell (p := ⟨V3.heap.size, 2, none⟩) (by have := D0.out.size; simp only; omega) _).setCell (p := ⟨V3.heap.size, 3, none⟩) (by have := D0.out.size; simp only; omega) _)
    have z40 : V5.cell? ⟨V1.heap.size, 0, none⟩ = some (.int .i64 0) := h45.cell 0
    have y40 : V5.frozen? ⟨V1.heap.size, 0, none⟩ = false := h45.free 0
    have z41 : V5.cell? ⟨V1.heap.size, 1, none⟩ = some (.string ⟨#[]⟩) := h45.cell 1
    have y41 : V5.frozen? ⟨V1.heap.size, 1, none⟩ = false := h45.free 1
    have z42 : V5.cell? ⟨V1.heap.size, 2, none⟩ = some (.slice none 0 0) := h45.cell 2
    have y42 : V5.frozen? ⟨V1.heap.size, 2, none⟩ = false := h45.free 2
    have z43 : V5.cell? ⟨V1.heap.size, 3, none⟩ = some (.int .i64 0) := h45.cell 3
    have y43 : V5.frozen? ⟨V1.heap.size, 3, none⟩ = false := h45.free 3
    have HV5 := Lib.hid hV5
    clear hV5
    refine Held.step (i := 7) (o := { dst := none, op := Op.store 24 (Operand.tmp 4) (Operand.tmp 18), type := 0, pos := "outright.go:24", after := #[{ on := 5, ground := Ground.data }, { on := 3, ground := Ground.data }, { on := 6, ground := Ground.chain }, { on := 0, ground := Ground.phase }, { on := 1, ground := Ground.phase }, { on := 2, ground := Ground.phase }, { on := 3, ground := Ground.phase }, { on := 4, ground := Ground.phase }, { on := 5, ground := Ground.phase }, { on := 6, ground := Ground.phase }], guard := none }) rfl (by kernel_rfl) (fun K hK => ?_)
    go_simp
    refine hK.out _ _ ⟨KP.out _ ((((b5.setCell (p := ⟨V1.heap.size, 0, none⟩) (by have := D0.out.size; simp only; omega) _).setCell (p := ⟨V1.heap.size, 1, none⟩) (by have := D0.out.size; simp only; omega) _).setCell (p := ⟨V1.heap.size, 2, none⟩) (by have := D0.out.size; simp only; omega) _).setCell (p := ⟨V1.heap.size, 3, none⟩) (by have := D0.out.size; simp only; omega) _), fun _ => trivial⟩ ?_
    clear hK K
    try simp only [Act.put, List.setIfInBounds_toArray, List.set_cons_zero, List.set_cons_succ]
    refine Held.done (by kernel_rfl) ?_ _
    rw [HV5.out]
    exact ⟨rfl, V3.heap.size, V1.heap.size, Ac, cc, Ad, cd, rfl, own3_fin V0.heap.size V1.heap.size V2.heap.size V3.heap.size kx h3 h4 (by have := D0.out.size; omega) (by have := D0.out.size; omega) (by have := D0.out.size; omega) (by have := D0.out.size; omega) (by have := D0.out.size; omega) (by have := D0.out.size; omega) (by have := D0.out.size; omega) (by have := D0.out.size; omega) (by have := D0.out.size; omega) oc od nc⟩
    go_simp
    refine hK.out _ _ ⟨KP.out _ (D2.out.alloc D2.out.size _), fun _ => trivial⟩ ?_
    clear hK K
    try simp only [Act.put, List.setIfInBounds_toArray, List.set_cons_zero, List.set_cons_succ]
    obtain ⟨V3, hV⟩ : ∃ V, V = V2.alloc (.cells #[.int .i64 0, .string ⟨#[]⟩, .slice none 0 0, .int .i64 0] 24) := ⟨_, rfl⟩
    rw [← hV]
    have b3 : Hid (Below V2.heap.size V2 V3) := by rw [hV]; exact Lib.hid ((Below.refl _ V2).alloc (Nat.le_refl _) _)
    have H4 : Hid (Whole V3 V2.heap.size 24 #[.int .i64 0, .string ⟨#[]⟩, .slice none 0 0, .int .i64 0]) := by rw [hV]; exact Lib.hid (Whole.new V2 24 _)
    have D3 := Lib.hid (D2.out.trans (b3.out.mono D2.out.size))
    clear hV
    refine Held.step (i := 3) (o := { dst := some 18, op := Op.call { callee := Callee.value (Operand.func 17), args := #[Operand.tmp 17], argTypes := #[24] }, type := 24, pos := "outright.go:24", after := #[{ on := 2, ground := Ground.data }, { on := 1, ground := Ground.chain }], guard := none }) rfl (by kernel_rfl) (fun K hK => ?_)
    go_simp
    go_at_call 17
    refine (CP.out _ (K3.out.1.trans (D3.out.mono K3.out.1.size))).mono ?_
    rintro e V4 ⟨Ad, cd, rfl, nv, bb, nd, ow⟩
    have b4 := Lib.hid bb
    have D4 := Lib.hid (D3.out.trans (b4.out.mono D3.out.size))
    have OD0 := Lib.hid nv
    have OD := Lib.hid nd
    clear nv bb nd ow
    refine hK.out _ _ ⟨KP.out _ D4.out, fun _ => trivial⟩ ?_
    clear hK K
    try simp only [Act.put, List.setIfInBounds_toArray, List.set_cons_zero, List.set_cons_succ]
    have T4 : Below V4.heap.size V4 V4 := Below.refl _ V4
    have T3 : Below V3.heap.size V3 V4 := b4.out.trans (T4.mono b4.out.size)
    have T2 : Below V2.heap.size V2 V4 := b3.out.trans (T3.mono b3.out.size)
    have T1 : Below V1.heap.size V1 V4 := b2.out.trans (T2.mono b2.out.size)
    have T0 : Below V0.heap.size V0 V4 := b1.out.trans (T1.mono b1.out.size)
    have s1 := b1.out.size
    have s2 := b2.out.size
    have s3 := b3.out.size
    have s4 := b4.out.size
    have h3 := H4.out.below T3 H4.out.lt
    have h4 := H5.out.below T2 H5.out.lt
    have l3 := H4.out.lt
    have l4 := H5.out.lt
    have oc := OC.out.below T1
    have od := OD.out.below T4
    have nc := NC.out.below T1
    have kx := (K3.out.next (D0.out.trans (T0.mono D0.out.size)))
    have z30 : V4.cell? ⟨V2.heap.size, 0, none⟩ = some (.int .i64 0) := h3.cell 0
    have y30 : V4.frozen? ⟨V2.heap.size, 0, none⟩ = false := h3.free 0
    have z31 : V4.cell? ⟨V2.heap.size, 1, none⟩ = some (.string ⟨#[]⟩) := h3.cell 1
    have y31 : V4.frozen? ⟨V2.heap.size, 1, none⟩ = false := h3.free 1
    have z32 : V4.cell? ⟨V2.heap.size, 2, none⟩ = some (.slice none 0 0) := h3.cell 2
    have y32 : V4.frozen? ⟨V2.heap.size, 2, none⟩ = false := h3.free 2
    have z33 : V4.cell? ⟨V2.heap.size, 3, none⟩ = some (.int .i64 0) := h3.cell 3
    have y33 : V4.frozen? ⟨V2.heap.size, 3, none⟩ = false := h3.free 3
    refine Held.step (i := 6) (o := { dst := none, op := Op.store 24 (Operand.tmp 3) (Operand.tmp 16), type := 0, pos := "outright.go:24", after := #[{ on := 4, ground := Ground.data }, { on := 1, ground := Ground.data }, { on := 3, ground := Ground.chain }, { on := 0, ground := Ground.phase }, { on := 1, ground := Ground.phase }, { on := 2, ground := Ground.textOnly Departure.lateStores }, { on := 3, ground := Ground.textOnly Departure.lateStoresUnsure }, { on := 4, ground := Ground.phase }, { on := 5, ground := Ground.phase }], guard := none }) rfl (by kernel_rfl) (fun K hK => ?_)
    go_simp
    refine hK.out _ _ ⟨KP.out _ (((((D0.out.trans (T0.mono D0.out.size)).setCell (p := ⟨V2.heap.size, 0, none⟩) (by have := D0.out.size; simp only; omega) _).setCell (p := ⟨V2.heap.size, 1, none⟩) (by have := D0.out.size; simp only; omega) _).setCell (p := ⟨V2.heap.size, 2, none⟩) (by have := D0.out.size; simp only; omega) _).setCell (p := ⟨V2.heap.size, 3, none⟩) (by have := D0.out.size; simp only; omega) _), fun _ => trivial⟩ ?_
    clear hK K
    try simp only [Act.put, List.setIfInBounds_toArray, List.set_cons_zero, List.set_cons_succ]
    obtain ⟨V5, hV5⟩ : ∃ V, V = ((((V4.setCell ⟨V2.heap.size, 0, none⟩ (.int .i64 n.kind)).setCell ⟨V2.heap.size, 1, none⟩ (.string n.text)).setCell ⟨V2.heap.size, 2, none⟩ (.slice Ac n.kids.length cc)).setCell ⟨V2.heap.size, 3, none⟩ (.int .i64 n.place)) := ⟨_, rfl⟩
    rw [← hV5]
    have h45 : Whole V5 V1.heap.size 24 #[.int .i64 0, .string ⟨#[]⟩, .slice none 0 0, .int .i64 0] := by
      rw [hV5]
      exact (((h4.far (p := ⟨V2.heap.size, 0, none⟩) (by simp only; omega) _).far (p := ⟨V2.heap.size, 1, none⟩) (by simp only; omega) _).far (p := ⟨V2.heap.size, 2, none⟩) (by simp only; omega) _).far (p := ⟨V2.heap.size, 3, none⟩) (by simp only; omega) _
    have b5 : Below W3.heap.size W3 V5 := by
      rw [hV5]
      exact (((((D0.out.trans (T0.mono D0.out.size)).setCell (p := ⟨V2.heap.size, 0, none⟩) (by have := D0.out.size; simp only; omega) _).setCell (p := ⟨V2.heap.size, 1, none⟩) (by have := D0.out.size; simp only; omega) _).setCell (p := ⟨V2.heap.size, 2, none⟩) (by have := D0.out.size; simp only; omega) _).setCell (p := ⟨V2.heap.size, 3, none⟩) (by have := D0.out.size; simp only; omega) _)
    have z40 : V5.cell? ⟨V1.heap.size, 0, none⟩ = some (.int .i64 0) := h45.cell 0
    have y40 : V5.frozen? ⟨V1.heap.size, 0, none⟩ = false := h45.free 0
    have z41 : V5.cell? ⟨V1.heap.size, 1, none⟩ = some (.string ⟨#[]⟩) := h45.cell 1
    have y41 : V5.frozen? ⟨V1.heap.size, 1, none⟩ = false := h45.free 1
    have z42 : V5.cell? ⟨V1.heap.size, 2, none⟩ = some (.slice none 0 0) := h45.cell 2
    have y42 : V5.frozen? ⟨V1.heap.size, 2, none⟩ = false := h45.free 2
    have z43 : V5.cell? ⟨V1.heap.size, 3, none⟩ = some (.int .i64 0) := h45.cell 3
    have y43 : V5.frozen? ⟨V1.heap.size, 3, none⟩ = false := h45.free 3
    have HV5 := Lib.hid hV5
    clear hV5
    refine Held.step (i := 7) (o := { dst := none, op := Op.store 24 (Operand.tmp 4) (Operand.tmp 18), type := 0, pos := "outright.go:24", after := #[{ on := 5, ground := Ground.data }, { on := 3, ground := Ground.data }, { on := 6, ground := Ground.chain }, { on := 0, ground := Ground.phase }, { on := 1, ground := Ground.phase }, { on := 2, ground := Ground.phase }, { on := 3, ground := Ground.phase }, { on := 4, ground := Ground.phase }, { on := 5, ground := Ground.phase }, { on := 6, ground := Ground.phase }], guard := none }) rfl (by kernel_rfl) (fun K hK => ?_)
    go_simp
    refine hK.out _ _ ⟨KP.out _ ((((b5.setCell (p := ⟨V1.heap.size, 0, none⟩) (by have := D0.out.size; simp only; omega) _).setCell (p := ⟨V1.heap.size, 1, none⟩) (by have := D0.out.size; simp only; omega) _).setCell (p := ⟨V1.heap.size, 2, none⟩) (by have := D0.out.size; simp only; omega) _).setCell (p := ⟨V1.heap.size, 3, none⟩) (by have := D0.out.size; simp only; omega) _), fun _ => trivial⟩ ?_
    clear hK K
    try simp only [Act.put, List.setIfInBounds_toArray, List.set_cons_zero, List.set_cons_succ]
    refine Held.done (by kernel_rfl) ?_ _
    rw [HV5.out]
    exact ⟨rfl, V2.heap.size, V1.heap.size, Ac, cc, Ad, cd, rfl, own3_fin V0.heap.size V1.heap.size V3.heap.size V4.heap.size kx h3 h4 (by have := D0.out.size; omega) (by have := D0.out.size; omega) (by have := D0.out.size; omega) (by have := D0.out.size; omega) (by have := D0.out.size; omega) (by have := D0.out.size; omega) (by have := D0.out.size; omega) (by have := D0.out.size; omega) (by have := D0.out.size; omega) oc od nc⟩
    go_simp
    refine hK.out _ _ ⟨KP.out _ (D0.out.alloc D0.out.size _), fun _ => trivial⟩ ?_
    clear hK K
    try simp only [Act.put, List.setIfInBounds_toArray, List.set_cons_zero, List.set_cons_succ]
    obtain ⟨V1, hV⟩ : ∃ V, V = V0.alloc (.cells #[.int .i64 0, .string ⟨#[]⟩, .slice none 0 0, .int .i64 0] 24) := ⟨_, rfl⟩
    rw [← hV]
    have b1 : Hid (Below V0.heap.size V0 V1) := by rw [hV]; exact Lib.hid ((Below.refl _ V0).alloc (Nat.le_refl _) _)
    have H4 : Hid (Whole V1 V0.heap.size 24 #[.int .i64 0, .string ⟨#[]⟩, .slice none 0 0, .int .i64 0]) := by rw [hV]; exact Lib.hid (Whole.new V0 24 _)
    have D1 := Lib.hid (D0.out.trans (b1.out.mono D0.out.size))
    clear hV
    refine Held.step2 (i := 1) (j := 5) (o := { dst := some 16, op := Op.call { callee := Callee.value (Operand.func 17), args := #[Operand.tmp 15], argTypes := #[24] }, type := 24, pos := "outright.go:24", after := #[{ on := 0, ground := Ground.data }], guard := none }) (o' := { dst := some 4, op := Op.alloc 24, type := 0, pos := "outright.go:24", after := #[], guard := none }) rfl rfl (by kernel_rfl) (fun K hK => ?_) (fun K hK => ?_)
    go_simp
    go_at_call 17
    refine (CP.out _ (K3.out.1.trans (D1.out.mono K3.out.1.size))).mono ?_
    rintro e V2 ⟨Ac, cc, rfl, nv, bb, nd, ow⟩
    have b2 := Lib.hid bb
    have D2 := Lib.hid (D1.out.trans (b2.out.mono D1.out.size))
    have OC := Lib.hid ow
    have NC := Lib.hid nd
    clear nv bb nd ow
    refine hK.out _ _ ⟨KP.out _ D2.out, fun _ => trivial⟩ ?_
    clear hK K
    try simp only [Act.put, List.setIfInBounds_toArray, List.set_cons_zero, List.set_cons_succ]
    refine Held.step2 (i := 3) (j := 5) (o := { dst := some 18, op := Op.call { callee := Callee.value (Operand.func 17), args := #[Operand.tmp 17], argTypes := #[24] }, type := 24, pos := "outright.go:24", after := #[{ on := 2, ground := Ground.data }, { on := 1, ground := Ground.chain }], guard := none }) (o' := { dst := some 4, op := Op.alloc 24, type := 0, pos := "outright.go:24", after := #[], guard := none }) rfl rfl (by kernel_rfl) (fun K hK => ?_) (fun K hK => ?_)
    go_simp
    go_at_call 17
    refine (CP.out _ (K3.out.1.trans (D2.out.mono K3.out.1.size))).mono ?_
    rintro e V3 ⟨Ad, cd, rfl, nv, bb, nd, ow⟩
    have b3 := Lib.hid bb
    have D3 := Lib.hid (D2.out.trans (b3.out.mono D2.out.size))
    have OD0 := Lib.hid nv
    have OD := Lib.hid nd
    clear nv bb nd ow
    refine hK.out _ _ ⟨KP.out _ D3.out, fun _ => trivial⟩ ?_
    clear hK K
    try simp only [Act.put, List.setIfInBounds_toArray, List.set_cons_zero, List.set_cons_succ]
    refine Held.step (i := 5) (o := { dst := some 4, op := Op.alloc 24, type := 0, pos := "outright.go:24", after := #[], guard := none }) rfl (by kernel_rfl) (fun K hK => ?_)
    go_simp
    refine hK.out _ _ ⟨KP.out _ (D3.out.alloc D3.out.size _), fun _ => trivial⟩ ?_
    clear hK K
    try simp only [Act.put, List.setIfInBounds_toArray, List.set_cons_zero, List.set_cons_succ]
    obtain ⟨V4, hV⟩ : ∃ V, V = V3.alloc (.cells #[.int .i64 0, .string ⟨#[]⟩, .slice none 0 0, .int .i64 0] 24) := ⟨_, rfl⟩
    rw [← hV]
    have b4 : Hid (Below V3.heap.size V3 V4) := by rw [hV]; exact Lib.hid ((Below.refl _ V3).alloc (Nat.le_refl _) _)
    have H5 : Hid (Whole V4 V3.heap.size 24 #[.int .i64 0, .string ⟨#[]⟩, .slice none 0 0, .int .i64 0]) := by rw [hV]; exact Lib.hid (Whole.new V3 24 _)
    have D4 := Lib.hid (D3.out.trans (b4.out.mono D3.out.size))
    clear hV
    have T4 : Below V4.heap.size V4 V4 := Below.refl _ V4
    have T3 : Below V3.heap.size V3 V4 := b4.out.trans (T4.mono b4.out.size)
    have T2 : Below V2.heap.size V2 V4 := b3.out.trans (T3.mono b3.out.size)
    have T1 : Below V1.heap.size V1 V4 := b2.out.trans (T2.mono b2.out.size)
    have T0 : Below V0.heap.size V0 V4 := b1.out.trans (T1.mono b1.out.size)
    have s1 := b1.out.size
    have s2 := b2.out.size
    have s3 := b3.out.size
    have s4 := b4.out.size
    have h3 := H4.out.below T1 H4.out.lt
    have h4 := H5.out.below T4 H5.out.lt
    have l3 := H4.out.lt
    have l4 := H5.out.lt
    have oc := OC.out.below T2
    have od := OD.out.below T3
    have nc := NC.out.below T2
    have kx := (K3.out.next (D0.out.trans (T0.mono D0.out.size)))
    have z30 : V4.cell? ⟨V0.heap.size, 0, none⟩ = some (.int .i64 0) := h3.cell 0
    have y30 : V4.frozen? ⟨V0.heap.size, 0, none⟩ = false := h3.free 0
    have z31 : V4.cell? ⟨V0.heap.size, 1, none⟩ = some (.string ⟨#[]⟩) := h3.cell 1
    have y31 : V4.frozen? ⟨V0.heap.size, 1, none⟩ = false := h3.free 1
    have z32 : V4.cell? ⟨V0.heap.size, 2, none⟩ = some (.slice none 0 0) := h3.cell 2
    have y32 : V4.frozen? ⟨V0.heap.size, 2, none⟩ = false := h3.free 2
    have z33 : V4.cell? ⟨V0.heap.size, 3, none⟩ = some (.int .i64 0) := h3.cell 3
    have y33 : V4.frozen? ⟨V0.heap.size, 3, none⟩ = false := h3.free 3
    refine Held.step (i := 6) (o := { dst := none, op := Op.store 24 (Operand.tmp 3) (Operand.tmp 16), type := 0, pos := "outright.go:24", after := #[{ on := 4, ground := Ground.data }, { on := 1, ground := Ground.data }, { on := 3, ground := Ground.chain }, { on := 0, ground := Ground.phase }, { on := 1, ground := Ground.phase }, { on := 2, ground := Ground.textOnly Departure.lateStores }, { on := 3, ground := Ground.textOnly Departure.lateStoresUnsure }, { on := 4, ground := Ground.phase }, { on := 5, ground := Ground.phase }], guard := none }) rfl (by kernel_rfl) (fun K hK => ?_)
    go_simp
    refine hK.out _ _ ⟨KP.out _ (((((D0.out.trans (T0.mono D0.out.size)).setCell (p := ⟨V0.heap.size, 0, none⟩) (by have := D0.out.size; simp only; omega) _).setCell (p := ⟨V0.heap.size, 1, none⟩) (by have := D0.out.size; simp only; omega) _).setCell (p := ⟨V0.heap.size, 2, none⟩) (by have := D0.out.size; simp only; omega) _).setCell (p := ⟨V0.heap.size, 3, none⟩) (by have := D0.out.size; simp only; omega) _), fun _ => trivial⟩ ?_
    clear hK K
    try simp only [Act.put, List.setIfInBounds_toArray, List.set_cons_zero, List.set_cons_succ]
    obtain ⟨V5, hV5⟩ : ∃ V, V = ((((V4.setCell ⟨V0.heap.size, 0, none⟩ (.int .i64 n.kind)).setCell ⟨V0.heap.size, 1, none⟩ (.string n.text)).setCell ⟨V0.heap.size, 2, none⟩ (.slice Ac n.kids.length cc)).setCell ⟨V0.heap.size, 3, none⟩ (.int .i64 n.place)) := ⟨_, rfl⟩
    rw [← hV5]
    have h45 : Whole V5 V3.heap.size 24 #[.int .i64 0, .string ⟨#[]⟩, .slice none 0 0, .int .i64 0] := by
      rw [hV5]
      exact (((h4.far (p := ⟨V0.heap.size, 0, none⟩) (by simp only; omega) _).far (p := ⟨V0.heap.size, 1, none⟩) (by simp only; omega) _).far (p := ⟨V0.heap.size, 2, none⟩) (by simp only; omega) _).far (p := ⟨V0.heap.size, 3, none⟩) (by simp only; omega) _
    have b5 : Below W3.heap.size W3 V5 := by
      rw [hV5]
      exact (((((D0.out.trans (T0.mono D0.out.size)).setCell (p := ⟨V0.heap.size, 0, none⟩) (by have := D0.out.size; simp only; omega) _).setCell (p := ⟨V0.heap.size, 1, none⟩) (by have := D0.out.size; simp only; omega) _).setCell (p := ⟨V0.heap.size, 2, none⟩) (by have := D0.out.size; simp only; omega) _).setCell (p := ⟨V0.heap.size, 3, none⟩) (by have := D0.out.size; simp only; omega) _)
    have z40 : V5.cell? ⟨V3.heap.size, 0, none⟩ = some (.int .i64 0) := h45.cell 0
    have y40 : V5.frozen? ⟨V3.heap.size, 0, none⟩ = false := h45.free 0
    have z41 : V5.cell? ⟨V3.heap.size, 1, none⟩ = some (.string ⟨#[]⟩) := h45.cell 1
    have y41 : V5.frozen? ⟨V3.heap.size, 1, none⟩ = false := h45.free 1
    have z42 : V5.cell? ⟨V3.heap.size, 2, none⟩ = some (.slice none 0 0) := h45.cell 2
    have y42 : V5.frozen? ⟨V3.heap.size, 2, none⟩ = false := h45.free 2
    have z43 : V5.cell? ⟨V3.heap.size, 3, none⟩ = some (.int .i64 0) := h45.cell 3
    have y43 : V5.frozen? ⟨V3.heap.size, 3, none⟩ = false := h45.free 3
    have HV5 := Lib.hid hV5
    clear hV5
    refine Held.step (i := 7) (o := { dst := none, op := Op.store 24 (Operand.tmp 4) (Operand.tmp 18), type := 0, pos := "outright.go:24", after := #[{ on := 5, ground := Ground.data }, { on := 3, ground := Ground.data }, { on := 6, ground := Ground.chain }, { on := 0, ground := Ground.phase }, { on := 1, ground := Ground.phase }, { on := 2, ground := Ground.phase }, { on := 3, ground := Ground.phase }, { on := 4, ground := Ground.phase }, { on := 5, ground := Ground.phase }, { on := 6, ground := Ground.phase }], guard := none }) rfl (by kernel_rfl) (fun K hK => ?_)
    go_simp
    refine hK.out _ _ ⟨KP.out _ ((((b5.setCell (p := ⟨V3.heap.size, 0, none⟩) (by have := D0.out.size; simp only; omega) _).setCell (p := ⟨V3.heap.size, 1, none⟩) (by have := D0.out.size; simp only; omega) _).setCell (p := ⟨V3.heap.size, 2, none⟩) (by have := D0.out.size; simp only; omega) _).setCell (p := ⟨V3.heap.size, 3, none⟩) (by have := D0.out.size; simp only; omega) _), fun _ => trivial⟩ ?_
    clear hK K
    try simp only [Act.put, List.setIfInBounds_toArray, List.set_cons_zero, List.set_cons_succ]
    refine Held.done (by kernel_rfl) ?_ _
    rw [HV5.out]
    exact ⟨rfl, V0.heap.size, V3.heap.size, Ac, cc, Ad, cd, rfl, own3_fin V1.heap.size V2.heap.size V2.heap.size V3.heap.size kx h3 h4 (by have := D0.out.size; omega) (by have := D0.out.size; omega) (by have := D0.out.size; omega) (by have := D0.out.size; omega) (by have := D0.out.size; omega) (by have := D0.out.size; omega) (by have := D0.out.size; omega) (by have := D0.out.size; omega) (by have := D0.out.size; omega) oc od nc⟩
    go_simp
    refine hK.out _ _ ⟨KP.out _ (D2.out.alloc D2.out.size _), fun _ => trivial⟩ ?_
    clear hK K
    try simp only [Act.put, List.setIfInBounds_toArray, List.set_cons_zero, List.set_cons_succ]
    obtain ⟨V3, hV⟩ : ∃ V, V = V2.alloc (.cells #[.int .i64 0, .string ⟨#[]⟩, .slice none 0 0, .int .i64 0] 24) := ⟨_, rfl⟩
    rw [← hV]
    have b3 : Hid (Below V2.heap.size V2 V3) := by rw [hV]; exact Lib.hid ((Below.refl _ V2).alloc (Nat.le_refl _) _)
    have H5 : Hid (Whole V3 V2.heap.size 24 #[.int .i64 0, .string ⟨#[]⟩, .slice none 0 0, .int .i64 0]) := by rw [hV]; exact Lib.hid (Whole.new V2 24 _)
    have D3 := Lib.hid (D2.out.trans (b3.out.mono D2.out.size))
    clear hV
    refine Held.step (i := 3) (o := { dst := some 18, op := Op.call { callee := Callee.value (Operand.func 17), args := #[Operand.tmp 17], argTypes := #[24] }, type := 24, pos := "outright.go:24", after := #[{ on := 2, ground := Ground.data }, { on := 1, ground := Ground.chain }], guard := none }) rfl (by kernel_rfl) (fun K hK => ?_)
    go_simp
    go_at_call 17
    refine (CP.out _ (K3.out.1.trans (D3.out.mono K3.out.1.size))).mono ?_
    rintro e V4 ⟨Ad, cd, rfl, nv, bb, nd, ow⟩
    have b4 := Lib.hid bb
    have D4 := Lib.hid (D3.out.trans (b4.out.mono D3.out.size))
    have OD0 := Lib.hid nv
    have OD := Lib.hid nd
    clear nv bb nd ow
    refine hK.out _ _ ⟨KP.out _ D4.out, fun _ => trivial⟩ ?_
    clear hK K
    try simp only [Act.put, List.setIfInBounds_toArray, List.set_cons_zero, List.set_cons_succ]
    have T4 : Below V4.heap.size V4 V4 := Below.refl _ V4
    have T3 : Below V3.heap.size V3 V4 := b4.out.trans (T4.mono b4.out.size)
    have T2 : Below V2.heap.size V2 V4 := b3.out.trans (T3.mono b3.out.size)
    have T1 : Below V1.heap.size V1 V4 := b2.out.trans (T2.mono b2.out.size)
    have T0 : Below V0.heap.size V0 V4 := b1.out.trans (T1.mono b1.out.size)
    have s1 := b1.out.size
    have s2 := b2.out.size
    have s3 := b3.out.size
    have s4 := b4.out.size
    have h3 := H4.out.below T1 H4.out.lt
    have h4 := H5.out.below T3 H5.out.lt
    have l3 := H4.out.lt
    have l4 := H5.out.lt
    have oc := OC.out.below T2
    have od := OD.out.below T4
    have nc := NC.out.below T2
    have kx := (K3.out.next (D0.out.trans (T0.mono D0.out.size)))
    have z30 : V4.cell? ⟨V0.heap.size, 0, none⟩ = some (.int .i64 0) := h3.cell 0
    have y30 : V4.frozen? ⟨V0.heap.size, 0, none⟩ = false := h3.free 0
    have z31 : V4.cell? ⟨V0.heap.size, 1, none⟩ = some (.string ⟨#[]⟩) := h3.cell 1
    have y31 : V4.frozen? ⟨V0.heap.size, 1, none⟩ = false := h3.free 1
    have z32 : V4.cell? ⟨V0.heap.size, 2, none⟩ = some (.slice none 0 0) := h3.cell 2
    have y32 : V4.frozen? ⟨V0.heap.size, 2, none⟩ = false := h3.free 2
    have z33 : V4.cell? ⟨V0.heap.size, 3, none⟩ = some (.int .i64 0) := h3.cell 3
    have y33 : V4.frozen? ⟨V0.heap.size, 3, none⟩ = false := h3.free 3
    refine Held.step (i := 6) (o := { dst := none, op := Op.store 24 (Operand.tmp 3) (Operand.tmp 16), type := 0, pos := "outright.go:24", after := #[{ on := 4, ground := Ground.data }, { on := 1, ground := Ground.data }, { on := 3, ground := Ground.chain }, { on := 0, ground := Ground.phase }, { on := 1, ground := Ground.phase }, { on := 2, ground := Ground.textOnly Departure.lateStores }, { on := 3, ground := Ground.textOnly Departure.lateStoresUnsure }, { on := 4, ground := Ground.phase }, { on := 5, ground := Ground.phase }], guard := none }) rfl (by kernel_rfl) (fun K hK => ?_)
    go_simp
    refine hK.out _ _ ⟨KP.out _ (((((D0.out.trans (T0.mono D0.out.size)).setCell (p := ⟨V0.heap.size, 0, none⟩) (by have := D0.out.size; simp only; omega) _).setCell (p := ⟨V0.heap.size, 1, none⟩) (by have := D0.out.size; simp only; omega) _).setCell (p := ⟨V0.heap.size, 2, none⟩) (by have := D0.out.size; simp only; omega) _).setCell (p := ⟨V0.heap.size, 3, none⟩) (by have := D0.out.size; simp only; omega) _), fun _ => trivial⟩ ?_
    clear hK K
    try simp only [Act.put, List.setIfInBounds_toArray, List.set_cons_zero, List.set_cons_succ]
    obtain ⟨V5, hV5⟩ : ∃ V, V = ((((V4.setCell ⟨V0.heap.size, 0, none⟩ (.int .i64 n.kind)).setCell ⟨V0.heap.size, 1, none⟩ (.string n.text)).setCell ⟨V0.heap.size, 2, none⟩ (.slice Ac n.kids.length cc)).setCell ⟨V0.heap.size, 3, none⟩ (.int .i64 n.place)) := ⟨_, rfl⟩
    rw [← hV5]
    have h45 : Whole V5 V2.heap.size 24 #[.int .i64 0, .string ⟨#[]⟩, .slice none 0 0, .int .i64 0] := by
      rw [hV5]
      exact (((h4.far (p := ⟨V0.heap.size, 0, none⟩) (by simp only; omega) _).far (p := ⟨V0.heap.size, 1, none⟩) (by simp only; omega) _).far (p := ⟨V0.heap.size, 2, none⟩) (by simp only; omega) _).far (p := ⟨V0.heap.size, 3, none⟩) (by simp only; omega) _
    have b5 : Below W3.heap.size W3 V5 := by
      rw [hV5]
      exact (((((D0.out.trans (T0.mono D0.out.size)).setCell (p := ⟨V0.heap.size, 0, none⟩) (by have := D0.out.size; simp only; omega) _).setCell (p := ⟨V0.heap.size, 1, none⟩) (by have := D0.out.size; simp only; omega) _).setCell (p := ⟨V0.heap.size, 2, none⟩) (by have := D0.out.size; simp only; omega) _).setCell (p := ⟨V0.heap.size, 3, none⟩) (by have := D0.out.size; simp only; omega) _)
    have z40 : V5.cell? ⟨V2.heap.size, 0, none⟩ = some (.int .i64 0) := h45.cell 0
    have y40 : V5.frozen? ⟨V2.heap.size, 0, none⟩ = false := h45.free 0
    have z41 : V5.cell? ⟨V2.heap.size, 1, none⟩ = some (.string ⟨#[]⟩) := h45.cell 1
    have y41 : V5.frozen? ⟨V2.heap.size, 1, none⟩ = false := h45.free 1
    have z42 : V5.cell? ⟨V2.heap.size, 2, none⟩ = some (.slice none 0 0) := h45.cell 2
    have y42 : V5.frozen? ⟨V2.heap.size, 2, none⟩ = false := h45.free 2
    have z43 : V5.cell? ⟨V2.heap.size, 3, none⟩ = some (.int .i64 0) := h45.cell 3
    have y43 : V5.frozen? ⟨V2.heap.size, 3, none⟩ = false := h45.free 3
    have HV5 := Lib.hid hV5
    clear hV5
    refine Held.step (i := 7) (o := { dst := none, op := Op.store 24 (Operand.tmp 4) (Operand.tmp 18), type := 0, pos := "outright.go:24", after := #[{ on := 5, ground := Ground.data }, { on := 3, ground := Ground.data }, { on := 6, ground := Ground.chain }, { on := 0, ground := Ground.phase }, { on := 1, ground := Ground.phase }, { on := 2, ground := Ground.phase }, { on := 3, ground := Ground.phase }, { on := 4, ground := Ground.phase }, { on := 5, ground := Ground.phase }, { on := 6, ground := Ground.phase }], guard := none }) rfl (by kernel_rfl) (fun K hK => ?_)
    go_simp
    refine hK.out _ _ ⟨KP.out _ ((((b5.setCell (p := ⟨V2.heap.size, 0, none⟩) (by have := D0.out.size; simp only; omega) _).setCell (p := ⟨V2.heap.size, 1, none⟩) (by have := D0.out.size; simp only; omega) _).setCell (p := ⟨V2.heap.size, 2, none⟩) (by have := D0.out.size; simp only; omega) _).setCell (p := ⟨V2.heap.size, 3, none⟩) (by have := D0.out.size; simp only; omega) _), fun _ => trivial⟩ ?_
    clear hK K
    try simp only [Act.put, List.setIfInBounds_toArray, List.set_cons_zero, List.set_cons_succ]
    refine Held.done (by kernel_rfl) ?_ _
    rw [HV5.out]
    exact ⟨rfl, V0.heap.size, V2.heap.size, Ac, cc, Ad, cd, rfl, own3_fin V1.heap.size V2.heap.size V3.heap.size V4.heap.size kx h3 h4 (by have := D0.out.size; omega) (by have := D0.out.size; omega) (by have := D0.out.size; omega) (by have := D0.out.size; omega) (by have := D0.out.size; omega) (by have := D0.out.size; omega) (by have := D0.out.size; omega) (by have := D0.out.size; omega) (by have := D0.out.size; omega) oc od nc⟩
    go_simp
    refine hK.out _ _ ⟨KP.out _ (D1.out.alloc D1.out.size _), fun _ => trivial⟩ ?_
    clear hK K
    try simp only [Act.put, List.setIfInBounds_toArray, List.set_cons_zero, List.set_cons_succ]
    obtain ⟨V2, hV⟩ : ∃ V, V = V1.alloc (.cells #[.int .i64 0, .string ⟨#[]⟩, .slice none 0 0, .int .i64 0] 24) := ⟨_, rfl⟩
    rw [← hV]
    have b2 : Hid (Below V1.heap.size V1 V2) := by rw [hV]; exact Lib.hid ((Below.refl _ V1).alloc (Nat.le_refl _) _)
    have H5 : Hid (Whole V2 V1.heap.size 24 #[.int .i64 0, .string ⟨#[]⟩, .slice none 0 0, .int .i64 0]) := by rw [hV]; exact Lib.hid (Whole.new V1 24 _)
    have D2 := Lib.hid (D1.out.trans (b2.out.mono D1.out.size))
    clear hV
    refine Held.step (i := 1) (o := { dst := some 16, op := Op.call { callee := Callee.value (Operand.func 17), args := #[Operand.tmp 15], argTypes := #[24] }, type := 24, pos := "outright.go:24", after := #[{ on := 0, ground := Ground.data }], guard := none }) rfl (by kernel_rfl) (fun K hK => ?_)
    go_simp
    go_at_call 17
    refine (CP.out _ (K3.out.1.trans (D2.out.mono K3.out.1.size))).mono ?_
    rintro e V3 ⟨Ac, cc, rfl, nv, bb, nd, ow⟩
    have b3 := Lib.hid bb
    have D3 := Lib.hid (D2.out.trans (b3.out.mono D2.out.size))
    have OC := Lib.hid ow
    have NC := Lib.hid nd
    clear nv bb nd ow
    refine hK.out _ _ ⟨KP.out _ D3.out, fun _ => trivial⟩ ?_
    clear hK K
    try simp only [Act.put, List.setIfInBounds_toArray, List.set_cons_zero, List.set_cons_succ]
    refine Held.step (i := 3) (o := { dst := some 18, op := Op.call { callee := Callee.value (Operand.func 17), args := #[Operand.tmp 17], argTypes := #[24] }, type := 24, pos := "outright.go:24", after := #[{ on := 2, ground := Ground.data }, { on := 1, ground := Ground.chain }], guard := none }) rfl (by kernel_rfl) (fun K hK => ?_)
    go_simp
    go_at_call 17
    refine (CP.out _ (K3.out.1.trans (D3.out.mono K3.out.1.size))).mono ?_
    rintro e V4 ⟨Ad, cd, rfl, nv, bb, nd, ow⟩
    have b4 := Lib.hid bb
    have D4 := Lib.hid (D3.out.trans (b4.out.mono D3.out.size))
    have OD0 := Lib.hid nv
    have OD := Lib.hid nd
    clear nv bb nd ow
    refine hK.out _ _ ⟨KP.out _ D4.out, fun _ => trivial⟩ ?_
    clear hK K
    try simp only [Act.put, List.setIfInBounds_toArray, List.set_cons_zero, List.set_cons_succ]
    have T4 : Below V4.heap.size V4 V4 := Below.refl _ V4
    have T3 : Below V3.heap.size V3 V4 := b4.out.trans (T4.mono b4.out.size)
    have T2 : Below V2.heap.size V2 V4 := b3.out.trans (T3.mono b3.out.size)
    have T1 : Below V1.heap.size V1 V4 := b2.out.trans (T2.mono b2.out.size)
    have T0 : Below V0.heap.size V0 V4 := b1.out.trans (T1.mono b1.out.size)
    have s1 := b1.out.size
    have s2 := b2.out.size
    have s3 := b3.out.size
    have s4 := b4.out.size
    have h3 := H4.out.below T1 H4.out.lt
    have h4 := H5.out.below T2 H5.out.lt
    have l3 := H4.out.lt
    have l4 := H5.out.lt
    have oc := OC.out.below T3
    have od := OD.out.below T4
    have nc := NC.out.below T3
    have kx := (K3.out.next (D0.out.trans (T0.mono D0.out.size)))
    have z30 : V4.cell? ⟨V0.heap.size, 0, none⟩ = some (.int .i64 0) := h3.cell 0
    have y30 : V4.frozen? ⟨V0.heap.size, 0, none⟩ = false := h3.free 0
    have z31 : V4.cell? ⟨V0.heap.size, 1, none⟩ = some (.string ⟨#[]⟩) := h3.cell 1
    have y31 : V4.frozen? ⟨V0.heap.size, 1, none⟩ = false := h3.free 1
    have z32 : V4.cell? ⟨V0.heap.size, 2, none⟩ = some (.slice none 0 0) := h3.cell 2
    have y32 : V4.frozen? ⟨V0.heap.size, 2, none⟩ = false := h3.free 2
    have z33 : V4.cell? ⟨V0.heap.size, 3, none⟩ = some (.int .i64 0) := h3.cell 3
    have y33 : V4.frozen? ⟨V0.heap.size, 3, none⟩ = false := h3.free 3
    refine Held.step (i := 6) (o := { dst := none, op := Op.store 24 (Operand.tmp 3) (Operand.tmp 16), type := 0, pos := "outright.go:24", after := #[{ on := 4, ground := Ground.data }, { on := 1, ground := Ground.data }, { on := 3, ground := Ground.chain }, { on := 0, ground := Ground.phase }, { on := 1, ground := Ground.phase }, { on := 2, ground := Ground.textOnly Departure.lateStores }, { on := 3, ground := Ground.textOnly Departure.lateStoresUnsure }, { on := 4, ground := Ground.phase }, { on := 5, ground := Ground.phase }], guard := none }) rfl (by kernel_rfl) (fun K hK => ?_)
    go_simp
    refine hK.out _ _ ⟨KP.out _ (((((D0.out.trans (T0.mono D0.out.size)).setCell (p := ⟨V0.heap.size, 0, none⟩) (by have := D0.out.size; simp only; omega) _).setCell (p := ⟨V0.heap.size, 1, none⟩) (by have := D0.out.size; simp only; omega) _).setCell (p := ⟨V0.heap.size, 2, none⟩) (by have := D0.out.size; simp only; omega) _).setCell (p := ⟨V0.heap.size, 3, none⟩) (by have := D0.out.size; simp only; omega) _), fun _ => trivial⟩ ?_
    clear hK K
    try simp only [Act.put, List.setIfInBounds_toArray, List.set_cons_zero, List.set_cons_succ]
    obtain ⟨V5, hV5⟩ : ∃ V, V = ((((V4.setCell ⟨V0.heap.size, 0, none⟩ (.int .i64 n.kind)).setCell ⟨V0.heap.size, 1, none⟩ (.string n.text)).setCell ⟨V0.heap.size, 2, none⟩ (.slice Ac n.kids.length cc)).setCell ⟨V0.heap.size, 3, none⟩ (.int .i64 n.place)) := ⟨_, rfl⟩
    rw [← hV5]
    have h45 : Whole V5 V1.heap.size 24 #[.int .i64 0, .string ⟨#[]⟩, .slice none 0 0, .int .i64 0] := by
      rw [hV5]
      exact (((h4.far (p := ⟨V0.heap.size, 0, none⟩) (by simp only; omega) _).far (p := ⟨V0.heap.size, 1, none⟩) (by simp only; omega) _).far (p := ⟨V0.heap.size, 2, none⟩) (by simp only; omega) _).far (p := ⟨V0.heap.size, 3, none⟩) (by simp only; omega) _
    have b5 : Below W3.heap.size W3 V5 := by
      rw [hV5]
      exact (((((D0.out.trans (T0.mono D0.out.size)).setCell (p := ⟨V0.heap.size, 0, none⟩) (by have := D0.out.size; simp only; omega) _).setCell (p := ⟨V0.heap.size, 1, none⟩) (by have := D0.out.size; simp only; omega) _).setCell (p := ⟨V0.heap.size, 2, none⟩) (by have := D0.out.size; simp only; omega) _).setCell (p := ⟨V0.heap.size, 3, none⟩) (by have := D0.out.size; simp only; omega) _)
    have z40 : V5.cell? ⟨V1.heap.size, 0, none⟩ = some (.int .i64 0) := h45.cell 0
    have y40 : V5.frozen? ⟨V1.heap.size, 0, none⟩ = false := h45.free 0
    have z41 : V5.cell? ⟨V1.heap.size, 1, none⟩ = some (.string ⟨#[]⟩) := h45.cell 1
    have y41 : V5.frozen? ⟨V1.heap.size, 1, none⟩ = false := h45.free 1
    have z42 : V5.cell? ⟨V1.heap.size, 2, none⟩ = some (.slice none 0 0) := h45.cell 2
    have y42 : V5.frozen? ⟨V1.heap.size, 2, none⟩ = false := h45.free 2
    have z43 : V5.cell? ⟨V1.heap.size, 3, none⟩ = some (.int .i64 0) := h45.cell 3
    have y43 : V5.frozen? ⟨V1.heap.size, 3, none⟩ = false := h45.free 3
    have HV5 := Lib.hid hV5
    clear hV5
    refine Held.step (i := 7) (o := { dst := none, op := Op.store 24 (Operand.tmp 4) (Operand.tmp 18), type := 0, pos := "outright.go:24", after := #[{ on := 5, ground := Ground.data }, { on := 3, ground := Ground.data }, { on := 6, ground := Ground.chain }, { on := 0, ground := Ground.phase }, { on := 1, ground := Ground.phase }, { on := 2, ground := Ground.phase }, { on := 3, ground := Ground.phase }, { on := 4, ground := Ground.phase }, { on := 5, ground := Ground.phase }, { on := 6, ground := Ground.phase }], guard := none }) rfl (by kernel_rfl) (fun K hK => ?_)
    go_simp
    refine hK.out _ _ ⟨KP.out _ ((((b5.setCell (p := ⟨V1.heap.size, 0, none⟩) (by have := D0.out.size; simp only; omega) _).setCell (p := ⟨V1.heap.size, 1, none⟩) (by have := D0.out.size; simp only; omega) _).setCell (p := ⟨V1.heap.size, 2, none⟩) (by have := D0.out.size; simp only; omega) _).setCell (p := ⟨V1.heap.size, 3, none⟩) (by have := D0.out.size; simp only; omega) _), fun _ => trivial⟩ ?_
    clear hK K
    try simp only [Act.put, List.setIfInBounds_toArray, List.set_cons_zero, List.set_cons_succ]
    refine Held.done (by kernel_rfl) ?_ _
    rw [HV5.out]
    exact ⟨rfl, V0.heap.size, V1.heap.size, Ac, cc, Ad, cd, rfl, own3_fin V2.heap.size V3.heap.size V3.heap.size V4.heap.size kx h3 h4 (by have := D0.out.size; omega) (by have := D0.out.size; omega) (by have := D0.out.size; omega) (by have := D0.out.size; omega) (by have := D0.out.size; omega) (by have := D0.out.size; omega) (by have := D0.out.size; omega) (by have := D0.out.size; omega) (by have := D0.out.size; omega) oc od nc⟩
    go_simp
    refine hK.out _ _ ⟨KP.out _ (D0.out.alloc D0.out.size _), fun _ => trivial⟩ ?_
    clear hK K
    try simp only [Act.put, List.setIfInBounds_toArray, List.set_cons_zero, List.set_cons_succ]
    obtain ⟨V1, hV⟩ : ∃ V, V = V0.alloc (.cells #[.int .i64 0, .string ⟨#[]⟩, .slice none 0 0, .int .i64 0] 24) := ⟨_, rfl⟩
    rw [← hV]
    have b1 : Hid (Below V0.heap.size V0 V1) := by rw [hV]; exact Lib.hid ((Below.refl _ V0).alloc (Nat.le_refl _) _)
    have H5 : Hid (Whole V1 V0.heap.size 24 #[.int .i64 0, .string ⟨#[]⟩, .slice none 0 0, .int .i64 0]) := by rw [hV]; exact Lib.hid (Whole.new V0 24 _)
    have D1 := Lib.hid (D0.out.trans (b1.out.mono D0.out.size))
    clear hV
    refine Held.step2 (i := 1) (j := 4) (o := { dst := some 16, op := Op.call { callee := Callee.value (Operand.func 17), args := #[Operand.tmp 15], argTypes := #[24] }, type := 24, pos := "outright.go:24", after := #[{ on := 0, ground := Ground.data }], guard := none }) (o' := { dst := some 3, op := Op.alloc 24, type := 0, pos := "outright.go:24", after := #[], guard := none }) rfl rfl (by kernel_rfl) (fun K hK => ?_) (fun K hK => ?_)
    go_simp
    go_at_call 17
    refine (CP.out _ (K3.out.1.trans (D1.out.mono K3.out.1.size))).mono ?_
    rintro e V2 ⟨Ac, cc, rfl, nv, bb, nd, ow⟩
    have b2 := Lib.hid bb
    have D2 := Lib.hid (D1.out.trans (b2.out.mono D1.out.size))
    have OC := Lib.hid ow
    have NC := Lib.hid nd
    clear nv bb nd ow
    refine hK.out _ _ ⟨KP.out _ D2.out, fun _ => trivial⟩ ?_
    clear hK K
    try simp only [Act.put, List.setIfInBounds_toArray, List.set_cons_zero, List.set_cons_succ]
    refine Held.step2 (i := 3) (j := 4) (o := { dst := some 18, op := Op.call { callee := Callee.value (Operand.func 17), args := #[Operand.tmp 17], argTypes := #[24] }, type := 24, pos := "outright.go:24", after := #[{ on := 2, ground := Ground.data }, { on := 1, ground := Ground.chain }], guard := none }) (o' := { dst := some 3, op := Op.alloc 24, type := 0, pos := "outright.go:24", after := #[], guard := none }) rfl rfl (by kernel_rfl) (fun K hK => ?_) (fun K hK => ?_)
    go_simp
    go_at_call 17
    refine (CP.out _ (K3.out.1.trans (D2.out.mono K3.out.1.size))).mono ?_
    rintro e V3 ⟨Ad, cd, rfl, nv, bb, nd, ow⟩
    have b3 := Lib.hid bb
    have D3 := Lib.hid (D2.out.trans (b3.out.mono D2.out.size))
    have OD0 := Lib.hid nv
    have OD := Lib.hid nd
    clear nv bb nd ow
    refine hK.out _ _ ⟨KP.out _ D3.out, fun _ => trivial⟩ ?_
    clear hK K
    try simp only [Act.put, List.setIfInBounds_toArray, List.set_cons_zero, List.set_cons_succ]
    refine Held.step (i := 4) (o := { dst := some 3, op := Op.alloc 24, type := 0, pos := "outright.go:24", after := #[], guard := none }) rfl (by kernel_rfl) (fun K hK => ?_)
    go_simp
    refine hK.out _ _ ⟨KP.out _ (D3.out.alloc D3.out.size _), fun _ => trivial⟩ ?_
    clear hK K
    try simp only [Act.put, List.setIfInBounds_toArray, List.set_cons_zero, List.set_cons_succ]
    obtain ⟨V4, hV⟩ : ∃ V, V = V3.alloc (.cells #[.int .i64 0, .string ⟨#[]⟩, .slice none 0 0, .int .i64 0] 24) := ⟨_, rfl⟩
    rw [← hV]
    have b4 : Hid (Below V3.heap.size V3 V4) := by rw [hV]; exact Lib.hid ((Below.refl _ V3).alloc (Nat.le_refl _) _)
    have H4 : Hid (Whole V4 V3.heap.size 24 #[.int .i64 0, .string ⟨#[]⟩, .slice none 0 0, .int .i64 0]) := by rw [hV]; exact Lib.hid (Whole.new V3 24 _)
    have D4 := Lib.hid (D3.out.trans (b4.out.mono D3.out.size))
    clear hV
    have T4 : Below V4.heap.size V4 V4 := Below.refl _ V4
    have T3 : Below V3.heap.size V3 V4 := b4.out.trans (T4.mono b4.out.size)
    have T2 : Below V2.heap.size V2 V4 := b3.out.trans (T3.mono b3.out.size)
    have T1 : Below V1.heap.size V1 V4 := b2.out.trans (T2.mono b2.out.size)
    have T0 : Below V0.heap.size V0 V4 := b1.out.trans (T1.mono b1.out.size)
    have s1 := b1.out.size
    have s2 := b2.out.size
    have s3 := b3.out.size
    have s4 := b4.out.size
    have h3 := H4.out.below T4 H4.out.lt
    have h4 := H5.out.below T1 H5.out.lt
    have l3 := H4.out.lt
    have l4 := H5.out.lt
    have oc := OC.out.below T2
    have od := OD.out.below T3
    have nc := NC.out.below T2
    have kx := (K3.out.next (D0.out.trans (T0.mono D0.out.size)))
    have z30 : V4.cell? ⟨V3.heap.size, 0, none⟩ = some (.int .i64 0) := h3.cell 0
    have y30 : V4.frozen? ⟨V3.heap.size, 0, none⟩ = false := h3.free 0
    have z31 : V4.cell? ⟨V3.heap.size, 1, none⟩ = some (.string ⟨#[]⟩) := h3.cell 1
    have y31 : V4.frozen? ⟨V3.heap.size, 1, none⟩ = false := h3.free 1
    have z32 : V4.cell? ⟨V3.heap.size, 2, none⟩ = some (.slice none 0 0) := h3.cell 2
    have y32 : V4.frozen? ⟨V3.heap.size, 2, none⟩ = false := h3.free 2
    have z33 : V4.cell? ⟨V3.heap.size, 3, none⟩ = some (.int .i64 0) := h3.cell 3
    have y33 : V4.frozen? ⟨V3.heap.size, 3, none⟩ = false := h3.free 3
    refine Held.step (i := 6) (o := { dst := none, op := Op.store 24 (Operand.tmp 3) (Operand.tmp 16), type := 0, pos := "outright.go:24", after := #[{ on := 4, ground := Ground.data }, { on := 1, ground := Ground.data }, { on := 3, ground := Ground.chain }, { on := 0, ground := Ground.phase }, { on := 1, ground := Ground.phase }, { on := 2, ground := Ground.textOnly Departure.lateStores }, { on := 3, ground := Ground.textOnly Departure.lateStoresUnsure }, { on := 4, ground := Ground.phase }, { on := 5, ground := Ground.phase }], guard := none }) rfl (by kernel_rfl) (fun K hK => ?_)
    go_simp
    refine hK.out _ _ ⟨KP.out _ (((((D0.out.trans (T0.mono D0.out.size)).setCell (p := ⟨V3.heap.size, 0, none⟩) (by have := D0.out.size; simp only; omega) _).setCell (p := ⟨V3.heap.size, 1, none⟩) (by have := D0.out.size; simp only; omega) _).setCell (p := ⟨V3.heap.size, 2, none⟩) (by have := D0.out.size; simp only; omega) _).setCell (p := ⟨V3.heap.size, 3, none⟩) (by have := D0.out.size; simp only; omega) _), fun _ => trivial⟩ ?_
    clear hK K
    try simp only [Act.put, List.setIfInBounds_toArray, List.set_cons_zero, List.set_cons_succ]
    obtain ⟨V5, hV5⟩ : ∃ V, V = ((((V4.setCell ⟨V3.heap.size, 0, none⟩ (.int .i64 n.kind)).setCell ⟨V3.heap.size, 1, none⟩ (.string n.text)).setCell ⟨V3.heap.size, 2, none⟩ (.slice Ac n.kids.length cc)).setCell ⟨V3.heap.size, 3, none⟩ (.int .i64 n.place)) := ⟨_, rfl⟩
    rw [← hV5]
    have h45 : Whole V5 V0.heap.size 24 #[.int .i64 0, .string ⟨#[]⟩, .slice none 0 0, .int .i64 0] := by
      rw [hV5]
      exact (((h4.far (p := ⟨V3.heap.size, 0, none⟩) (by simp only; omega) _).far (p := ⟨V3.heap.size, 1, none⟩) (by simp only; omega) _).far (p := ⟨V3.heap.size, 2, none⟩) (by simp only; omega) _).far (p := ⟨V3.heap.size, 3, none⟩) (by simp only; omega) _
    have b5 : Below W3.heap.size W3 V5 := by
      rw [hV5]
      exact (((((D0.out.trans (T0.mono D0.out.size)).setCell (p := ⟨V3.heap.size, 0, none⟩) (by have := D0.out.size; simp only; omega) _).setCell (p := ⟨V3.heap.size, 1, none⟩) (by have := D0.out.size; simp only; omega) _).setCell (p := ⟨V3.heap.size, 2, none⟩) (by have := D0.out.size; simp only; omega) _).setCell (p := ⟨V3.heap.size, 3, none⟩) (by have := D0.out.size; simp only; omega) _)
    have z40 : V5.cell? ⟨V0.heap.size, 0, none⟩ = some (.int .i64 0) := h45.cell 0
    have y40 : V5.frozen? ⟨V0.heap.size, 0, none⟩ = false := h45.free 0
    have z41 : V5.cell? ⟨V0.heap.size, 1, none⟩ = some (.string ⟨#[]⟩) := h45.cell 1
    have y41 : V5.frozen? ⟨V0.heap.size, 1, none⟩ = false := h45.free 1
    have z42 : V5.cell? ⟨V0.heap.size, 2, none⟩ = some (.slice none 0 0) := h45.cell 2
    have y42 : V5.frozen? ⟨V0.heap.size, 2, none⟩ = false := h45.free 2
    have z43 : V5.cell? ⟨V0.heap.size, 3, none⟩ = some (.int .i64 0) := h45.cell 3
    have y43 : V5.frozen? ⟨V0.heap.size, 3, none⟩ = false := h45.free 3
    have HV5 := Lib.hid hV5
    clear hV5
    refine Held.step (i := 7) (o := { dst := none, op := Op.store 24 (Operand.tmp 4) (Operand.tmp 18), type := 0, pos := "outright.go:24", after := #[{ on := 5, ground := Ground.data }, { on := 3, ground := Ground.data }, { on := 6, ground := Ground.chain }, { on := 0, ground := Ground.phase }, { on := 1, ground := Ground.phase }, { on := 2, ground := Ground.phase }, { on := 3, ground := Ground.phase }, { on := 4, ground := Ground.phase }, { on := 5, ground := Ground.phase }, { on := 6, ground := Ground.phase }], guard := none }) rfl (by kernel_rfl) (fun K hK => ?_)
    go_simp
    refine hK.out _ _ ⟨KP.out _ ((((b5.setCell (p := ⟨V0.heap.size, 0, none⟩) (by have := D0.out.size; simp only; omega) _).setCell (p := ⟨V0.heap.size, 1, none⟩) (by have := D0.out.size; simp only; omega) _).setCell (p := ⟨V0.heap.size, 2, none⟩) (by have := D0.out.size; simp only; omega) _).setCell (p := ⟨V0.heap.size, 3, none⟩) (by have := D0.out.size; simp only; omega) _), fun _ => trivial⟩ ?_
    clear hK K
    try simp only [Act.put, List.setIfInBounds_toArray, List.set_cons_zero, List.set_cons_succ]
    refine Held.done (by kernel_rfl) ?_ _
    rw [HV5.out]
    exact ⟨rfl, V3.heap.size, V0.heap.size, Ac, cc, Ad, cd, rfl, own3_fin V1.heap.size V2.heap.size V2.heap.size V3.heap.size kx h3 h4 (by have := D0.out.size; omega) (by have := D0.out.size; omega) (by have := D0.out.size; omega) (by have := D0.out.size; omega) (by have := D0.out.size; omega) (by have := D0.out.size; omega) (by have := D0.out.size; omega) (by have := D0.out.size; omega) (by have := D0.out.size; omega) oc od nc⟩
    go_simp
    refine hK.out _ _ ⟨KP.out _ (D2.out.alloc D2.out.size _), fun _ => trivial⟩ ?_
    clear hK K
    try simp only [Act.put, List.setIfInBounds_toArray, List.set_cons_zero, List.set_cons_succ]
    obtain ⟨V3, hV⟩ : ∃ V, V = V2.alloc (.cells #[.int .i64 0, .string ⟨#[]⟩, .slice none 0 0, .int .i64 0] 24) := ⟨_, rfl⟩
    rw [← hV]
    have b3 : Hid (Below V2.heap.size V2 V3) := by rw [hV]; exact Lib.hid ((Below.refl _ V2).alloc (Nat.le_refl _) _)
    have H4 : Hid (Whole V3 V2.heap.size 24 #[.int .i64 0, .string ⟨#[]⟩, .slice none 0 0, .int .i64 0]) := by rw [hV]; exact Lib.hid (Whole.new V2 24 _)
    have D3 := Lib.hid (D2.out.trans (b3.out.mono D2.out.size))
    clear hV
    refine Held.step (i := 3) (o := { dst := some 18, op := Op.call { callee := Callee.value (Operand.func 17), args := #[Operand.tmp 17], argTypes := #[24] }, type := 24, pos := "outright.go:24", after := #[{ on := 2, ground := Ground.data }, { on := 1, ground := Ground.chain }], guard := none }) rfl (by kernel_rfl) (fun K hK => ?_)
    go_simp
    go_at_call 17
    refine (CP.out _ (K3.out.1.trans (D3.out.mono K3.out.1.size))).mono ?_
    rintro e V4 ⟨Ad, cd, rfl, nv, bb, nd, ow⟩
    have b4 := Lib.hid bb
    have D4 := Lib.hid (D3.out.trans (b4.out.mono D3.out.size))
    have OD0 := Lib.hid nv
    have OD := Lib.hid nd
    clear nv bb nd ow
    refine hK.out _ _ ⟨KP.out _ D4.out, fun _ => trivial⟩ ?_
    clear hK K
    try simp only [Act.put, List.setIfInBounds_toArray, List.set_cons_zero, List.set_cons_succ]
    have T4 : Below V4.heap.size V4 V4 := Below.refl _ V4
    have T3 : Below V3.heap.size V3 V4 := b4.out.trans (T4.mono b4.out.size)
    have T2 : Below V2.heap.size V2 V4 := b3.out.trans (T3.mono b3.out.size)
    have T1 : Below V1.heap.size V1 V4 := b2.out.trans (T2.mono b2.out.size)
    have T0 : Below V0.heap.size V0 V4 := b1.out.trans (T1.mono b1.out.size)
    have s1 := b1.out.size
    have s2 := b2.out.size
    have s3 := b3.out.size
    have s4 := b4.out.size
    have h3 := H4.out.below T3 H4.out.lt
    have h4 := H5.out.below T1 H5.out.lt
    have l3 := H4.out.lt
    have l4 := H5.out.lt
    have oc := OC.out.below T2
    have od := OD.out.below T4
    have nc := NC.out.below T2
    have kx := (K3.out.next (D0.out.trans (T0.mono D0.out.size)))
    have z30 : V4.cell? ⟨V2.heap.size, 0, none⟩ = some (.int .i64 0) := h3.cell 0
    have y30 : V4.frozen? ⟨V2.heap.size, 0, none⟩ = false := h3.free 0
    have z31 : V4.cell? ⟨V2.heap.size, 1, none⟩ = some (.string ⟨#[]⟩) := h3.cell 1
    have y31 : V4.frozen? ⟨V2.heap.size, 1, none⟩ = false := h3.free 1
    have z32 : V4.cell? ⟨V2.heap.size, 2, none⟩ = some (.slice none 0 0) := h3.cell 2
    have y32 : V4.frozen? ⟨V2.heap.size, 2, none⟩ = false := h3.free 2
    have z33 : V4.cell? ⟨V2.heap.size, 3, none⟩ = some (.int .i64 0) := h3.cell 3
    have y33 : V4.frozen? ⟨V2.heap.size, 3, none⟩ = false := h3.free 3
    refine Held.step (i := 6) (o := { dst := none, op := Op.store 24 (Operand.tmp 3) (Operand.tmp 16), type := 0, pos := "outright.go:24", after := #[{ on := 4, ground := Ground.data }, { on := 1, ground := Ground.data }, { on := 3, ground := Ground.chain }, { on := 0, ground := Ground.phase }, { on := 1, ground := Ground.phase }, { on := 2, ground := Ground.textOnly Departure.lateStores }, { on := 3, ground := Ground.textOnly Departure.lateStoresUnsure }, { on := 4, ground := Ground.phase }, { on := 5, ground := Ground.phase }], guard := none }) rfl (by kernel_rfl) (fun K hK => ?_)
    go_simp
    refine hK.out _ _ ⟨KP.out _ (((((D0.out.trans (T0.mono D0.out.size)).setCell (p := ⟨V2.heap.size, 0, none⟩) (by have := D0.out.size; simp only; omega) _).setCell (p := ⟨V2.heap.size, 1, none⟩) (by have := D0.out.size; simp only; omega) _).setCell (p := ⟨V2.heap.size, 2, none⟩) (by have := D0.out.size; simp only; omega) _).setCell (p := ⟨V2.heap.size, 3, none⟩) (by have := D0.out.size; simp only; omega) _), fun _ => trivial⟩ ?_
    clear hK K
    try simp only [Act.put, List.setIfInBounds_toArray, List.set_cons_zero, List.set_cons_succ]
    obtain ⟨V5, hV5⟩ : ∃ V, V = ((((V4.setCell ⟨V2.heap.size, 0, none⟩ (.int .i64 n.kind)).setCell ⟨V2.heap.size, 1, none⟩ (.string n.text)).setCell ⟨V2.heap.size, 2, none⟩ (.slice Ac n.kids.length cc)).setCell ⟨V2.heap.size, 3, none⟩ (.int .i64 n.place)) := ⟨_, rfl⟩
    rw [← hV5]
    have h45 : Whole V5 V0.heap.size 24 #[.int .i64 0, .string ⟨#[]⟩, .slice none 0 0, .int .i64 0] := by
      rw [hV5]
      exact (((h4.far (p := ⟨V2.heap.size, 0, none⟩) (by simp only; omega) _).far (p := ⟨V2.heap.size, 1, none⟩) (by simp only; omega) _).far (p := ⟨V2.heap.size, 2, none⟩) (by simp only; omega) _).far (p := ⟨V2.heap.size, 3, none⟩) (by simp only; omega) _
    have b5 : Below W3.heap.size W3 V5 := by
      rw [hV5]
      exact (((((D0.out.trans (T0.mono D0.out.size)).setCell (p := ⟨V2.heap.size, 0, none⟩) (by have := D0.out.size; simp only; omega) _).setCell (p := ⟨V2.heap.size, 1, none⟩) (by have := D0.out.size; simp only; omega) _).setCell (p := ⟨V2.heap.size, 2, none⟩) (by have := D0.out.size; simp only; omega) _).setCell (p := ⟨V2.heap.size, 3, none⟩) (by have := D0.out.size; simp only; omega) _)
    have z40 : V5.cell? ⟨V0.heap.size, 0, none⟩ = some (.int .i64 0) := h45.cell 0
    have y40 : V5.frozen? ⟨V0.heap.size, 0, none⟩ = false := h45.free 0
    have z41 : V5.cell? ⟨V0.heap.size, 1, none⟩ = some (.string ⟨#[]⟩) := h45.cell 1
    have y41 : V5.frozen? ⟨V0.heap.size, 1, none⟩ = false := h45.free 1
    have z42 : V5.cell? ⟨V0.heap.size, 2, none⟩ = some (.slice none 0 0) := h45.cell 2
    have y42 : V5.frozen? ⟨V0.heap.size, 2, none⟩ = false := h45.free 2
    have z43 : V5.cell? ⟨V0.heap.size, 3, none⟩ = some (.int .i64 0) := h45.cell 3
    have y43 : V5.frozen? ⟨V0.heap.size, 3, none⟩ = false := h45.free 3
    have HV5 := Lib.hid hV5
    clear hV5
    refine Held.step (i := 7) (o := { dst := none, op := Op.store 24 (Operand.tmp 4) (Operand.tmp 18), type := 0, pos := "outright.go:24", after := #[{ on := 5, ground := Ground.data }, { on := 3, ground := Ground.data }, { on := 6, ground := Ground.chain }, { on := 0, ground := Ground.phase }, { on := 1, ground := Ground.phase }, { on := 2, ground := Ground.phase }, { on := 3, ground := Ground.phase }, { on := 4, ground := Ground.phase }, { on := 5, ground := Ground.phase }, { on := 6, ground := Ground.phase }], guard := none }) rfl (by kernel_rfl) (fun K hK => ?_)
    go_simp
    refine hK.out _ _ ⟨KP.out _ ((((b5.setCell (p := ⟨V0.heap.size, 0, none⟩) (by have := D0.out.size; simp only; omega) _).setCell (p := ⟨V0.heap.size, 1, none⟩) (by have := D0.out.size; simp only; omega) _).setCell (p := ⟨V0.heap.size, 2, none⟩) (by have := D0.out.size; simp only; omega) _).setCell (p := ⟨V0.heap.size, 3, none⟩) (by have := D0.out.size; simp only; omega) _), fun _ => trivial⟩ ?_
    clear hK K
    try simp only [Act.put, List.setIfInBounds_toArray, List.set_cons_zero, List.set_cons_succ]
    refine Held.done (by kernel_rfl) ?_ _
    rw [HV5.out]
    exact ⟨rfl, V2.heap.size, V0.heap.size, Ac, cc, Ad, cd, rfl, own3_fin V1.heap.size V2.heap.size V3.heap.size V4.heap.size kx h3 h4 (by have := D0.out.size; omega) (by have := D0.out.size; omega) (by have := D0.out.size; omega) (by have := D0.out.size; omega) (by have := D0.out.size; omega) (by have := D0.out.size; omega) (by have := D0.out.size; omega) (by have := D0.out.size; omega) (by have := D0.out.size; omega) oc od nc⟩
    go_simp
    refine hK.out _ _ ⟨KP.out _ (D1.out.alloc D1.out.size _), fun _ => trivial⟩ ?_
    clear hK K
    try simp only [Act.put, List.setIfInBounds_toArray, List.set_cons_zero, List.set_cons_succ]
    obtain ⟨V2, hV⟩ : ∃ V, V = V1.alloc (.cells #[.int .i64 0, .string ⟨#[]⟩, .slice none 0 0, .int .i64 0] 24) := ⟨_, rfl⟩
    rw [← hV]
    have b2 : Hid (Below V1.heap.size V1 V2) := by rw [hV]; exact Lib.hid ((Below.refl _ V1).alloc (Nat.le_refl _) _)
    have H4 : Hid (Whole V2 V1.heap.size 24 #[.int .i64 0, .string ⟨#[]⟩, .slice none 0 0, .int .i64 0]) := by rw [hV]; exact Lib.hid (Whole.new V1 24 _)
    have D2 := Lib.hid (D1.out.trans (b2.out.mono D1.out.size))
    clear hV
    refine Held.step (i := 1) (o := { dst := some 16, op := Op.call { callee := Callee.value (Operand.func 17), args := #[Operand.tmp 15], argTypes := #[24] }, type := 24, pos := "outright.go:24", after := #[{ on := 0, ground := Ground.data }], guard := none }) rfl (by kernel_rfl) (fun K hK => ?_)
    go_simp
    go_at_call 17
    refine (CP.out _ (K3.out.1.trans (D2.out.mono K3.out.1.size))).mono ?_
    rintro e V3 ⟨Ac, cc, rfl, nv, bb, nd, ow⟩
    have b3 := Lib.hid bb
    have D3 := Lib.hid (D2.out.trans (b3.out.mono D2.out.size))
    have OC := Lib.hid ow
    have NC := Lib.hid nd
    clear nv bb nd ow
    refine hK.out _ _ ⟨KP.out _ D3.out, fun _ => trivial⟩ ?_
    clear hK K
    try simp only [Act.put, List.setIfInBounds_toArray, List.set_cons_zero, List.set_cons_succ]
    refine Held.step (i := 3) (o := { dst := some 18, op := Op.call { callee := Callee.value (Operand.func 17), args := #[Operand.tmp 17], argTypes := #[24] }, type := 24, pos := "outright.go:24", after := #[{ on := 2, ground := Ground.data }, { on := 1, ground := Ground.chain }], guard := none }) rfl (by kernel_rfl) (fun K hK => ?_)
    go_simp
    go_at_call 17
    refine (CP.out _ (K3.out.1.trans (D3.out.mono K3.out.1.size))).mono ?_
    rintro e V4 ⟨Ad, cd, rfl, nv, bb, nd, ow⟩
    have b4 := Lib.hid bb
    have D4 := Lib.hid (D3.out.trans (b4.out.mono D3.out.size))
    have OD0 := Lib.hid nv
    have OD := Lib.hid nd
    clear nv bb nd ow
    refine hK.out _ _ ⟨KP.out _ D4.out, fun _ => trivial⟩ ?_
    clear hK K
    try simp only [Act.put, List.setIfInBounds_toArray, List.set_cons_zero, List.set_cons_succ]
    have T4 : Below V4.heap.size V4 V4 := Below.refl _ V4
    have T3 : Below V3.heap.size V3 V4 := b4.out.trans (T4.mono b4.out.size)
    have T2 : Below V2.heap.size V2 V4 := b3.out.trans (T3.mono b3.out.size)
    have T1 : Below V1.heap.size V1 V4 := b2.out.trans (T2.mono b2.out.size)
    have T0 : Below V0.heap.size V0 V4 := b1.out.trans (T1.mono b1.out.size)
    have s1 := b1.out.size
    have s2 := b2.out.size
    have s3 := b3.out.size
    have s4 := b4.out.size
    have h3 := H4.out.below T2 H4.out.lt
    have h4 := H5.out.below T1 H5.out.lt
    have l3 := H4.out.lt
    have l4 := H5.out.lt
    have oc := OC.out.below T3
    have od := OD.out.below T4
    have nc := NC.out.below T3
    have kx := (K3.out.next (D0.out.trans (T0.mono D0.out.size)))
    have z30 : V4.cell? ⟨V1.heap.size, 0, none⟩ = some (.int .i64 0) := h3.cell 0
    have y30 : V4.frozen? ⟨V1.heap.size, 0, none⟩ = false := h3.free 0
    have z31 : V4.cell? ⟨V1.heap.size, 1, none⟩ = some (.string ⟨#[]⟩) := h3.cell 1
    have y31 : V4.frozen? ⟨V1.heap.size, 1, none⟩ = false := h3.free 1
    have z32 : V4.cell? ⟨V1.heap.size, 2, none⟩ = some (.slice none 0 0) := h3.cell 2
    have y32 : V4.frozen? ⟨V1.heap.size, 2, none⟩ = false := h3.free 2
    have z33 : V4.cell? ⟨V1.heap.size, 3, none⟩ = some (.int .i64 0) := h3.cell 3
    have y33 : V4.frozen? ⟨V1.heap.size, 3, none⟩ = false := h3.free 3
    refine Held.step (i := 6) (o := { dst := none, op := Op.store 24 (Operand.tmp 3) (Operand.tmp 16), type := 0, pos := "outright.go:24", after := #[{ on := 4, ground := Ground.data }, { on := 1, ground := Ground.data }, { on := 3, ground := Ground.chain }, { on := 0, ground := Ground.phase }, { on := 1, ground := Ground.phase }, { on := 2, ground := Ground.textOnly Departure.lateStores }, { on := 3, ground := Ground.textOnly Departure.lateStoresUnsure }, { on := 4, ground := Ground.phase }, { on := 5, ground := Ground.phase }], guard := none }) rfl (by kernel_rfl) (fun K hK => ?_)
    go_simp
    refine hK.out _ _ ⟨KP.out _ (((((D0.out.trans (T0.mono D0.out.size)).setCell (p := ⟨V1.heap.size, 0, none⟩) (by have := D0.out.size; simp only; omega) _).setCell (p := ⟨V1.heap.size, 1, none⟩) (by have := D0.out.size; simp only; omega) _).setCell (p := ⟨V1.heap.size, 2, none⟩) (by have := D0.out.size; simp only; omega) _).setCell (p := ⟨V1.heap.size, 3, none⟩) (by have := D0.out.size; simp only; omega) _), fun _ => trivial⟩ ?_
    clear hK K
    try simp only [Act.put, List.setIfInBounds_toArray, List.set_cons_zero, List.set_cons_succ]
    obtain ⟨V5, hV5⟩ : ∃ V, V = ((((V4.setCell ⟨V1.heap.size, 0, none⟩ (.int .i64 n.kind)).setCell ⟨V1.heap.size, 1, none⟩ (.string n.text)).setCell ⟨V1.heap.size, 2, none⟩ (.slice Ac n.kids.length cc)).setCell ⟨V1.heap.size, 3, none⟩ (.int .i64 n.place)) := ⟨_, rfl⟩
    rw [← hV5]
    have h45 : Whole V5 V0.heap.size 24 #[.int .i64 0, .string ⟨#[]⟩, .slice none 0 0, .int .i64 0] := by
      rw [hV5]
      exact (((h4.far (p := ⟨V1.heap.size, 0, none⟩) (by simp only; omega) _).far (p := ⟨V1.heap.size, 1, none⟩) (by simp only; omega) _).far (p := ⟨V1.heap.size, 2, none⟩) (by simp only; omega) _).far (p := ⟨V1.heap.size, 3, none⟩) (by simp only; omega) _
    have b5 : Below W3.heap.size W3 V5 := by
      rw [hV5]
      exact (((((D0.out.trans (T0.mono D0.out.size)).setCell (p := ⟨V1.heap.size, 0, none⟩) (by have := D0.out.size; simp only; omega) _).setCell (p := ⟨V1.heap.size, 1, none⟩) (by have := D0.out.size; simp only; omega) _).setCell (p := ⟨V1.heap.size, 2, none⟩) (by have := D0.out.size; simp only; omega) _).setCell (p := ⟨V1.heap.size, 3, none⟩) (by have := D0.out.size; simp only; omega) _)
    have z40 : V5.cell? ⟨V0.heap.size, 0, none⟩ = some (.int .i64 0) := h45.cell 0
    have y40 : V5.frozen? ⟨V0.heap.size, 0, none⟩ = false := h45.free 0
    have z41 : V5.cell? ⟨V0.heap.size, 1, none⟩ = some (.string ⟨#[]⟩) := h45.cell 1
    have y41 : V5.frozen? ⟨V0.heap.size, 1, none⟩ = false := h45.free 1
    have z42 : V5.cell? ⟨V0.heap.size, 2, none⟩ = some (.slice none 0 0) := h45.cell 2
    have y42 : V5.frozen? ⟨V0.heap.size, 2, none⟩ = false := h45.free 2
    have z43 : V5.cell? ⟨V0.heap.size, 3, none⟩ = some (.int .i64 0) := h45.cell 3
    have y43 : V5.frozen? ⟨V0.heap.size, 3, none⟩ = false := h45.free 3
    have HV5 := Lib.hid hV5
    clear hV5
    refine Held.step (i := 7) (o := { dst := none, op := Op.store 24 (Operand.tmp 4) (Operand.tmp 18), type := 0, pos := "outright.go:24", after := #[{ on := 5, ground := Ground.data }, { on := 3, ground := Ground.data }, { on := 6, ground := Ground.chain }, { on := 0, ground := Ground.phase }, { on := 1, ground := Ground.phase }, { on := 2, ground := Ground.phase }, { on := 3, ground := Ground.phase }, { on := 4, ground := Ground.phase }, { on := 5, ground := Ground.phase }, { on := 6, ground := Ground.phase }], guard := none }) rfl (by kernel_rfl) (fun K hK => ?_)
    go_simp
    refine hK.out _ _ ⟨KP.out _ ((((b5.setCell (p := ⟨V0.heap.size, 0, none⟩) (by have := D0.out.size; simp only; omega) _).setCell (p := ⟨V0.heap.size, 1, none⟩) (by have := D0.out.size; simp only; omega) _).setCell (p := ⟨V0.heap.size, 2, none⟩) (by have := D0.out.size; simp only; omega) _).setCell (p := ⟨V0.heap.size, 3, none⟩) (by have := D0.out.size; simp only; omega) _), fun _ => trivial⟩ ?_
    clear hK K
    try simp only [Act.put, List.setIfInBounds_toArray, List.set_cons_zero, List.set_cons_succ]
    refine Held.done (by kernel_rfl) ?_ _
    rw [HV5.out]
    exact ⟨rfl, V1.heap.size, V0.heap.size, Ac, cc, Ad, cd, rfl, own3_fin V2.heap.size V3.heap.size V3.heap.size V4.heap.size kx h3 h4 (by have := D0.out.size; omega) (by have := D0.out.size; omega) (by have := D0.out.size; omega) (by have := D0.out.size; omega) (by have := D0.out.size; omega) (by have := D0.out.size; omega) (by have := D0.out.size; omega) (by have := D0.out.size; omega) (by have := D0.out.size; omega) oc od nc⟩
  · have hdd : decide ((100 : Int) < (depthN 101 n : Int)) = true := decide_eq_true (by omega)
    go_wp2_with fail
    refine (DP.out _ K2.out.1).mono ?_
    rintro e W3 ⟨rfl, b3⟩
    have K3 := Lib.hid (K2.out.next b3)
    clear b3 K2 x0 x1 x2 x3 x4 DP
    obtain ⟨x0, x1, x2, x3, x4⟩ := K3.out.cells
    go_wp2_with fail
    go_ret
    exact ⟨rfl, K3.out.1⟩

end Go.Proofs.Ytkmhijkpbmcgbaa
