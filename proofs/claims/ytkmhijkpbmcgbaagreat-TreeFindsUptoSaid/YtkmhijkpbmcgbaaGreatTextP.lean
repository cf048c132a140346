/-
  The questions on texts: signs between two, what a range binds, numbers.
-/
import Derived.Test.YtkmhijkpbmcgbaaGreatTextQ
import Derived.Test.YtkmhijkpbmcgbaaGreatShelf
namespace Go.Proofs.YtkmhijkpbmcgbaaGreat
set_option linter.all false
open Go.RowKit Go.Shelf

/-- The library's variable holds some number. -/
def Mx (w : World) : Prop := ∃ m, w.cell? ⟨0, 0, none⟩ = some (.int .i64 m)
theorem Mx.below {w w' : World} (h : Mx w) (hb : Below w.heap.size w w') : Mx w' := by
  obtain ⟨m, hm⟩ := h
  exact ⟨m, (hb.cell (cell_lt hm)).trans hm⟩

def signsT : ByteArray := ⟨#[32, 43, 32, 45, 32, 42, 32, 47, 32, 37, 32, 61, 61, 32, 33, 61, 32, 60, 32, 60, 61, 32, 62, 32, 62, 61, 32, 38, 38, 32, 124, 124, 32]⟩
def binB (s : ByteArray) : Bool := !(s.toList == []) && (!decide (0 ≤ Lib.indexByte s.data.toList 32) && Lib.contains signsT.data.toList (((⟨#[32]⟩ : ByteArray) ++ s ++ ⟨#[32]⟩ : ByteArray)).data.toList)

set_option maxRecDepth 100000 in
set_option maxHeartbeats 1000000 in
theorem binary_any (s : ByteArray) (w : World) (hx : Mx w) (hs : s.size ≤ 1048576) : Calls Tryz.prog 72 #[.string s] w fun e w' => e = .returned (.bool (binB s)) ∧ w' = w := by
  obtain ⟨m, hm⟩ := hx
  have C1 := Lib.hid (Tryz.strings_Contains_one s 32 w)
  have C2 := Lib.hid (Tryz.strings_Contains signsT ((⟨#[32]⟩ : ByteArray) ++ s ++ ⟨#[32]⟩ : ByteArray) m w (by decide) hm)
  unfold binB
  generalize decide (0 ≤ Lib.indexByte s.data.toList 32) = r1 at C1 ⊢
  generalize Lib.contains signsT.data.toList ((⟨#[32]⟩ : ByteArray) ++ s ++ ⟨#[32]⟩ : ByteArray).data.toList = r2 at C2 ⊢
  unfold signsT at C2
  cases h1 : (s.toList == []) with
  | true =>
    go_enter Tryz.func72, Tryz.ntmps72
    go_wp2_with fail
    go_ret
    exact ⟨rfl, rfl⟩
  | false =>
    go_enter Tryz.func72, Tryz.ntmps72
    go_wp2_with fail
    refine C1.out.mono ?_
    rintro e w2 ⟨rfl, rfl⟩
    cases r1 with
    | true =>
      go_wp2_with fail
      go_ret
      exact ⟨rfl, rfl⟩
    | false =>
      go_wp2_with fail
      refine C2.out.mono ?_
      rintro e w2 ⟨rfl, rfl⟩
      go_wp2_with fail
      go_ret
      exact ⟨rfl, rfl⟩

def rangedB (s : ByteArray) : Bool := s.toList == [] || ((Lib.cut s.data.toList [44]).2.2 && nameB ⟨(Lib.cut s.data.toList [44]).1.toArray⟩ && boundB ⟨(Lib.cut s.data.toList [44]).2.1.toArray⟩) || (!(Lib.cut s.data.toList [44]).2.2 && boundB ⟨(Lib.cut s.data.toList [44]).1.toArray⟩)

set_option maxRecDepth 100000 in
set_option maxHeartbeats 1000000 in
theorem ranged_any (s : ByteArray) (w : World) (hx : Mx w) (hs : s.size ≤ 1048576) : Calls Tryz.prog 80 #[.string s] w fun e w' => e = .returned (.bool (rangedB s)) ∧ Below w.heap.size w w' := by
  obtain ⟨m, hm⟩ := hx
  have C1 := Lib.hid (Tryz.strings_Cut s ⟨#[44]⟩ m w (by omega) hm)
  have e1 : (⟨#[44]⟩ : ByteArray).data.toList = [44] := rfl
  rw [e1] at C1
  unfold rangedB
  generalize (Lib.cut s.data.toList [44]).2.2 = two at C1 ⊢
  generalize (⟨(Lib.cut s.data.toList [44]).1.toArray⟩ : ByteArray) = key at C1 ⊢
  generalize (⟨(Lib.cut s.data.toList [44]).2.1.toArray⟩ : ByteArray) = val at C1 ⊢
  have NK := Lib.hid fun w => name_any key w
  have BK := Lib.hid fun w => bound_any key w
  have BV := Lib.hid fun w => bound_any val w
  clear e1 hm hs
  cases h1 : (s.toList == []) with
  | true =>
    go_enter Tryz.func80, Tryz.ntmps80
    go_wp2_with fail
    refine C1.out.mono ?_
    rintro e w2 ⟨rfl, k, rfl⟩
    go_wp2_with fail
    go_ret
    exact ⟨rfl, below_drewN (Below.refl _ _) _⟩
  | false =>
    go_enter Tryz.func80, Tryz.ntmps80
    go_wp2_with fail
    refine C1.out.mono ?_
    rintro e w2 ⟨rfl, k, hk⟩
    have b2 : Below w.heap.size w w2 := by rw [hk]; exact below_drewN (Below.refl _ _) _
    have HB := Lib.hid b2
    clear hk b2
    cases two with
    | true =>
      cases hn : nameB key with
      | true =>
        rw [hn] at NK
        go_wp2_with fail
        refine (NK.out _).mono ?_
        rintro e w3 ⟨rfl, b3⟩
        have HB3 := Lib.hid (HB.out.trans (b3.mono HB.out.size))
        clear b3
        cases hb : boundB val <;> rw [hb] at BV <;>
        (go_wp2_with fail
         refine (BV.out _).mono ?_
         rintro e w4 ⟨rfl, b4⟩
         have HB4 := Lib.hid (HB3.out.trans (b4.mono HB3.out.size))
         clear b4
         go_wp2_with fail
         go_ret
         exact ⟨by rw [hn, hb]; rfl, HB4.out⟩)
      | false =>
        rw [hn] at NK
        go_wp2_with fail
        refine (NK.out _).mono ?_
        rintro e w3 ⟨rfl, b3⟩
        have HB3 := Lib.hid (HB.out.trans (b3.mono HB.out.size))
        clear b3
        go_wp2_with fail
        go_ret
        exact ⟨by rw [hn]; rfl, HB3.out⟩
    | false =>
      cases hb : boundB key <;> rw [hb] at BK <;>
      (go_wp2_with fail
       refine (BK.out _).mono ?_
       rintro e w4 ⟨rfl, b4⟩
       have HB4 := Lib.hid (HB.out.trans (b4.mono HB.out.size))
       clear b4
       go_wp2_with fail
       go_ret
       exact ⟨by rw [hb]; rfl, HB4.out⟩)

def plainB (l : List UInt8) : Bool := l.all figB && (l == [48] || (!l.isEmpty && (decide (l.length ≤ 200) && !(l.headD 0 == 48))))
def PlainRel (W : World) (s : ByteArray) (wr : World) : Prop := ∃ pos : Nat, pos ≤ s.size ∧ wr.heap[W.heap.size]? = some (.stringIter s pos) ∧ Below W.heap.size W wr ∧ s.data.toList.all figB = (s.data.toList.drop pos).all figB
theorem head48 (s : ByteArray) (h : 0 < s.size) : (!(s.data.toList.headD 0 == 48)) = (((s[0]'h).toNat : Int) != 48) := by
  have hl : 0 < s.data.toList.length := by simpa using h
  have e : s.data.toList.headD 0 = s[0] := by
    have e1 : s.data.toList[0] = s[0] := by simp; rfl
    rw [← e1]
    have hh : ∀ (l : List UInt8) (h : 0 < l.length), l.headD 0 = l[0] := fun l h => by
      cases l with
      | nil => simp at h
      | cons b l => rfl
    exact hh _ hl
  rw [e]
  generalize s[0] = b
  by_cases hb : b = 48
  · subst hb
    rfl
  · have h1 : (b == 48) = false := by simpa using hb
    have h2 : ((b.toNat : Int) != 48) = true := by
      simp only [bne_iff_ne, ne_eq]
      intro e
      exact hb (UInt8.toNat_inj.1 (by
        have : (48 : UInt8).toNat = 48 := rfl
        omega))
    rw [h1, h2]
    rfl
theorem fig_step {s : ByteArray} {pos : Nat} (h : pos < s.size) : (s.data.toList.drop pos).all figB = (figB s[pos] && (s.data.toList.drop (pos + 1)).all figB) := by
  have hl : pos < s.data.toList.length := by simpa using h
  rw [List.drop_eq_getElem_cons hl]
  have : s.data.toList[pos] = s[pos] := by simp; rfl
  rw [this, List.all_cons]

set_option maxRecDepth 100000 in
set_option maxHeartbeats 1000000 in
theorem plain_any (s : ByteArray) (W : World) : Calls Tryz.prog 69 #[.string s] W fun e w' => e = .returned (.bool (plainB s.data.toList)) ∧ Below W.heap.size W w' := by
  go_enter Tryz.func69, Tryz.ntmps69
  go_wp2_with fail
  go_loopw [] (fun wr => PlainRel W s wr) (fun wr => s.size - wr.iterPos W.heap.size)
  case atStart => exact ⟨0, by omega, World.iter_heap W _ 0, (Below.refl _ W).alloc (Nat.le_refl _) _, rfl⟩
  case round =>
    obtain ⟨pos, hpos, hit, hbel, htok⟩ := hrel
    have hsz : W.heap.size < wr.heap.size := (Array.getElem?_eq_some_iff.1 hit).1
    have hip : wr.iterPos W.heap.size = pos := by simp [World.iterPos, hit]
    rcases Nat.lt_or_ge pos s.size with hp | hp
    · obtain ⟨_, d2, d3⟩ := dec_fact s pos hp
      obtain ⟨c, hc⟩ : ∃ c, c = (Utf8.decode s pos).1 := ⟨_, rfl⟩
      obtain ⟨m, hm⟩ : ∃ m, m = (Utf8.decode s pos).2 := ⟨_, rfl⟩
      have hnx : ∀ ty, (Instr.next (.pointer (some ⟨W.heap.size, 0, none⟩)) true ty).run Tryz.prog wr = .ok (.tuple #[.bool true, .int .i64 pos, .int .i32 c]) (wr.iterAt W.heap.size s (pos + m)) := fun ty => by
        rw [hc, hm]
        exact Lib.run_next_any_at wr W.heap.size s pos ty hit hp
      rw [← hc] at d2 d3
      rw [← hm] at d3
      have hst := fig_step hp
      rw [← d2] at hst
      have hit1 := Lib.iterAt_heap wr W.heap.size s pos (pos + m) hit
      have hb1 := Lib.below_iterAt hbel (Nat.le_refl W.heap.size) s (pos + m)
      have hip1 : (wr.iterAt W.heap.size s (pos + m)).iterPos W.heap.size = pos + m := by simp [World.iterPos, hit1]
      obtain ⟨W1, hW1⟩ : ∃ W1, W1 = wr.iterAt W.heap.size s (pos + m) := ⟨_, rfl⟩
      rw [← hW1] at hnx hit1 hb1 hip1
      have HB1 := Lib.hid hb1
      have HIT := Lib.hid hit1
      have HIP := Lib.hid hip1
      have HIQ := Lib.hid hip
      have HTK := Lib.hid htok
      have HST := Lib.hid hst
      have D3 := Lib.hid d3
      have HP := Lib.hid hp
      clear hit hbel hW1 hb1 hit1 hip1 hip htok hst d2 d3 hc hm
      by_cases hf : figR c = true
      · have hm1 : m = 1 := D3.out (.inr hf)
        have htl : s.data.toList.all figB = (s.data.toList.drop (pos + m)).all figB := by
          rw [HTK.out, HST.out, hf, hm1]
          simp
        have HTL := Lib.hid htl
        unfold figR at hf
        simp only [Bool.and_eq_true, decide_eq_true_eq] at hf
        have f1 : decide ((c : Int) < 48) = false := decide_eq_false (by omega)
        have f2 : decide ((57 : Int) < c) = false := decide_eq_false (by omega)
        have f3 : decide (c < 48) = false := decide_eq_false (by omega)
        have f4 : decide (57 < c) = false := decide_eq_false (by omega)
        clear hf htl
        go_wp2_with fail
        go_roundw
        case rel =>
          have hd : PlainRel W s W1 := ⟨pos + m, by have := HP.out; omega, HIT.out, HB1.out, HTL.out⟩
          first | exact hd | ((repeat apply Exists.intro); exact ⟨hd, rfl⟩)
        case measure => rw [HIP.out, HIQ.out]; have := HP.out; omega
      · have hf' : figR c = false := by simpa using hf
        have hres : plainB s.data.toList = false := by
          unfold plainB
          rw [HTK.out, HST.out, hf']
          simp
        have HRES := Lib.hid hres
        unfold figR at hf
        simp only [Bool.and_eq_true, decide_eq_true_eq] at hf
        clear hf' hres
        by_cases h48 : (c : Int) < 48
        · have f1 : decide ((c : Int) < 48) = true := decide_eq_true h48
          have f3 : decide (c < 48) = true := decide_eq_true (by omega)
          go_wp2_with fail
          go_ret
          exact ⟨by rw [HRES.out]; rfl, HB1.out⟩
        · have f1 : decide ((c : Int) < 48) = false := decide_eq_false h48
          have f3 : decide (c < 48) = false := decide_eq_false (by omega)
          have f2 : decide ((57 : Int) < c) = true := decide_eq_true (by omega)
          have f4 : decide (57 < c) = true := decide_eq_true (by omega)
          go_wp2_with fail
          go_ret
          exact ⟨by rw [HRES.out]; rfl, HB1.out⟩
    · obtain rfl : pos = s.size := by omega
      have hnx : ∀ ty, (Instr.next (.pointer (some ⟨W.heap.size, 0, none⟩)) true ty).run Tryz.prog wr = .ok (.tuple #[.bool false]) wr := fun ty =>
        Lib.run_next_end_at wr W.heap.size s s.size ty hit (by omega)
      have HB1 := Lib.hid hbel
      have hd : s.data.toList.drop s.size = [] := List.drop_of_length_le (by simp)
      rw [hd] at htok
      have hres : plainB s.data.toList = (s.toList == [48] || (!(s.toList == []) && (decide (s.size ≤ 200) && !(s.data.toList.headD 0 == 48)))) := by
        unfold plainB
        rw [htok, ByteArray.toList_eq]
        have e1 : s.data.toList.isEmpty = (s.data.toList == []) := by cases s.data.toList <;> rfl
        have e2 : s.data.toList.length = s.size := by simp
        rw [e1, e2]
        rfl
      have HRES := Lib.hid hres
      clear hit hbel hip htok hd hres hsz hpos hp
      cases h1 : (s.toList == [48]) with
      | true =>
        rw [h1] at HRES
        go_wp2_with fail
        go_ret
        exact ⟨by rw [HRES.out]; rfl, HB1.out⟩
      | false =>
        cases h2 : (s.toList == []) with
        | true =>
          rw [h1, h2] at HRES
          go_wp2_with fail
          go_ret
          exact ⟨by rw [HRES.out]; rfl, HB1.out⟩
        | false =>
          have hne : 0 < s.size := by
            rcases Nat.eq_zero_or_pos s.size with h | h
            · exfalso
              have : s.toList = [] := by rw [ByteArray.toList_eq]; exact List.length_eq_zero_iff.1 (by simpa using h)
              rw [this] at h2
              simp at h2
            · exact h
          rw [h1, h2] at HRES
          by_cases h3 : s.size ≤ 200
          · have g1 : decide (s.size ≤ 200) = true := decide_eq_true h3
            have g2 : decide ((s.size : Int) ≤ 200) = true := decide_eq_true (by omega)
            go_wp2_with fail
            go_ret
            exact ⟨by rw [HRES.out, g1, head48 s hne]; rfl, HB1.out⟩
          · have g1 : decide (s.size ≤ 200) = false := decide_eq_false h3
            have g2 : decide ((s.size : Int) ≤ 200) = false := decide_eq_false (by omega)
            rw [g1] at HRES
            go_wp2_with fail
            go_ret
            exact ⟨by rw [HRES.out]; rfl, HB1.out⟩

end Go.Proofs.YtkmhijkpbmcgbaaGreat
