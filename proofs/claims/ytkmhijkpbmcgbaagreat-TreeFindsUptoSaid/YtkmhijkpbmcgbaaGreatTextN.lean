/-
  The questions on texts: names.
-/
import Derived.Test.YtkmhijkpbmcgbaaGreatText
namespace Go.Proofs.YtkmhijkpbmcgbaaGreat
set_option linter.all false
open Go.RowKit Go.Shelf

/-- A letter; a figure. -/
def letR (c : Int) : Bool := decide (c = 95) || (decide (97 ≤ c) && decide (c ≤ 122)) || (decide (65 ≤ c) && decide (c ≤ 90))
def figR (c : Int) : Bool := decide (48 ≤ c) && decide (c ≤ 57)
theorem letter_any (c : Int) (w : World) : Calls Tryz.prog 89 #[.int .i32 c] w fun e w' => e = .returned (.bool (letR c)) ∧ w' = w := by
  rcases Decidable.em (c = 95) with rfl | h95
  · go_enter Tryz.func89, Tryz.ntmps89
    go_wp2_with fail
    go_ret
    exact ⟨rfl, rfl⟩
  · have p1 : decide (c = 95) = false := decide_eq_false h95
    have p0 : (c == 95) = false := by simpa using h95
    unfold letR
    rw [p1]
    cases p2 : decide (97 ≤ c) <;> cases p3 : decide (c ≤ 122) <;> cases p4 : decide (65 ≤ c) <;> cases p5 : decide (c ≤ 90) <;>
      (go_enter Tryz.func89, Tryz.ntmps89
       go_wp2_with fail
       all_goals (first | contradiction | (go_ret; exact ⟨rfl, rfl⟩)))
theorem figure_any (c : Int) (w : World) : Calls Tryz.prog 90 #[.int .i32 c] w fun e w' => e = .returned (.bool (figR c)) ∧ w' = w := by
  unfold figR
  cases p1 : decide (48 ≤ c) <;> cases p2 : decide (c ≤ 57) <;>
    (go_enter Tryz.func90, Tryz.ntmps90
     go_wp2_with fail
     go_ret
     exact ⟨rfl, rfl⟩)

def lettB (b : UInt8) : Bool := letR b.toNat
def figB (b : UInt8) : Bool := figR b.toNat
/-- Are all letters, or figures behind the first? -/
def tokG : Bool → List UInt8 → Bool
  | _, [] => true
  | first, b :: l => (lettB b || (!first && figB b)) && tokG false l
/-- token.Name. -/
def tokB (l : List UInt8) : Bool := tokG true l && (!l.isEmpty && wordK l == 0)

theorem dec_fact (s : ByteArray) (pos : Nat) (h : pos < s.size) : letR (Utf8.decode s pos).1 = lettB s[pos] ∧ figR (Utf8.decode s pos).1 = figB s[pos] ∧ ((letR (Utf8.decode s pos).1 = true ∨ figR (Utf8.decode s pos).1 = true) → (Utf8.decode s pos).2 = 1) := by
  rcases Nat.lt_or_ge (s[pos]).toNat 128 with ha | ha
  · rw [decode_ascii s pos h ha]
    exact ⟨rfl, rfl, fun _ => rfl⟩
  · obtain ⟨h1, _⟩ := decode_high s pos h ha
    have big : ∀ c : Int, 128 ≤ c → letR c = false ∧ figR c = false := fun c hc => by
      unfold letR figR
      have e1 : decide (c = 95) = false := decide_eq_false (by omega)
      have e2 : decide (c ≤ 122) = false := decide_eq_false (by omega)
      have e3 : decide (c ≤ 90) = false := decide_eq_false (by omega)
      have e4 : decide (c ≤ 57) = false := decide_eq_false (by omega)
      rw [e1, e2, e3, e4]
      simp
    obtain ⟨e1, e2⟩ := big (Utf8.decode s pos).1 (by omega)
    obtain ⟨e3, e4⟩ := big (s[pos]).toNat (by omega)
    refine ⟨e1.trans e3.symm, e2.trans e4.symm, fun h => ?_⟩
    rw [e1, e2] at h
    simp at h

def TokRel (W : World) (s : ByteArray) (wr : World) : Prop := ∃ pos : Nat, pos ≤ s.size ∧ wr.heap[W.heap.size]? = some (.stringIter s pos) ∧ Below W.heap.size W wr ∧ tokG true s.data.toList = tokG (pos == 0) (s.data.toList.drop pos)
theorem tok_step {s : ByteArray} {pos : Nat} (h : pos < s.size) (first : Bool) : tokG first (s.data.toList.drop pos) = ((lettB s[pos] || (!first && figB s[pos])) && tokG false (s.data.toList.drop (pos + 1))) := by
  have hl : pos < s.data.toList.length := by simpa using h
  rw [List.drop_eq_getElem_cons hl]
  have : s.data.toList[pos] = s[pos] := by simp; rfl
  rw [this]
  rfl

set_option maxRecDepth 100000 in
set_option maxHeartbeats 1000000 in
theorem tok_any (s : ByteArray) (W : World) : Calls Tryz.prog 56 #[.string s] W fun e w' => e = .returned (.bool (tokB s.data.toList)) ∧ Below W.heap.size W w' := by
  go_enter Tryz.func56, Tryz.ntmps56
  go_wp2_with fail
  go_loopw [] (fun wr => TokRel W s wr) (fun wr => s.size - wr.iterPos W.heap.size)
  case atStart => exact ⟨0, by omega, World.iter_heap W _ 0, (Below.refl _ W).alloc (Nat.le_refl _) _, rfl⟩
  case round =>
    obtain ⟨pos, hpos, hit, hbel, htok⟩ := hrel
    have hsz : W.heap.size < wr.heap.size := (Array.getElem?_eq_some_iff.1 hit).1
    have hip : wr.iterPos W.heap.size = pos := by simp [World.iterPos, hit]
    rcases Nat.lt_or_ge pos s.size with hp | hp
    · obtain ⟨d1, d2, d3⟩ := dec_fact s pos hp
      obtain ⟨c, hc⟩ : ∃ c, c = (Utf8.decode s pos).1 := ⟨_, rfl⟩
      obtain ⟨m, hm⟩ : ∃ m, m = (Utf8.decode s pos).2 := ⟨_, rfl⟩
      have hnx : ∀ ty, (Instr.next (.pointer (some ⟨W.heap.size, 0, none⟩)) true ty).run Tryz.prog wr = .ok (.tuple #[.bool true, .int .i64 pos, .int .i32 c]) (wr.iterAt W.heap.size s (pos + m)) := fun ty => by
        rw [hc, hm]
        exact Lib.run_next_any_at wr W.heap.size s pos ty hit hp
      rw [← hc] at d1 d2 d3
      rw [← hm] at d3
      have hst := tok_step hp (pos == 0)
      rw [← d1, ← d2] at hst
      have hit1 := Lib.iterAt_heap wr W.heap.size s pos (pos + m) hit
      have hb1 := Lib.below_iterAt hbel (Nat.le_refl W.heap.size) s (pos + m)
      have hip1 : (wr.iterAt W.heap.size s (pos + m)).iterPos W.heap.size = pos + m := by simp [World.iterPos, hit1]
      obtain ⟨W1, hW1⟩ : ∃ W1, W1 = wr.iterAt W.heap.size s (pos + m) := ⟨_, rfl⟩
      rw [← hW1] at hnx hit1 hb1 hip1
      have HB1 := Lib.hid hb1
      have HIT := Lib.hid hit1
      have HIP := Lib.hid hip1
      have HIQ := Lib.hid hip
      have HTK := Lib.hid htok
      have HST := Lib.hid hst
      have D3 := Lib.hid d3
      have HP := Lib.hid hp
      clear hit hbel hW1 hb1 hit1 hip1 hip htok hst d1 d2 d3 hc hm
      have CL := Lib.hid fun w => letter_any c w
      have CF := Lib.hid fun w => figure_any c w
      cases hl : letR c with
      | true =>
        rw [hl] at CL
        have hm1 : m = 1 := D3.out (.inl hl)
        have htl : tokG true s.data.toList = tokG (pos + m == 0) (s.data.toList.drop (pos + m)) := by
          rw [HTK.out, HST.out, hl, hm1]
          simp
        have HTL := Lib.hid htl
        clear hl htl CF
        go_wp2_with fail
        refine (CL.out _).mono ?_
        rintro e w2 ⟨rfl, rfl⟩
        go_wp2_with fail
        go_roundw
        case rel => 
          have hd : TokRel W s w2 := ⟨pos + m, by have := HP.out; omega, HIT.out, HB1.out, HTL.out⟩
          first | exact hd | ((repeat apply Exists.intro); exact ⟨hd, rfl⟩)
        case measure => rw [HIP.out, HIQ.out]; have := HP.out; omega
      | false =>
        rw [hl] at CL
        cases hf : figR c with
        | true =>
          rw [hf] at CF
          have hm1 : m = 1 := D3.out (.inr hf)
          by_cases h0 : pos = 0
          · have hres : tokB s.data.toList = false := by
              unfold tokB
              rw [HTK.out, HST.out, hl, h0]
              simp
            have HRES := Lib.hid hres
            clear hl hf hm1 hres
            subst h0
            go_wp2_with fail
            refine (CL.out _).mono ?_
            rintro e w2 ⟨rfl, rfl⟩
            go_wp2_with fail
            go_ret
            exact ⟨by rw [HRES.out]; rfl, HB1.out⟩
          · have htl : tokG true s.data.toList = tokG (pos + m == 0) (s.data.toList.drop (pos + m)) := by
              rw [HTK.out, HST.out, hl, hf, hm1]
              simp [h0]
            have HTL := Lib.hid htl
            have h0i : decide ((pos : Int) = 0) = false := decide_eq_false (by omega)
            clear hl hf htl
            go_wp2_with fail
            refine (CL.out _).mono ?_
            rintro e w2 ⟨rfl, rfl⟩
            go_wp2_with fail
            refine (CF.out _).mono ?_
            rintro e w2 ⟨rfl, rfl⟩
            go_wp2_with fail
            go_roundw
            case rel => 
              have hd : TokRel W s w2 := ⟨pos + m, by have := HP.out; omega, HIT.out, HB1.out, HTL.out⟩
              first | exact hd | ((repeat apply Exists.intro); exact ⟨hd, rfl⟩)
            case measure => rw [HIP.out, HIQ.out]; have := HP.out; omega
        | false =>
          rw [hf] at CF
          have hres : tokB s.data.toList = false := by
            unfold tokB
            rw [HTK.out, HST.out, hl, hf]
            simp
          have HRES := Lib.hid hres
          clear hl hf hres
          by_cases h0 : pos = 0
          · subst h0
            go_wp2_with fail
            refine (CL.out _).mono ?_
            rintro e w2 ⟨rfl, rfl⟩
            go_wp2_with fail
            go_ret
            exact ⟨by rw [HRES.out]; rfl, HB1.out⟩
          · have h0i : decide ((pos : Int) = 0) = false := decide_eq_false (by omega)
            go_wp2_with fail
            refine (CL.out _).mono ?_
            rintro e w2 ⟨rfl, rfl⟩
            go_wp2_with fail
            refine (CF.out _).mono ?_
            rintro e w2 ⟨rfl, rfl⟩
            go_wp2_with fail
            go_ret
            exact ⟨by rw [HRES.out]; rfl, HB1.out⟩
    · obtain rfl : pos = s.size := by omega
      have hnx : ∀ ty, (Instr.next (.pointer (some ⟨W.heap.size, 0, none⟩)) true ty).run Tryz.prog wr = .ok (.tuple #[.bool false]) wr := fun ty =>
        Lib.run_next_end_at wr W.heap.size s s.size ty hit (by omega)
      have HB1 := Lib.hid hbel
      have hd : s.data.toList.drop s.size = [] := List.drop_of_length_le (by simp)
      rw [hd] at htok
      have hres : tokB s.data.toList = (!s.data.toList.isEmpty && wordK s.data.toList == 0) := by
        unfold tokB
        rw [htok]
        simp [tokG]
      have CW := Lib.hid fun w => word_any s w
      rw [ByteArray.toList_eq] at CW
      clear hit hbel hip htok hd hsz hpos hp
      obtain ⟨kk, hk⟩ : ∃ kk, kk = wordK s.data.toList := ⟨_, rfl⟩
      rw [← hk] at CW hres
      have HRES := Lib.hid hres
      clear hres hk
      cases he : s.data.toList.isEmpty with
      | true =>
        have h1 : s.data.toList = [] := by simpa using he
        have h2 : s.toList = [] := by rw [ByteArray.toList_eq]; exact h1
        have h3 : (s.toList == []) = true := by rw [h2]; rfl
        have h4 : s.toList.isEmpty = true := by rw [h2]; rfl
        rw [he] at HRES
        clear h1 h2 he
        go_wp2_with fail
        go_ret
        exact ⟨by rw [HRES.out]; rfl, HB1.out⟩
      | false =>
        have h2 : s.toList.isEmpty = false := by rw [ByteArray.toList_eq]; exact he
        have h3 : (s.toList == []) = false := by 
          cases h5 : s.toList with
          | nil => rw [h5] at h2; simp at h2
          | cons _ _ => rfl
        rw [he] at HRES
        clear he
        by_cases h0 : kk = 0
        · subst h0
          go_wp2_with fail
          refine (CW.out _).mono ?_
          rintro e w2 ⟨rfl, rfl⟩
          go_wp2_with fail
          go_ret
          exact ⟨by rw [HRES.out]; rfl, HB1.out⟩
        · have h6 : (kk == 0) = false := by simpa using h0
          have h7 : decide (kk = 0) = false := decide_eq_false h0
          go_wp2_with fail
          refine (CW.out _).mono ?_
          rintro e w2 ⟨rfl, rfl⟩
          go_wp2_with fail
          go_ret
          exact ⟨by rw [HRES.out, h6]; rfl, HB1.out⟩

end Go.Proofs.YtkmhijkpbmcgbaaGreat
