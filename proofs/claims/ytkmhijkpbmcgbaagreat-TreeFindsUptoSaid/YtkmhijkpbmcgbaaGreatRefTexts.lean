/-
  The reference's questions on texts.
  The reference's names and plain numbers.
  The reference's questions on texts: what may be called so, plain numbers, what a range binds.
  What a range binds, by the reference.
-/
import Derived.Test.YtkmhijkpbmcgbaaGreatTextP
namespace Go.Proofs.YtkmhijkpbmcgbaaGreat
set_option linter.all false
open Go.RowKit Go.Shelf

theorem rletter_any (c : Int) (w : World) : Calls Tryz.prog 83 #[.int .u8 c] w fun e w' => e = .returned (.bool (letR c)) ∧ w' = w := by
  rcases Decidable.em (c = 95) with rfl | h95
  · go_enter Tryz.func83, Tryz.ntmps83
    go_wp2_with fail
    go_ret
    exact ⟨rfl, rfl⟩
  · have p1 : decide (c = 95) = false := decide_eq_false h95
    have p0 : (c == 95) = false := by simpa using h95
    unfold letR
    rw [p1]
    cases p2 : decide (97 ≤ c) <;> cases p3 : decide (c ≤ 122) <;> cases p4 : decide (65 ≤ c) <;> cases p5 : decide (c ≤ 90) <;>
      (go_enter Tryz.func83, Tryz.ntmps83
       go_wp2_with fail
       all_goals (first | contradiction | (go_ret; exact ⟨rfl, rfl⟩)))
theorem rfigure_any (c : Int) (w : World) : Calls Tryz.prog 81 #[.int .u8 c] w fun e w' => e = .returned (.bool (figR c)) ∧ w' = w := by
  unfold figR
  cases p1 : decide (48 ≤ c) <;> cases p2 : decide (c ≤ 57) <;>
    (go_enter Tryz.func81, Tryz.ntmps81
     go_wp2_with fail
     go_ret
     exact ⟨rfl, rfl⟩)

def InRel (w : World) (s : ByteArray) (bs : List ByteArray) (i : Value) (W : World) : Prop := ∃ p : Nat, p ≤ bs.length ∧ i = .int .i64 p ∧ W = w ∧ (bs.take p).any (fun b => b.toList == s.toList) = false
set_option maxRecDepth 100000 in
set_option maxHeartbeats 1000000 in
theorem in_any (s : ByteArray) (bs : List ByteArray) (B c : Nat) (w : World) (hl : bs.length ≤ 1000) (hB : Whole w B 9 (bs.map Value.string).toArray) :
    Calls Tryz.prog 107 #[.string s, .slice (some ⟨B, 0, none⟩) bs.length c] w fun e w' => e = .returned (.bool (bs.any fun b => b.toList == s.toList)) ∧ w' = w := by
  have HB := Lib.hid hB
  clear hB
  go_enter Tryz.func107, Tryz.ntmps107
  go_wp2_with fail
  go_loopw [5] (fun i W => InRel w s bs i W) (fun i _ => bs.length - (intOf i).toNat)
  case atStart => exact ⟨0, Nat.zero_le _, rfl, rfl, by simp⟩
  case round =>
    obtain ⟨p, hp, rfl, hw, hany⟩ := hrel
    subst hw
    by_cases hpl : p < bs.length
    · obtain ⟨b, hb⟩ : ∃ b, bs[p]? = some b := ⟨_, List.getElem?_eq_getElem hpl⟩
      have q : wr.cell? ⟨B, p, none⟩ = some (.string b) := by
        rw [HB.out.cell p]
        simp [hb]
      have hp2 : p < 9223372036854775807 := by omega
      have HA := Lib.hid hany
      have HK := Lib.hid hb
      clear hany hb
      cases he : (b.toList == s.toList) with
      | true =>
        have hres : (bs.any fun b => b.toList == s.toList) = true := List.any_eq_true.2 ⟨b, List.mem_of_getElem? HK.out, he⟩
        have HR := Lib.hid hres
        clear hres
        go_wp2_with fail
        go_ret
        exact ⟨by rw [HR.out]; rfl, rfl⟩
      | false =>
        go_wp2_with fail
        go_roundw
        case rel => exact ⟨p + 1, by omega, rfl, rfl, by rw [take_snoc HK.out, List.any_append, HA.out]; simp [he]⟩
        case measure => simp [intOf]; omega
    · have hres : (bs.any fun b => b.toList == s.toList) = false := by rw [List.take_of_length_le (by omega)] at hany; exact hany
      have HR := Lib.hid hres
      clear hres hany
      go_wp2_with fail
      go_ret
      exact ⟨by rw [HR.out]; rfl, rfl⟩

def rw1 : List ByteArray := [⟨#[98, 114, 101, 97, 107]⟩, ⟨#[99, 111, 110, 116, 105, 110, 117, 101]⟩, ⟨#[101, 108, 115, 101]⟩, ⟨#[102, 111, 114]⟩, ⟨#[102, 117, 110, 99]⟩, ⟨#[105, 102]⟩, ⟨#[105, 109, 112, 111, 114, 116]⟩, ⟨#[105, 110, 116, 101, 114, 102, 97, 99, 101]⟩, ⟨#[112, 97, 99, 107, 97, 103, 101]⟩, ⟨#[114, 97, 110, 103, 101]⟩, ⟨#[114, 101, 116, 117, 114, 110]⟩, ⟨#[115, 116, 114, 117, 99, 116]⟩, ⟨#[116, 121, 112, 101]⟩, ⟨#[118, 97, 114]⟩]
def rw2 : List ByteArray := [⟨#[99, 97, 115, 101]⟩, ⟨#[99, 104, 97, 110]⟩, ⟨#[99, 111, 110, 115, 116]⟩, ⟨#[100, 101, 102, 97, 117, 108, 116]⟩, ⟨#[100, 101, 102, 101, 114]⟩, ⟨#[102, 97, 108, 108, 116, 104, 114, 111, 117, 103, 104]⟩, ⟨#[103, 111]⟩, ⟨#[103, 111, 116, 111]⟩, ⟨#[109, 97, 112]⟩, ⟨#[115, 101, 108, 101, 99, 116]⟩, ⟨#[115, 119, 105, 116, 99, 104]⟩]
theorem any_words (bs : List ByteArray) (ws : List (List UInt8)) (h : bs.map (fun b => b.data.toList) = ws) (s : ByteArray) : (bs.any fun b => b.toList == s.toList) = ws.contains s.toList := by
  subst h
  induction bs with
  | nil => rfl
  | cons b l ih =>
    rw [List.any_cons, ih, List.map_cons, List.contains_cons, ByteArray.toList_eq b]
    congr 1
    generalize s.toList = x
    generalize b.data.toList = y
    rw [Bool.eq_iff_iff, beq_iff_eq, beq_iff_eq]
    exact eq_comm
set_option maxRecDepth 100000 in
set_option maxHeartbeats 1000000 in
theorem rword_any (s : ByteArray) (w : World) : Calls Tryz.prog 82 #[.string s] w fun e w' => e = .returned (.int .i64 (wordK s.toList)) ∧ Below w.heap.size w w' := by
  have b1 : Below w.heap.size w (w.alloc (.cells #[.string ⟨#[98, 114, 101, 97, 107]⟩, .string ⟨#[99, 111, 110, 116, 105, 110, 117, 101]⟩, .string ⟨#[101, 108, 115, 101]⟩, .string ⟨#[102, 111, 114]⟩, .string ⟨#[102, 117, 110, 99]⟩, .string ⟨#[105, 102]⟩, .string ⟨#[105, 109, 112, 111, 114, 116]⟩, .string ⟨#[105, 110, 116, 101, 114, 102, 97, 99, 101]⟩, .string ⟨#[112, 97, 99, 107, 97, 103, 101]⟩, .string ⟨#[114, 97, 110, 103, 101]⟩, .string ⟨#[114, 101, 116, 117, 114, 110]⟩, .string ⟨#[115, 116, 114, 117, 99, 116]⟩, .string ⟨#[116, 121, 112, 101]⟩, .string ⟨#[118, 97, 114]⟩] 9)) := (Below.refl _ w).alloc (Nat.le_refl _) _
  have I1 := in_any s rw1 w.heap.size 14 (w.alloc (.cells #[.string ⟨#[98, 114, 101, 97, 107]⟩, .string ⟨#[99, 111, 110, 116, 105, 110, 117, 101]⟩, .string ⟨#[101, 108, 115, 101]⟩, .string ⟨#[102, 111, 114]⟩, .string ⟨#[102, 117, 110, 99]⟩, .string ⟨#[105, 102]⟩, .string ⟨#[105, 109, 112, 111, 114, 116]⟩, .string ⟨#[105, 110, 116, 101, 114, 102, 97, 99, 101]⟩, .string ⟨#[112, 97, 99, 107, 97, 103, 101]⟩, .string ⟨#[114, 97, 110, 103, 101]⟩, .string ⟨#[114, 101, 116, 117, 114, 110]⟩, .string ⟨#[115, 116, 114, 117, 99, 116]⟩, .string ⟨#[116, 121, 112, 101]⟩, .string ⟨#[118, 97, 114]⟩] 9)) (by decide) (Whole.new w 9 _)
  rw [any_words rw1 words1 (by rfl) s] at I1
  have e1 : rw1.length = 14 := rfl
  rw [e1] at I1
  have J1 := Lib.hid I1
  have B1 := Lib.hid b1
  clear b1 I1 e1
  obtain ⟨r1, hr1⟩ : ∃ r, r = words1.contains s.toList := ⟨_, rfl⟩
  obtain ⟨r2, hr2⟩ : ∃ r, r = words2.contains s.toList := ⟨_, rfl⟩
  have hk : wordK s.toList = if r1 = true then 1 else if r2 = true then 2 else 0 := by rw [hr1, hr2]; rfl
  rw [hk]
  rw [← hr1] at J1
  have R2 := Lib.hid hr2
  clear hk hr1 hr2
  go_enter Tryz.func82, Tryz.ntmps82
  go_wp2_with fail
  refine J1.out.mono ?_
  rintro e w2 ⟨rfl, hw2⟩
  have B2 : Hid (Below w.heap.size w w2) := by rw [hw2]; exact B1
  clear hw2 B1 J1
  cases r1 with
  | true =>
    go_wp2_with fail
    go_ret
    exact ⟨rfl, B2.out⟩
  | false =>
  have b3 : Below w.heap.size w (w2.alloc (.cells #[.string ⟨#[99, 97, 115, 101]⟩, .string ⟨#[99, 104, 97, 110]⟩, .string ⟨#[99, 111, 110, 115, 116]⟩, .string ⟨#[100, 101, 102, 97, 117, 108, 116]⟩, .string ⟨#[100, 101, 102, 101, 114]⟩, .string ⟨#[102, 97, 108, 108, 116, 104, 114, 111, 117, 103, 104]⟩, .string ⟨#[103, 111]⟩, .string ⟨#[103, 111, 116, 111]⟩, .string ⟨#[109, 97, 112]⟩, .string ⟨#[115, 101, 108, 101, 99, 116]⟩, .string ⟨#[115, 119, 105, 116, 99, 104]⟩] 9)) := B2.out.alloc B2.out.size _
  have I1 := in_any s rw2 w2.heap.size 11 (w2.alloc (.cells #[.string ⟨#[99, 97, 115, 101]⟩, .string ⟨#[99, 104, 97, 110]⟩, .string ⟨#[99, 111, 110, 115, 116]⟩, .string ⟨#[100, 101, 102, 97, 117, 108, 116]⟩, .string ⟨#[100, 101, 102, 101, 114]⟩, .string ⟨#[102, 97, 108, 108, 116, 104, 114, 111, 117, 103, 104]⟩, .string ⟨#[103, 111]⟩, .string ⟨#[103, 111, 116, 111]⟩, .string ⟨#[109, 97, 112]⟩, .string ⟨#[115, 101, 108, 101, 99, 116]⟩, .string ⟨#[115, 119, 105, 116, 99, 104]⟩] 9)) (by decide) (Whole.new w2 9 _)
  rw [any_words rw2 words2 (by rfl) s, ← R2.out] at I1
  have e1 : rw2.length = 11 := rfl
  rw [e1] at I1
  have J1 := Lib.hid I1
  have B1 := Lib.hid b3
  clear b3 I1 e1
  go_wp2_with fail
  refine J1.out.mono ?_
  rintro e w3 ⟨rfl, hw3⟩
  have B3 : Hid (Below w.heap.size w w3) := by rw [hw3]; exact B1
  clear hw3 B1 J1
  cases r2 <;>
    (go_wp2_with fail
     go_ret
     exact ⟨rfl, B3.out⟩)

end Go.Proofs.YtkmhijkpbmcgbaaGreat

namespace Go.Proofs.YtkmhijkpbmcgbaaGreat
set_option linter.all false
open Go.RowKit Go.Shelf

def okB (b : UInt8) : Bool := lettB b || figB b
theorem tok_all : ∀ l : List UInt8, tokG false l = l.all okB
  | [] => rfl
  | b :: l => by
    show ((lettB b || (!false && figB b)) && tokG false l) = _
    rw [tok_all l, List.all_cons]
    rfl
theorem lett_fig (b : UInt8) (h : figB b = true) : lettB b = false := by
  unfold figB figR at h
  unfold lettB letR
  simp only [Bool.and_eq_true, decide_eq_true_eq] at h
  have e1 : decide ((b.toNat : Int) = 95) = false := decide_eq_false (by omega)
  have e2 : decide ((97 : Int) ≤ b.toNat) = false := decide_eq_false (by omega)
  have e3 : decide ((65 : Int) ≤ b.toNat) = false := decide_eq_false (by omega)
  rw [e1, e2, e3]
  rfl
theorem tok_ref (b : UInt8) (l : List UInt8) : tokG true (b :: l) = (!figB b && (b :: l).all okB) := by
  show ((lettB b || (!true && figB b)) && tokG false l) = _
  rw [tok_all l, List.all_cons]
  cases hf : figB b with
  | true => rw [lett_fig b hf]; rfl
  | false =>
    unfold okB
    rw [hf]
    simp
theorem at0 (s : ByteArray) (h : 0 < s.size) : ∃ l, s.data.toList = s[0] :: l := by
  have hl : 0 < s.data.toList.length := by simpa using h
  have e1 : s.data.toList[0] = s[0] := by simp; rfl
  refine ⟨s.data.toList.drop 1, ?_⟩
  rw [← e1]
  have := List.drop_eq_getElem_cons hl
  rw [List.drop_zero] at this
  exact this
theorem atp (s : ByteArray) (p : Nat) (h : p < s.size) : s.data.toList[p]? = some s[p] := by
  have hl : p < s.data.toList.length := by simpa using h
  rw [List.getElem?_eq_getElem hl]
  congr 1
def RNameRel (w : World) (s : ByteArray) (i : Value) (W : World) : Prop := ∃ p : Nat, p ≤ s.size ∧ i = .int .i64 p ∧ Below w.heap.size w W ∧ (s.data.toList.take p).all okB = true

set_option maxRecDepth 100000 in
set_option maxHeartbeats 1000000 in
theorem rtok_any (s : ByteArray) (w : World) (hs : s.size ≤ 1048576) : Calls Tryz.prog 36 #[.string s] w fun e w' => e = .returned (.bool (tokB s.data.toList)) ∧ Below w.heap.size w w' := by
  by_cases h0 : s.size = 0
  · have hL : s.data.toList = [] := List.length_eq_zero_iff.1 (by simpa using h0)
    have h1 : (s.toList == []) = true := by rw [ByteArray.toList_eq, hL]; rfl
    rw [hL]
    clear hL h0
    go_enter Tryz.func36, Tryz.ntmps36
    go_wp2_with fail
    go_ret
    exact ⟨rfl, Below.refl _ _⟩
  have hp : 0 < s.size := by omega
  obtain ⟨l, hl⟩ := at0 s hp
  have h1 : (s.toList == []) = false := by rw [ByteArray.toList_eq, hl]; rfl
  have ht : tokB s.data.toList = ((!figB s[0] && s.data.toList.all okB) && wordK s.toList == 0) := by
    unfold tokB
    rw [ByteArray.toList_eq]
    conv => lhs; rw [hl]
    rw [tok_ref, ← hl]
    have : s.data.toList.isEmpty = false := by rw [hl]; rfl
    rw [this]
    rfl
  have HT := Lib.hid ht
  have FG := Lib.hid fun w => rfigure_any ((s[0]).toNat : Int) w
  have WD := Lib.hid fun w => rword_any s w
  have HP := Lib.hid (atp s)
  clear ht hl h0
  obtain ⟨kk, hk⟩ : ∃ kk, kk = wordK s.toList := ⟨_, rfl⟩
  rw [← hk] at WD HT
  clear hk
  have hfe : figR ((s[0]).toNat : Int) = figB s[0] := rfl
  rw [hfe] at FG
  clear hfe
  cases hf : figB s[0] with
  | true =>
    rw [hf] at FG HT
    go_enter Tryz.func36, Tryz.ntmps36
    go_wp2_with fail
    refine (FG.out _).mono ?_
    rintro e w2 ⟨rfl, rfl⟩
    go_wp2_with fail
    go_ret
    exact ⟨by rw [HT.out]; rfl, Below.refl _ _⟩
  | false =>
  rw [hf] at FG HT
  by_cases hk0 : kk = 0
  · subst hk0
    go_enter Tryz.func36, Tryz.ntmps36
    go_wp2_with fail
    refine (FG.out _).mono ?_
    rintro e w2 ⟨rfl, rfl⟩
    go_wp2_with fail
    refine (WD.out _).mono ?_
    rintro e w3 ⟨rfl, b3⟩
    have B3 := Lib.hid b3
    clear b3
    go_wp2_with fail
    go_loopw [3] (fun i W => RNameRel w2 s i W) (fun i _ => s.size - (intOf i).toNat)
    case atStart => exact ⟨0, Nat.zero_le _, rfl, B3.out, by simp⟩
    case round =>
      obtain ⟨p, hpp, rfl, hb, hall⟩ := hrel
      have HB := Lib.hid hb
      have HA := Lib.hid hall
      clear hb hall
      by_cases hpl : p < s.size
      · have hat := HP.out p hpl
        have LT := Lib.hid fun w => rletter_any ((s[p]).toNat : Int) w
        have FP := Lib.hid fun w => rfigure_any ((s[p]).toNat : Int) w
        have e1 : letR ((s[p]).toNat : Int) = lettB s[p] := rfl
        have e2 : figR ((s[p]).toNat : Int) = figB s[p] := rfl
        rw [e1] at LT
        rw [e2] at FP
        have HK := Lib.hid hat
        have hp2 : p < 9223372036854775807 := by omega
        clear e1 e2 hat
        have hnext : okB s[p] = true → (s.data.toList.take (p + 1)).all okB = true := fun h => by
          rw [take_snoc HK.out, List.all_append, HA.out]
          simp [h]
        have HN := Lib.hid hnext
        clear hnext
        cases hlt : lettB s[p] with
        | true =>
          rw [hlt] at LT
          have hok : okB s[p] = true := by unfold okB; rw [hlt]; rfl
          have HR := Lib.hid (HN.out hok)
          clear hok
          go_wp2_with fail
          refine (LT.out _).mono ?_
          rintro e w4 ⟨rfl, rfl⟩
          go_wp2_with fail
          go_roundw
          case rel => exact ⟨p + 1, hpl, rfl, HB.out, HR.out⟩
          case measure => simp [intOf]; omega
        | false =>
          rw [hlt] at LT
          cases hfp : figB s[p] with
          | true =>
            rw [hfp] at FP
            have hok : okB s[p] = true := by unfold okB; rw [hlt, hfp]; rfl
            have HR := Lib.hid (HN.out hok)
            clear hok
            go_wp2_with fail
            refine (LT.out _).mono ?_
            rintro e w4 ⟨rfl, rfl⟩
            go_wp2_with fail
            refine (FP.out _).mono ?_
            rintro e w4 ⟨rfl, rfl⟩
            go_wp2_with fail
            go_roundw
            case rel => exact ⟨p + 1, hpl, rfl, HB.out, HR.out⟩
            case measure => simp [intOf]; omega
          | false =>
            rw [hfp] at FP
            have hbad : s.data.toList.all okB = false := by
              rw [Bool.eq_false_iff]
              intro h
              have := List.all_eq_true.1 h _ (List.mem_of_getElem? HK.out)
              unfold okB at this
              rw [hlt, hfp] at this
              cases this
            have HD := Lib.hid hbad
            clear hbad
            go_wp2_with fail
            refine (LT.out _).mono ?_
            rintro e w4 ⟨rfl, rfl⟩
            go_wp2_with fail
            refine (FP.out _).mono ?_
            rintro e w4 ⟨rfl, rfl⟩
            go_wp2_with fail
            go_ret
            exact ⟨by rw [HT.out, HD.out]; rfl, HB.out⟩
      · have hal : s.data.toList.all okB = true := by
          have := HA.out
          rw [List.take_of_length_le (by simp; omega)] at this
          exact this
        have HD := Lib.hid hal
        clear hal
        go_wp2_with fail
        go_ret
        exact ⟨by rw [HT.out, HD.out]; rfl, HB.out⟩
  · have h6 : (kk == 0) = false := by simpa using hk0
    have h7 : decide (kk = 0) = false := decide_eq_false hk0
    have h8 : (kk != 0) = true := by simp [bne, h6]
    go_enter Tryz.func36, Tryz.ntmps36
    go_wp2_with fail
    refine (FG.out _).mono ?_
    rintro e w2 ⟨rfl, rfl⟩
    go_wp2_with fail
    refine (WD.out _).mono ?_
    rintro e w3 ⟨rfl, b3⟩
    have B3 := Lib.hid b3
    clear b3
    go_wp2_with fail
    go_ret
    exact ⟨by rw [HT.out, h6]; simp, B3.out⟩

end Go.Proofs.YtkmhijkpbmcgbaaGreat

namespace Go.Proofs.YtkmhijkpbmcgbaaGreat
set_option linter.all false
open Go.RowKit Go.Shelf

set_option maxRecDepth 100000 in
theorem rname_any (s : ByteArray) (W : World) : Calls Tryz.prog 17 #[.string s] W fun e w' => e = .returned (.bool (nameB s)) ∧ Below W.heap.size W w' := by
  unfold nameB
  by_cases h : s.size ≤ 100
  · have T := Lib.hid (rtok_any s W (by omega))
    have h1 : decide (s.size ≤ 100) = true := decide_eq_true h
    have h2 : decide ((s.size : Int) ≤ 100) = true := decide_eq_true (by omega)
    rw [h1]
    go_enter Tryz.func17, Tryz.ntmps17
    go_wp2_with fail
    refine (T.out).mono ?_
    rintro e w2 ⟨rfl, b2⟩
    go_wp2_with fail
    go_ret
    exact ⟨rfl, b2⟩
  · have h1 : decide (s.size ≤ 100) = false := decide_eq_false h
    have h2 : decide ((s.size : Int) ≤ 100) = false := decide_eq_false (by omega)
    rw [h1]
    go_enter Tryz.func17, Tryz.ntmps17
    go_wp2_with fail
    go_ret
    exact ⟨rfl, Below.refl _ _⟩
set_option maxRecDepth 100000 in
theorem rbound_any (s : ByteArray) (W : World) : Calls Tryz.prog 44 #[.string s] W fun e w' => e = .returned (.bool (boundB s)) ∧ Below W.heap.size W w' := by
  have T := Lib.hid (rname_any s W)
  unfold boundB
  have e1 : (s.toList == [95]) = (s.data.toList == [95]) := by rw [ByteArray.toList_eq]
  rw [← e1]
  clear e1
  cases hn : nameB s with
  | true =>
    rw [hn] at T
    cases hb : (s.toList == [95]) <;>
    (go_enter Tryz.func44, Tryz.ntmps44
     go_wp2_with fail
     refine (T.out).mono ?_
     rintro e w2 ⟨rfl, b2⟩
     go_wp2_with fail
     go_ret
     exact ⟨rfl, b2⟩)
  | false =>
    rw [hn] at T
    go_enter Tryz.func44, Tryz.ntmps44
    go_wp2_with fail
    refine (T.out).mono ?_
    rintro e w2 ⟨rfl, b2⟩
    go_wp2_with fail
    go_ret
    exact ⟨rfl, b2⟩

def RPlainRel (w : World) (s : ByteArray) (i : Value) (W : World) : Prop := ∃ p : Nat, p ≤ s.size ∧ i = .int .i64 p ∧ W = w ∧ (s.data.toList.take p).all figB = true
theorem plain_ref (s : ByteArray) : plainB s.data.toList = (!(s.size == 0) && (!decide (200 < s.size) && ((decide (1 < s.size) && s.data.toList.headD 0 == 48) == false && s.data.toList.all figB))) := by
  have hl : s.data.toList.length = s.size := by simp
  rw [← hl]
  generalize s.data.toList = l
  unfold plainB
  match l with
  | [] => rfl
  | [b] =>
    by_cases hb : b = 48
    · subst hb; rfl
    · have h1 : ([b] == ([48] : List UInt8)) = false := by simpa using hb
      have h2 : (b == 48) = false := by simpa using hb
      simp [h1, h2]
  | b :: c :: l =>
    have h1 : (b :: c :: l == ([48] : List UInt8)) = false := by simp
    rw [h1]
    simp only [List.length_cons, List.isEmpty_cons, List.headD_cons, Bool.not_false, Bool.true_and, Bool.false_or]
    have e1 : (l.length + 1 + 1 == 0) = false := by simp
    have e2 : decide (1 < l.length + 1 + 1) = true := by simp
    have e3 : decide (l.length + 1 + 1 ≤ 200) = !decide (200 < l.length + 1 + 1) := by
      rw [← decide_not]; congr 1; simp
    rw [e1, e2, e3]
    cases (b :: c :: l).all figB <;> cases decide (200 < l.length + 1 + 1) <;> cases (b == 48) <;> rfl

set_option maxRecDepth 100000 in
set_option maxHeartbeats 1000000 in
theorem rplain_any (s : ByteArray) (w : World) : Calls Tryz.prog 42 #[.string s] w fun e w' => e = .returned (.bool (plainB s.data.toList)) ∧ w' = w := by
  rw [plain_ref]
  by_cases h0 : s.size = 0
  · have a1 : (s.size == 0) = true := by simpa using h0
    have a2 : ((s.size : Int) == 0) = true := by simp [h0]
    rw [a1]
    go_enter Tryz.func42, Tryz.ntmps42
    go_wp2_with fail
    all_goals (first | (go_ret; exact ⟨rfl, rfl⟩) | contradiction)
  have a1 : (s.size == 0) = false := by simpa using h0
  have a2 : ((s.size : Int) == 0) = false := by simp [h0]
  have a3 : decide ((s.size : Int) = 0) = false := decide_eq_false (by omega)
  rw [a1]
  by_cases h2 : 200 < s.size
  · have b1 : decide (200 < s.size) = true := decide_eq_true h2
    have b2 : decide ((200 : Int) < (s.size : Int)) = true := decide_eq_true (by omega)
    rw [b1]
    go_enter Tryz.func42, Tryz.ntmps42
    go_wp2_with fail
    go_ret
    exact ⟨rfl, rfl⟩
  have b1 : decide (200 < s.size) = false := decide_eq_false h2
  have b2 : decide ((200 : Int) < (s.size : Int)) = false := decide_eq_false (by omega)
  rw [b1]
  have hp : 0 < s.size := by omega
  have h48 := head48 s hp
  have HP := Lib.hid (atp s)
  obtain ⟨hd, hhd⟩ : ∃ hd, hd = (s.data.toList.headD 0 == 48) := ⟨_, rfl⟩
  rw [← hhd] at h48 ⊢
  clear hhd
  obtain ⟨fa, hfa⟩ : ∃ fa, fa = s.data.toList.all figB := ⟨_, rfl⟩
  rw [← hfa]
  have HFA := Lib.hid hfa
  clear hfa
  have h49 : (((s[0]).toNat : Int) == 48) = hd := by
    have : (((s[0]).toNat : Int) != 48) = !(((s[0]).toNat : Int) == 48) := rfl
    rw [this] at h48
    cases hd <;> cases hx : (((s[0]).toNat : Int) == 48) <;> rw [hx] at h48 <;> first | rfl | cases h48
  have H49 := Lib.hid h49
  clear h48 h49
  by_cases h3 : 1 < s.size
  · have c1 : decide (1 < s.size) = true := decide_eq_true h3
    have c2 : decide ((1 : Int) < (s.size : Int)) = true := decide_eq_true (by omega)
    rw [c1]
    cases hd with
    | true =>
      have e := H49.out
      go_enter Tryz.func42, Tryz.ntmps42
      go_wp2_with fail
      go_ret
      exact ⟨rfl, rfl⟩
    | false =>
      have e := H49.out
      go_enter Tryz.func42, Tryz.ntmps42
      go_wp2_with fail
      clear e
      go_loopw [3] (fun i W => RPlainRel w s i W) (fun i _ => s.size - (intOf i).toNat)
      case atStart => exact ⟨0, Nat.zero_le _, rfl, rfl, by simp⟩
      case round =>
        obtain ⟨p, hpp, rfl, hw, hall⟩ := hrel
        subst hw
        have HA := Lib.hid hall
        clear hall
        by_cases hpl : p < s.size
        · have hat := HP.out p hpl
          have HK := Lib.hid hat
          have hp2 : p < 9223372036854775807 := by omega
          clear hat
          cases hf : figB s[p] with
          | true =>
            have hn : (s.data.toList.take (p + 1)).all figB = true := by
              rw [take_snoc HK.out, List.all_append, HA.out]
              simp [hf]
            have HN := Lib.hid hn
            unfold figB figR at hf
            simp only [Bool.and_eq_true, decide_eq_true_eq] at hf
            have f1 : decide (((s[p]).toNat : Int) < 48) = false := decide_eq_false (by omega)
            have f2 : decide ((57 : Int) < ((s[p]).toNat : Int)) = false := decide_eq_false (by omega)
            have f3 : decide ((s[p]).toNat < 48) = false := decide_eq_false (by omega)
            have f4 : decide (57 < (s[p]).toNat) = false := decide_eq_false (by omega)
            clear hf hn
            go_wp2_with fail
            go_roundw
            case rel => exact ⟨p + 1, hpl, rfl, rfl, HN.out⟩
            case measure => simp [intOf]; omega
          | false =>
            have hbad : fa = false := by
              rw [HFA.out, Bool.eq_false_iff]
              intro h
              have := List.all_eq_true.1 h _ (List.mem_of_getElem? HK.out)
              rw [hf] at this
              cases this
            subst hbad
            unfold figB figR at hf
            have hf2 : ¬ (48 ≤ ((s[p]).toNat : Int) ∧ ((s[p]).toNat : Int) ≤ 57) := by
              intro h
              simp only [Bool.and_eq_false_iff, decide_eq_false_iff_not] at hf
              omega
            clear hf
            by_cases h48 : ((s[p]).toNat : Int) < 48
            · have f1 : decide (((s[p]).toNat : Int) < 48) = true := decide_eq_true h48
              have f3 : decide ((s[p]).toNat < 48) = true := decide_eq_true (by omega)
              clear hf2
              go_wp2_with fail
              go_ret
              exact ⟨rfl, rfl⟩
            · have f1 : decide (((s[p]).toNat : Int) < 48) = false := decide_eq_false h48
              have f3 : decide ((s[p]).toNat < 48) = false := decide_eq_false (by omega)
              have f2 : decide ((57 : Int) < ((s[p]).toNat : Int)) = true := decide_eq_true (by omega)
              have f4 : decide (57 < (s[p]).toNat) = true := decide_eq_true (by omega)
              clear hf2
              go_wp2_with fail
              go_ret
              exact ⟨rfl, rfl⟩
        · have hal : fa = true := by
            have := HA.out
            rw [List.take_of_length_le (by simp; omega)] at this
            rw [HFA.out]
            exact this
          subst hal
          go_wp2_with fail
          go_ret
          exact ⟨rfl, rfl⟩
  · have c1 : decide (1 < s.size) = false := decide_eq_false h3
    have c2 : decide ((1 : Int) < (s.size : Int)) = false := decide_eq_false (by omega)
    rw [c1]
    go_enter Tryz.func42, Tryz.ntmps42
    go_wp2_with fail
    go_loopw [3] (fun i W => RPlainRel w s i W) (fun i _ => s.size - (intOf i).toNat)
    case atStart => exact ⟨0, Nat.zero_le _, rfl, rfl, by simp⟩
    case round =>
      obtain ⟨p, hpp, rfl, hw, hall⟩ := hrel
      subst hw
      have HA := Lib.hid hall
      clear hall
      by_cases hpl : p < s.size
      · have hat := HP.out p hpl
        have HK := Lib.hid hat
        have hp2 : p < 9223372036854775807 := by omega
        clear hat
        cases hf : figB s[p] with
        | true =>
          have hn : (s.data.toList.take (p + 1)).all figB = true := by
            rw [take_snoc HK.out, List.all_append, HA.out]
            simp [hf]
          have HN := Lib.hid hn
          unfold figB figR at hf
          simp only [Bool.and_eq_true, decide_eq_true_eq] at hf
          have f1 : decide (((s[p]).toNat : Int) < 48) = false := decide_eq_false (by omega)
          have f2 : decide ((57 : Int) < ((s[p]).toNat : Int)) = false := decide_eq_false (by omega)
          have f3 : decide ((s[p]).toNat < 48) = false := decide_eq_false (by omega)
          have f4 : decide (57 < (s[p]).toNat) = false := decide_eq_false (by omega)
          clear hf hn
          go_wp2_with fail
          go_roundw
          case rel => exact ⟨p + 1, hpl, rfl, rfl, HN.out⟩
          case measure => simp [intOf]; omega
        | false =>
          have hbad : fa = false := by
            rw [HFA.out, Bool.eq_false_iff]
            intro h
            have := List.all_eq_true.1 h _ (List.mem_of_getElem? HK.out)
            rw [hf] at this
            cases this
          subst hbad
          unfold figB figR at hf
          have hf2 : ¬ (48 ≤ ((s[p]).toNat : Int) ∧ ((s[p]).toNat : Int) ≤ 57) := by
            intro h
            simp only [Bool.and_eq_false_iff, decide_eq_false_iff_not] at hf
            omega
          clear hf
          by_cases h48 : ((s[p]).toNat : Int) < 48
          · have f1 : decide (((s[p]).toNat : Int) < 48) = true := decide_eq_true h48
            have f3 : decide ((s[p]).toNat < 48) = true := decide_eq_true (by omega)
            clear hf2
            go_wp2_with fail
            go_ret
            exact ⟨rfl, rfl⟩
          · have f1 : decide (((s[p]).toNat : Int) < 48) = false := decide_eq_false h48
            have f3 : decide ((s[p]).toNat < 48) = false := decide_eq_false (by omega)
            have f2 : decide ((57 : Int) < ((s[p]).toNat : Int)) = true := decide_eq_true (by omega)
            have f4 : decide (57 < (s[p]).toNat) = true := decide_eq_true (by omega)
            clear hf2
            go_wp2_with fail
            go_ret
            exact ⟨rfl, rfl⟩
      · have hal : fa = true := by
          have := HA.out
          rw [List.take_of_length_le (by simp; omega)] at this
          rw [HFA.out]
          exact this
        subst hal
        go_wp2_with fail
        go_ret
        exact ⟨rfl, rfl⟩

/-- A byte's first place. -/
def RRangedRel (w : World) (s : ByteArray) (i : Value) (W : World) : Prop := ∃ p : Nat, p ≤ s.size ∧ i = .int .i64 p ∧ W = w ∧ (44 : UInt8) ∉ s.data.toList.take p

end Go.Proofs.YtkmhijkpbmcgbaaGreat

namespace Go.Proofs.YtkmhijkpbmcgbaaGreat
set_option linter.all false
open Go.RowKit Go.Shelf

theorem occ1 (l : List UInt8) (c : UInt8) (j : Nat) : Lib.occAt l [c] j = (l[j]? == some c) := by
  unfold Lib.occAt
  have h : (l.drop j)[0]? = l[j]? := by rw [List.getElem?_drop]; rfl
  rw [← h]
  generalize l.drop j = m
  cases m with
  | nil => rfl
  | cons b m =>
    rw [Bool.eq_iff_iff]
    simp [List.isPrefixOf]
    exact eq_comm
theorem cut_at {l : List UInt8} {p : Nat} (h : l[p]? = some 44) (hn : (44 : UInt8) ∉ l.take p) : Lib.cut l [44] = (l.take p, l.drop (p + 1), true) := by
  have hp : p < l.length := by
    rcases Nat.lt_or_ge p l.length with h2 | h2
    · exact h2
    · rw [List.getElem?_eq_none h2] at h; cases h
  have hi : Lib.index l [44] = p := Lib.index_first (by omega) (by rw [occ1, h]; rfl) (fun j hj => by
    rw [occ1]
    have hjl : j < l.length := by omega
    rw [List.getElem?_eq_getElem hjl]
    have hm : l[j] ∈ l.take p := by
      rw [List.mem_take_iff_getElem]
      exact ⟨j, by omega, rfl⟩
    have : l[j] ≠ 44 := fun e => hn (e ▸ hm)
    simpa using this)
  unfold Lib.cut
  rw [hi, if_pos (by omega)]
  simp
theorem cut_no {l : List UInt8} (hn : (44 : UInt8) ∉ l) : Lib.cut l [44] = (l, [], false) := by
  have hi : Lib.index l [44] = -1 := Lib.index_none (fun j _ => by
    rw [occ1]
    rw [beq_eq_false_iff_ne]
    intro e
    exact hn (List.mem_of_getElem? e))
  unfold Lib.cut
  rw [hi, if_neg (by omega)]
theorem bytes_list (s : ByteArray) : (⟨s.data.toList.toArray⟩ : ByteArray) = s := by cases s; simp

set_option maxRecDepth 100000 in
set_option maxHeartbeats 1000000 in
theorem rranged_any (s : ByteArray) (w : World) (hs : s.size ≤ 1048576) : Calls Tryz.prog 47 #[.string s] w fun e w' => e = .returned (.bool (rangedB s)) ∧ Below w.heap.size w w' := by
  have HP := Lib.hid (atp s)
  go_enter Tryz.func47, Tryz.ntmps47
  go_wp2_with fail
  go_loopw [3] (fun i W => RRangedRel w s i W) (fun i _ => s.size - (intOf i).toNat)
  case atStart => exact ⟨0, Nat.zero_le _, rfl, rfl, by simp⟩
  case round =>
    obtain ⟨p, hpp, rfl, hw, hno⟩ := hrel
    subst hw
    have HN := Lib.hid hno
    clear hno
    by_cases hpl : p < s.size
    · have HK := Lib.hid (HP.out p hpl)
      have hpm : p < 9223372036854775807 := by omega
      by_cases hb : s[p] = 44
      · have hbi : (((s[p]).toNat : Int) == 44) = true := by rw [hb]; rfl
        have hc : Lib.cut s.data.toList [44] = (s.data.toList.take p, s.data.toList.drop (p + 1), true) := cut_at (by rw [HK.out, hb]) HN.out
        have hne : (s.toList == []) = false := by
          rw [ByteArray.toList_eq]
          cases hL : s.data.toList with
          | nil => have := HK.out; rw [hL] at this; simp at this
          | cons _ _ => rfl
        have hres : rangedB s = (nameB (s.extract 0 p) && boundB (s.extract (p + 1) s.size)) := by
          unfold rangedB
          rw [hc, hne]
          rw [Lib.extract_eq s 0 p, Lib.extract_eq s (p + 1) s.size]
          simp only [List.drop_zero, Nat.sub_zero]
          rw [List.take_of_length_le (l := s.data.toList.drop (p + 1)) (by simp)]
          simp
        have HR := Lib.hid hres
        have NA := Lib.hid fun w => rname_any (s.extract 0 p) w
        have BO := Lib.hid fun w => rbound_any (s.extract (p + 1) s.size) w
        generalize nameB (s.extract 0 p) = r1 at HR NA
        generalize boundB (s.extract (p + 1) s.size) = r2 at HR BO
        have hsl : (p : Int) + 1 ≤ (s.size : Int) := by omega
        clear hc hne hres hb
        go_wp2_with fail
        refine (NA.out _).mono ?_
        rintro e w2 ⟨rfl, b2⟩
        have B2 := Lib.hid b2
        clear b2
        cases r1 with
        | false =>
          go_wp2_with fail
          go_ret
          exact ⟨by rw [HR.out]; rfl, B2.out⟩
        | true =>
          go_wp2_with fail
          refine (BO.out _).mono ?_
          rintro e w3 ⟨rfl, b3⟩
          have B3 := Lib.hid (B2.out.trans (b3.mono B2.out.size))
          clear b3
          go_wp2_with fail
          go_ret
          exact ⟨by rw [HR.out]; rfl, B3.out⟩
      · have hbi : (((s[p]).toNat : Int) == 44) = false := by
          rw [beq_eq_false_iff_ne]
          intro e
          exact hb (UInt8.toNat_inj.1 (by
            have : (44 : UInt8).toNat = 44 := rfl
            omega))
        have hn2 : (44 : UInt8) ∉ s.data.toList.take (p + 1) := by
          rw [take_snoc HK.out]
          intro h
          rcases List.mem_append.1 h with h | h
          · exact HN.out h
          · simp at h
            exact hb h.symm
        have HN2 := Lib.hid hn2
        clear hn2 hb
        go_wp2_with fail
        go_roundw
        case rel => exact ⟨p + 1, hpl, rfl, rfl, HN2.out⟩
        case measure => simp [intOf]; omega
    · have hno : (44 : UInt8) ∉ s.data.toList := by
        have := HN.out
        rw [List.take_of_length_le (by simp; omega)] at this
        exact this
      have hres : rangedB s = (s.toList == [] || boundB s) := by
        unfold rangedB
        rw [cut_no hno, bytes_list]
        simp
      have HR := Lib.hid hres
      have BO := Lib.hid fun w => rbound_any s w
      clear hres hno
      generalize boundB s = r2 at HR BO
      cases h1 : (s.toList == []) with
      | true =>
        rw [h1] at HR
        go_wp2_with fail
        go_ret
        exact ⟨by rw [HR.out]; rfl, Below.refl _ _⟩
      | false =>
        rw [h1] at HR
        go_wp2_with fail
        refine (BO.out _).mono ?_
        rintro e w3 ⟨rfl, b3⟩
        have B3 := Lib.hid b3
        clear b3
        go_wp2_with fail
        go_ret
        exact ⟨by rw [HR.out]; rfl, B3.out⟩

end Go.Proofs.YtkmhijkpbmcgbaaGreat
