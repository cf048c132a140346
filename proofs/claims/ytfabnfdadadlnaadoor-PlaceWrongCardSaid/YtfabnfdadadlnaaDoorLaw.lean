/-
  The law PlaceWrong: its walk.
-/
import Derived.Test.YtfabnfdadadlnaaDoorWrong
import Derived.Test.YtfabnfdadadlnaaDoorApp
namespace Go.Proofs.YtfabnfdadadlnaaDoor
set_option linter.all false
open Go.RowKit

theorem info5 : (Tryd.prog.info? 5).map (fun i => (i.zero, i.size, i.bytes)) = some (some (.int .u8 0), 1, 1) := by kernel_rfl

set_option maxRecDepth 100000 in
set_option maxHeartbeats 2000000 in
theorem lawWrong_walk (A : Option Addr) (n c : Nat) (l : List UInt8) (w : World) (ha : Bts w A n l) (hT : Lib.Utf8Tabs 0 1 w) :
    Calls Tryd.prog 3 #[.slice A n c] w fun e w' => e = .returned (.bool true) ∧ Below w.heap.size w w' := by
  by_cases hn : 1000 < n
  · go_enter Tryd.func3, Tryd.ntmps3
    go_wp2
    go_ret
    exact ⟨rfl, Below.refl _ _⟩
  · have hn3 : n ≤ 1000 := by omega
    clear hn
    have HA := Lib.hid ha
    have HT := Lib.hid hT
    clear ha hT
    obtain ⟨i0, hi0, hz0, hz1, hz2⟩ := info_parts info5
    have b0 : Below w.heap.size w (w.alloc (.cells #[] 5)) := (Below.refl _ w).alloc (Nat.le_refl _) _
    have hsa := (HA.out.below b0).src
    have hone : ∀ (q : List UInt8) (u : Value), u ∈ (q.map fun x => Value.int .u8 (x.toNat : Int)) → u.oneCell' = true := by
      intro q u hu
      obtain ⟨x, _, rfl⟩ := List.mem_map.1 hu
      rfl
    have hmk : (w.alloc (.cells #[] 5)).ownsRow w.heap.size 5 1 (.slice (some ⟨w.heap.size, 0, none⟩) 0 0) 0 [] := World.ownsRow_made w #[] 0 (Nat.le_refl _) (Nat.zero_le _) rfl
    have HSA := Lib.hid hsa
    have HONE := Lib.hid hone
    have HMK := Lib.hid hmk
    clear hsa hone hmk
    go_enter Tryd.func3, Tryd.ntmps3
    go_wp2_with (first
      | (at_builtin
         refine wpList_append_src _ rfl (.tmp 6) (.tmp 7) _ rfl w.heap.size 5 i0 _ 1 1 Tryd.underlying22 hi0 hz0 hz1 hz2 rfl (by omega) (.slice (some ⟨w.heap.size, 0, none⟩) 0 0) 0 [] rfl HMK.out A n c _ rfl HSA.out (HONE.out l) (by simp only [maxLen]; omega) (by omega) (by simp) ?_
         intro v1 w1 hown1 hg1 hat1
         have bw1 : Below w.heap.size w w1 := b0.grown hg1 (by simp) (fun k hk => (HMK.out.lt k hk).1)))
    have hxs : [] ++ l.map (fun x => Value.int .u8 (x.toNat : Int)) = l.map (fun x => Value.int .u8 (x.toNat : Int)) := rfl
    rw [hxs, Nat.zero_add] at hown1
    obtain ⟨C, cc, hv1, hcc, hbc⟩ := own_bts hown1
    rw [hv1]
    have HA1 := Lib.hid (HA.out.below bw1)
    have HC1 := Lib.hid hbc
    have HL1 := Lib.hid bw1
    have HT1 := Lib.hid (Tabs.below bw1 HT.out)
    have ht := tens_le l
    have hll := HA.out.1
    have htl : Pl.tens l ≤ 1000 := by omega
    clear hown1 hg1 hat1 bw1 b0 hxs hv1 hbc ht hll
    refine (wrong_any C n cc l w1 HC1.out hn3 hcc HT1.out).mono ?_
    rintro e w2 ⟨rfl, b2⟩
    have HA2 := Lib.hid (HA1.out.below b2)
    have HL2 := Lib.hid (HL1.out.trans (b2.mono HL1.out.size))
    clear b2
    go_wp2_with fail
    refine (refwrong_any A n c l w2 HA2.out hn3).mono ?_
    rintro e w3 ⟨rfl, rfl⟩
    go_wp2_with fail
    refine (lines_any A n c l w2 HA2.out hn3).mono ?_
    rintro e w3 ⟨rfl, b3⟩
    have HA3 := Lib.hid (HA2.out.below b3)
    have HL3 := Lib.hid (HL2.out.trans (b3.mono HL2.out.size))
    clear b3
    go_wp2_with fail
    refine (reflines_any A n c l w3 HA3.out hn3).mono ?_
    rintro e w4 ⟨rfl, rfl⟩
    go_wp2_with fail
    refine (awake_any w3).mono ?_
    rintro e w4 ⟨rfl, b4⟩
    have HL4 := Lib.hid (HL3.out.trans (b4.mono HL3.out.size))
    clear b4
    go_wp2_with fail
    go_ret
    exact ⟨rfl, HL4.out⟩

end Go.Proofs.YtfabnfdadadlnaaDoor
