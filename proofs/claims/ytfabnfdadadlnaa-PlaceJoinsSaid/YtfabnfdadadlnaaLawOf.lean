/-
  The law PlaceOf: its walk.
-/
import Derived.Test.YtfabnfdadadlnaaLines
namespace Go.Proofs.Ytfabnfdadadlnaa
set_option linter.all false
open Go.RowKit

theorem plc_bound (l : List UInt8) (a : Int) : (plc l a).1 ≤ l.length + 1 ∧ (plc l a).2 ≤ l.length + 1 := by
  unfold plc
  split
  · exact ⟨Nat.zero_le _, Nat.zero_le _⟩
  · exact Pl.ofB_bound l _

set_option maxRecDepth 100000 in
set_option maxHeartbeats 1000000 in
theorem lawOf_walk (A : Option Addr) (n c : Nat) (l : List UInt8) (a : Int) (w : World) (hb : Bts w A n l) :
    Calls Try.prog 3 #[.slice A n c, .int .i64 a] w fun e w' => e = .returned (.bool true) ∧ Below w.heap.size w w' := by
  by_cases hn : 1000 < n
  · go_enter Try.func3, Try.ntmps3
    go_wp2
    go_ret
    exact ⟨rfl, Below.refl _ _⟩
  · have hn' : n ≤ 1000 := by omega
    have HB := Lib.hid hb
    clear hb
    go_enter Try.func3, Try.ntmps3
    go_wp2_with fail
    have h1 := refof_any A n c l a w HB.out hn'
    refine h1.mono ?_
    clear h1
    rintro e w1 ⟨rfl, rfl⟩
    go_wp2_with fail
    have h2 := of_any A n c l a _ HB.out hn'
    refine h2.mono ?_
    clear h2
    rintro e w1 ⟨rfl, b1⟩
    go_wp2_with fail
    have h3 := awake_any w1
    refine h3.mono ?_
    clear h3
    rintro e w2 ⟨rfl, b2⟩
    go_wp2_with fail
    go_ret
    exact ⟨rfl, b1.trans (b2.mono b1.size)⟩

end Go.Proofs.Ytfabnfdadadlnaa
