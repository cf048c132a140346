/-
  The questions on texts.
-/
import Derived.Test.YtkmhijkpbmcgbaaGreatNamed
namespace Go.Proofs.YtkmhijkpbmcgbaaGreat
set_option linter.all false
open Go.RowKit Go.Shelf

def words1 : List (List UInt8) := [[98, 114, 101, 97, 107], [99, 111, 110, 116, 105, 110, 117, 101], [101, 108, 115, 101], [102, 111, 114], [102, 117, 110, 99], [105, 102], [105, 109, 112, 111, 114, 116], [105, 110, 116, 101, 114, 102, 97, 99, 101], [112, 97, 99, 107, 97, 103, 101], [114, 97, 110, 103, 101], [114, 101, 116, 117, 114, 110], [115, 116, 114, 117, 99, 116], [116, 121, 112, 101], [118, 97, 114]]
def words2 : List (List UInt8) := [[99, 97, 115, 101], [99, 104, 97, 110], [99, 111, 110, 115, 116], [100, 101, 102, 97, 117, 108, 116], [100, 101, 102, 101, 114], [102, 97, 108, 108, 116, 104, 114, 111, 117, 103, 104], [103, 111], [103, 111, 116, 111], [109, 97, 112], [115, 101, 108, 101, 99, 116], [115, 119, 105, 116, 99, 104]]
/-- token.Word. -/
def wordK (l : List UInt8) : Int := if words1.contains l then 1 else if words2.contains l then 2 else 0

set_option maxRecDepth 100000 in
set_option maxHeartbeats 2000000 in
theorem word_any (s : ByteArray) (w : World) : Calls Tryz.prog 91 #[.string s] w fun e w' => e = .returned (.int .i64 (wordK s.toList)) ∧ w' = w := by
  cases h0 : (s.toList == [98, 114, 101, 97, 107]) with
  | true =>
    have he : s.toList = [98, 114, 101, 97, 107] := by simpa using h0
    clear h0
    have h0 : (s.toList == [98, 114, 101, 97, 107]) = true := by rw [he]; rfl
    have h1 : (s.toList == [99, 111, 110, 116, 105, 110, 117, 101]) = false := by rw [he]; rfl
    have h2 : (s.toList == [101, 108, 115, 101]) = false := by rw [he]; rfl
    have h3 : (s.toList == [102, 111, 114]) = false := by rw [he]; rfl
    have h4 : (s.toList == [102, 117, 110, 99]) = false := by rw [he]; rfl
    have h5 : (s.toList == [105, 102]) = false := by rw [he]; rfl
    have h6 : (s.toList == [105, 109, 112, 111, 114, 116]) = false := by rw [he]; rfl
    have h7 : (s.toList == [105, 110, 116, 101, 114, 102, 97, 99, 101]) = false := by rw [he]; rfl
    have h8 : (s.toList == [112, 97, 99, 107, 97, 103, 101]) = false := by rw [he]; rfl
    have h9 : (s.toList == [114, 97, 110, 103, 101]) = false := by rw [he]; rfl
    have h10 : (s.toList == [114, 101, 116, 117, 114, 110]) = false := by rw [he]; rfl
    have h11 : (s.toList == [115, 116, 114, 117, 99, 116]) = false := by rw [he]; rfl
    have h12 : (s.toList == [116, 121, 112, 101]) = false := by rw [he]; rfl
    have h13 : (s.toList == [118, 97, 114]) = false := by rw [he]; rfl
    have h14 : (s.toList == [99, 97, 115, 101]) = false := by rw [he]; rfl
    have h15 : (s.toList == [99, 104, 97, 110]) = false := by rw [he]; rfl
    have h16 : (s.toList == [99, 111, 110, 115, 116]) = false := by rw [he]; rfl
    have h17 : (s.toList == [100, 101, 102, 97, 117, 108, 116]) = false := by rw [he]; rfl
    have h18 : (s.toList == [100, 101, 102, 101, 114]) = false := by rw [he]; rfl
    have h19 : (s.toList == [102, 97, 108, 108, 116, 104, 114, 111, 117, 103, 104]) = false := by rw [he]; rfl
    have h20 : (s.toList == [103, 111]) = false := by rw [he]; rfl
    have h21 : (s.toList == [103, 111, 116, 111]) = false := by rw [he]; rfl
    have h22 : (s.toList == [109, 97, 112]) = false := by rw [he]; rfl
    have h23 : (s.toList == [115, 101, 108, 101, 99, 116]) = false := by rw [he]; rfl
    have h24 : (s.toList == [115, 119, 105, 116, 99, 104]) = false := by rw [he]; rfl
    have hk : wordK s.toList = 1 := by rw [he]; rfl
    rw [hk]
    clear he hk
    go_enter Tryz.func91, Tryz.ntmps91
    go_wp2_with fail
    go_ret
    exact ⟨rfl, rfl⟩
  | false =>
  cases h1 : (s.toList == [99, 111, 110, 116, 105, 110, 117, 101]) with
  | true =>
    have he : s.toList = [99, 111, 110, 116, 105, 110, 117, 101] := by simpa using h1
    clear h1
    have h0 : (s.toList == [98, 114, 101, 97, 107]) = false := by rw [he]; rfl
    have h1 : (s.toList == [99, 111, 110, 116, 105, 110, 117, 101]) = true := by rw [he]; rfl
    have h2 : (s.toList == [101, 108, 115, 101]) = false := by rw [he]; rfl
    have h3 : (s.toList == [102, 111, 114]) = false := by rw [he]; rfl
    have h4 : (s.toList == [102, 117, 110, 99]) = false := by rw [he]; rfl
    have h5 : (s.toList == [105, 102]) = false := by rw [he]; rfl
    have h6 : (s.toList == [105, 109, 112, 111, 114, 116]) = false := by rw [he]; rfl
    have h7 : (s.toList == [105, 110, 116, 101, 114, 102, 97, 99, 101]) = false := by rw [he]; rfl
    have h8 : (s.toList == [112, 97, 99, 107, 97, 103, 101]) = false := by rw [he]; rfl
    have h9 : (s.toList == [114, 97, 110, 103, 101]) = false := by rw [he]; rfl
    have h10 : (s.toList == [114, 101, 116, 117, 114, 110]) = false := by rw [he]; rfl
    have h11 : (s.toList == [115, 116, 114, 117, 99, 116]) = false := by rw [he]; rfl
    have h12 : (s.toList == [116, 121, 112, 101]) = false := by rw [he]; rfl
    have h13 : (s.toList == [118, 97, 114]) = false := by rw [he]; rfl
    have h14 : (s.toList == [99, 97, 115, 101]) = false := by rw [he]; rfl
    have h15 : (s.toList == [99, 104, 97, 110]) = false := by rw [he]; rfl
    have h16 : (s.toList == [99, 111, 110, 115, 116]) = false := by rw [he]; rfl
    have h17 : (s.toList == [100, 101, 102, 97, 117, 108, 116]) = false := by rw [he]; rfl
    have h18 : (s.toList == [100, 101, 102, 101, 114]) = false := by rw [he]; rfl
    have h19 : (s.toList == [102, 97, 108, 108, 116, 104, 114, 111, 117, 103, 104]) = false := by rw [he]; rfl
    have h20 : (s.toList == [103, 111]) = false := by rw [he]; rfl
    have h21 : (s.toList == [103, 111, 116, 111]) = false := by rw [he]; rfl
    have h22 : (s.toList == [109, 97, 112]) = false := by rw [he]; rfl
    have h23 : (s.toList == [115, 101, 108, 101, 99, 116]) = false := by rw [he]; rfl
    have h24 : (s.toList == [115, 119, 105, 116, 99, 104]) = false := by rw [he]; rfl
    have hk : wordK s.toList = 1 := by rw [he]; rfl
    rw [hk]
    clear he hk
    go_enter Tryz.func91, Tryz.ntmps91
    go_wp2_with fail
    go_ret
    exact ⟨rfl, rfl⟩
  | false =>
  cases h2 : (s.toList == [101, 108, 115, 101]) with
  | true =>
    have he : s.toList = [101, 108, 115, 101] := by simpa using h2
    clear h2
    have h0 : (s.toList == [98, 114, 101, 97, 107]) = false := by rw [he]; rfl
    have h1 : (s.toList == [99, 111, 110, 116, 105, 110, 117, 101]) = false := by rw [he]; rfl
    have h2 : (s.toList == [101, 108, 115, 101]) = true := by rw [he]; rfl
    have h3 : (s.toList == [102, 111, 114]) = false := by rw [he]; rfl
    have h4 : (s.toList == [102, 117, 110, 99]) = false := by rw [he]; rfl
    have h5 : (s.toList == [105, 102]) = false := by rw [he]; rfl
    have h6 : (s.toList == [105, 109, 112, 111, 114, 116]) = false := by rw [he]; rfl
    have h7 : (s.toList == [105, 110, 116, 101, 114, 102, 97, 99, 101]) = false := by rw [he]; rfl
    have h8 : (s.toList == [112, 97, 99, 107, 97, 103, 101]) = false := by rw [he]; rfl
    have h9 : (s.toList == [114, 97, 110, 103, 101]) = false := by rw [he]; rfl
    have h10 : (s.toList == [114, 101, 116, 117, 114, 110]) = false := by rw [he]; rfl
    have h11 : (s.toList == [115, 116, 114, 117, 99, 116]) = false := by rw [he]; rfl
    have h12 : (s.toList == [116, 121, 112, 101]) = false := by rw [he]; rfl
    have h13 : (s.toList == [118, 97, 114]) = false := by rw [he]; rfl
    have h14 : (s.toList == [99, 97, 115, 101]) = false := by rw [he]; rfl
    have h15 : (s.toList == [99, 104, 97, 110]) = false := by rw [he]; rfl
    have h16 : (s.toList == [99, 111, 110, 115, 116]) = false := by rw [he]; rfl
    have h17 : (s.toList == [100, 101, 102, 97, 117, 108, 116]) = false := by rw [he]; rfl
    have h18 : (s.toList == [100, 101, 102, 101, 114]) = false := by rw [he]; rfl
    have h19 : (s.toList == [102, 97, 108, 108, 116, 104, 114, 111, 117, 103, 104]) = false := by rw [he]; rfl
    have h20 : (s.toList == [103, 111]) = false := by rw [he]; rfl
    have h21 : (s.toList == [103, 111, 116, 111]) = false := by rw [he]; rfl
    have h22 : (s.toList == [109, 97, 112]) = false := by rw [he]; rfl
    have h23 : (s.toList == [115, 101, 108, 101, 99, 116]) = false := by rw [he]; rfl
    have h24 : (s.toList == [115, 119, 105, 116, 99, 104]) = false := by rw [he]; rfl
    have hk : wordK s.toList = 1 := by rw [he]; rfl
    rw [hk]
    clear he hk
    go_enter Tryz.func91, Tryz.ntmps91
    go_wp2_with fail
    go_ret
    exact ⟨rfl, rfl⟩
  | false =>
  cases h3 : (s.toList == [102, 111, 114]) with
  | true =>
    have he : s.toList = [102, 111, 114] := by simpa using h3
    clear h3
    have h0 : (s.toList == [98, 114, 101, 97, 107]) = false := by rw [he]; rfl
    have h1 : (s.toList == [99, 111, 110, 116, 105, 110, 117, 101]) = false := by rw [he]; rfl
    have h2 : (s.toList == [101, 108, 115, 101]) = false := by rw [he]; rfl
    have h3 : (s.toList == [102, 111, 114]) = true := by rw [he]; rfl
    have h4 : (s.toList == [102, 117, 110, 99]) = false := by rw [he]; rfl
    have h5 : (s.toList == [105, 102]) = false := by rw [he]; rfl
    have h6 : (s.toList == [105, 109, 112, 111, 114, 116]) = false := by rw [he]; rfl
    have h7 : (s.toList == [105, 110, 116, 101, 114, 102, 97, 99, 101]) = false := by rw [he]; rfl
    have h8 : (s.toList == [112, 97, 99, 107, 97, 103, 101]) = false := by rw [he]; rfl
    have h9 : (s.toList == [114, 97, 110, 103, 101]) = false := by rw [he]; rfl
    have h10 : (s.toList == [114, 101, 116, 117, 114, 110]) = false := by rw [he]; rfl
    have h11 : (s.toList == [115, 116, 114, 117, 99, 116]) = false := by rw [he]; rfl
    have h12 : (s.toList == [116, 121, 112, 101]) = false := by rw [he]; rfl
    have h13 : (s.toList == [118, 97, 114]) = false := by rw [he]; rfl
    have h14 : (s.toList == [99, 97, 115, 101]) = false := by rw [he]; rfl
    have h15 : (s.toList == [99, 104, 97, 110]) = false := by rw [he]; rfl
    have h16 : (s.toList == [99, 111, 110, 115, 116]) = false := by rw [he]; rfl
    have h17 : (s.toList == [100, 101, 102, 97, 117, 108, 116]) = false := by rw [he]; rfl
    have h18 : (s.toList == [100, 101, 102, 101, 114]) = false := by rw [he]; rfl
    have h19 : (s.toList == [102, 97, 108, 108, 116, 104, 114, 111, 117, 103, 104]) = false := by rw [he]; rfl
    have h20 : (s.toList == [103, 111]) = false := by rw [he]; rfl
    have h21 : (s.toList == [103, 111, 116, 111]) = false := by rw [he]; rfl
    have h22 : (s.toList == [109, 97, 112]) = false := by rw [he]; rfl
    have h23 : (s.toList == [115, 101, 108, 101, 99, 116]) = false := by rw [he]; rfl
    have h24 : (s.toList == [115, 119, 105, 116, 99, 104]) = false := by rw [he]; rfl
    have hk : wordK s.toList = 1 := by rw [he]; rfl
    rw [hk]
    clear he hk
    go_enter Tryz.func91, Tryz.ntmps91
    go_wp2_with fail
    go_ret
    exact ⟨rfl, rfl⟩
  | false =>
  cases h4 : (s.toList == [102, 117, 110, 99]) with
  | true =>
    have he : s.toList = [102, 117, 110, 99] := by simpa using h4
    clear h4
    have h0 : (s.toList == [98, 114, 101, 97, 107]) = false := by rw [he]; rfl
    have h1 : (s.toList == [99, 111, 110, 116, 105, 110, 117, 101]) = false := by rw [he]; rfl
    have h2 : (s.toList == [101, 108, 115, 101]) = false := by rw [he]; rfl
    have h3 : (s.toList == [102, 111, 114]) = false := by rw [he]; rfl
    have h4 : (s.toList == [102, 117, 110, 99]) = true := by rw [he]; rfl
    have h5 : (s.toList == [105, 102]) = false := by rw [he]; rfl
    have h6 : (s.toList == [105, 109, 112, 111, 114, 116]) = false := by rw [he]; rfl
    have h7 : (s.toList == [105, 110, 116, 101, 114, 102, 97, 99, 101]) = false := by rw [he]; rfl
    have h8 : (s.toList == [112, 97, 99, 107, 97, 103, 101]) = false := by rw [he]; rfl
    have h9 : (s.toList == [114, 97, 110, 103, 101]) = false := by rw [he]; rfl
    have h10 : (s.toList == [114, 101, 116, 117, 114, 110]) = false := by rw [he]; rfl
    have h11 : (s.toList == [115, 116, 114, 117, 99, 116]) = false := by rw [he]; rfl
    have h12 : (s.toList == [116, 121, 112, 101]) = false := by rw [he]; rfl
    have h13 : (s.toList == [118, 97, 114]) = false := by rw [he]; rfl
    have h14 : (s.toList == [99, 97, 115, 101]) = false := by rw [he]; rfl
    have h15 : (s.toList == [99, 104, 97, 110]) = false := by rw [he]; rfl
    have h16 : (s.toList == [99, 111, 110, 115, 116]) = false := by rw [he]; rfl
    have h17 : (s.toList == [100, 101, 102, 97, 117, 108, 116]) = false := by rw [he]; rfl
    have h18 : (s.toList == [100, 101, 102, 101, 114]) = false := by rw [he]; rfl
    have h19 : (s.toList == [102, 97, 108, 108, 116, 104, 114, 111, 117, 103, 104]) = false := by rw [he]; rfl
    have h20 : (s.toList == [103, 111]) = false := by rw [he]; rfl
    have h21 : (s.toList == [103, 111, 116, 111]) = false := by rw [he]; rfl
    have h22 : (s.toList == [109, 97, 112]) = false := by rw [he]; rfl
    have h23 : (s.toList == [115, 101, 108, 101, 99, 116]) = false := by rw [he]; rfl
    have h24 : (s.toList == [115, 119, 105, 116, 99, 104]) = false := by rw [he]; rfl
    have hk : wordK s.toList = 1 := by rw [he]; rfl
    rw [hk]
    clear he hk
    go_enter Tryz.func91, Tryz.ntmps91
    go_wp2_with fail
    go_ret
    exact ⟨rfl, rfl⟩
  | false =>
  cases h5 : (s.toList == [105, 102]) with
  | true =>
    have he : s.toList = [105, 102] := by simpa using h5
    clear h5
    have h0 : (s.toList == [98, 114, 101, 97, 107]) = false := by rw [he]; rfl
    have h1 : (s.toList == [99, 111, 110, 116, 105, 110, 117, 101]) = false := by rw [he]; rfl
    have h2 : (s.toList == [101, 108, 115, 101]) = false := by rw [he]; rfl
    have h3 : (s.toList == [102, 111, 114]) = false := by rw [he]; rfl
    have h4 : (s.toList == [102, 117, 110, 99]) = false := by rw [he]; rfl
    have h5 : (s.toList == [105, 102]) = true := by rw [he]; rfl
    have h6 : (s.toList == [105, 109, 112, 111, 114, 116]) = false := by rw [he]; rfl
    have h7 : (s.toList == [105, 110, 116, 101, 114, 102, 97, 99, 101]) = false := by rw [he]; rfl
    have h8 : (s.toList == [112, 97, 99, 107, 97, 103, 101]) = false := by rw [he]; rfl
    have h9 : (s.toList == [114, 97, 110, 103, 101]) = false := by rw [he]; rfl
    have h10 : (s.toList == [114, 101, 116, 117, 114, 110]) = false := by rw [he]; rfl
    have h11 : (s.toList == [115, 116, 114, 117, 99, 116]) = false := by rw [he]; rfl
    have h12 : (s.toList == [116, 121, 112, 101]) = false := by rw [he]; rfl
    have h13 : (s.toList == [118, 97, 114]) = false := by rw [he]; rfl
    have h14 : (s.toList == [99, 97, 115, 101]) = false := by rw [he]; rfl
    have h15 : (s.toList == [99, 104, 97, 110]) = false := by rw [he]; rfl
    have h16 : (s.toList == [99, 111, 110, 115, 116]) = false := by rw [he]; rfl
    have h17 : (s.toList == [100, 101, 102, 97, 117, 108, 116]) = false := by rw [he]; rfl
    have h18 : (s.toList == [100, 101, 102, 101, 114]) = false := by rw [he]; rfl
    have h19 : (s.toList == [102, 97, 108, 108, 116, 104, 114, 111, 117, 103, 104]) = false := by rw [he]; rfl
    have h20 : (s.toList == [103, 111]) = false := by rw [he]; rfl
    have h21 : (s.toList == [103, 111, 116, 111]) = false := by rw [he]; rfl
    have h22 : (s.toList == [109, 97, 112]) = false := by rw [he]; rfl
    have h23 : (s.toList == [115, 101, 108, 101, 99, 116]) = false := by rw [he]; rfl
    have h24 : (s.toList == [115, 119, 105, 116, 99, 104]) = false := by rw [he]; rfl
    have hk : wordK s.toList = 1 := by rw [he]; rfl
    rw [hk]
    clear he hk
    go_enter Tryz.func91, Tryz.ntmps91
    go_wp2_with fail
    go_ret
    exact ⟨rfl, rfl⟩
  | false =>
  cases h6 : (s.toList == [105, 109, 112, 111, 114, 116]) with
  | true =>
    have he : s.toList = [105, 109, 112, 111, 114, 116] := by simpa using h6
    clear h6
    have h0 : (s.toList == [98, 114, 101, 97, 107]) = false := by rw [he]; rfl
    have h1 : (s.toList == [99, 111, 110, 116, 105, 110, 117, 101]) = false := by rw [he]; rfl
    have h2 : (s.toList == [101, 108, 115, 101]) = false := by rw [he]; rfl
    have h3 : (s.toList == [102, 111, 114]) = false := by rw [he]; rfl
    have h4 : (s.toList == [102, 117, 110, 99]) = false := by rw [he]; rfl
    have h5 : (s.toList == [105, 102]) = false := by rw [he]; rfl
    have h6 : (s.toList == [105, 109, 112, 111, 114, 116]) = true := by rw [he]; rfl
    have h7 : (s.toList == [105, 110, 116, 101, 114, 102, 97, 99, 101]) = false := by rw [he]; rfl
    have h8 : (s.toList == [112, 97, 99, 107, 97, 103, 101]) = false := by rw [he]; rfl
    have h9 : (s.toList == [114, 97, 110, 103, 101]) = false := by rw [he]; rfl
    have h10 : (s.toList == [114, 101, 116, 117, 114, 110]) = false := by rw [he]; rfl
    have h11 : (s.toList == [115, 116, 114, 117, 99, 116]) = false := by rw [he]; rfl
    have h12 : (s.toList == [116, 121, 112, 101]) = false := by rw [he]; rfl
    have h13 : (s.toList == [118, 97, 114]) = false := by rw [he]; rfl
    have h14 : (s.toList == [99, 97, 115, 101]) = false := by rw [he]; rfl
    have h15 : (s.toList == [99, 104, 97, 110]) = false := by rw [he]; rfl
    have h16 : (s.toList == [99, 111, 110, 115, 116]) = false := by rw [he]; rfl
    have h17 : (s.toList == [100, 101, 102, 97, 117, 108, 116]) = false := by rw [he]; rfl
    have h18 : (s.toList == [100, 101, 102, 101, 114]) = false := by rw [he]; rfl
    have h19 : (s.toList == [102, 97, 108, 108, 116, 104, 114, 111, 117, 103, 104]) = false := by rw [he]; rfl
    have h20 : (s.toList == [103, 111]) = false := by rw [he]; rfl
    have h21 : (s.toList == [103, 111, 116, 111]) = false := by rw [he]; rfl
    have h22 : (s.toList == [109, 97, 112]) = false := by rw [he]; rfl
    have h23 : (s.toList == [115, 101, 108, 101, 99, 116]) = false := by rw [he]; rfl
    have h24 : (s.toList == [115, 119, 105, 116, 99, 104]) = false := by rw [he]; rfl
    have hk : wordK s.toList = 1 := by rw [he]; rfl
    rw [hk]
    clear he hk
    go_enter Tryz.func91, Tryz.ntmps91
    go_wp2_with fail
    go_ret
    exact ⟨rfl, rfl⟩
  | false =>
  cases h7 : (s.toList == [105, 110, 116, 101, 114, 102, 97, 99, 101]) with
  | true =>
    have he : s.toList = [105, 110, 116, 101, 114, 102, 97, 99, 101] := by simpa using h7
    clear h7
    have h0 : (s.toList == [98, 114, 101, 97, 107]) = false := by rw [he]; rfl
    have h1 : (s.toList == [99, 111, 110, 116, 105, 110, 117, 101]) = false := by rw [he]; rfl
    have h2 : (s.toList == [101, 108, 115, 101]) = false := by rw [he]; rfl
    have h3 : (s.toList == [102, 111, 114]) = false := by rw [he]; rfl
    have h4 : (s.toList == [102, 117, 110, 99]) = false := by rw [he]; rfl
    have h5 : (s.toList == [105, 102]) = false := by rw [he]; rfl
    have h6 : (s.toList == [105, 109, 112, 111, 114, 116]) = false := by rw [he]; rfl
    have h7 : (s.toList == [105, 110, 116, 101, 114, 102, 97, 99, 101]) = true := by rw [he]; rfl
    have h8 : (s.toList == [112, 97, 99, 107, 97, 103, 101]) = false := by rw [he]; rfl
    have h9 : (s.toList == [114, 97, 110, 103, 101]) = false := by rw [he]; rfl
    have h10 : (s.toList == [114, 101, 116, 117, 114, 110]) = false := by rw [he]; rfl
    have h11 : (s.toList == [115, 116, 114, 117, 99, 116]) = false := by rw [he]; rfl
    have h12 : (s.toList == [116, 121, 112, 101]) = false := by rw [he]; rfl
    have h13 : (s.toList == [118, 97, 114]) = false := by rw [he]; rfl
    have h14 : (s.toList == [99, 97, 115, 101]) = false := by rw [he]; rfl
    have h15 : (s.toList == [99, 104, 97, 110]) = false := by rw [he]; rfl
    have h16 : (s.toList == [99, 111, 110, 115, 116]) = false := by rw [he]; rfl
    have h17 : (s.toList == [100, 101, 102, 97, 117, 108, 116]) = false := by rw [he]; rfl
    have h18 : (s.toList == [100, 101, 102, 101, 114]) = false := by rw [he]; rfl
    have h19 : (s.toList == [102, 97, 108, 108, 116, 104, 114, 111, 117, 103, 104]) = false := by rw [he]; rfl
    have h20 : (s.toList == [103, 111]) = false := by rw [he]; rfl
    have h21 : (s.toList == [103, 111, 116, 111]) = false := by rw [he]; rfl
    have h22 : (s.toList == [109, 97, 112]) = false := by rw [he]; rfl
    have h23 : (s.toList == [115, 101, 108, 101, 99, 116]) = false := by rw [he]; rfl
    have h24 : (s.toList == [115, 119, 105, 116, 99, 104]) = false := by rw [he]; rfl
    have hk : wordK s.toList = 1 := by rw [he]; rfl
    rw [hk]
    clear he hk
    go_enter Tryz.func91, Tryz.ntmps91
    go_wp2_with fail
    go_ret
    exact ⟨rfl, rfl⟩
  | false =>
  cases h8 : (s.toList == [112, 97, 99, 107, 97, 103, 101]) with
  | true =>
    have he : s.toList = [112, 97, 99, 107, 97, 103, 101] := by simpa using h8
    clear h8
    have h0 : (s.toList == [98, 114, 101, 97, 107]) = false := by rw [he]; rfl
    have h1 : (s.toList == [99, 111, 110, 116, 105, 110, 117, 101]) = false := by rw [he]; rfl
    have h2 : (s.toList == [101, 108, 115, 101]) = false := by rw [he]; rfl
    have h3 : (s.toList == [102, 111, 114]) = false := by rw [he]; rfl
    have h4 : (s.toList == [102, 117, 110, 99]) = false := by rw [he]; rfl
    have h5 : (s.toList == [105, 102]) = false := by rw [he]; rfl
    have h6 : (s.toList == [105, 109, 112, 111, 114, 116]) = false := by rw [he]; rfl
    have h7 : (s.toList == [105, 110, 116, 101, 114, 102, 97, 99, 101]) = false := by rw [he]; rfl
    have h8 : (s.toList == [112, 97, 99, 107, 97, 103, 101]) = true := by rw [he]; rfl
    have h9 : (s.toList == [114, 97, 110, 103, 101]) = false := by rw [he]; rfl
    have h10 : (s.toList == [114, 101, 116, 117, 114, 110]) = false := by rw [he]; rfl
    have h11 : (s.toList == [115, 116, 114, 117, 99, 116]) = false := by rw [he]; rfl
    have h12 : (s.toList == [116, 121, 112, 101]) = false := by rw [he]; rfl
    have h13 : (s.toList == [118, 97, 114]) = false := by rw [he]; rfl
    have h14 : (s.toList == [99, 97, 115, 101]) = false := by rw [he]; rfl
    have h15 : (s.toList == [99, 104, 97, 110]) = false := by rw [he]; rfl
    have h16 : (s.toList == [99, 111, 110, 115, 116]) = false := by rw [he]; rfl
    have h17 : (s.toList == [100, 101, 102, 97, 117, 108, 116]) = false := by rw [he]; rfl
    have h18 : (s.toList == [100, 101, 102, 101, 114]) = false := by rw [he]; rfl
    have h19 : (s.toList == [102, 97, 108, 108, 116, 104, 114, 111, 117, 103, 104]) = false := by rw [he]; rfl
    have h20 : (s.toList == [103, 111]) = false := by rw [he]; rfl
    have h21 : (s.toList == [103, 111, 116, 111]) = false := by rw [he]; rfl
    have h22 : (s.toList == [109, 97, 112]) = false := by rw [he]; rfl
    have h23 : (s.toList == [115, 101, 108, 101, 99, 116]) = false := by rw [he]; rfl
    have h24 : (s.toList == [115, 119, 105, 116, 99, 104]) = false := by rw [he]; rfl
    have hk : wordK s.toList = 1 := by rw [he]; rfl
    rw [hk]
    clear he hk
    go_enter Tryz.func91, Tryz.ntmps91
    go_wp2_with fail
    go_ret
    exact ⟨rfl, rfl⟩
  | false =>
  cases h9 : (s.toList == [114, 97, 110, 103, 101]) with
  | true =>
    have he : s.toList = [114, 97, 110, 103, 101] := by simpa using h9
    clear h9
    have h0 : (s.toList == [98, 114, 101, 97, 107]) = false := by rw [he]; rfl
    have h1 : (s.toList == [99, 111, 110, 116, 105, 110, 117, 101]) = false := by rw [he]; rfl
    have h2 : (s.toList == [101, 108, 115, 101]) = false := by rw [he]; rfl
    have h3 : (s.toList == [102, 111, 114]) = false := by rw [he]; rfl
    have h4 : (s.toList == [102, 117, 110, 99]) = false := by rw [he]; rfl
    have h5 : (s.toList == [105, 102]) = false := by rw [he]; rfl
    have h6 : (s.toList == [105, 109, 112, 111, 114, 116]) = false := by rw [he]; rfl
    have h7 : (s.toList == [105, 110, 116, 101, 114, 102, 97, 99, 101]) = false := by rw [he]; rfl
    have h8 : (s.toList == [112, 97, 99, 107, 97, 103, 101]) = false := by rw [he]; rfl
    have h9 : (s.toList == [114, 97, 110, 103, 101]) = true := by rw [he]; rfl
    have h10 : (s.toList == [114, 101, 116, 117, 114, 110]) = false := by rw [he]; rfl
    have h11 : (s.toList == [115, 116, 114, 117, 99, 116]) = false := by rw [he]; rfl
    have h12 : (s.toList == [116, 121, 112, 101]) = false := by rw [he]; rfl
    have h13 : (s.toList == [118, 97, 114]) = false := by rw [he]; rfl
    have h14 : (s.toList == [99, 97, 115, 101]) = false := by rw [he]; rfl
    have h15 : (s.toList == [99, 104, 97, 110]) = false := by rw [he]; rfl
    have h16 : (s.toList == [99, 111, 110, 115, 116]) = false := by rw [he]; rfl
    have h17 : (s.toList == [100, 101, 102, 97, 117, 108, 116]) = false := by rw [he]; rfl
    have h18 : (s.toList == [100, 101, 102, 101, 114]) = false := by rw [he]; rfl
    have h19 : (s.toList == [102, 97, 108, 108, 116, 104, 114, 111, 117, 103, 104]) = false := by rw [he]; rfl
    have h20 : (s.toList == [103, 111]) = false := by rw [he]; rfl
    have h21 : (s.toList == [103, 111, 116, 111]) = false := by rw [he]; rfl
    have h22 : (s.toList == [109, 97, 112]) = false := by rw [he]; rfl
    have h23 : (s.toList == [115, 101, 108, 101, 99, 116]) = false := by rw [he]; rfl
    have h24 : (s.toList == [115, 119, 105, 116, 99, 104]) = false := by rw [he]; rfl
    have hk : wordK s.toList = 1 := by rw [he]; rfl
    rw [hk]
    clear he hk
    go_enter Tryz.func91, Tryz.ntmps91
    go_wp2_with fail
    go_ret
    exact ⟨rfl, rfl⟩
  | false =>
  cases h10 : (s.toList == [114, 101, 116, 117, 114, 110]) with
  | true =>
    have he : s.toList = [114, 101, 116, 117, 114, 110] := by simpa using h10
    clear h10
    have h0 : (s.toList == [98, 114, 101, 97, 107]) = false := by rw [he]; rfl
    have h1 : (s.toList == [99, 111, 110, 116, 105, 110, 117, 101]) = false := by rw [he]; rfl
    have h2 : (s.toList == [101, 108, 115, 101]) = false := by rw [he]; rfl
    have h3 : (s.toList == [102, 111, 114]) = false := by rw [he]; rfl
    have h4 : (s.toList == [102, 117, 110, 99]) = false := by rw [he]; rfl
    have h5 : (s.toList == [105, 102]) = false := by rw [he]; rfl
    have h6 : (s.toList == [105, 109, 112, 111, 114, 116]) = false := by rw [he]; rfl
    have h7 : (s.toList == [105, 110, 116, 101, 114, 102, 97, 99, 101]) = false := by rw [he]; rfl
    have h8 : (s.toList == [112, 97, 99, 107, 97, 103, 101]) = false := by rw [he]; rfl
    have h9 : (s.toList == [114, 97, 110, 103, 101]) = false := by rw [he]; rfl
    have h10 : (s.toList == [114, 101, 116, 117, 114, 110]) = true := by rw [he]; rfl
    have h11 : (s.toList == [115, 116, 114, 117, 99, 116]) = false := by rw [he]; rfl
    have h12 : (s.toList == [116, 121, 112, 101]) = false := by rw [he]; rfl
    have h13 : (s.toList == [118, 97, 114]) = false := by rw [he]; rfl
    have h14 : (s.toList == [99, 97, 115, 101]) = false := by rw [he]; rfl
    have h15 : (s.toList == [99, 104, 97, 110]) = false := by rw [he]; rfl
    have h16 : (s.toList == [99, 111, 110, 115, 116]) = false := by rw [he]; rfl
    have h17 : (s.toList == [100, 101, 102, 97, 117, 108, 116]) = false := by rw [he]; rfl
    have h18 : (s.toList == [100, 101, 102, 101, 114]) = false := by rw [he]; rfl
    have h19 : (s.toList == [102, 97, 108, 108, 116, 104, 114, 111, 117, 103, 104]) = false := by rw [he]; rfl
    have h20 : (s.toList == [103, 111]) = false := by rw [he]; rfl
    have h21 : (s.toList == [103, 111, 116, 111]) = false := by rw [he]; rfl
    have h22 : (s.toList == [109, 97, 112]) = false := by rw [he]; rfl
    have h23 : (s.toList == [115, 101, 108, 101, 99, 116]) = false := by rw [he]; rfl
    have h24 : (s.toList == [115, 119, 105, 116, 99, 104]) = false := by rw [he]; rfl
    have hk : wordK s.toList = 1 := by rw [he]; rfl
    rw [hk]
    clear he hk
    go_enter Tryz.func91, Tryz.ntmps91
    go_wp2_with fail
    go_ret
    exact ⟨rfl, rfl⟩
  | false =>
  cases h11 : (s.toList == [115, 116, 114, 117, 99, 116]) with
  | true =>
    have he : s.toList = [115, 116, 114, 117, 99, 116] := by simpa using h11
    clear h11
    have h0 : (s.toList == [98, 114, 101, 97, 107]) = false := by rw [he]; rfl
    have h1 : (s.toList == [99, 111, 110, 116, 105, 110, 117, 101]) = false := by rw [he]; rfl
    have h2 : (s.toList == [101, 108, 115, 101]) = false := by rw [he]; rfl
    have h3 : (s.toList == [102, 111, 114]) = false := by rw [he]; rfl
    have h4 : (s.toList == [102, 117, 110, 99]) = false := by rw [he]; rfl
    have h5 : (s.toList == [105, 102]) = false := by rw [he]; rfl
    have h6 : (s.toList == [105, 109, 112, 111, 114, 116]) = false := by rw [he]; rfl
    have h7 : (s.toList == [105, 110, 116, 101, 114, 102, 97, 99, 101]) = false := by rw [he]; rfl
    have h8 : (s.toList == [112, 97, 99, 107, 97, 103, 101]) = false := by rw [he]; rfl
    have h9 : (s.toList == [114, 97, 110, 103, 101]) = false := by rw [he]; rfl
    have h10 : (s.toList == [114, 101, 116, 117, 114, 110]) = false := by rw [he]; rfl
    have h11 : (s.toList == [115, 116, 114, 117, 99, 116]) = true := by rw [he]; rfl
    have h12 : (s.toList == [116, 121, 112, 101]) = false := by rw [he]; rfl
    have h13 : (s.toList == [118, 97, 114]) = false := by rw [he]; rfl
    have h14 : (s.toList == [99, 97, 115, 101]) = false := by rw [he]; rfl
    have h15 : (s.toList == [99, 104, 97, 110]) = false := by rw [he]; rfl
    have h16 : (s.toList == [99, 111, 110, 115, 116]) = false := by rw [he]; rfl
    have h17 : (s.toList == [100, 101, 102, 97, 117, 108, 116]) = false := by rw [he]; rfl
    have h18 : (s.toList == [100, 101, 102, 101, 114]) = false := by rw [he]; rfl
    have h19 : (s.toList == [102, 97, 108, 108, 116, 104, 114, 111, 117, 103, 104]) = false := by rw [he]; rfl
    have h20 : (s.toList == [103, 111]) = false := by rw [he]; rfl
    have h21 : (s.toList == [103, 111, 116, 111]) = false := by rw [he]; rfl
    have h22 : (s.toList == [109, 97, 112]) = false := by rw [he]; rfl
    have h23 : (s.toList == [115, 101, 108, 101, 99, 116]) = false := by rw [he]; rfl
    have h24 : (s.toList == [115, 119, 105, 116, 99, 104]) = false := by rw [he]; rfl
    have hk : wordK s.toList = 1 := by rw [he]; rfl
    rw [hk]
    clear he hk
    go_enter Tryz.func91, Tryz.ntmps91
    go_wp2_with fail
    go_ret
    exact ⟨rfl, rfl⟩
  | false =>
  cases h12 : (s.toList == [116, 121, 112, 101]) with
  | true =>
    have he : s.toList = [116, 121, 112, 101] := by simpa using h12
    clear h12
    have h0 : (s.toList == [98, 114, 101, 97, 107]) = false := by rw [he]; rfl
    have h1 : (s.toList == [99, 111, 110, 116, 105, 110, 117, 101]) = false := by rw [he]; rfl
    have h2 : (s.toList == [101, 108, 115, 101]) = false := by rw [he]; rfl
    have h3 : (s.toList == [102, 111, 114]) = false := by rw [he]; rfl
    have h4 : (s.toList == [102, 117, 110, 99]) = false := by rw [he]; rfl
    have h5 : (s.toList == [105, 102]) = false := by rw [he]; rfl
    have h6 : (s.toList == [105, 109, 112, 111, 114, 116]) = false := by rw [he]; rfl
    have h7 : (s.toList == [105, 110, 116, 101, 114, 102, 97, 99, 101]) = false := by rw [he]; rfl
    have h8 : (s.toList == [112, 97, 99, 107, 97, 103, 101]) = false := by rw [he]; rfl
    have h9 : (s.toList == [114, 97, 110, 103, 101]) = false := by rw [he]; rfl
    have h10 : (s.toList == [114, 101, 116, 117, 114, 110]) = false := by rw [he]; rfl
    have h11 : (s.toList == [115, 116, 114, 117, 99, 116]) = false := by rw [he]; rfl
    have h12 : (s.toList == [116, 121, 112, 101]) = true := by rw [he]; rfl
    have h13 : (s.toList == [118, 97, 114]) = false := by rw [he]; rfl
    have h14 : (s.toList == [99, 97, 115, 101]) = false := by rw [he]; rfl
    have h15 : (s.toList == [99, 104, 97, 110]) = false := by rw [he]; rfl
    have h16 : (s.toList == [99, 111, 110, 115, 116]) = false := by rw [he]; rfl
    have h17 : (s.toList == [100, 101, 102, 97, 117, 108, 116]) = false := by rw [he]; rfl
    have h18 : (s.toList == [100, 101, 102, 101, 114]) = false := by rw [he]; rfl
    have h19 : (s.toList == [102, 97, 108, 108, 116, 104, 114, 111, 117, 103, 104]) = false := by rw [he]; rfl
    have h20 : (s.toList == [103, 111]) = false := by rw [he]; rfl
    have h21 : (s.toList == [103, 111, 116, 111]) = false := by rw [he]; rfl
    have h22 : (s.toList == [109, 97, 112]) = false := by rw [he]; rfl
    have h23 : (s.toList == [115, 101, 108, 101, 99, 116]) = false := by rw [he]; rfl
    have h24 : (s.toList == [115, 119, 105, 116, 99, 104]) = false := by rw [he]; rfl
    have hk : wordK s.toList = 1 := by rw [he]; rfl
    rw [hk]
    clear he hk
    go_enter Tryz.func91, Tryz.ntmps91
    go_wp2_with fail
    go_ret
    exact ⟨rfl, rfl⟩
  | false =>
  cases h13 : (s.toList == [118, 97, 114]) with
  | true =>
    have he : s.toList = [118, 97, 114] := by simpa using h13
    clear h13
    have h0 : (s.toList == [98, 114, 101, 97, 107]) = false := by rw [he]; rfl
    have h1 : (s.toList == [99, 111, 110, 116, 105, 110, 117, 101]) = false := by rw [he]; rfl
    have h2 : (s.toList == [101, 108, 115, 101]) = false := by rw [he]; rfl
    have h3 : (s.toList == [102, 111, 114]) = false := by rw [he]; rfl
    have h4 : (s.toList == [102, 117, 110, 99]) = false := by rw [he]; rfl
    have h5 : (s.toList == [105, 102]) = false := by rw [he]; rfl
    have h6 : (s.toList == [105, 109, 112, 111, 114, 116]) = false := by rw [he]; rfl
    have h7 : (s.toList == [105, 110, 116, 101, 114, 102, 97, 99, 101]) = false := by rw [he]; rfl
    have h8 : (s.toList == [112, 97, 99, 107, 97, 103, 101]) = false := by rw [he]; rfl
    have h9 : (s.toList == [114, 97, 110, 103, 101]) = false := by rw [he]; rfl
    have h10 : (s.toList == [114, 101, 116, 117, 114, 110]) = false := by rw [he]; rfl
    have h11 : (s.toList == [115, 116, 114, 117, 99, 116]) = false := by rw [he]; rfl
    have h12 : (s.toList == [116, 121, 112, 101]) = false := by rw [he]; rfl
    have h13 : (s.toList == [118, 97, 114]) = true := by rw [he]; rfl
    have h14 : (s.toList == [99, 97, 115, 101]) = false := by rw [he]; rfl
    have h15 : (s.toList == [99, 104, 97, 110]) = false := by rw [he]; rfl
    have h16 : (s.toList == [99, 111, 110, 115, 116]) = false := by rw [he]; rfl
    have h17 : (s.toList == [100, 101, 102, 97, 117, 108, 116]) = false := by rw [he]; rfl
    have h18 : (s.toList == [100, 101, 102, 101, 114]) = false := by rw [he]; rfl
    have h19 : (s.toList == [102, 97, 108, 108, 116, 104, 114, 111, 117, 103, 104]) = false := by rw [he]; rfl
    have h20 : (s.toList == [103, 111]) = false := by rw [he]; rfl
    have h21 : (s.toList == [103, 111, 116, 111]) = false := by rw [he]; rfl
    have h22 : (s.toList == [109, 97, 112]) = false := by rw [he]; rfl
    have h23 : (s.toList == [115, 101, 108, 101, 99, 116]) = false := by rw [he]; rfl
    have h24 : (s.toList == [115, 119, 105, 116, 99, 104]) = false := by rw [he]; rfl
    have hk : wordK s.toList = 1 := by rw [he]; rfl
    rw [hk]
    clear he hk
    go_enter Tryz.func91, Tryz.ntmps91
    go_wp2_with fail
    go_ret
    exact ⟨rfl, rfl⟩
  | false =>
  cases h14 : (s.toList == [99, 97, 115, 101]) with
  | true =>
    have he : s.toList = [99, 97, 115, 101] := by simpa using h14
    clear h14
    have h0 : (s.toList == [98, 114, 101, 97, 107]) = false := by rw [he]; rfl
    have h1 : (s.toList == [99, 111, 110, 116, 105, 110, 117, 101]) = false := by rw [he]; rfl
    have h2 : (s.toList == [101, 108, 115, 101]) = false := by rw [he]; rfl
    have h3 : (s.toList == [102, 111, 114]) = false := by rw [he]; rfl
    have h4 : (s.toList == [102, 117, 110, 99]) = false := by rw [he]; rfl
    have h5 : (s.toList == [105, 102]) = false := by rw [he]; rfl
    have h6 : (s.toList == [105, 109, 112, 111, 114, 116]) = false := by rw [he]; rfl
    have h7 : (s.toList == [105, 110, 116, 101, 114, 102, 97, 99, 101]) = false := by rw [he]; rfl
    have h8 : (s.toList == [112, 97, 99, 107, 97, 103, 101]) = false := by rw [he]; rfl
    have h9 : (s.toList == [114, 97, 110, 103, 101]) = false := by rw [he]; rfl
    have h10 : (s.toList == [114, 101, 116, 117, 114, 110]) = false := by rw [he]; rfl
    have h11 : (s.toList == [115, 116, 114, 117, 99, 116]) = false := by rw [he]; rfl
    have h12 : (s.toList == [116, 121, 112, 101]) = false := by rw [he]; rfl
    have h13 : (s.toList == [118, 97, 114]) = false := by rw [he]; rfl
    have h14 : (s.toList == [99, 97, 115, 101]) = true := by rw [he]; rfl
    have h15 : (s.toList == [99, 104, 97, 110]) = false := by rw [he]; rfl
    have h16 : (s.toList == [99, 111, 110, 115, 116]) = false := by rw [he]; rfl
    have h17 : (s.toList == [100, 101, 102, 97, 117, 108, 116]) = false := by rw [he]; rfl
    have h18 : (s.toList == [100, 101, 102, 101, 114]) = false := by rw [he]; rfl
    have h19 : (s.toList == [102, 97, 108, 108, 116, 104, 114, 111, 117, 103, 104]) = false := by rw [he]; rfl
    have h20 : (s.toList == [103, 111]) = false := by rw [he]; rfl
    have h21 : (s.toList == [103, 111, 116, 111]) = false := by rw [he]; rfl
    have h22 : (s.toList == [109, 97, 112]) = false := by rw [he]; rfl
    have h23 : (s.toList == [115, 101, 108, 101, 99, 116]) = false := by rw [he]; rfl
    have h24 : (s.toList == [115, 119, 105, 116, 99, 104]) = false := by rw [he]; rfl
    have hk : wordK s.toList = 2 := by rw [he]; rfl
    rw [hk]
    clear he hk
    go_enter Tryz.func91, Tryz.ntmps91
    go_wp2_with fail
    go_ret
    exact ⟨rfl, rfl⟩
  | false =>
  cases h15 : (s.toList == [99, 104, 97, 110]) with
  | true =>
    have he : s.toList = [99, 104, 97, 110] := by simpa using h15
    clear h15
    have h0 : (s.toList == [98, 114, 101, 97, 107]) = false := by rw [he]; rfl
    have h1 : (s.toList == [99, 111, 110, 116, 105, 110, 117, 101]) = false := by rw [he]; rfl
    have h2 : (s.toList == [101, 108, 115, 101]) = false := by rw [he]; rfl
    have h3 : (s.toList == [102, 111, 114]) = false := by rw [he]; rfl
    have h4 : (s.toList == [102, 117, 110, 99]) = false := by rw [he]; rfl
    have h5 : (s.toList == [105, 102]) = false := by rw [he]; rfl
    have h6 : (s.toList == [105, 109, 112, 111, 114, 116]) = false := by rw [he]; rfl
    have h7 : (s.toList == [105, 110, 116, 101, 114, 102, 97, 99, 101]) = false := by rw [he]; rfl
    have h8 : (s.toList == [112, 97, 99, 107, 97, 103, 101]) = false := by rw [he]; rfl
    have h9 : (s.toList == [114, 97, 110, 103, 101]) = false := by rw [he]; rfl
    have h10 : (s.toList == [114, 101, 116, 117, 114, 110]) = false := by rw [he]; rfl
    have h11 : (s.toList == [115, 116, 114, 117, 99, 116]) = false := by rw [he]; rfl
    have h12 : (s.toList == [116, 121, 112, 101]) = false := by rw [he]; rfl
    have h13 : (s.toList == [118, 97, 114]) = false := by rw [he]; rfl
    have h14 : (s.toList == [99, 97, 115, 101]) = false := by rw [he]; rfl
    have h15 : (s.toList == [99, 104, 97, 110]) = true := by rw [he]; rfl
    have h16 : (s.toList == [99, 111, 110, 115, 116]) = false := by rw [he]; rfl
    have h17 : (s.toList == [100, 101, 102, 97, 117, 108, 116]) = false := by rw [he]; rfl
    have h18 : (s.toList == [100, 101, 102, 101, 114]) = false := by rw [he]; rfl
    have h19 : (s.toList == [102, 97, 108, 108, 116, 104, 114, 111, 117, 103, 104]) = false := by rw [he]; rfl
    have h20 : (s.toList == [103, 111]) = false := by rw [he]; rfl
    have h21 : (s.toList == [103, 111, 116, 111]) = false := by rw [he]; rfl
    have h22 : (s.toList == [109, 97, 112]) = false := by rw [he]; rfl
    have h23 : (s.toList == [115, 101, 108, 101, 99, 116]) = false := by rw [he]; rfl
    have h24 : (s.toList == [115, 119, 105, 116, 99, 104]) = false := by rw [he]; rfl
    have hk : wordK s.toList = 2 := by rw [he]; rfl
    rw [hk]
    clear he hk
    go_enter Tryz.func91, Tryz.ntmps91
    go_wp2_with fail
    go_ret
    exact ⟨rfl, rfl⟩
  | false =>
  cases h16 : (s.toList == [99, 111, 110, 115, 116]) with
  | true =>
    have he : s.toList = [99, 111, 110, 115, 116] := by simpa using h16
    clear h16
    have h0 : (s.toList == [98, 114, 101, 97, 107]) = false := by rw [he]; rfl
    have h1 : (s.toList == [99, 111, 110, 116, 105, 110, 117, 101]) = false := by rw [he]; rfl
    have h2 : (s.toList == [101, 108, 115, 101]) = false := by rw [he]; rfl
    have h3 : (s.toList == [102, 111, 114]) = false := by rw [he]; rfl
    have h4 : (s.toList == [102, 117, 110, 99]) = false := by rw [he]; rfl
    have h5 : (s.toList == [105, 102]) = false := by rw [he]; rfl
    have h6 : (s.toList == [105, 109, 112, 111, 114, 116]) = false := by rw [he]; rfl
    have h7 : (s.toList == [105, 110, 116, 101, 114, 102, 97, 99, 101]) = false := by rw [he]; rfl
    have h8 : (s.toList == [112, 97, 99, 107, 97, 103, 101]) = false := by rw [he]; rfl
    have h9 : (s.toList == [114, 97, 110, 103, 101]) = false := by rw [he]; rfl
    have h10 : (s.toList == [114, 101, 116, 117, 114, 110]) = false := by rw [he]; rfl
    have h11 : (s.toList == [115, 116, 114, 117, 99, 116]) = false := by rw [he]; rfl
    have h12 : (s.toList == [116, 121, 112, 101]) = false := by rw [he]; rfl
    have h13 : (s.toList == [118, 97, 114]) = false := by rw [he]; rfl
    have h14 : (s.toList == [99, 97, 115, 101]) = false := by rw [he]; rfl
    have h15 : (s.toList == [99, 104, 97, 110]) = false := by rw [he]; rfl
    have h16 : (s.toList == [99, 111, 110, 115, 116]) = true := by rw [he]; rfl
    have h17 : (s.toList == [100, 101, 102, 97, 117, 108, 116]) = false := by rw [he]; rfl
    have h18 : (s.toList == [100, 101, 102, 101, 114]) = false := by rw [he]; rfl
    have h19 : (s.toList == [102, 97, 108, 108, 116, 104, 114, 111, 117, 103, 104]) = false := by rw [he]; rfl
    have h20 : (s.toList == [103, 111]) = false := by rw [he]; rfl
    have h21 : (s.toList == [103, 111, 116, 111]) = false := by rw [he]; rfl
    have h22 : (s.toList == [109, 97, 112]) = false := by rw [he]; rfl
    have h23 : (s.toList == [115, 101, 108, 101, 99, 116]) = false := by rw [he]; rfl
    have h24 : (s.toList == [115, 119, 105, 116, 99, 104]) = false := by rw [he]; rfl
    have hk : wordK s.toList = 2 := by rw [he]; rfl
    rw [hk]
    clear he hk
    go_enter Tryz.func91, Tryz.ntmps91
    go_wp2_with fail
    go_ret
    exact ⟨rfl, rfl⟩
  | false =>
  cases h17 : (s.toList == [100, 101, 102, 97, 117, 108, 116]) with
  | true =>
    have he : s.toList = [100, 101, 102, 97, 117, 108, 116] := by simpa using h17
    clear h17
    have h0 : (s.toList == [98, 114, 101, 97, 107]) = false := by rw [he]; rfl
    have h1 : (s.toList == [99, 111, 110, 116, 105, 110, 117, 101]) = false := by rw [he]; rfl
    have h2 : (s.toList == [101, 108, 115, 101]) = false := by rw [he]; rfl
    have h3 : (s.toList == [102, 111, 114]) = false := by rw [he]; rfl
    have h4 : (s.toList == [102, 117, 110, 99]) = false := by rw [he]; rfl
    have h5 : (s.toList == [105, 102]) = false := by rw [he]; rfl
    have h6 : (s.toList == [105, 109, 112, 111, 114, 116]) = false := by rw [he]; rfl
    have h7 : (s.toList == [105, 110, 116, 101, 114, 102, 97, 99, 101]) = false := by rw [he]; rfl
    have h8 : (s.toList == [112, 97, 99, 107, 97, 103, 101]) = false := by rw [he]; rfl
    have h9 : (s.toList == [114, 97, 110, 103, 101]) = false := by rw [he]; rfl
    have h10 : (s.toList == [114, 101, 116, 117, 114, 110]) = false := by rw [he]; rfl
    have h11 : (s.toList == [115, 116, 114, 117, 99, 116]) = false := by rw [he]; rfl
    have h12 : (s.toList == [116, 121, 112, 101]) = false := by rw [he]; rfl
    have h13 : (s.toList == [118, 97, 114]) = false := by rw [he]; rfl
    have h14 : (s.toList == [99, 97, 115, 101]) = false := by rw [he]; rfl
    have h15 : (s.toList == [99, 104, 97, 110]) = false := by rw [he]; rfl
    have h16 : (s.toList == [99, 111, 110, 115, 116]) = false := by rw [he]; rfl
    have h17 : (s.toList == [100, 101, 102, 97, 117, 108, 116]) = true := by rw [he]; rfl
    have h18 : (s.toList == [100, 101, 102, 101, 114]) = false := by rw [he]; rfl
    have h19 : (s.toList == [102, 97, 108, 108, 116, 104, 114, 111, 117, 103, 104]) = false := by rw [he]; rfl
    have h20 : (s.toList == [103, 111]) = false := by rw [he]; rfl
    have h21 : (s.toList == [103, 111, 116, 111]) = false := by rw [he]; rfl
    have h22 : (s.toList == [109, 97, 112]) = false := by rw [he]; rfl
    have h23 : (s.toList == [115, 101, 108, 101, 99, 116]) = false := by rw [he]; rfl
    have h24 : (s.toList == [115, 119, 105, 116, 99, 104]) = false := by rw [he]; rfl
    have hk : wordK s.toList = 2 := by rw [he]; rfl
    rw [hk]
    clear he hk
    go_enter Tryz.func91, Tryz.ntmps91
    go_wp2_with fail
    go_ret
    exact ⟨rfl, rfl⟩
  | false =>
  cases h18 : (s.toList == [100, 101, 102, 101, 114]) with
  | true =>
    have he : s.toList = [100, 101, 102, 101, 114] := by simpa using h18
    clear h18
    have h0 : (s.toList == [98, 114, 101, 97, 107]) = false := by rw [he]; rfl
    have h1 : (s.toList == [99, 111, 110, 116, 105, 110, 117, 101]) = false := by rw [he]; rfl
    have h2 : (s.toList == [101, 108, 115, 101]) = false := by rw [he]; rfl
    have h3 : (s.toList == [102, 111, 114]) = false := by rw [he]; rfl
    have h4 : (s.toList == [102, 117, 110, 99]) = false := by rw [he]; rfl
    have h5 : (s.toList == [105, 102]) = false := by rw [he]; rfl
    have h6 : (s.toList == [105, 109, 112, 111, 114, 116]) = false := by rw [he]; rfl
    have h7 : (s.toList == [105, 110, 116, 101, 114, 102, 97, 99, 101]) = false := by rw [he]; rfl
    have h8 : (s.toList == [112, 97, 99, 107, 97, 103, 101]) = false := by rw [he]; rfl
    have h9 : (s.toList == [114, 97, 110, 103, 101]) = false := by rw [he]; rfl
    have h10 : (s.toList == [114, 101, 116, 117, 114, 110]) = false := by rw [he]; rfl
    have h11 : (s.toList == [115, 116, 114, 117, 99, 116]) = false := by rw [he]; rfl
    have h12 : (s.toList == [116, 121, 112, 101]) = false := by rw [he]; rfl
    have h13 : (s.toList == [118, 97, 114]) = false := by rw [he]; rfl
    have h14 : (s.toList == [99, 97, 115, 101]) = false := by rw [he]; rfl
    have h15 : (s.toList == [99, 104, 97, 110]) = false := by rw [he]; rfl
    have h16 : (s.toList == [99, 111, 110, 115, 116]) = false := by rw [he]; rfl
    have h17 : (s.toList == [100, 101, 102, 97, 117, 108, 116]) = false := by rw [he]; rfl
    have h18 : (s.toList == [100, 101, 102, 101, 114]) = true := by rw [he]; rfl
    have h19 : (s.toList == [102, 97, 108, 108, 116, 104, 114, 111, 117, 103, 104]) = false := by rw [he]; rfl
    have h20 : (s.toList == [103, 111]) = false := by rw [he]; rfl
    have h21 : (s.toList == [103, 111, 116, 111]) = false := by rw [he]; rfl
    have h22 : (s.toList == [109, 97, 112]) = false := by rw [he]; rfl
    have h23 : (s.toList == [115, 101, 108, 101, 99, 116]) = false := by rw [he]; rfl
    have h24 : (s.toList == [115, 119, 105, 116, 99, 104]) = false := by rw [he]; rfl
    have hk : wordK s.toList = 2 := by rw [he]; rfl
    rw [hk]
    clear he hk
    go_enter Tryz.func91, Tryz.ntmps91
    go_wp2_with fail
    go_ret
    exact ⟨rfl, rfl⟩
  | false =>
  cases h19 : (s.toList == [102, 97, 108, 108, 116, 104, 114, 111, 117, 103, 104]) with
  | true =>
    have he : s.toList = [102, 97, 108, 108, 116, 104, 114, 111, 117, 103, 104] := by simpa using h19
    clear h19
    have h0 : (s.toList == [98, 114, 101, 97, 107]) = false := by rw [he]; rfl
    have h1 : (s.toList == [99, 111, 110, 116, 105, 110, 117, 101]) = false := by rw [he]; rfl
    have h2 : (s.toList == [101, 108, 115, 101]) = false := by rw [he]; rfl
    have h3 : (s.toList == [102, 111, 114]) = false := by rw [he]; rfl
    have h4 : (s.toList == [102, 117, 110, 99]) = false := by rw [he]; rfl
    have h5 : (s.toList == [105, 102]) = false := by rw [he]; rfl
    have h6 : (s.toList == [105, 109, 112, 111, 114, 116]) = false := by rw [he]; rfl
    have h7 : (s.toList == [105, 110, 116, 101, 114, 102, 97, 99, 101]) = false := by rw [he]; rfl
    have h8 : (s.toList == [112, 97, 99, 107, 97, 103, 101]) = false := by rw [he]; rfl
    have h9 : (s.toList == [114, 97, 110, 103, 101]) = false := by rw [he]; rfl
    have h10 : (s.toList == [114, 101, 116, 117, 114, 110]) = false := by rw [he]; rfl
    have h11 : (s.toList == [115, 116, 114, 117, 99, 116]) = false := by rw [he]; rfl
    have h12 : (s.toList == [116, 121, 112, 101]) = false := by rw [he]; rfl
    have h13 : (s.toList == [118, 97, 114]) = false := by rw [he]; rfl
    have h14 : (s.toList == [99, 97, 115, 101]) = false := by rw [he]; rfl
    have h15 : (s.toList == [99, 104, 97, 110]) = false := by rw [he]; rfl
    have h16 : (s.toList == [99, 111, 110, 115, 116]) = false := by rw [he]; rfl
    have h17 : (s.toList == [100, 101, 102, 97, 117, 108, 116]) = false := by rw [he]; rfl
    have h18 : (s.toList == [100, 101, 102, 101, 114]) = false := by rw [he]; rfl
    have h19 : (s.toList == [102, 97, 108, 108, 116, 104, 114, 111, 117, 103, 104]) = true := by rw [he]; rfl
    have h20 : (s.toList == [103, 111]) = false := by rw [he]; rfl
    have h21 : (s.toList == [103, 111, 116, 111]) = false := by rw [he]; rfl
    have h22 : (s.toList == [109, 97, 112]) = false := by rw [he]; rfl
    have h23 : (s.toList == [115, 101, 108, 101, 99, 116]) = false := by rw [he]; rfl
    have h24 : (s.toList == [115, 119, 105, 116, 99, 104]) = false := by rw [he]; rfl
    have hk : wordK s.toList = 2 := by rw [he]; rfl
    rw [hk]
    clear he hk
    go_enter Tryz.func91, Tryz.ntmps91
    go_wp2_with fail
    go_ret
    exact ⟨rfl, rfl⟩
  | false =>
  cases h20 : (s.toList == [103, 111]) with
  | true =>
    have he : s.toList = [103, 111] := by simpa using h20
    clear h20
    have h0 : (s.toList == [98, 114, 101, 97, 107]) = false := by rw [he]; rfl
    have h1 : (s.toList == [99, 111, 110, 116, 105, 110, 117, 101]) = false := by rw [he]; rfl
    have h2 : (s.toList == [101, 108, 115, 101]) = false := by rw [he]; rfl
    have h3 : (s.toList == [102, 111, 114]) = false := by rw [he]; rfl
    have h4 : (s.toList == [102, 117, 110, 99]) = false := by rw [he]; rfl
    have h5 : (s.toList == [105, 102]) = false := by rw [he]; rfl
    have h6 : (s.toList == [105, 109, 112, 111, 114, 116]) = false := by rw [he]; rfl
    have h7 : (s.toList == [105, 110, 116, 101, 114, 102, 97, 99, 101]) = false := by rw [he]; rfl
    have h8 : (s.toList == [112, 97, 99, 107, 97, 103, 101]) = false := by rw [he]; rfl
    have h9 : (s.toList == [114, 97, 110, 103, 101]) = false := by rw [he]; rfl
    have h10 : (s.toList == [114, 101, 116, 117, 114, 110]) = false := by rw [he]; rfl
    have h11 : (s.toList == [115, 116, 114, 117, 99, 116]) = false := by rw [he]; rfl
    have h12 : (s.toList == [116, 121, 112, 101]) = false := by rw [he]; rfl
    have h13 : (s.toList == [118, 97, 114]) = false := by rw [he]; rfl
    have h14 : (s.toList == [99, 97, 115, 101]) = false := by rw [he]; rfl
    have h15 : (s.toList == [99, 104, 97, 110]) = false := by rw [he]; rfl
    have h16 : (s.toList == [99, 111, 110, 115, 116]) = false := by rw [he]; rfl
    have h17 : (s.toList == [100, 101, 102, 97, 117, 108, 116]) = false := by rw [he]; rfl
    have h18 : (s.toList == [100, 101, 102, 101, 114]) = false := by rw [he]; rfl
    have h19 : (s.toList == [102, 97, 108, 108, 116, 104, 114, 111, 117, 103, 104]) = false := by rw [he]; rfl
    have h20 : (s.toList == [103, 111]) = true := by rw [he]; rfl
    have h21 : (s.toList == [103, 111, 116, 111]) = false := by rw [he]; rfl
    have h22 : (s.toList == [109, 97, 112]) = false := by rw [he]; rfl
    have h23 : (s.toList == [115, 101, 108, 101, 99, 116]) = false := by rw [he]; rfl
    have h24 : (s.toList == [115, 119, 105, 116, 99, 104]) = false := by rw [he]; rfl
    have hk : wordK s.toList = 2 := by rw [he]; rfl
    rw [hk]
    clear he hk
    go_enter Tryz.func91, Tryz.ntmps91
    go_wp2_with fail
    go_ret
    exact ⟨rfl, rfl⟩
  | false =>
  cases h21 : (s.toList == [103, 111, 116, 111]) with
  | true =>
    have he : s.toList = [103, 111, 116, 111] := by simpa using h21
    clear h21
    have h0 : (s.toList == [98, 114, 101, 97, 107]) = false := by rw [he]; rfl
    have h1 : (s.toList == [99, 111, 110, 116, 105, 110, 117, 101]) = false := by rw [he]; rfl
    have h2 : (s.toList == [101, 108, 115, 101]) = false := by rw [he]; rfl
    have h3 : (s.toList == [102, 111, 114]) = false := by rw [he]; rfl
    have h4 : (s.toList == [102, 117, 110, 99]) = false := by rw [he]; rfl
    have h5 : (s.toList == [105, 102]) = false := by rw [he]; rfl
    have h6 : (s.toList == [105, 109, 112, 111, 114, 116]) = false := by rw [he]; rfl
    have h7 : (s.toList == [105, 110, 116, 101, 114, 102, 97, 99, 101]) = false := by rw [he]; rfl
    have h8 : (s.toList == [112, 97, 99, 107, 97, 103, 101]) = false := by rw [he]; rfl
    have h9 : (s.toList == [114, 97, 110, 103, 101]) = false := by rw [he]; rfl
    have h10 : (s.toList == [114, 101, 116, 117, 114, 110]) = false := by rw [he]; rfl
    have h11 : (s.toList == [115, 116, 114, 117, 99, 116]) = false := by rw [he]; rfl
    have h12 : (s.toList == [116, 121, 112, 101]) = false := by rw [he]; rfl
    have h13 : (s.toList == [118, 97, 114]) = false := by rw [he]; rfl
    have h14 : (s.toList == [99, 97, 115, 101]) = false := by rw [he]; rfl
    have h15 : (s.toList == [99, 104, 97, 110]) = false := by rw [he]; rfl
    have h16 : (s.toList == [99, 111, 110, 115, 116]) = false := by rw [he]; rfl
    have h17 : (s.toList == [100, 101, 102, 97, 117, 108, 116]) = false := by rw [he]; rfl
    have h18 : (s.toList == [100, 101, 102, 101, 114]) = false := by rw [he]; rfl
    have h19 : (s.toList == [102, 97, 108, 108, 116, 104, 114, 111, 117, 103, 104]) = false := by rw [he]; rfl
    have h20 : (s.toList == [103, 111]) = false := by rw [he]; rfl
    have h21 : (s.toList == [103, 111, 116, 111]) = true := by rw [he]; rfl
    have h22 : (s.toList == [109, 97, 112]) = false := by rw [he]; rfl
    have h23 : (s.toList == [115, 101, 108, 101, 99, 116]) = false := by rw [he]; rfl
    have h24 : (s.toList == [115, 119, 105, 116, 99, 104]) = false := by rw [he]; rfl
    have hk : wordK s.toList = 2 := by rw [he]; rfl
    rw [hk]
    clear he hk
    go_enter Tryz.func91, Tryz.ntmps91
    go_wp2_with fail
    go_ret
    exact ⟨rfl, rfl⟩
  | false =>
  cases h22 : (s.toList == [109, 97, 112]) with
  | true =>
    have he : s.toList = [109, 97, 112] := by simpa using h22
    clear h22
    have h0 : (s.toList == [98, 114, 101, 97, 107]) = false := by rw [he]; rfl
    have h1 : (s.toList == [99, 111, 110, 116, 105, 110, 117, 101]) = false := by rw [he]; rfl
    have h2 : (s.toList == [101, 108, 115, 101]) = false := by rw [he]; rfl
    have h3 : (s.toList == [102, 111, 114]) = false := by rw [he]; rfl
    have h4 : (s.toList == [102, 117, 110, 99]) = false := by rw [he]; rfl
    have h5 : (s.toList == [105, 102]) = false := by rw [he]; rfl
    have h6 : (s.toList == [105, 109, 112, 111, 114, 116]) = false := by rw [he]; rfl
    have h7 : (s.toList == [105, 110, 116, 101, 114, 102, 97, 99, 101]) = false := by rw [he]; rfl
    have h8 : (s.toList == [112, 97, 99, 107, 97, 103, 101]) = false := by rw [he]; rfl
    have h9 : (s.toList == [114, 97, 110, 103, 101]) = false := by rw [he]; rfl
    have h10 : (s.toList == [114, 101, 116, 117, 114, 110]) = false := by rw [he]; rfl
    have h11 : (s.toList == [115, 116, 114, 117, 99, 116]) = false := by rw [he]; rfl
    have h12 : (s.toList == [116, 121, 112, 101]) = false := by rw [he]; rfl
    have h13 : (s.toList == [118, 97, 114]) = false := by rw [he]; rfl
    have h14 : (s.toList == [99, 97, 115, 101]) = false := by rw [he]; rfl
    have h15 : (s.toList == [99, 104, 97, 110]) = false := by rw [he]; rfl
    have h16 : (s.toList == [99, 111, 110, 115, 116]) = false := by rw [he]; rfl
    have h17 : (s.toList == [100, 101, 102, 97, 117, 108, 116]) = false := by rw [he]; rfl
    have h18 : (s.toList == [100, 101, 102, 101, 114]) = false := by rw [he]; rfl
    have h19 : (s.toList == [102, 97, 108, 108, 116, 104, 114, 111, 117, 103, 104]) = false := by rw [he]; rfl
    have h20 : (s.toList == [103, 111]) = false := by rw [he]; rfl
    have h21 : (s.toList == [103, 111, 116, 111]) = false := by rw [he]; rfl
    have h22 : (s.toList == [109, 97, 112]) = true := by rw [he]; rfl
    have h23 : (s.toList == [115, 101, 108, 101, 99, 116]) = false := by rw [he]; rfl
    have h24 : (s.toList == [115, 119, 105, 116, 99, 104]) = false := by rw [he]; rfl
    have hk : wordK s.toList = 2 := by rw [he]; rfl
    rw [hk]
    clear he hk
    go_enter Tryz.func91, Tryz.ntmps91
    go_wp2_with fail
    go_ret
    exact ⟨rfl, rfl⟩
  | false =>
  cases h23 : (s.toList == [115, 101, 108, 101, 99, 116]) with
  | true =>
    have he : s.toList = [115, 101, 108, 101, 99, 116] := by simpa using h23
    clear h23
    have h0 : (s.toList == [98, 114, 101, 97, 107]) = false := by rw [he]; rfl
    have h1 : (s.toList == [99, 111, 110, 116, 105, 110, 117, 101]) = false := by rw [he]; rfl
    have h2 : (s.toList == [101, 108, 115, 101]) = false := by rw [he]; rfl
    have h3 : (s.toList == [102, 111, 114]) = false := by rw [he]; rfl
    have h4 : (s.toList == [102, 117, 110, 99]) = false := by rw [he]; rfl
    have h5 : (s.toList == [105, 102]) = false := by rw [he]; rfl
    have h6 : (s.toList == [105, 109, 112, 111, 114, 116]) = false := by rw [he]; rfl
    have h7 : (s.toList == [105, 110, 116, 101, 114, 102, 97, 99, 101]) = false := by rw [he]; rfl
    have h8 : (s.toList == [112, 97, 99, 107, 97, 103, 101]) = false := by rw [he]; rfl
    have h9 : (s.toList == [114, 97, 110, 103, 101]) = false := by rw [he]; rfl
    have h10 : (s.toList == [114, 101, 116, 117, 114, 110]) = false := by rw [he]; rfl
    have h11 : (s.toList == [115, 116, 114, 117, 99, 116]) = false := by rw [he]; rfl
    have h12 : (s.toList == [116, 121, 112, 101]) = false := by rw [he]; rfl
    have h13 : (s.toList == [118, 97, 114]) = false := by rw [he]; rfl
    have h14 : (s.toList == [99, 97, 115, 101]) = false := by rw [he]; rfl
    have h15 : (s.toList == [99, 104, 97, 110]) = false := by rw [he]; rfl
    have h16 : (s.toList == [99, 111, 110, 115, 116]) = false := by rw [he]; rfl
    have h17 : (s.toList == [100, 101, 102, 97, 117, 108, 116]) = false := by rw [he]; rfl
    have h18 : (s.toList == [100, 101, 102, 101, 114]) = false := by rw [he]; rfl
    have h19 : (s.toList == [102, 97, 108, 108, 116, 104, 114, 111, 117, 103, 104]) = false := by rw [he]; rfl
    have h20 : (s.toList == [103, 111]) = false := by rw [he]; rfl
    have h21 : (s.toList == [103, 111, 116, 111]) = false := by rw [he]; rfl
    have h22 : (s.toList == [109, 97, 112]) = false := by rw [he]; rfl
    have h23 : (s.toList == [115, 101, 108, 101, 99, 116]) = true := by rw [he]; rfl
    have h24 : (s.toList == [115, 119, 105, 116, 99, 104]) = false := by rw [he]; rfl
    have hk : wordK s.toList = 2 := by rw [he]; rfl
    rw [hk]
    clear he hk
    go_enter Tryz.func91, Tryz.ntmps91
    go_wp2_with fail
    go_ret
    exact ⟨rfl, rfl⟩
  | false =>
  cases h24 : (s.toList == [115, 119, 105, 116, 99, 104]) with
  | true =>
    have he : s.toList = [115, 119, 105, 116, 99, 104] := by simpa using h24
    clear h24
    have h0 : (s.toList == [98, 114, 101, 97, 107]) = false := by rw [he]; rfl
    have h1 : (s.toList == [99, 111, 110, 116, 105, 110, 117, 101]) = false := by rw [he]; rfl
    have h2 : (s.toList == [101, 108, 115, 101]) = false := by rw [he]; rfl
    have h3 : (s.toList == [102, 111, 114]) = false := by rw [he]; rfl
    have h4 : (s.toList == [102, 117, 110, 99]) = false := by rw [he]; rfl
    have h5 : (s.toList == [105, 102]) = false := by rw [he]; rfl
    have h6 : (s.toList == [105, 109, 112, 111, 114, 116]) = false := by rw [he]; rfl
    have h7 : (s.toList == [105, 110, 116, 101, 114, 102, 97, 99, 101]) = false := by rw [he]; rfl
    have h8 : (s.toList == [112, 97, 99, 107, 97, 103, 101]) = false := by rw [he]; rfl
    have h9 : (s.toList == [114, 97, 110, 103, 101]) = false := by rw [he]; rfl
    have h10 : (s.toList == [114, 101, 116, 117, 114, 110]) = false := by rw [he]; rfl
    have h11 : (s.toList == [115, 116, 114, 117, 99, 116]) = false := by rw [he]; rfl
    have h12 : (s.toList == [116, 121, 112, 101]) = false := by rw [he]; rfl
    have h13 : (s.toList == [118, 97, 114]) = false := by rw [he]; rfl
    have h14 : (s.toList == [99, 97, 115, 101]) = false := by rw [he]; rfl
    have h15 : (s.toList == [99, 104, 97, 110]) = false := by rw [he]; rfl
    have h16 : (s.toList == [99, 111, 110, 115, 116]) = false := by rw [he]; rfl
    have h17 : (s.toList == [100, 101, 102, 97, 117, 108, 116]) = false := by rw [he]; rfl
    have h18 : (s.toList == [100, 101, 102, 101, 114]) = false := by rw [he]; rfl
    have h19 : (s.toList == [102, 97, 108, 108, 116, 104, 114, 111, 117, 103, 104]) = false := by rw [he]; rfl
    have h20 : (s.toList == [103, 111]) = false := by rw [he]; rfl
    have h21 : (s.toList == [103, 111, 116, 111]) = false := by rw [he]; rfl
    have h22 : (s.toList == [109, 97, 112]) = false := by rw [he]; rfl
    have h23 : (s.toList == [115, 101, 108, 101, 99, 116]) = false := by rw [he]; rfl
    have h24 : (s.toList == [115, 119, 105, 116, 99, 104]) = true := by rw [he]; rfl
    have hk : wordK s.toList = 2 := by rw [he]; rfl
    rw [hk]
    clear he hk
    go_enter Tryz.func91, Tryz.ntmps91
    go_wp2_with fail
    go_ret
    exact ⟨rfl, rfl⟩
  | false =>
  have hk : wordK s.toList = 0 := by
    simp only [wordK, words1, words2, List.contains_cons, List.contains_nil, h0, h1, h2, h3, h4, h5, h6, h7, h8, h9, h10, h11, h12, h13, h14, h15, h16, h17, h18, h19, h20, h21, h22, h23, h24, Bool.or_false, Bool.false_or, Bool.false_eq_true, if_false]
  rw [hk]
  clear hk
  go_enter Tryz.func91, Tryz.ntmps91
  go_wp2_with fail
  go_ret
  exact ⟨rfl, rfl⟩

end Go.Proofs.YtkmhijkpbmcgbaaGreat
