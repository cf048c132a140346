/-
  The law PlaceJoins: its walk.
-/
import Derived.Test.YtfabnfdadadlnaaLawOf
import Derived.Test.YtfabnfdadadlnaaApp
import Derived.Deep.QuietTactic
import Derived.BigQuiet
import Derived.Deep.RegionWith
import Derived.Lib.QuietBelow
namespace Go.Proofs.Ytfabnfdadadlnaa
set_option linter.all false
open Go.RowKit

theorem plc_nat (l : List UInt8) (k : Nat) (h : k ≤ l.length) : plc l k = Pl.ofB l k := by
  unfold plc
  rw [if_neg (by omega)]
  rfl
theorem info5 : (Try.prog.info? 5).map (fun i => (i.zero, i.size, i.bytes)) = some (some (.int .u8 0), 1, 1) := by kernel_rfl
theorem field26_0 (x y : Int) (W : World) : (Instr.field 26 (.agg #[.int .i64 x, .int .i64 y]) 0).run Try.prog W = .ok (.int .i64 x) W := by kernel_rfl

set_option maxRecDepth 100000 in
set_option maxHeartbeats 2000000 in
theorem lawJoins_walk (A B : Option Addr) (n c m d : Nat) (l r : List UInt8) (t : Nat) (w : World) (ha : Bts w A n l) (hb : Bts w B m r) (ht : t ≤ 65535) :
    Calls Try.prog 5 #[.slice A n c, .slice B m d, .int .u16 t] w fun e w' => e = .returned (.bool true) ∧ Below w.heap.size w w' := by
  by_cases hn : 300 < n ∨ 300 < m
  · by_cases h1 : 300 < n
    · clear hn
      go_enter Try.func5, Try.ntmps5
      go_wp2
      go_ret
      exact ⟨rfl, Below.refl _ _⟩
    · have h2 : 300 < m := by omega
      clear hn
      go_enter Try.func5, Try.ntmps5
      go_wp2
      go_ret
      exact ⟨rfl, Below.refl _ _⟩
  · have hn3 : n ≤ 300 := by omega
    have hm3 : m ≤ 300 := by omega
    clear hn
    have HA := Lib.hid ha
    have HB := Lib.hid hb
    clear ha hb
    obtain ⟨i0, hi0, hz0, hz1, hz2⟩ := info_parts info5
    have b0 : Below w.heap.size w (w.alloc (.cells #[] 5)) := (Below.refl _ w).alloc (Nat.le_refl _) _
    have hsa := (HA.out.below b0).src
    have hone : ∀ (q : List UInt8) (u : Value), u ∈ (q.map fun x => Value.int .u8 (x.toNat : Int)) → u.oneCell' = true := by
      intro q u hu
      obtain ⟨x, _, rfl⟩ := List.mem_map.1 hu
      rfl
    have hmk : (w.alloc (.cells #[] 5)).ownsRow w.heap.size 5 1 (.slice (some ⟨w.heap.size, 0, none⟩) 0 0) 0 [] := World.ownsRow_made w #[] 0 (Nat.le_refl _) (Nat.zero_le _) rfl
    have HSA := Lib.hid hsa
    have HONE := Lib.hid hone
    have HMK := Lib.hid hmk
    clear hsa hone hmk
    go_enter Try.func5, Try.ntmps5
    go_wp2_with (first
      | (at_builtin
         refine wpList_append_src _ rfl (.tmp 19) (.tmp 20) _ rfl w.heap.size 5 i0 _ 1 1 Try.underlying22 hi0 hz0 hz1 hz2 rfl (by omega) (.slice (some ⟨w.heap.size, 0, none⟩) 0 0) 0 [] rfl HMK.out A n c _ rfl HSA.out (HONE.out l) (by simp only [maxLen]; omega) (by omega) (by simp) ?_
         intro v1 w1 hown1 hg1 hat1
         have bw1 : Below w.heap.size w w1 := b0.grown hg1 (by simp) (fun k hk => (HMK.out.lt k hk).1))
      | (at_builtin
         refine wpList_append_src _ rfl (.tmp 21) (.tmp 22) _ rfl w.heap.size 5 i0 _ 1 1 Try.underlying22 hi0 hz0 hz1 hz2 rfl (by omega) v1 (0 + n) _ rfl (hown1.alloc _) (some ⟨w1.heap.size, 0, none⟩) 1 1 [.int .u8 10] rfl (src_one w1 _ 5) (by simp [Value.oneCell']) (by simp only [maxLen]; omega) (by omega) (by have := bw1.size; simp; omega) ?_
         intro v2 w2 hown2 hg2 hat2
         have bw2 : Below w.heap.size w w2 := (bw1.alloc bw1.size (.cells #[.int .u8 10] 5)).grown hg2 (by have := bw1.size; simp; omega) (fun k hk => (hown1.lt k hk).1))
      | (at_builtin
         refine wpList_append_src _ rfl (.tmp 23) (.tmp 24) _ rfl w.heap.size 5 i0 _ 1 1 Try.underlying22 hi0 hz0 hz1 hz2 rfl (by omega) v2 (0 + n + 1) _ rfl hown2 B m d _ rfl (HB.out.below bw2).src (HONE.out r) (by simp only [maxLen]; omega) (by omega) bw2.size ?_
         intro v3 w3 hown3 hg3 hat3
         have bw3 : Below w.heap.size w w3 := bw2.grown hg3 bw2.size (fun k hk => (hown2.lt k hk).1)))
    obtain ⟨k, hk⟩ : ∃ k : Nat, k = t % (m + 1) := ⟨_, rfl⟩
    have hki : (t : Int) % ((m : Int) + 1) = k := by rw [hk, Int.natCast_emod]; rfl
    have hkm : k ≤ m := by have := Nat.mod_lt t (show 0 < m + 1 by omega); omega
    have hxs : ([] ++ l.map (fun x => Value.int .u8 (x.toNat : Int)) ++ [Value.int .u8 10]) ++ r.map (fun x => Value.int .u8 (x.toNat : Int)) = (l ++ 10 :: r).map (fun x => Value.int .u8 (x.toNat : Int)) := by
      simp
    rw [hxs] at hown3
    obtain ⟨C, cc, hv3, hbc⟩ := own_bts hown3
    have hcl : 0 + n + 1 + m = n + 1 + m := by omega
    obtain ⟨N, hN⟩ : ∃ N, N = n + 1 + m := ⟨_, rfl⟩
    have hN2 : N ≤ 601 := by omega
    rw [hcl, ← hN] at hv3 hbc
    clear hN
    rw [hv3, hki]
    have HA3 := Lib.hid (HA.out.below bw3)
    have HB3 := Lib.hid (HB.out.below bw3)
    have HC3 := Lib.hid hbc
    have HL3 := Lib.hid bw3
    have hll := HA.out.1
    have hrl := HB.out.1
    clear hown1 hown2 hown3 hg1 hg2 hg3 hat1 hat2 hat3 bw1 bw2 bw3 b0 hxs hv3 hki hk hbc hcl
    have hj := Pl.joins l r k
    rw [hll] at hj
    have htj := Pl.tens_join l r
    obtain ⟨p, hp⟩ : ∃ p, p = Pl.ofB r k := ⟨_, rfl⟩
    obtain ⟨q, hq⟩ : ∃ q, q = Pl.ofB l n := ⟨_, rfl⟩
    have hpb := Pl.ofB_bound r k
    have hqb := Pl.ofB_bound l n
    have e1 := plc_nat r k (by omega)
    have e2 := plc_nat (l ++ 10 :: r) (n + 1 + k) (by simp; omega)
    have e3 := plc_nat l n (by omega)
    rw [hj, ← hp, ← hq] at e2
    rw [← hp] at e1 hpb
    rw [← hq] at e3 hqb
    obtain ⟨p1, p2⟩ := p
    obtain ⟨q1, q2⟩ := q
    have t1 := tens_le l
    have t2 := tens_le r
    have htl : Pl.tens l ≤ 300 := by omega
    have htr : Pl.tens r ≤ 300 := by omega
    simp only at e2 hpb hqb
    rw [hrl] at hpb
    rw [hll] at hqb
    have E1 := Lib.hid e1
    have E2 := Lib.hid e2
    have E3 := Lib.hid e3
    have HT := Lib.hid (show ((Pl.tens (l ++ 10 :: r) : Nat) : Int) + 1 = (Pl.tens l : Int) + 1 + ((Pl.tens r : Int) + 1) by omega)
    clear hj htj hp hq e1 e2 e3 t1 t2 hll hrl
    have c1 := of_any B m d r k w3 HB3.out (by omega)
    rw [E1.out] at c1
    refine c1.mono ?_
    clear c1
    rintro e w4 ⟨rfl, b4⟩
    have HA4 := Lib.hid (HA3.out.below b4)
    have HB4 := Lib.hid (HB3.out.below b4)
    have HC4 := Lib.hid (HC3.out.below b4)
    have HL4 := Lib.hid (HL3.out.trans (b4.mono HL3.out.size))
    clear b4
    go_wp2_with fail
    have c2 := of_any C N cc (l ++ 10 :: r) ((n + 1 + k : Nat) : Int) w4 HC4.out (by omega)
    rw [E2.out] at c2
    have ea : ((n + 1 + k : Nat) : Int) = (n : Int) + 1 + k := by omega
    rw [ea] at c2
    have C2 := Lib.hid c2
    clear c2 ea
    refine C2.out.mono ?_
    clear C2
    rintro e w5 ⟨rfl, b5⟩
    have HA5 := Lib.hid (HA4.out.below b5)
    have HB5 := Lib.hid (HB4.out.below b5)
    have HC5 := Lib.hid (HC4.out.below b5)
    have HL5 := Lib.hid (HL4.out.trans (b5.mono HL4.out.size))
    clear b5
    go_wp2_with fail
    obtain ⟨W6, hW6⟩ : ∃ W6, W6 = ((w5.alloc (.cells #[.int .i64 p1, .int .i64 p2] 26)).alloc (.cells #[.int .i64 (p1 + q1), .int .i64 p2] 26)) := ⟨_, rfl⟩
    have a1 : Whole W6 w5.heap.size 26 #[.int .i64 p1, .int .i64 p2] := by rw [hW6]; exact (Whole.new w5 26 _).alloc _
    have a2 : Whole W6 (w5.heap.size + 1) 26 #[.int .i64 (p1 + q1), .int .i64 p2] := by
      have := Whole.new (w5.alloc (.cells #[.int .i64 p1, .int .i64 p2] 26)) 26 #[.int .i64 (p1 + q1), .int .i64 p2]
      rw [hW6]
      simpa using this
    have b6 : Below w5.heap.size w5 W6 := by rw [hW6]; exact ((Below.refl _ w5).alloc (Nat.le_refl _) _).alloc (by simp) _
    have k0 : ∀ d os, (Sort.grow (redrawn W6 d) os).cell? ⟨w5.heap.size, 0, none⟩ = some (.int .i64 p1) := cell_regrown (a1.cell 0)
    have k1 : ∀ d os, (Sort.grow (redrawn W6 d) os).cell? ⟨w5.heap.size, 1, none⟩ = some (.int .i64 p2) := cell_regrown (a1.cell 1)
    have k2 : ∀ d os, (Sort.grow (redrawn W6 d) os).cell? ⟨w5.heap.size + 1, 0, none⟩ = some (.int .i64 (p1 + q1)) := cell_regrown (a2.cell 0)
    have k3 : ∀ d os, (Sort.grow (redrawn W6 d) os).cell? ⟨w5.heap.size + 1, 1, none⟩ = some (.int .i64 p2) := cell_regrown (a2.cell 1)
    have HA6 := Lib.hid (HA5.out.below b6)
    have HB6 := Lib.hid (HB5.out.below b6)
    have HC6 := Lib.hid (HC5.out.below b6)
    have HL6 := Lib.hid (HL5.out.trans (b6.mono HL5.out.size))
    rw [← hW6]
    clear hW6 a1 a2 b6
    have ca := fun d os => of_any A n c l n _ (HA6.out.below (below_regrown W6 d os)) (by omega)
    rw [E3.out] at ca
    have CA := Lib.hid ca
    have cc1 := fun d os => lines_any C N cc (l ++ 10 :: r) _ (HC6.out.below (below_regrown W6 d os)) (by omega)
    rw [HT.out] at cc1
    have CC := Lib.hid cc1
    have CL := Lib.hid (fun d os => lines_any A n c l _ (HA6.out.below (below_regrown W6 d os)) (by omega))
    have CR := Lib.hid (fun dd os => lines_any B m d r _ (HB6.out.below (below_regrown W6 dd os)) (by omega))
    clear ca cc1
    have hfd := field26_0
    refine wp_region_quiet_below (by kernel_rfl) (by kernel_rfl) ?_
    repeat (first
      | go_big_quiet_step (first | (go_at_call 9; exact Calls.regrown_of (CA.out _ _)) | (go_at_call_of 11 (Value.slice C N cc); exact Calls.regrown_of (CC.out _ _)) | (go_at_call_of 11 (Value.slice A n c); exact Calls.regrown_of (CL.out _ _)) | (go_at_call_of 11 (Value.slice B m d); exact Calls.regrown_of (CR.out _ _)) | (go_at_call 10; exact Calls.regrown_of (awake_any _)))
      | quiet_step (first | (go_at_call 9; exact Calls.regrown_of (CA.out _ _)) | (go_at_call_of 11 (Value.slice C N cc); exact Calls.regrown_of (CC.out _ _)) | (go_at_call_of 11 (Value.slice A n c); exact Calls.regrown_of (CL.out _ _)) | (go_at_call_of 11 (Value.slice B m d); exact Calls.regrown_of (CR.out _ _)) | (go_at_call 10; exact Calls.regrown_of (awake_any _))))
    refine wpQuiet_nil ?_
    intro _ hw'
    obtain ⟨⟨dq, osq⟩, hw''⟩ := hw'
    subst hw''
    go_wp2_with fail
    go_ret
    exact ⟨rfl, HL6.out.trans ((below_regrown W6 dq osq).mono HL6.out.size)⟩

end Go.Proofs.Ytfabnfdadadlnaa
