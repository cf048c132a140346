/-
  DERIVED: THE SHELF's CONTRACTS AT THIS DUMP, IN PLAIN WORDS (tools/lay-plain.mjs out of 'YtkmhijkpbmcgbaaGreatShelfB.lean', which tools/lay-shelf.mjs wrote): THE SAME DECLARATIONS UNDER THE SAME NAMES: 'import', 'namespace', 'open', 'def', 'theorem' AND NOTHING ELSE: no command of the shelf's: FOR A HAND-IN. Each laying: the table of numbers ('.._ren') and one theorem, a field a fact of the dump's own or the kernel's comparison; each contract: ONE APPLICATION.
-/
import Derived.Shelf.SlGeneric
import Derived.Shelf.SlIter.Nil
import Derived.Shelf.SortM.Plain
import Derived.Shelf.SortM.SortNone
import Derived.Ground.GgzProg
import Derived.Ground.SlgmProg
import Derived.Test.YtkmhijkpbmcgbaaGreatProg
namespace Go.Proofs
open Go.Shelf
def Tryz.keysA_ren : Go.Shelf.Ren := ⟨fun | 7 => 27 | 10 => 55 | n => n, fun | 23 => 44 | 26 => 9 | 3 => 4 | 28 => 47 | 0 => 0 | 27 => 46 | 33 => 37 | 4 => 4 | n => n, fun | n => n⟩
theorem Tryz.keysA : Go.Proofs.SlLaysZ.n7 Tryz.prog Tryz.keysA_ren := {
  mixed := by kernel_rfl
  f7 := ⟨Tryz.f27.name, by decide, Tryz.func27.trans (congrArg some (by kernel_rfl))⟩
  f10 := ⟨Tryz.f55.name, by decide, Tryz.func55.trans (congrArg some (by kernel_rfl))⟩
  t0 := Tryz.underlying0
  a0 := Tryz.isAgg0
  z0 := Tryz.sizeOf0
  v0 := Tryz.zeroValue0
  t4 := Tryz.underlying4
  a4 := Tryz.isAgg4
  z4 := Tryz.sizeOf4
  v4 := Tryz.zeroValue4
  t23 := Tryz.underlying44
  a23 := Tryz.isAgg44
  z23 := Tryz.sizeOf44
  v23 := Tryz.zeroValue44
  t26 := Tryz.underlying9
  a26 := Tryz.isAgg9
  z26 := Tryz.sizeOf9
  v26 := Tryz.zeroValue9
  t27 := Tryz.underlying46
  a27 := Tryz.isAgg46
  z27 := Tryz.sizeOf46
  v27 := Tryz.zeroValue46
  t28 := Tryz.underlying47
  a28 := Tryz.isAgg47
  z28 := Tryz.sizeOf47
  v28 := Tryz.zeroValue47
  t33 := Tryz.underlying37
  a33 := Tryz.isAgg37
  z33 := Tryz.sizeOf37
  v33 := Tryz.zeroValue37 }
def Tryz.sortedA_ren : Go.Shelf.Ren := ⟨fun | 6 => 26 | 8 => 53 | 9 => 54 | 11 => 86 | 13 => 88 | 12 => 87 | 23 => 117 | 24 => 118 | 14 => 108 | 15 => 109 | 16 => 110 | 17 => 111 | 18 => 112 | 19 => 113 | 20 => 114 | 21 => 115 | 22 => 116 | 25 => 121 | 26 => 122 | 27 => 123 | 28 => 124 | 29 => 125 | 30 => 126 | 31 => 128 | n => n, fun | 26 => 9 | 28 => 47 | 24 => 31 | 0 => 0 | 3 => 3 | 37 => 69 | 48 => 87 | 50 => 89 | 4 => 4 | 40 => 80 | 39 => 79 | 45 => 84 | 5 => 5 | 9 => 9 | 51 => 91 | 55 => 95 | 57 => 97 | 58 => 98 | 33 => 37 | n => n, fun | n => n⟩
theorem Tryz.sortedA : Go.Proofs.SlLaysZ.n6 Tryz.prog Tryz.sortedA_ren := {
  mixed := by kernel_rfl
  f6 := ⟨Tryz.f26.name, by decide, Tryz.func26.trans (congrArg some (by kernel_rfl))⟩
  f8 := ⟨Tryz.f53.name, by decide, Tryz.func53.trans (congrArg some (by kernel_rfl))⟩
  f11 := ⟨Tryz.f86.name, by decide, Tryz.func86.trans (congrArg some (by kernel_rfl))⟩
  t0 := Tryz.underlying0
  a0 := Tryz.isAgg0
  z0 := Tryz.sizeOf0
  v0 := Tryz.zeroValue0
  t24 := Tryz.underlying31
  a24 := Tryz.isAgg31
  z24 := Tryz.sizeOf31
  v24 := Tryz.zeroValue31
  t26 := Tryz.underlying9
  a26 := Tryz.isAgg9
  z26 := Tryz.sizeOf9
  v26 := Tryz.zeroValue9
  t28 := Tryz.underlying47
  a28 := Tryz.isAgg47
  z28 := Tryz.sizeOf47
  v28 := Tryz.zeroValue47
  i26 := by kernel_rfl }
def Tryz.sortA_ren : Go.Shelf.Ren := ⟨fun | 6 => 54 | 8 => 88 | 9 => 87 | 19 => 117 | 20 => 118 | 21 => 108 | 22 => 109 | 23 => 110 | 24 => 111 | 25 => 112 | 26 => 113 | 27 => 114 | 28 => 115 | 29 => 116 | 36 => 121 | 31 => 122 | 32 => 123 | 37 => 124 | 38 => 125 | 39 => 126 | 41 => 128 | n => n, fun | 27 => 31 | 29 => 9 | 3 => 3 | 32 => 69 | 26 => 31 | 0 => 0 | 44 => 87 | 46 => 89 | 4 => 4 | 36 => 80 | 35 => 79 | 41 => 84 | 5 => 5 | 9 => 9 | 53 => 91 | 57 => 95 | 63 => 97 | 64 => 98 | n => n, fun | n => n⟩
theorem Tryz.sortA : Go.Proofs.SlLaysM.n6 Tryz.prog Tryz.sortA_ren := {
  mixed := by kernel_rfl
  f6 := ⟨Tryz.f54.name, by decide, Tryz.func54.trans (congrArg some (by kernel_rfl))⟩
  f8 := Tryz.func88.trans (congrArg some (by kernel_rfl))
  f9 := ⟨Tryz.f87.name, by decide, Tryz.func87.trans (congrArg some (by kernel_rfl))⟩
  f19 := Tryz.func117.trans (congrArg some (by kernel_rfl))
  f20 := Tryz.func118.trans (congrArg some (by kernel_rfl))
  f21 := ⟨Tryz.f108.name, by decide, Tryz.func108.trans (congrArg some (by kernel_rfl))⟩
  f22 := ⟨Tryz.f109.name, by decide, Tryz.func109.trans (congrArg some (by kernel_rfl))⟩
  f23 := ⟨Tryz.f110.name, by decide, Tryz.func110.trans (congrArg some (by kernel_rfl))⟩
  f24 := ⟨Tryz.f111.name, by decide, Tryz.func111.trans (congrArg some (by kernel_rfl))⟩
  f25 := ⟨Tryz.f112.name, by decide, Tryz.func112.trans (congrArg some (by kernel_rfl))⟩
  f26 := ⟨Tryz.f113.name, by decide, Tryz.func113.trans (congrArg some (by kernel_rfl))⟩
  f27 := ⟨Tryz.f114.name, by decide, Tryz.func114.trans (congrArg some (by kernel_rfl))⟩
  f28 := ⟨Tryz.f115.name, by decide, Tryz.func115.trans (congrArg some (by kernel_rfl))⟩
  f29 := ⟨Tryz.f116.name, by decide, Tryz.func116.trans (congrArg some (by kernel_rfl))⟩
  f31 := Tryz.func122.trans (congrArg some (by kernel_rfl))
  f32 := Tryz.func123.trans (congrArg some (by kernel_rfl))
  f36 := ⟨Tryz.f121.name, by decide, Tryz.func121.trans (congrArg some (by kernel_rfl))⟩
  f37 := ⟨Tryz.f124.name, by decide, Tryz.func124.trans (congrArg some (by kernel_rfl))⟩
  f38 := ⟨Tryz.f125.name, by decide, Tryz.func125.trans (congrArg some (by kernel_rfl))⟩
  f39 := ⟨Tryz.f126.name, by decide, Tryz.func126.trans (congrArg some (by kernel_rfl))⟩
  f41 := ⟨Tryz.f128.name, by decide, Tryz.func128.trans (congrArg some (by kernel_rfl))⟩
  t0 := Tryz.underlying0
  a0 := Tryz.isAgg0
  z0 := Tryz.sizeOf0
  v0 := Tryz.zeroValue0
  t3 := Tryz.underlying3
  a3 := Tryz.isAgg3
  z3 := Tryz.sizeOf3
  v3 := Tryz.zeroValue3
  t4 := Tryz.underlying4
  a4 := Tryz.isAgg4
  z4 := Tryz.sizeOf4
  v4 := Tryz.zeroValue4
  t5 := Tryz.underlying5
  a5 := Tryz.isAgg5
  z5 := Tryz.sizeOf5
  v5 := Tryz.zeroValue5
  t9 := Tryz.underlying9
  a9 := Tryz.isAgg9
  z9 := Tryz.sizeOf9
  v9 := Tryz.zeroValue9
  t26 := Tryz.underlying31
  a26 := Tryz.isAgg31
  z26 := Tryz.sizeOf31
  v26 := Tryz.zeroValue31
  t27 := Tryz.underlying31
  a27 := Tryz.isAgg31
  z27 := Tryz.sizeOf31
  v27 := Tryz.zeroValue31
  t29 := Tryz.underlying9
  a29 := Tryz.isAgg9
  z29 := Tryz.sizeOf9
  v29 := Tryz.zeroValue9
  t32 := Tryz.underlying69
  a32 := Tryz.isAgg69
  z32 := Tryz.sizeOf69
  v32 := Tryz.zeroValue69
  t35 := Tryz.underlying79
  a35 := Tryz.isAgg79
  z35 := Tryz.sizeOf79
  v35 := Tryz.zeroValue79
  t36 := Tryz.underlying80
  a36 := Tryz.isAgg80
  z36 := Tryz.sizeOf80
  v36 := Tryz.zeroValue80
  t41 := Tryz.underlying84
  a41 := Tryz.isAgg84
  z41 := Tryz.sizeOf84
  v41 := Tryz.zeroValue84
  t44 := Tryz.underlying87
  a44 := Tryz.isAgg87
  z44 := Tryz.sizeOf87
  v44 := Tryz.zeroValue87
  t46 := Tryz.underlying89
  a46 := Tryz.isAgg89
  z46 := Tryz.sizeOf89
  v46 := Tryz.zeroValue89
  t53 := Tryz.underlying91
  a53 := Tryz.isAgg91
  z53 := Tryz.sizeOf91
  v53 := Tryz.zeroValue91
  t57 := Tryz.underlying95
  a57 := Tryz.isAgg95
  z57 := Tryz.sizeOf95
  v57 := Tryz.zeroValue95
  t63 := Tryz.underlying97
  a63 := Tryz.isAgg97
  z63 := Tryz.sizeOf97
  v63 := Tryz.zeroValue97
  t64 := Tryz.underlying98
  a64 := Tryz.isAgg98
  z64 := Tryz.sizeOf98
  v64 := Tryz.zeroValue98 }
end Go.Proofs
