/-
  DERIVED: THE SHELF's CONTRACTS AT THIS DUMP, IN PLAIN WORDS (tools/lay-plain.mjs out of 'YtoancpjlkhijiaaGreatShelfSortSoft.lean', which tools/lay-shelf.mjs wrote): THE SAME DECLARATIONS UNDER THE SAME NAMES: 'import', 'namespace', 'open', 'def', 'theorem' AND NOTHING ELSE: no command of the shelf's: FOR A HAND-IN. Each laying: the table of numbers ('.._ren') and one theorem, a field a fact of the dump's own or the kernel's comparison; each contract: ONE APPLICATION.
-/
import Derived.Shelf.SlGeneric
import Derived.Ground.SlgmProg
import Derived.Shelf.SortM.Plain
import Derived.Shelf.SortM.SortNone
import Derived.Test.YtoancpjlkhijiaaGreatProg
namespace Go.Proofs
open Go.Shelf
def Tryz.laysSort_ren : Go.Shelf.Ren := ⟨fun | 5 => 55 | 8 => 77 | 7 => 76 | 19 => 93 | 20 => 94 | 10 => 84 | 11 => 85 | 12 => 86 | 13 => 87 | 14 => 88 | 15 => 89 | 16 => 90 | 17 => 91 | 18 => 92 | 30 => 99 | 31 => 100 | 32 => 101 | 33 => 102 | 34 => 103 | 35 => 104 | 40 => 106 | n => n, fun | 23 => 42 | 25 => 2 | 3 => 3 | 32 => 101 | 22 => 42 | 0 => 0 | 44 => 124 | 46 => 126 | 4 => 4 | 36 => 117 | 35 => 116 | 41 => 108 | 5 => 5 | 9 => 9 | 53 => 130 | 57 => 134 | 63 => 137 | 64 => 138 | n => n, fun | n => n⟩
theorem Tryz.laysSort : Go.Proofs.SlLaysM.n5 Tryz.prog Tryz.laysSort_ren := {
  mixed := by kernel_rfl
  f5 := ⟨Tryz.f55.name, by decide, Tryz.func55.trans (congrArg some (by kernel_rfl))⟩
  f7 := ⟨Tryz.f76.name, by decide, Tryz.func76.trans (congrArg some (by kernel_rfl))⟩
  f8 := Tryz.func77.trans (congrArg some (by kernel_rfl))
  f10 := ⟨Tryz.f84.name, by decide, Tryz.func84.trans (congrArg some (by kernel_rfl))⟩
  f11 := ⟨Tryz.f85.name, by decide, Tryz.func85.trans (congrArg some (by kernel_rfl))⟩
  f12 := ⟨Tryz.f86.name, by decide, Tryz.func86.trans (congrArg some (by kernel_rfl))⟩
  f13 := ⟨Tryz.f87.name, by decide, Tryz.func87.trans (congrArg some (by kernel_rfl))⟩
  f14 := ⟨Tryz.f88.name, by decide, Tryz.func88.trans (congrArg some (by kernel_rfl))⟩
  f15 := ⟨Tryz.f89.name, by decide, Tryz.func89.trans (congrArg some (by kernel_rfl))⟩
  f16 := ⟨Tryz.f90.name, by decide, Tryz.func90.trans (congrArg some (by kernel_rfl))⟩
  f17 := ⟨Tryz.f91.name, by decide, Tryz.func91.trans (congrArg some (by kernel_rfl))⟩
  f18 := ⟨Tryz.f92.name, by decide, Tryz.func92.trans (congrArg some (by kernel_rfl))⟩
  f19 := Tryz.func93.trans (congrArg some (by kernel_rfl))
  f20 := Tryz.func94.trans (congrArg some (by kernel_rfl))
  f30 := ⟨Tryz.f99.name, by decide, Tryz.func99.trans (congrArg some (by kernel_rfl))⟩
  f31 := Tryz.func100.trans (congrArg some (by kernel_rfl))
  f32 := Tryz.func101.trans (congrArg some (by kernel_rfl))
  f33 := ⟨Tryz.f102.name, by decide, Tryz.func102.trans (congrArg some (by kernel_rfl))⟩
  f34 := ⟨Tryz.f103.name, by decide, Tryz.func103.trans (congrArg some (by kernel_rfl))⟩
  f35 := ⟨Tryz.f104.name, by decide, Tryz.func104.trans (congrArg some (by kernel_rfl))⟩
  f40 := ⟨Tryz.f106.name, by decide, Tryz.func106.trans (congrArg some (by kernel_rfl))⟩
  t0 := Tryz.underlying0
  a0 := Tryz.isAgg0
  z0 := Tryz.sizeOf0
  v0 := Tryz.zeroValue0
  t3 := Tryz.underlying3
  a3 := Tryz.isAgg3
  z3 := Tryz.sizeOf3
  v3 := Tryz.zeroValue3
  t4 := Tryz.underlying4
  a4 := Tryz.isAgg4
  z4 := Tryz.sizeOf4
  v4 := Tryz.zeroValue4
  t5 := Tryz.underlying5
  a5 := Tryz.isAgg5
  z5 := Tryz.sizeOf5
  v5 := Tryz.zeroValue5
  t9 := Tryz.underlying9
  a9 := Tryz.isAgg9
  z9 := Tryz.sizeOf9
  v9 := Tryz.zeroValue9
  t22 := Tryz.underlying42
  a22 := Tryz.isAgg42
  z22 := Tryz.sizeOf42
  v22 := Tryz.zeroValue42
  t23 := Tryz.underlying42
  a23 := Tryz.isAgg42
  z23 := Tryz.sizeOf42
  v23 := Tryz.zeroValue42
  t25 := Tryz.underlying2
  a25 := Tryz.isAgg2
  z25 := Tryz.sizeOf2
  v25 := Tryz.zeroValue2
  t32 := Tryz.underlying101
  a32 := Tryz.isAgg101
  z32 := Tryz.sizeOf101
  v32 := Tryz.zeroValue101
  t35 := Tryz.underlying116
  a35 := Tryz.isAgg116
  z35 := Tryz.sizeOf116
  v35 := Tryz.zeroValue116
  t36 := Tryz.underlying117
  a36 := Tryz.isAgg117
  z36 := Tryz.sizeOf117
  v36 := Tryz.zeroValue117
  t41 := Tryz.underlying108
  a41 := Tryz.isAgg108
  z41 := Tryz.sizeOf108
  v41 := Tryz.zeroValue108
  t44 := Tryz.underlying124
  a44 := Tryz.isAgg124
  z44 := Tryz.sizeOf124
  v44 := Tryz.zeroValue124
  t46 := Tryz.underlying126
  a46 := Tryz.isAgg126
  z46 := Tryz.sizeOf126
  v46 := Tryz.zeroValue126
  t53 := Tryz.underlying130
  a53 := Tryz.isAgg130
  z53 := Tryz.sizeOf130
  v53 := Tryz.zeroValue130
  t57 := Tryz.underlying134
  a57 := Tryz.isAgg134
  z57 := Tryz.sizeOf134
  v57 := Tryz.zeroValue134
  t63 := Tryz.underlying137
  a63 := Tryz.isAgg137
  z63 := Tryz.sizeOf137
  v63 := Tryz.zeroValue137
  t64 := Tryz.underlying138
  a64 := Tryz.isAgg138
  z64 := Tryz.sizeOf138
  v64 := Tryz.zeroValue138 }
end Go.Proofs
