/-
  DERIVED: THE SHELF's CONTRACTS AT THIS DUMP, IN PLAIN WORDS (tools/lay-plain.mjs out of 'YtjinabglachglaaShelfSortSoft.lean', which tools/lay-shelf.mjs wrote): THE SAME DECLARATIONS UNDER THE SAME NAMES: 'import', 'namespace', 'open', 'def', 'theorem' AND NOTHING ELSE: no command of the shelf's: FOR A HAND-IN. Each laying: the table of numbers ('.._ren') and one theorem, a field a fact of the dump's own or the kernel's comparison; each contract: ONE APPLICATION.
-/
import Derived.Shelf.SlGeneric
import Derived.Ground.SlgmProg
import Derived.Shelf.SortM.Plain
import Derived.Shelf.SortM.SortNone
import Derived.Test.YtjinabglachglaaProg
namespace Go.Proofs
open Go.Shelf
def Try.laysSort_ren : Go.Shelf.Ren := ⟨fun | 5 => 54 | 8 => 82 | 7 => 81 | 19 => 102 | 20 => 103 | 10 => 93 | 11 => 94 | 12 => 95 | 13 => 96 | 14 => 97 | 15 => 98 | 16 => 99 | 17 => 100 | 18 => 101 | 30 => 106 | 31 => 107 | 32 => 108 | 33 => 109 | 34 => 110 | 35 => 111 | 40 => 113 | n => n, fun | 23 => 33 | 25 => 2 | 3 => 3 | 32 => 113 | 22 => 33 | 0 => 0 | 44 => 139 | 46 => 141 | 4 => 4 | 36 => 132 | 35 => 131 | 41 => 120 | 5 => 5 | 9 => 9 | 53 => 144 | 57 => 148 | 63 => 151 | 64 => 31 | n => n, fun | n => n⟩
theorem Try.laysSort : Go.Proofs.SlLaysM.n5 Try.prog Try.laysSort_ren := {
  mixed := by kernel_rfl
  f5 := ⟨Try.f54.name, by decide, Try.func54.trans (congrArg some (by kernel_rfl))⟩
  f7 := ⟨Try.f81.name, by decide, Try.func81.trans (congrArg some (by kernel_rfl))⟩
  f8 := Try.func82.trans (congrArg some (by kernel_rfl))
  f10 := ⟨Try.f93.name, by decide, Try.func93.trans (congrArg some (by kernel_rfl))⟩
  f11 := ⟨Try.f94.name, by decide, Try.func94.trans (congrArg some (by kernel_rfl))⟩
  f12 := ⟨Try.f95.name, by decide, Try.func95.trans (congrArg some (by kernel_rfl))⟩
  f13 := ⟨Try.f96.name, by decide, Try.func96.trans (congrArg some (by kernel_rfl))⟩
  f14 := ⟨Try.f97.name, by decide, Try.func97.trans (congrArg some (by kernel_rfl))⟩
  f15 := ⟨Try.f98.name, by decide, Try.func98.trans (congrArg some (by kernel_rfl))⟩
  f16 := ⟨Try.f99.name, by decide, Try.func99.trans (congrArg some (by kernel_rfl))⟩
  f17 := ⟨Try.f100.name, by decide, Try.func100.trans (congrArg some (by kernel_rfl))⟩
  f18 := ⟨Try.f101.name, by decide, Try.func101.trans (congrArg some (by kernel_rfl))⟩
  f19 := Try.func102.trans (congrArg some (by kernel_rfl))
  f20 := Try.func103.trans (congrArg some (by kernel_rfl))
  f30 := ⟨Try.f106.name, by decide, Try.func106.trans (congrArg some (by kernel_rfl))⟩
  f31 := Try.func107.trans (congrArg some (by kernel_rfl))
  f32 := Try.func108.trans (congrArg some (by kernel_rfl))
  f33 := ⟨Try.f109.name, by decide, Try.func109.trans (congrArg some (by kernel_rfl))⟩
  f34 := ⟨Try.f110.name, by decide, Try.func110.trans (congrArg some (by kernel_rfl))⟩
  f35 := ⟨Try.f111.name, by decide, Try.func111.trans (congrArg some (by kernel_rfl))⟩
  f40 := ⟨Try.f113.name, by decide, Try.func113.trans (congrArg some (by kernel_rfl))⟩
  t0 := Try.underlying0
  a0 := Try.isAgg0
  z0 := Try.sizeOf0
  v0 := Try.zeroValue0
  t3 := Try.underlying3
  a3 := Try.isAgg3
  z3 := Try.sizeOf3
  v3 := Try.zeroValue3
  t4 := Try.underlying4
  a4 := Try.isAgg4
  z4 := Try.sizeOf4
  v4 := Try.zeroValue4
  t5 := Try.underlying5
  a5 := Try.isAgg5
  z5 := Try.sizeOf5
  v5 := Try.zeroValue5
  t9 := Try.underlying9
  a9 := Try.isAgg9
  z9 := Try.sizeOf9
  v9 := Try.zeroValue9
  t22 := Try.underlying33
  a22 := Try.isAgg33
  z22 := Try.sizeOf33
  v22 := Try.zeroValue33
  t23 := Try.underlying33
  a23 := Try.isAgg33
  z23 := Try.sizeOf33
  v23 := Try.zeroValue33
  t25 := Try.underlying2
  a25 := Try.isAgg2
  z25 := Try.sizeOf2
  v25 := Try.zeroValue2
  t32 := Try.underlying113
  a32 := Try.isAgg113
  z32 := Try.sizeOf113
  v32 := Try.zeroValue113
  t35 := Try.underlying131
  a35 := Try.isAgg131
  z35 := Try.sizeOf131
  v35 := Try.zeroValue131
  t36 := Try.underlying132
  a36 := Try.isAgg132
  z36 := Try.sizeOf132
  v36 := Try.zeroValue132
  t41 := Try.underlying120
  a41 := Try.isAgg120
  z41 := Try.sizeOf120
  v41 := Try.zeroValue120
  t44 := Try.underlying139
  a44 := Try.isAgg139
  z44 := Try.sizeOf139
  v44 := Try.zeroValue139
  t46 := Try.underlying141
  a46 := Try.isAgg141
  z46 := Try.sizeOf141
  v46 := Try.zeroValue141
  t53 := Try.underlying144
  a53 := Try.isAgg144
  z53 := Try.sizeOf144
  v53 := Try.zeroValue144
  t57 := Try.underlying148
  a57 := Try.isAgg148
  z57 := Try.sizeOf148
  v57 := Try.zeroValue148
  t63 := Try.underlying151
  a63 := Try.isAgg151
  z63 := Try.sizeOf151
  v63 := Try.zeroValue151
  t64 := Try.underlying31
  a64 := Try.isAgg31
  z64 := Try.sizeOf31
  v64 := Try.zeroValue31 }
end Go.Proofs
