/-
  DERIVED: THE SHELF's CONTRACTS AT THIS DUMP, IN PLAIN WORDS (tools/lay-plain.mjs out of 'YthhdoeflafakaaaSrtRaw.lean', which tools/lay-shelf.mjs wrote): THE SAME DECLARATIONS UNDER THE SAME NAMES: 'import', 'namespace', 'open', 'def', 'theorem' AND NOTHING ELSE: no command of the shelf's: FOR A HAND-IN. Each laying: the table of numbers ('.._ren') and one theorem, a field a fact of the dump's own or the kernel's comparison; each contract: ONE APPLICATION.
-/
import Derived.Shelf.SlSortCmp.WholeK
import Derived.Ground.SlsfProg
import Derived.Test.YthhdoeflafakaaaProg
namespace Go.Proofs
open Go.Shelf
def Try.sort38_ren : Go.Shelf.Ren := ⟨fun | 6 => 38 | 15 => 59 | 14 => 58 | 28 => 80 | 29 => 81 | 20 => 72 | 21 => 73 | 22 => 74 | 23 => 75 | 24 => 76 | 25 => 77 | 26 => 78 | 27 => 79 | 46 => 88 | 47 => 89 | 48 => 90 | 49 => 91 | 50 => 92 | 57 => 96 | n => n, fun | 22 => 33 | 24 => 50 | 25 => 81 | 3 => 3 | 39 => 95 | 0 => 0 | 53 => 115 | 55 => 117 | 4 => 4 | 46 => 109 | 45 => 108 | 50 => 71 | 5 => 5 | 9 => 9 | 66 => 121 | 70 => 125 | 76 => 128 | 77 => 129 | n => n, fun | n => n⟩
theorem Try.sort38 : Go.Proofs.SlLaysF0.n6 Try.prog Try.sort38_ren := {
  mixed := by kernel_rfl
  f6 := ⟨Try.f38.name, by decide, Try.func38.trans (congrArg some (by kernel_rfl))⟩
  f14 := ⟨Try.f58.name, by decide, Try.func58.trans (congrArg some (by kernel_rfl))⟩
  f15 := Try.func59.trans (congrArg some (by kernel_rfl))
  f20 := ⟨Try.f72.name, by decide, Try.func72.trans (congrArg some (by kernel_rfl))⟩
  f21 := ⟨Try.f73.name, by decide, Try.func73.trans (congrArg some (by kernel_rfl))⟩
  f22 := ⟨Try.f74.name, by decide, Try.func74.trans (congrArg some (by kernel_rfl))⟩
  f23 := ⟨Try.f75.name, by decide, Try.func75.trans (congrArg some (by kernel_rfl))⟩
  f24 := ⟨Try.f76.name, by decide, Try.func76.trans (congrArg some (by kernel_rfl))⟩
  f25 := ⟨Try.f77.name, by decide, Try.func77.trans (congrArg some (by kernel_rfl))⟩
  f26 := ⟨Try.f78.name, by decide, Try.func78.trans (congrArg some (by kernel_rfl))⟩
  f27 := ⟨Try.f79.name, by decide, Try.func79.trans (congrArg some (by kernel_rfl))⟩
  f28 := Try.func80.trans (congrArg some (by kernel_rfl))
  f29 := Try.func81.trans (congrArg some (by kernel_rfl))
  f46 := ⟨Try.f88.name, by decide, Try.func88.trans (congrArg some (by kernel_rfl))⟩
  f47 := Try.func89.trans (congrArg some (by kernel_rfl))
  f48 := Try.func90.trans (congrArg some (by kernel_rfl))
  f49 := ⟨Try.f91.name, by decide, Try.func91.trans (congrArg some (by kernel_rfl))⟩
  f50 := ⟨Try.f92.name, by decide, Try.func92.trans (congrArg some (by kernel_rfl))⟩
  f57 := ⟨Try.f96.name, by decide, Try.func96.trans (congrArg some (by kernel_rfl))⟩
  t0 := Try.underlying0
  a0 := Try.isAgg0
  z0 := Try.sizeOf0
  v0 := Try.zeroValue0
  t3 := Try.underlying3
  a3 := Try.isAgg3
  z3 := Try.sizeOf3
  v3 := Try.zeroValue3
  t4 := Try.underlying4
  a4 := Try.isAgg4
  z4 := Try.sizeOf4
  v4 := Try.zeroValue4
  t5 := Try.underlying5
  a5 := Try.isAgg5
  z5 := Try.sizeOf5
  v5 := Try.zeroValue5
  t9 := Try.underlying9
  a9 := Try.isAgg9
  z9 := Try.sizeOf9
  v9 := Try.zeroValue9
  t22 := Try.underlying33
  a22 := Try.isAgg33
  z22 := Try.sizeOf33
  v22 := Try.zeroValue33
  t25 := Try.underlying81
  a25 := Try.isAgg81
  z25 := Try.sizeOf81
  v25 := Try.zeroValue81
  t39 := Try.underlying95
  a39 := Try.isAgg95
  z39 := Try.sizeOf95
  v39 := Try.zeroValue95
  t45 := Try.underlying108
  a45 := Try.isAgg108
  z45 := Try.sizeOf108
  v45 := Try.zeroValue108
  t46 := Try.underlying109
  a46 := Try.isAgg109
  z46 := Try.sizeOf109
  v46 := Try.zeroValue109
  t50 := Try.underlying71
  a50 := Try.isAgg71
  z50 := Try.sizeOf71
  v50 := Try.zeroValue71
  t53 := Try.underlying115
  a53 := Try.isAgg115
  z53 := Try.sizeOf115
  v53 := Try.zeroValue115
  t55 := Try.underlying117
  a55 := Try.isAgg117
  z55 := Try.sizeOf117
  v55 := Try.zeroValue117
  t66 := Try.underlying121
  a66 := Try.isAgg121
  z66 := Try.sizeOf121
  v66 := Try.zeroValue121
  t70 := Try.underlying125
  a70 := Try.isAgg125
  z70 := Try.sizeOf125
  v70 := Try.zeroValue125
  t76 := Try.underlying128
  a76 := Try.isAgg128
  z76 := Try.sizeOf128
  v76 := Try.zeroValue128
  t77 := Try.underlying129
  a77 := Try.isAgg129
  z77 := Try.sizeOf129
  v77 := Try.zeroValue129 }
end Go.Proofs
