/-
  DERIVED: THE SHELF's CONTRACTS AT THIS DUMP, IN PLAIN WORDS (tools/lay-plain.mjs out of 'YtpnfpndhdnmhkaaSrtRaw.lean', which tools/lay-shelf.mjs wrote): THE SAME DECLARATIONS UNDER THE SAME NAMES: 'import', 'namespace', 'open', 'def', 'theorem' AND NOTHING ELSE: no command of the shelf's: FOR A HAND-IN. Each laying: the table of numbers ('.._ren') and one theorem, a field a fact of the dump's own or the kernel's comparison; each contract: ONE APPLICATION.
-/
import Derived.Shelf.SlSortCmp.WholeK
import Derived.Ground.SlsfProg
import Derived.Test.YtpnfpndhdnmhkaaProg
namespace Go.Proofs
open Go.Shelf
def Try.sort42_ren : Go.Shelf.Ren := ⟨fun | 6 => 42 | 15 => 67 | 14 => 66 | 28 => 88 | 29 => 89 | 20 => 80 | 21 => 81 | 22 => 82 | 23 => 83 | 24 => 84 | 25 => 85 | 26 => 86 | 27 => 87 | 46 => 98 | 47 => 99 | 48 => 100 | 49 => 101 | 50 => 102 | 57 => 113 | n => n, fun | 22 => 32 | 24 => 29 | 25 => 90 | 3 => 3 | 39 => 114 | 0 => 0 | 53 => 133 | 55 => 108 | 4 => 4 | 46 => 126 | 45 => 125 | 50 => 130 | 5 => 5 | 9 => 9 | 66 => 141 | 70 => 145 | 76 => 154 | 77 => 155 | n => n, fun | n => n⟩
theorem Try.sort42 : Go.Proofs.SlLaysF0.n6 Try.prog Try.sort42_ren := {
  mixed := by kernel_rfl
  f6 := ⟨Try.f42.name, by decide, Try.func42.trans (congrArg some (by kernel_rfl))⟩
  f14 := ⟨Try.f66.name, by decide, Try.func66.trans (congrArg some (by kernel_rfl))⟩
  f15 := Try.func67.trans (congrArg some (by kernel_rfl))
  f20 := ⟨Try.f80.name, by decide, Try.func80.trans (congrArg some (by kernel_rfl))⟩
  f21 := ⟨Try.f81.name, by decide, Try.func81.trans (congrArg some (by kernel_rfl))⟩
  f22 := ⟨Try.f82.name, by decide, Try.func82.trans (congrArg some (by kernel_rfl))⟩
  f23 := ⟨Try.f83.name, by decide, Try.func83.trans (congrArg some (by kernel_rfl))⟩
  f24 := ⟨Try.f84.name, by decide, Try.func84.trans (congrArg some (by kernel_rfl))⟩
  f25 := ⟨Try.f85.name, by decide, Try.func85.trans (congrArg some (by kernel_rfl))⟩
  f26 := ⟨Try.f86.name, by decide, Try.func86.trans (congrArg some (by kernel_rfl))⟩
  f27 := ⟨Try.f87.name, by decide, Try.func87.trans (congrArg some (by kernel_rfl))⟩
  f28 := Try.func88.trans (congrArg some (by kernel_rfl))
  f29 := Try.func89.trans (congrArg some (by kernel_rfl))
  f46 := ⟨Try.f98.name, by decide, Try.func98.trans (congrArg some (by kernel_rfl))⟩
  f47 := Try.func99.trans (congrArg some (by kernel_rfl))
  f48 := Try.func100.trans (congrArg some (by kernel_rfl))
  f49 := ⟨Try.f101.name, by decide, Try.func101.trans (congrArg some (by kernel_rfl))⟩
  f50 := ⟨Try.f102.name, by decide, Try.func102.trans (congrArg some (by kernel_rfl))⟩
  f57 := ⟨Try.f113.name, by decide, Try.func113.trans (congrArg some (by kernel_rfl))⟩
  t0 := Try.underlying0
  a0 := Try.isAgg0
  z0 := Try.sizeOf0
  v0 := Try.zeroValue0
  t3 := Try.underlying3
  a3 := Try.isAgg3
  z3 := Try.sizeOf3
  v3 := Try.zeroValue3
  t4 := Try.underlying4
  a4 := Try.isAgg4
  z4 := Try.sizeOf4
  v4 := Try.zeroValue4
  t5 := Try.underlying5
  a5 := Try.isAgg5
  z5 := Try.sizeOf5
  v5 := Try.zeroValue5
  t9 := Try.underlying9
  a9 := Try.isAgg9
  z9 := Try.sizeOf9
  v9 := Try.zeroValue9
  t22 := Try.underlying32
  a22 := Try.isAgg32
  z22 := Try.sizeOf32
  v22 := Try.zeroValue32
  t25 := Try.underlying90
  a25 := Try.isAgg90
  z25 := Try.sizeOf90
  v25 := Try.zeroValue90
  t39 := Try.underlying114
  a39 := Try.isAgg114
  z39 := Try.sizeOf114
  v39 := Try.zeroValue114
  t45 := Try.underlying125
  a45 := Try.isAgg125
  z45 := Try.sizeOf125
  v45 := Try.zeroValue125
  t46 := Try.underlying126
  a46 := Try.isAgg126
  z46 := Try.sizeOf126
  v46 := Try.zeroValue126
  t50 := Try.underlying130
  a50 := Try.isAgg130
  z50 := Try.sizeOf130
  v50 := Try.zeroValue130
  t53 := Try.underlying133
  a53 := Try.isAgg133
  z53 := Try.sizeOf133
  v53 := Try.zeroValue133
  t55 := Try.underlying108
  a55 := Try.isAgg108
  z55 := Try.sizeOf108
  v55 := Try.zeroValue108
  t66 := Try.underlying141
  a66 := Try.isAgg141
  z66 := Try.sizeOf141
  v66 := Try.zeroValue141
  t70 := Try.underlying145
  a70 := Try.isAgg145
  z70 := Try.sizeOf145
  v70 := Try.zeroValue145
  t76 := Try.underlying154
  a76 := Try.isAgg154
  z76 := Try.sizeOf154
  v76 := Try.zeroValue154
  t77 := Try.underlying155
  a77 := Try.isAgg155
  z77 := Try.sizeOf155
  v77 := Try.zeroValue155 }
end Go.Proofs
