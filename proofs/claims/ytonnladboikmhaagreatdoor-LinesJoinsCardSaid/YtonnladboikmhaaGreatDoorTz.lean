/-
  DERIVED: THE SHELF's CONTRACTS AT THIS DUMP, IN PLAIN WORDS (tools/lay-plain.mjs out of 'YtonnladboikmhaaGreatDoorTzRaw.lean', which tools/lay-shelf.mjs wrote): THE SAME DECLARATIONS UNDER THE SAME NAMES: 'import', 'namespace', 'open', 'def', 'theorem' AND NOTHING ELSE: no command of the shelf's: FOR A HAND-IN. Each laying: the table of numbers ('.._ren') and one theorem, a field a fact of the dump's own or the kernel's comparison; each contract: ONE APPLICATION.
-/
import Derived.Shelf.Lays7
import Derived.Shelf.Spec.TrailingZeros
import Derived.Ground.Names7Prog
import Derived.Test.YtonnladboikmhaaGreatDoorProg
namespace Go.Proofs
open Go.Shelf
def Tryz.tz_ren : Go.Shelf.Ren := ⟨fun | 29 => 150 | n => n, fun | 22 => 96 | 3 => 3 | 4 => 4 | 25 => 101 | 54 => 174 | 0 => 0 | 5 => 5 | n => n, fun | 1 => 3 | n => n⟩
theorem Tryz.tz : Go.Proofs.Lays7.n29 Tryz.prog Tryz.tz_ren := {
  mixed := by kernel_rfl
  f29 := Tryz.func150.trans (congrArg some (by kernel_rfl))
  t0 := Tryz.underlying0
  a0 := Tryz.isAgg0
  z0 := Tryz.sizeOf0
  v0 := Tryz.zeroValue0
  i0 := by kernel_rfl
  t3 := Tryz.underlying3
  a3 := Tryz.isAgg3
  z3 := Tryz.sizeOf3
  v3 := Tryz.zeroValue3
  i3 := by kernel_rfl
  t4 := Tryz.underlying4
  a4 := Tryz.isAgg4
  z4 := Tryz.sizeOf4
  v4 := Tryz.zeroValue4
  i4 := by kernel_rfl
  t5 := Tryz.underlying5
  a5 := Tryz.isAgg5
  z5 := Tryz.sizeOf5
  v5 := Tryz.zeroValue5
  i5 := by kernel_rfl
  t22 := Tryz.underlying96
  a22 := Tryz.isAgg96
  z22 := Tryz.sizeOf96
  v22 := Tryz.zeroValue96
  i22 := by kernel_rfl
  t25 := Tryz.underlying101
  a25 := Tryz.isAgg101
  z25 := Tryz.sizeOf101
  v25 := Tryz.zeroValue101
  i25 := by kernel_rfl
  t54 := Tryz.underlying174
  a54 := Tryz.isAgg174
  z54 := Tryz.sizeOf174
  g1 := by kernel_rfl }
end Go.Proofs
