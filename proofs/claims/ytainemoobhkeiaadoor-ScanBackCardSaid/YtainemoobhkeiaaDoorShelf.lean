import Derived.Shelf.Strings.Builder1
import Derived.Shelf.Strings.Builder2
import Derived.Shelf.Strings.OnBuilder
import Derived.Shelf.Small.Strs
import Derived.Shelf.Strings.BuilderF
import Derived.Shelf.Strings.BuilderK
import Derived.Shelf.Strconv.Atoi
import Derived.Shelf.Strconv.Itoa0
import Derived.Shelf.Strconv.Itoa1
import Derived.Shelf.LaysM
import Derived.Shelf.Strconv.Itoa2
import Derived.Shelf.Strconv.Itoa3
import Derived.Shelf.Strconv.AtoiErrFast
import Derived.Shelf.Strconv.ParseIntEmpty
import Derived.Shelf.Strconv.AtoiFail
import Derived.Shelf.Strconv.Clone
import Derived.Shelf.Strconv.SyntaxError
import Derived.Shelf.LaysC
import Derived.Shelf.Strconv.ToError
import Derived.Shelf.Strconv.Lower
import Derived.Shelf.Strconv.ParseUint10
import Derived.Shelf.Strconv.ParseUint10Empty
import Derived.Shelf.Strconv.ParseUint10Any
import Derived.Shelf.Strconv.ParseInt10
import Derived.Shelf.Strconv.AtoiLong
import Derived.Shelf.Strconv.AtoiInnerAll
import Derived.Shelf.Strconv.RangeError
import Derived.Shelf.Strconv.ToErrorRange
import Derived.Shelf.Strconv.AtoiAll
import Derived.Shelf.Strconv.ErrVarAll
import Derived.Shelf.Strings.Search1
import Derived.Test.YtainemoobhkeiaaDoorProg
namespace Go.Proofs
open Go.Shelf
def Tryd.lays156_ren : Go.Shelf.Ren := ⟨fun | 156 => 41 | 165 => 59 | 166 => 60 | 169 => 61 | 240 => 84 | 241 => 85 | 276 => 98 | 277 => 99 | n => n, fun | 31 => 74 | 9 => 9 | 3 => 3 | 4 => 4 | 0 => 0 | 20 => 20 | 72 => 94 | 76 => 67 | 70 => 92 | 37 => 83 | 75 => 66 | 127 => 116 | 164 => 126 | 5 => 5 | 80 => 62 | n => n, fun | n => n⟩
theorem Tryd.lays156 : Go.Proofs.Lays.n156 Tryd.prog Tryd.lays156_ren := {
  mixed := by kernel_rfl
  f156 := Tryd.func41.trans (congrArg some (by kernel_rfl))
  f165 := Tryd.func59.trans (congrArg some (by kernel_rfl))
  f166 := Tryd.func60.trans (congrArg some (by kernel_rfl))
  f169 := Tryd.func61.trans (congrArg some (by kernel_rfl))
  f240 := Tryd.func84.trans (congrArg some (by kernel_rfl))
  f241 := Tryd.func85.trans (congrArg some (by kernel_rfl))
  f276 := Tryd.func98.trans (congrArg some (by kernel_rfl))
  f277 := Tryd.func99.trans (congrArg some (by kernel_rfl))
  t0 := Tryd.underlying0
  a0 := Tryd.isAgg0
  z0 := Tryd.sizeOf0
  v0 := Tryd.zeroValue0
  t3 := Tryd.underlying3
  a3 := Tryd.isAgg3
  z3 := Tryd.sizeOf3
  v3 := Tryd.zeroValue3
  t4 := Tryd.underlying4
  a4 := Tryd.isAgg4
  z4 := Tryd.sizeOf4
  v4 := Tryd.zeroValue4
  t9 := Tryd.underlying9
  a9 := Tryd.isAgg9
  z9 := Tryd.sizeOf9
  v9 := Tryd.zeroValue9
  t20 := Tryd.underlying20
  a20 := Tryd.isAgg20
  z20 := Tryd.sizeOf20
  v20 := Tryd.zeroValue20
  t31 := Tryd.underlying74
  a31 := Tryd.isAgg74
  z31 := Tryd.sizeOf74
  v31 := Tryd.zeroValue74
  t37 := Tryd.underlying83
  a37 := Tryd.isAgg83
  z37 := Tryd.sizeOf83
  v37 := Tryd.zeroValue83
  t70 := Tryd.underlying92
  a70 := Tryd.isAgg92
  z70 := Tryd.sizeOf92
  v70 := Tryd.zeroValue92
  t72 := Tryd.underlying94
  a72 := Tryd.isAgg94
  z72 := Tryd.sizeOf94
  v72 := Tryd.zeroValue94
  t75 := Tryd.underlying66
  a75 := Tryd.isAgg66
  z75 := Tryd.sizeOf66
  v75 := Tryd.zeroValue66
  t76 := Tryd.underlying67
  a76 := Tryd.isAgg67
  z76 := Tryd.sizeOf67
  v76 := Tryd.zeroValue67
  t127 := Tryd.underlying116
  a127 := Tryd.isAgg116
  z127 := Tryd.sizeOf116
  v127 := Tryd.zeroValue116
  t164 := Tryd.underlying126
  a164 := Tryd.isAgg126
  z164 := Tryd.sizeOf126
  v164 := Tryd.zeroValue126 }
theorem Tryd.Builder_Extra_156 : Builder.Extra Tryd.prog Tryd.lays156_ren := {
  sizeBuilder := by kernel_rfl
  liesBuilder := by kernel_rfl
  t5 := Tryd.underlying5
  a5 := Tryd.isAgg5
  z5 := Tryd.sizeOf5
  v5 := Tryd.zeroValue5
  infoByte := by kernel_rfl
  cellsByte := by kernel_rfl
  sizeByte := by kernel_rfl
  neB5 := by decide }
open Go.RowKit in
theorem Tryd.strings_Join (bk o c : Nat) (xs : List ByteArray) (sep : ByteArray) (w : World) (hcells : ∀ (j : Nat) x, xs[j]? = some x → w.cell? ⟨bk, o + j, none⟩ = some (.string x)) (hbk : bk < w.heap.size) (hN : xs.length ≤ 140737488355328) (hcap : xs.length ≤ c) (hlen : (Lib.join (xs.map (·.data.toList)) sep.data.toList).length ≤ 140737488355328) :
    Calls Tryd.prog 41 #[.slice (some ⟨bk, o, none⟩) xs.length c, .string sep] w fun e w' => e = .returned (.string ⟨(Lib.join (xs.map (·.data.toList)) sep.data.toList).toArray⟩) ∧ Below w.heap.size w w' := Any.strings_Join Tryd.lays156 Tryd.Builder_Extra_156 bk o c xs sep w hcells hbk hN hcap hlen
def Tryd.lays137_ren : Go.Shelf.Ren := ⟨fun | 137 => 49 | 217 => 67 | 266 => 86 | n => n, fun | 9 => 9 | 5 => 5 | 3 => 3 | n => n, fun | n => n⟩
theorem Tryd.lays137 : Go.Proofs.Lays.n137 Tryd.prog Tryd.lays137_ren := {
  mixed := by kernel_rfl
  f137 := Tryd.func49.trans (congrArg some (by kernel_rfl))
  f217 := Tryd.func67.trans (congrArg some (by kernel_rfl))
  f266 := Tryd.func86.trans (congrArg some (by kernel_rfl))
  t3 := Tryd.underlying3
  a3 := Tryd.isAgg3
  z3 := Tryd.sizeOf3
  v3 := Tryd.zeroValue3
  t5 := Tryd.underlying5
  a5 := Tryd.isAgg5
  z5 := Tryd.sizeOf5
  v5 := Tryd.zeroValue5
  t9 := Tryd.underlying9
  a9 := Tryd.isAgg9
  z9 := Tryd.sizeOf9
  v9 := Tryd.zeroValue9 }
open Go.RowKit in
theorem Tryd.strings_IndexByte (s : ByteArray) (c : Int) (w : World) :
    Calls Tryd.prog 49 #[.string s, .int .u8 c] w fun e w' => e = .returned (.int .i64 (Lib.indexByte s.data.toList c.toNat.toUInt8)) ∧ w' = w := Any.strings_IndexByte Tryd.lays137 s c w
def Tryd.lays129_ren : Go.Shelf.Ren := ⟨fun | 129 => 78 | n => n, fun | 53 => 78 | 3 => 3 | 4 => 4 | 46 => 86 | 5 => 5 | 9 => 9 | n => n, fun | n => n⟩
theorem Tryd.lays129 : Go.Proofs.Lays.n129 Tryd.prog Tryd.lays129_ren := {
  mixed := by kernel_rfl
  f129 := Tryd.func78.trans (congrArg some (by kernel_rfl))
  t3 := Tryd.underlying3
  a3 := Tryd.isAgg3
  z3 := Tryd.sizeOf3
  v3 := Tryd.zeroValue3
  t4 := Tryd.underlying4
  a4 := Tryd.isAgg4
  z4 := Tryd.sizeOf4
  v4 := Tryd.zeroValue4
  t5 := Tryd.underlying5
  a5 := Tryd.isAgg5
  z5 := Tryd.sizeOf5
  v5 := Tryd.zeroValue5
  t9 := Tryd.underlying9
  a9 := Tryd.isAgg9
  z9 := Tryd.sizeOf9
  v9 := Tryd.zeroValue9
  t46 := Tryd.underlying86
  a46 := Tryd.isAgg86
  z46 := Tryd.sizeOf86
  v46 := Tryd.zeroValue86
  t53 := Tryd.underlying78
  a53 := Tryd.isAgg78
  z53 := Tryd.sizeOf78
  v53 := Tryd.zeroValue78 }
theorem Tryd.bits_Len64 (x : Int) (w : World) (h0 : 0 ≤ x) (h1 : x ≤ 18446744073709551615) :
    Calls Tryd.prog 78 #[.int .u64 x] w fun e w' => e = .returned (.int .i64 (Lib.bitLen x.toNat)) ∧ w' = w := Any.bits_Len64 Tryd.lays129 x w h0 h1
def Tryd.lays283_ren : Go.Shelf.Ren := ⟨fun | 283 => 92 | n => n, fun | 3 => 3 | 9 => 9 | 4 => 4 | n => n, fun | n => n⟩
theorem Tryd.lays283 : Go.Proofs.Lays.n283 Tryd.prog Tryd.lays283_ren := {
  mixed := by kernel_rfl
  f283 := Tryd.func92.trans (congrArg some (by kernel_rfl))
  t3 := Tryd.underlying3
  a3 := Tryd.isAgg3
  z3 := Tryd.sizeOf3
  v3 := Tryd.zeroValue3
  t4 := Tryd.underlying4
  a4 := Tryd.isAgg4
  z4 := Tryd.sizeOf4
  v4 := Tryd.zeroValue4
  t9 := Tryd.underlying9
  a9 := Tryd.isAgg9
  z9 := Tryd.sizeOf9
  v9 := Tryd.zeroValue9 }
open Go.Lib in
theorem Tryd.internal_strconv_small (i : Nat) (h : i < 100) (w : World) :
    Calls Tryd.prog 92 #[.int .i64 i] w fun e w' => e = .returned (.string ⟨(Lib.decDigits i).toArray⟩) ∧ w' = w := Any.internal_strconv_small Tryd.lays283 i h w
def Tryd.laysM284_ren : Go.Shelf.Ren := ⟨fun | 284 => 93 | 129 => 78 | 317 => 106 | 318 => 107 | n => n, fun | 53 => 78 | 3 => 3 | 212 => 140 | 0 => 0 | 4 => 4 | 46 => 86 | 5 => 5 | 9 => 9 | n => n, fun | 17 => 4 | n => n⟩
theorem Tryd.laysM284 : Go.Proofs.LaysM.n284 Tryd.prog Tryd.laysM284_ren := {
  mixed := by kernel_rfl
  f129 := Tryd.func78.trans (congrArg some (by kernel_rfl))
  f284 := Tryd.func93.trans (congrArg some (by kernel_rfl))
  f317 := Tryd.func106.trans (congrArg some (by kernel_rfl))
  f318 := Tryd.func107.trans (congrArg some (by kernel_rfl))
  t0 := Tryd.underlying0
  a0 := Tryd.isAgg0
  z0 := Tryd.sizeOf0
  v0 := Tryd.zeroValue0
  t3 := Tryd.underlying3
  a3 := Tryd.isAgg3
  z3 := Tryd.sizeOf3
  v3 := Tryd.zeroValue3
  t4 := Tryd.underlying4
  a4 := Tryd.isAgg4
  z4 := Tryd.sizeOf4
  v4 := Tryd.zeroValue4
  t5 := Tryd.underlying5
  a5 := Tryd.isAgg5
  z5 := Tryd.sizeOf5
  v5 := Tryd.zeroValue5
  t9 := Tryd.underlying9
  a9 := Tryd.isAgg9
  z9 := Tryd.sizeOf9
  v9 := Tryd.zeroValue9
  t46 := Tryd.underlying86
  a46 := Tryd.isAgg86
  z46 := Tryd.sizeOf86
  v46 := Tryd.zeroValue86
  t53 := Tryd.underlying78
  a53 := Tryd.isAgg78
  z53 := Tryd.sizeOf78
  v53 := Tryd.zeroValue78
  t212 := Tryd.underlying140
  a212 := Tryd.isAgg140
  z212 := Tryd.sizeOf140
  v212 := Tryd.zeroValue140
  g17 := by kernel_rfl
  i0 := by kernel_rfl
  i3 := by kernel_rfl
  i4 := by kernel_rfl
  i5 := by kernel_rfl
  i9 := by kernel_rfl
  i46 := by kernel_rfl
  i53 := by kernel_rfl
  i212 := by kernel_rfl
  m17 := by kernel_rfl }
open Go.Lib in
theorem Tryd.internal_strconv_numDigits (u : Nat) (h1 : 1 ≤ u) (h2 : u < 18446744073709551616) (w : World) (htab : Lib.TabIs Tryd.prog w "internal/strconv.uint64pow10" .u64 Lib.pow10Tab) :
    Calls Tryd.prog 93 #[.int .u64 u] w fun e w' => e = .returned (.int .i64 (Lib.nDigits u)) ∧ w' = w := Any.internal_strconv_numDigits Tryd.laysM284 u h1 h2 w htab
def Tryd.lays285_ren : Go.Shelf.Ren := ⟨fun | 285 => 94 | n => n, fun | 37 => 83 | 53 => 78 | 3 => 3 | 4 => 4 | 51 => 141 | 9 => 9 | 5 => 5 | 0 => 0 | n => n, fun | n => n⟩
theorem Tryd.lays285 : Go.Proofs.Lays.n285 Tryd.prog Tryd.lays285_ren := {
  mixed := by kernel_rfl
  f285 := Tryd.func94.trans (congrArg some (by kernel_rfl))
  t0 := Tryd.underlying0
  a0 := Tryd.isAgg0
  z0 := Tryd.sizeOf0
  v0 := Tryd.zeroValue0
  t3 := Tryd.underlying3
  a3 := Tryd.isAgg3
  z3 := Tryd.sizeOf3
  v3 := Tryd.zeroValue3
  t4 := Tryd.underlying4
  a4 := Tryd.isAgg4
  z4 := Tryd.sizeOf4
  v4 := Tryd.zeroValue4
  t5 := Tryd.underlying5
  a5 := Tryd.isAgg5
  z5 := Tryd.sizeOf5
  v5 := Tryd.zeroValue5
  t9 := Tryd.underlying9
  a9 := Tryd.isAgg9
  z9 := Tryd.sizeOf9
  v9 := Tryd.zeroValue9
  t37 := Tryd.underlying83
  a37 := Tryd.isAgg83
  z37 := Tryd.sizeOf83
  v37 := Tryd.zeroValue83
  t51 := Tryd.underlying141
  a51 := Tryd.isAgg141
  z51 := Tryd.sizeOf141
  v51 := Tryd.zeroValue141
  t53 := Tryd.underlying78
  a53 := Tryd.isAgg78
  z53 := Tryd.sizeOf78
  v53 := Tryd.zeroValue78 }
open Go.RowKit Go.Sort Go.Lib in
theorem Tryd.internal_strconv_formatBase10 (blk off cap : Nat) (u : Nat) (d : Array UInt8) (w : World) (hH : Holds (fun (b : UInt8) => Value.int .u8 (b.toNat : Int)) w blk off d) (hu : u < 10 ^ d.size) (hu64 : u < 18446744073709551616) (hsz : d.size < 4611686018427387904) :
    Calls Tryd.prog 94 #[.slice (some ⟨blk, off, none⟩) d.size cap, .int .u64 u] w fun e w' =>
      e = .returned (.tuple #[]) ∧ ∃ (n v' : Nat) (dk : Array UInt8), w' = (putRow (fun (b : UInt8) => Value.int .u8 (b.toNat : Int)) w blk off dk).drewN n ∧ FmtInv d.size u 0 v' dk := Any.internal_strconv_formatBase10 Tryd.lays285 blk off cap u d w hH hu hu64 hsz
def Tryd.laysM171_ren : Go.Shelf.Ren := ⟨fun | 171 => 39 | 243 => 57 | 246 => 80 | 283 => 92 | 284 => 93 | 285 => 94 | 286 => 95 | 129 => 78 | 317 => 106 | 318 => 107 | 319 => 108 | 320 => 109 | 337 => 111 | 338 => 96 | n => n, fun | 3 => 3 | 9 => 9 | 2 => 2 | 4 => 4 | 171 => 122 | 0 => 0 | 53 => 78 | 37 => 83 | 5 => 5 | 173 => 124 | 212 => 140 | 51 => 141 | 20 => 20 | 213 => 142 | 46 => 86 | 232 => 147 | 233 => 145 | n => n, fun | 17 => 4 | 18 => 6 | 19 => 5 | n => n⟩
theorem Tryd.laysM171 : Go.Proofs.LaysM.n171 Tryd.prog Tryd.laysM171_ren := {
  mixed := by kernel_rfl
  f129 := Tryd.func78.trans (congrArg some (by kernel_rfl))
  f171 := Tryd.func39.trans (congrArg some (by kernel_rfl))
  f243 := Tryd.func57.trans (congrArg some (by kernel_rfl))
  f246 := Tryd.func80.trans (congrArg some (by kernel_rfl))
  f283 := Tryd.func92.trans (congrArg some (by kernel_rfl))
  f284 := Tryd.func93.trans (congrArg some (by kernel_rfl))
  f285 := Tryd.func94.trans (congrArg some (by kernel_rfl))
  f286 := Tryd.func95.trans (congrArg some (by kernel_rfl))
  f317 := Tryd.func106.trans (congrArg some (by kernel_rfl))
  f318 := Tryd.func107.trans (congrArg some (by kernel_rfl))
  f319 := Tryd.func108.trans (congrArg some (by kernel_rfl))
  f320 := Tryd.func109.trans (congrArg some (by kernel_rfl))
  f337 := Tryd.func111.trans (congrArg some (by kernel_rfl))
  f338 := Tryd.func96.trans (congrArg some (by kernel_rfl))
  t0 := Tryd.underlying0
  a0 := Tryd.isAgg0
  z0 := Tryd.sizeOf0
  v0 := Tryd.zeroValue0
  t2 := Tryd.underlying2
  a2 := Tryd.isAgg2
  z2 := Tryd.sizeOf2
  v2 := Tryd.zeroValue2
  t3 := Tryd.underlying3
  a3 := Tryd.isAgg3
  z3 := Tryd.sizeOf3
  v3 := Tryd.zeroValue3
  t4 := Tryd.underlying4
  a4 := Tryd.isAgg4
  z4 := Tryd.sizeOf4
  v4 := Tryd.zeroValue4
  t5 := Tryd.underlying5
  a5 := Tryd.isAgg5
  z5 := Tryd.sizeOf5
  v5 := Tryd.zeroValue5
  t9 := Tryd.underlying9
  a9 := Tryd.isAgg9
  z9 := Tryd.sizeOf9
  v9 := Tryd.zeroValue9
  t20 := Tryd.underlying20
  a20 := Tryd.isAgg20
  z20 := Tryd.sizeOf20
  v20 := Tryd.zeroValue20
  t37 := Tryd.underlying83
  a37 := Tryd.isAgg83
  z37 := Tryd.sizeOf83
  v37 := Tryd.zeroValue83
  t46 := Tryd.underlying86
  a46 := Tryd.isAgg86
  z46 := Tryd.sizeOf86
  v46 := Tryd.zeroValue86
  t51 := Tryd.underlying141
  a51 := Tryd.isAgg141
  z51 := Tryd.sizeOf141
  v51 := Tryd.zeroValue141
  t53 := Tryd.underlying78
  a53 := Tryd.isAgg78
  z53 := Tryd.sizeOf78
  v53 := Tryd.zeroValue78
  t171 := Tryd.underlying122
  a171 := Tryd.isAgg122
  z171 := Tryd.sizeOf122
  v171 := Tryd.zeroValue122
  t173 := Tryd.underlying124
  a173 := Tryd.isAgg124
  z173 := Tryd.sizeOf124
  v173 := Tryd.zeroValue124
  t212 := Tryd.underlying140
  a212 := Tryd.isAgg140
  z212 := Tryd.sizeOf140
  v212 := Tryd.zeroValue140
  t213 := Tryd.underlying142
  a213 := Tryd.isAgg142
  z213 := Tryd.sizeOf142
  t232 := Tryd.underlying147
  a232 := Tryd.isAgg147
  z232 := Tryd.sizeOf147
  v232 := Tryd.zeroValue147
  t233 := Tryd.underlying145
  a233 := Tryd.isAgg145
  z233 := Tryd.sizeOf145
  v233 := Tryd.zeroValue145
  g17 := by kernel_rfl
  g18 := by kernel_rfl
  g19 := by kernel_rfl
  i0 := by kernel_rfl
  i2 := by kernel_rfl
  i3 := by kernel_rfl
  i4 := by kernel_rfl
  i5 := by kernel_rfl
  i9 := by kernel_rfl
  i20 := by kernel_rfl
  i37 := by kernel_rfl
  i46 := by kernel_rfl
  i51 := by kernel_rfl
  i53 := by kernel_rfl
  i171 := by kernel_rfl
  i173 := by kernel_rfl
  i212 := by kernel_rfl
  i232 := by kernel_rfl
  i233 := by kernel_rfl
  m17 := by kernel_rfl
  m18 := by kernel_rfl
  m19 := by kernel_rfl }
open Go.RowKit Go.Sort Go.Lib in
theorem Tryd.strconv_Itoa (n : Int) (h0 : -9223372036854775808 ≤ n) (h1 : n ≤ 9223372036854775807) (w : World) (htab : Lib.TabIs Tryd.prog w "internal/strconv.uint64pow10" .u64 Lib.pow10Tab) :
    Calls Tryd.prog 39 #[.int .i64 n] w fun e w' => e = .returned (.string ⟨(Lib.itoa n).toArray⟩) ∧ ∃ k os, w' = grow (w.drewN k) os := Any.strconv_Itoa Tryd.laysM171 n h0 h1 w htab
def Tryd.lays171_ren : Go.Shelf.Ren := ⟨fun | 171 => 39 | 243 => 57 | 246 => 80 | 283 => 92 | 284 => 93 | 285 => 94 | 286 => 95 | 129 => 78 | 317 => 106 | 318 => 107 | 319 => 108 | 320 => 109 | 337 => 111 | 338 => 96 | n => n, fun | 3 => 3 | 9 => 9 | 2 => 2 | 4 => 4 | 171 => 122 | 0 => 0 | 53 => 78 | 37 => 83 | 5 => 5 | 173 => 124 | 212 => 140 | 51 => 141 | 20 => 20 | 213 => 142 | 46 => 86 | 232 => 147 | 233 => 145 | n => n, fun | 17 => 4 | 18 => 6 | 19 => 5 | n => n⟩
theorem Tryd.lays171 : Go.Proofs.Lays.n171 Tryd.prog Tryd.lays171_ren := {
  mixed := by kernel_rfl
  f129 := Tryd.func78.trans (congrArg some (by kernel_rfl))
  f171 := Tryd.func39.trans (congrArg some (by kernel_rfl))
  f243 := Tryd.func57.trans (congrArg some (by kernel_rfl))
  f246 := Tryd.func80.trans (congrArg some (by kernel_rfl))
  f283 := Tryd.func92.trans (congrArg some (by kernel_rfl))
  f284 := Tryd.func93.trans (congrArg some (by kernel_rfl))
  f285 := Tryd.func94.trans (congrArg some (by kernel_rfl))
  f286 := Tryd.func95.trans (congrArg some (by kernel_rfl))
  f317 := Tryd.func106.trans (congrArg some (by kernel_rfl))
  f318 := Tryd.func107.trans (congrArg some (by kernel_rfl))
  f319 := Tryd.func108.trans (congrArg some (by kernel_rfl))
  f320 := Tryd.func109.trans (congrArg some (by kernel_rfl))
  f337 := Tryd.func111.trans (congrArg some (by kernel_rfl))
  f338 := Tryd.func96.trans (congrArg some (by kernel_rfl))
  t0 := Tryd.underlying0
  a0 := Tryd.isAgg0
  z0 := Tryd.sizeOf0
  v0 := Tryd.zeroValue0
  t2 := Tryd.underlying2
  a2 := Tryd.isAgg2
  z2 := Tryd.sizeOf2
  v2 := Tryd.zeroValue2
  t3 := Tryd.underlying3
  a3 := Tryd.isAgg3
  z3 := Tryd.sizeOf3
  v3 := Tryd.zeroValue3
  t4 := Tryd.underlying4
  a4 := Tryd.isAgg4
  z4 := Tryd.sizeOf4
  v4 := Tryd.zeroValue4
  t5 := Tryd.underlying5
  a5 := Tryd.isAgg5
  z5 := Tryd.sizeOf5
  v5 := Tryd.zeroValue5
  t9 := Tryd.underlying9
  a9 := Tryd.isAgg9
  z9 := Tryd.sizeOf9
  v9 := Tryd.zeroValue9
  t20 := Tryd.underlying20
  a20 := Tryd.isAgg20
  z20 := Tryd.sizeOf20
  v20 := Tryd.zeroValue20
  t37 := Tryd.underlying83
  a37 := Tryd.isAgg83
  z37 := Tryd.sizeOf83
  v37 := Tryd.zeroValue83
  t46 := Tryd.underlying86
  a46 := Tryd.isAgg86
  z46 := Tryd.sizeOf86
  v46 := Tryd.zeroValue86
  t51 := Tryd.underlying141
  a51 := Tryd.isAgg141
  z51 := Tryd.sizeOf141
  v51 := Tryd.zeroValue141
  t53 := Tryd.underlying78
  a53 := Tryd.isAgg78
  z53 := Tryd.sizeOf78
  v53 := Tryd.zeroValue78
  t171 := Tryd.underlying122
  a171 := Tryd.isAgg122
  z171 := Tryd.sizeOf122
  v171 := Tryd.zeroValue122
  t173 := Tryd.underlying124
  a173 := Tryd.isAgg124
  z173 := Tryd.sizeOf124
  v173 := Tryd.zeroValue124
  t212 := Tryd.underlying140
  a212 := Tryd.isAgg140
  z212 := Tryd.sizeOf140
  v212 := Tryd.zeroValue140
  t213 := Tryd.underlying142
  a213 := Tryd.isAgg142
  z213 := Tryd.sizeOf142
  t232 := Tryd.underlying147
  a232 := Tryd.isAgg147
  z232 := Tryd.sizeOf147
  v232 := Tryd.zeroValue147
  t233 := Tryd.underlying145
  a233 := Tryd.isAgg145
  z233 := Tryd.sizeOf145
  v233 := Tryd.zeroValue145
  g17 := by kernel_rfl
  g18 := by kernel_rfl
  g19 := by kernel_rfl }
open Go.RowKit Go.Sort Go.Lib in
theorem Tryd.strconv_Itoa_small (i : Nat) (hi : i < 100) (w : World) :
    Calls Tryd.prog 39 #[.int .i64 i] w fun e w' => e = .returned (.string ⟨(Lib.decDigits i).toArray⟩) ∧ w' = w := Any.strconv_Itoa_small Tryd.lays171 i hi w
def Tryd.laysC172_ren : Go.Shelf.Ren := ⟨fun | 172 => 36 | 244 => 52 | 245 => 53 | 247 => 68 | 279 => 69 | 280 => 70 | 281 => 71 | 282 => 72 | 287 => 87 | 316 => 88 | 171 => 39 | 205 => 89 | 321 => 100 | 322 => 101 | 243 => 57 | 246 => 80 | 283 => 92 | 284 => 93 | 285 => 94 | 286 => 95 | 129 => 78 | 317 => 106 | 318 => 107 | 319 => 108 | 320 => 109 | 337 => 111 | 338 => 96 | n => n, fun | 9 => 9 | 3 => 3 | 75 => 66 | 76 => 67 | 4 => 4 | 5 => 5 | 167 => 97 | 37 => 83 | 0 => 0 | 85 => 98 | 2 => 2 | 168 => 100 | 53 => 78 | 175 => 117 | 46 => 86 | 210 => 120 | 127 => 116 | 145 => 132 | 143 => 130 | 21 => 21 | 171 => 122 | 173 => 124 | 212 => 140 | 51 => 141 | 20 => 20 | 213 => 142 | 232 => 147 | 233 => 145 | 80 => 62 | n => n, fun | 15 => 1 | 16 => 2 | 17 => 4 | 18 => 6 | 19 => 5 | n => n⟩
theorem Tryd.laysC172 : Go.Proofs.LaysC.n172 Tryd.prog Tryd.laysC172_ren := {
  mixed := by kernel_rfl
  f129 := Tryd.func78.trans (congrArg some (by kernel_rfl))
  f171 := Tryd.func39.trans (congrArg some (by kernel_rfl))
  f172 := Tryd.func36.trans (congrArg some (by kernel_rfl))
  f205 := Tryd.func89.trans (congrArg some (by kernel_rfl))
  f243 := Tryd.func57.trans (congrArg some (by kernel_rfl))
  f244 := Tryd.func52.trans (congrArg some (by kernel_rfl))
  f245 := Tryd.func53.trans (congrArg some (by kernel_rfl))
  f246 := Tryd.func80.trans (congrArg some (by kernel_rfl))
  f247 := Tryd.func68.trans (congrArg some (by kernel_rfl))
  f279 := Tryd.func69.trans (congrArg some (by kernel_rfl))
  f280 := Tryd.func70.trans (congrArg some (by kernel_rfl))
  f281 := Tryd.func71.trans (congrArg some (by kernel_rfl))
  f282 := Tryd.func72.trans (congrArg some (by kernel_rfl))
  f283 := Tryd.func92.trans (congrArg some (by kernel_rfl))
  f284 := Tryd.func93.trans (congrArg some (by kernel_rfl))
  f285 := Tryd.func94.trans (congrArg some (by kernel_rfl))
  f286 := Tryd.func95.trans (congrArg some (by kernel_rfl))
  f287 := Tryd.func87.trans (congrArg some (by kernel_rfl))
  f316 := Tryd.func88.trans (congrArg some (by kernel_rfl))
  f317 := Tryd.func106.trans (congrArg some (by kernel_rfl))
  f318 := Tryd.func107.trans (congrArg some (by kernel_rfl))
  f319 := Tryd.func108.trans (congrArg some (by kernel_rfl))
  f320 := Tryd.func109.trans (congrArg some (by kernel_rfl))
  f321 := Tryd.func100.trans (congrArg some (by kernel_rfl))
  f322 := Tryd.func101.trans (congrArg some (by kernel_rfl))
  f337 := Tryd.func111.trans (congrArg some (by kernel_rfl))
  f338 := Tryd.func96.trans (congrArg some (by kernel_rfl))
  t0 := Tryd.underlying0
  a0 := Tryd.isAgg0
  z0 := Tryd.sizeOf0
  v0 := Tryd.zeroValue0
  t2 := Tryd.underlying2
  a2 := Tryd.isAgg2
  z2 := Tryd.sizeOf2
  v2 := Tryd.zeroValue2
  t3 := Tryd.underlying3
  a3 := Tryd.isAgg3
  z3 := Tryd.sizeOf3
  v3 := Tryd.zeroValue3
  t4 := Tryd.underlying4
  a4 := Tryd.isAgg4
  z4 := Tryd.sizeOf4
  v4 := Tryd.zeroValue4
  t5 := Tryd.underlying5
  a5 := Tryd.isAgg5
  z5 := Tryd.sizeOf5
  v5 := Tryd.zeroValue5
  t9 := Tryd.underlying9
  a9 := Tryd.isAgg9
  z9 := Tryd.sizeOf9
  v9 := Tryd.zeroValue9
  t20 := Tryd.underlying20
  a20 := Tryd.isAgg20
  z20 := Tryd.sizeOf20
  v20 := Tryd.zeroValue20
  t21 := Tryd.underlying21
  a21 := Tryd.isAgg21
  z21 := Tryd.sizeOf21
  v21 := Tryd.zeroValue21
  t37 := Tryd.underlying83
  a37 := Tryd.isAgg83
  z37 := Tryd.sizeOf83
  v37 := Tryd.zeroValue83
  t46 := Tryd.underlying86
  a46 := Tryd.isAgg86
  z46 := Tryd.sizeOf86
  v46 := Tryd.zeroValue86
  t51 := Tryd.underlying141
  a51 := Tryd.isAgg141
  z51 := Tryd.sizeOf141
  v51 := Tryd.zeroValue141
  t53 := Tryd.underlying78
  a53 := Tryd.isAgg78
  z53 := Tryd.sizeOf78
  v53 := Tryd.zeroValue78
  t75 := Tryd.underlying66
  a75 := Tryd.isAgg66
  z75 := Tryd.sizeOf66
  v75 := Tryd.zeroValue66
  t76 := Tryd.underlying67
  a76 := Tryd.isAgg67
  z76 := Tryd.sizeOf67
  v76 := Tryd.zeroValue67
  t85 := Tryd.underlying98
  a85 := Tryd.isAgg98
  z85 := Tryd.sizeOf98
  v85 := Tryd.zeroValue98
  t127 := Tryd.underlying116
  a127 := Tryd.isAgg116
  z127 := Tryd.sizeOf116
  v127 := Tryd.zeroValue116
  t143 := Tryd.underlying130
  a143 := Tryd.isAgg130
  z143 := Tryd.sizeOf130
  v143 := Tryd.zeroValue130
  t145 := Tryd.underlying132
  a145 := Tryd.isAgg132
  z145 := Tryd.sizeOf132
  v145 := Tryd.zeroValue132
  t167 := Tryd.underlying97
  a167 := Tryd.isAgg97
  z167 := Tryd.sizeOf97
  v167 := Tryd.zeroValue97
  t168 := Tryd.underlying100
  a168 := Tryd.isAgg100
  z168 := Tryd.sizeOf100
  v168 := Tryd.zeroValue100
  t171 := Tryd.underlying122
  a171 := Tryd.isAgg122
  z171 := Tryd.sizeOf122
  v171 := Tryd.zeroValue122
  t173 := Tryd.underlying124
  a173 := Tryd.isAgg124
  z173 := Tryd.sizeOf124
  v173 := Tryd.zeroValue124
  t175 := Tryd.underlying117
  a175 := Tryd.isAgg117
  z175 := Tryd.sizeOf117
  v175 := Tryd.zeroValue117
  t210 := Tryd.underlying120
  a210 := Tryd.isAgg120
  z210 := Tryd.sizeOf120
  v210 := Tryd.zeroValue120
  t212 := Tryd.underlying140
  a212 := Tryd.isAgg140
  z212 := Tryd.sizeOf140
  v212 := Tryd.zeroValue140
  t213 := Tryd.underlying142
  a213 := Tryd.isAgg142
  z213 := Tryd.sizeOf142
  t232 := Tryd.underlying147
  a232 := Tryd.isAgg147
  z232 := Tryd.sizeOf147
  v232 := Tryd.zeroValue147
  t233 := Tryd.underlying145
  a233 := Tryd.isAgg145
  z233 := Tryd.sizeOf145
  v233 := Tryd.zeroValue145
  g15 := by kernel_rfl
  g16 := by kernel_rfl
  g17 := by kernel_rfl
  g18 := by kernel_rfl
  g19 := by kernel_rfl
  t80 := Tryd.underlying62
  a80 := Tryd.isAgg62
  z80 := Tryd.sizeOf62
  v80 := Tryd.zeroValue62
  i0 := by kernel_rfl
  i2 := by kernel_rfl
  i3 := by kernel_rfl
  i4 := by kernel_rfl
  i5 := by kernel_rfl
  i9 := by kernel_rfl
  i20 := by kernel_rfl
  i21 := by kernel_rfl
  i37 := by kernel_rfl
  i46 := by kernel_rfl
  i51 := by kernel_rfl
  i53 := by kernel_rfl
  i75 := by kernel_rfl
  i76 := by kernel_rfl
  i80 := by kernel_rfl
  i85 := by kernel_rfl
  i127 := by kernel_rfl
  i143 := by kernel_rfl
  i145 := by kernel_rfl
  i167 := by kernel_rfl
  i168 := by kernel_rfl
  i171 := by kernel_rfl
  i173 := by kernel_rfl
  i175 := by kernel_rfl
  i210 := by kernel_rfl
  i212 := by kernel_rfl
  i232 := by kernel_rfl
  i233 := by kernel_rfl
  m15 := by kernel_rfl
  m16 := by kernel_rfl
  m17 := by kernel_rfl
  m18 := by kernel_rfl
  m19 := by kernel_rfl
  c0 := by kernel_rfl
  c2 := by kernel_rfl
  c3 := by kernel_rfl
  c4 := by kernel_rfl
  c5 := by kernel_rfl
  c9 := by kernel_rfl
  c20 := by kernel_rfl
  c21 := by kernel_rfl
  c37 := by kernel_rfl
  c46 := by kernel_rfl
  c51 := by kernel_rfl
  c53 := by kernel_rfl
  c75 := by kernel_rfl
  c76 := by kernel_rfl
  c80 := by kernel_rfl
  c85 := by kernel_rfl
  c127 := by kernel_rfl
  c143 := by kernel_rfl
  c145 := by kernel_rfl
  c167 := by kernel_rfl
  c168 := by kernel_rfl
  c171 := by kernel_rfl
  c173 := by kernel_rfl
  c175 := by kernel_rfl
  c210 := by kernel_rfl
  c212 := by kernel_rfl
  c213 := by kernel_rfl
  c232 := by kernel_rfl
  c233 := by kernel_rfl }
open Go.RowKit in
theorem Tryd.strconv_Atoi_ok (s : ByteArray) (hmax : s.size ≤ 9223372036854775806) (v : Int) (h : Lib.atoiAll s.data.toList = .ok v) (w : World) :
    Calls Tryd.prog 36 #[.string s] w fun e w' => e = .returned (.tuple #[.int .i64 v, .nilIface]) ∧ (w' = w ∨ ∃ t, w' = Lib.bytesWorld w 5 t) := Any.strconv_Atoi_ok Tryd.laysC172 s hmax v h w
open Go.RowKit in
theorem Tryd.strconv_Atoi_range_var (s : ByteArray) (hlim : s.size ≤ 281474976710656) (h : Lib.atoiAll s.data.toList = .range) (tp : TypeId) (p : Value) (w : World) (hvar : w.var? Tryd.prog "strconv.ErrRange" = some #[.iface tp p]) :
    Calls Tryd.prog 36 #[.string s] w fun e w' => ∃ N, e = .returned (.tuple #[.int .i64 (Lib.atoiSat s.data.toList), .iface 100 (.pointer (some ⟨N, 0, none⟩))]) ∧ w.heap.size ≤ N ∧ w'.heap[N]? = some (.cells #[.string ⟨#[65, 116, 111, 105]⟩, .string s, .iface tp p] 120 (0, 0)) ∧ Below w.heap.size w w' := Any.strconv_Atoi_range_var Tryd.laysC172 s hlim h tp p w hvar
end Go.Proofs
