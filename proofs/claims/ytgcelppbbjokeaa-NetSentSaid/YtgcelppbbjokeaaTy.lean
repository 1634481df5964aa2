/- What the walks want to know of this translation: types, fields, functions that may be called. Written by a program of ours from the dump. -/
import Derived.Test.YtgcelppbbjokeaaChecked
import Derived.Test.YtgcelppbbjokeaaSxH
namespace Go.Proofs.Ytgcelppbbjokeaa
theorem Try.ti3 : Sx.TI Try.prog 3 (.int .i64 0) 1 8 := .mk' (by kernel_rfl)
theorem Try.ti4 : Sx.TI Try.prog 4 (.bool false) 1 1 := .mk' (by kernel_rfl)
theorem Try.ti5 : Sx.TI Try.prog 5 (.int .u8 0) 1 1 := .mk' (by kernel_rfl)
theorem Try.ti30 : Sx.TI Try.prog 30 (.slice none 0 0) 1 24 := .mk' (by kernel_rfl)
theorem Try.ti32 : Sx.TI Try.prog 32 (.agg #[.int .i64 0, .int .i64 0, .int .i64 0, .slice none 0 0]) 4 48 := .mk' (by kernel_rfl)
theorem Try.ti34 : Sx.TI Try.prog 34 (.agg #[.int .i64 0, .int .i64 0, .slice none 0 0]) 3 40 := .mk' (by kernel_rfl)
theorem Try.ti52 : Sx.TI Try.prog 52 (.slice none 0 0) 1 24 := .mk' (by kernel_rfl)
theorem Try.ti57 : Sx.TI Try.prog 57 (.agg #[.int .i64 0, .slice none 0 0]) 2 32 := .mk' (by kernel_rfl)
theorem Try.ti61 : Sx.TI Try.prog 61 (.slice none 0 0) 1 24 := .mk' (by kernel_rfl)
theorem Try.ti63 : Sx.TI Try.prog 63 (.agg #[.int .i64 0, .slice none 0 0]) 2 32 := .mk' (by kernel_rfl)
theorem Try.ti65 : Sx.TI Try.prog 65 (.agg #[.int .i64 0, .int .i64 0, .slice none 0 0]) 3 40 := .mk' (by kernel_rfl)
theorem Try.fl3 : Sx.Flat Try.prog 3 := ⟨_, Try.underlying3, trivial⟩
theorem Try.fl4 : Sx.Flat Try.prog 4 := ⟨_, Try.underlying4, trivial⟩
theorem Try.fl5 : Sx.Flat Try.prog 5 := ⟨_, Try.underlying5, trivial⟩
theorem Try.fl30 : Sx.Flat Try.prog 30 := ⟨_, Try.underlying30, trivial⟩
theorem Try.fl52 : Sx.Flat Try.prog 52 := ⟨_, Try.underlying52, trivial⟩
theorem Try.fl61 : Sx.Flat Try.prog 61 := ⟨_, Try.underlying61, trivial⟩
theorem Try.fa32_0 : Sx.FA Try.prog 32 0 0 := ⟨_, _, _, _, _, Try.underlying32, rfl, rfl, Try.ti3, by decide⟩
theorem Try.fa32_1 : Sx.FA Try.prog 32 1 1 := ⟨_, _, _, _, _, Try.underlying32, rfl, rfl, Try.ti3, by decide⟩
theorem Try.fa32_2 : Sx.FA Try.prog 32 2 2 := ⟨_, _, _, _, _, Try.underlying32, rfl, rfl, Try.ti3, by decide⟩
theorem Try.fa32_3 : Sx.FA Try.prog 32 3 3 := ⟨_, _, _, _, _, Try.underlying32, rfl, rfl, Try.ti30, by decide⟩
theorem Try.fa34_0 : Sx.FA Try.prog 34 0 0 := ⟨_, _, _, _, _, Try.underlying34, rfl, rfl, Try.ti3, by decide⟩
theorem Try.fa34_1 : Sx.FA Try.prog 34 1 1 := ⟨_, _, _, _, _, Try.underlying34, rfl, rfl, Try.ti3, by decide⟩
theorem Try.fa34_2 : Sx.FA Try.prog 34 2 2 := ⟨_, _, _, _, _, Try.underlying34, rfl, rfl, Try.ti30, by decide⟩
theorem Try.fa57_0 : Sx.FA Try.prog 57 0 0 := ⟨_, _, _, _, _, Try.underlying57, rfl, rfl, Try.ti3, by decide⟩
theorem Try.fa57_1 : Sx.FA Try.prog 57 1 1 := ⟨_, _, _, _, _, Try.underlying57, rfl, rfl, Try.ti52, by decide⟩
theorem Try.fa63_0 : Sx.FA Try.prog 63 0 0 := ⟨_, _, _, _, _, Try.underlying63, rfl, rfl, Try.ti3, by decide⟩
theorem Try.fa63_1 : Sx.FA Try.prog 63 1 1 := ⟨_, _, _, _, _, Try.underlying63, rfl, rfl, Try.ti61, by decide⟩
theorem Try.fa65_0 : Sx.FA Try.prog 65 0 0 := ⟨_, _, _, _, _, Try.underlying65, rfl, rfl, Try.ti3, by decide⟩
theorem Try.fa65_1 : Sx.FA Try.prog 65 1 1 := ⟨_, _, _, _, _, Try.underlying65, rfl, rfl, Try.ti3, by decide⟩
theorem Try.fa65_2 : Sx.FA Try.prog 65 2 2 := ⟨_, _, _, _, _, Try.underlying65, rfl, rfl, Try.ti30, by decide⟩
theorem Try.bld34 : Sx.Bld Try.prog 34 #[.int .i64 0, .int .i64 0, .slice none 0 0] #[(0, 1), (1, 1), (2, 1)] := ⟨_, _, _, _, Try.ti34, rfl, Try.underlying34, fun w => by simp [Sx.placesOf, Sx.run_sizeOf Try.ti3, Sx.run_sizeOf Try.ti30]⟩
theorem Try.bld57 : Sx.Bld Try.prog 57 #[.int .i64 0, .slice none 0 0] #[(0, 1), (1, 1)] := ⟨_, _, _, _, Try.ti57, rfl, Try.underlying57, fun w => by simp [Sx.placesOf, Sx.run_sizeOf Try.ti3, Sx.run_sizeOf Try.ti52]⟩
theorem Try.bld63 : Sx.Bld Try.prog 63 #[.int .i64 0, .slice none 0 0] #[(0, 1), (1, 1)] := ⟨_, _, _, _, Try.ti63, rfl, Try.underlying63, fun w => by simp [Sx.placesOf, Sx.run_sizeOf Try.ti3, Sx.run_sizeOf Try.ti61]⟩
theorem Try.bld65 : Sx.Bld Try.prog 65 #[.int .i64 0, .int .i64 0, .slice none 0 0] #[(0, 1), (1, 1), (2, 1)] := ⟨_, _, _, _, Try.ti65, rfl, Try.underlying65, fun w => by simp [Sx.placesOf, Sx.run_sizeOf Try.ti3, Sx.run_sizeOf Try.ti30]⟩
theorem Try.can3 : Sx.Can Try.prog 3 := ⟨_, Try.func3, by kernel_rfl, rfl⟩
theorem Try.can4 : Sx.Can Try.prog 4 := ⟨_, Try.func4, by kernel_rfl, rfl⟩
theorem Try.can5 : Sx.Can Try.prog 5 := ⟨_, Try.func5, by kernel_rfl, rfl⟩
theorem Try.can7 : Sx.Can Try.prog 7 := ⟨_, Try.func7, by kernel_rfl, rfl⟩
theorem Try.can8 : Sx.Can Try.prog 8 := ⟨_, Try.func8, by kernel_rfl, rfl⟩
theorem Try.can9 : Sx.Can Try.prog 9 := ⟨_, Try.func9, by kernel_rfl, rfl⟩
theorem Try.can10 : Sx.Can Try.prog 10 := ⟨_, Try.func10, by kernel_rfl, rfl⟩
theorem Try.can11 : Sx.Can Try.prog 11 := ⟨_, Try.func11, by kernel_rfl, rfl⟩
theorem Try.can12 : Sx.Can Try.prog 12 := ⟨_, Try.func12, by kernel_rfl, rfl⟩
theorem Try.can13 : Sx.Can Try.prog 13 := ⟨_, Try.func13, by kernel_rfl, rfl⟩
theorem Try.can14 : Sx.Can Try.prog 14 := ⟨_, Try.func14, by kernel_rfl, rfl⟩
theorem Try.can15 : Sx.Can Try.prog 15 := ⟨_, Try.func15, by kernel_rfl, rfl⟩
theorem Try.can16 : Sx.Can Try.prog 16 := ⟨_, Try.func16, by kernel_rfl, rfl⟩
theorem Try.can17 : Sx.Can Try.prog 17 := ⟨_, Try.func17, by kernel_rfl, rfl⟩
theorem Try.can18 : Sx.Can Try.prog 18 := ⟨_, Try.func18, by kernel_rfl, rfl⟩
theorem Try.can19 : Sx.Can Try.prog 19 := ⟨_, Try.func19, by kernel_rfl, rfl⟩
theorem Try.can20 : Sx.Can Try.prog 20 := ⟨_, Try.func20, by kernel_rfl, rfl⟩
theorem Try.can21 : Sx.Can Try.prog 21 := ⟨_, Try.func21, by kernel_rfl, rfl⟩
theorem Try.can22 : Sx.Can Try.prog 22 := ⟨_, Try.func22, by kernel_rfl, rfl⟩
theorem Try.can24 : Sx.Can Try.prog 24 := ⟨_, Try.func24, by kernel_rfl, rfl⟩
theorem Try.can25 : Sx.Can Try.prog 25 := ⟨_, Try.func25, by kernel_rfl, rfl⟩
theorem Try.can26 : Sx.Can Try.prog 26 := ⟨_, Try.func26, by kernel_rfl, rfl⟩
theorem Try.can27 : Sx.Can Try.prog 27 := ⟨_, Try.func27, by kernel_rfl, rfl⟩
theorem Try.can28 : Sx.Can Try.prog 28 := ⟨_, Try.func28, by kernel_rfl, rfl⟩
theorem Try.can29 : Sx.Can Try.prog 29 := ⟨_, Try.func29, by kernel_rfl, rfl⟩
theorem Try.can30 : Sx.Can Try.prog 30 := ⟨_, Try.func30, by kernel_rfl, rfl⟩
theorem Try.can31 : Sx.Can Try.prog 31 := ⟨_, Try.func31, by kernel_rfl, rfl⟩
theorem Try.can32 : Sx.Can Try.prog 32 := ⟨_, Try.func32, by kernel_rfl, rfl⟩
theorem Try.can33 : Sx.Can Try.prog 33 := ⟨_, Try.func33, by kernel_rfl, rfl⟩
theorem Try.can34 : Sx.Can Try.prog 34 := ⟨_, Try.func34, by kernel_rfl, rfl⟩
theorem Try.can35 : Sx.Can Try.prog 35 := ⟨_, Try.func35, by kernel_rfl, rfl⟩
theorem Try.can38 : Sx.Can Try.prog 38 := ⟨_, Try.func38, by kernel_rfl, rfl⟩
end Go.Proofs.Ytgcelppbbjokeaa
