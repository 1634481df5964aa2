/- What the walks want to know of this translation: types, fields, functions that may be called. Written by a program of ours from the dump. -/
import Derived.Test.YtioebjimkainjaaDoorChecked
import Derived.Test.YtioebjimkainjaaDoorSxM
set_option linter.unusedSimpArgs false
set_option linter.unusedVariables false
namespace Go.Proofs.YtioebjimkainjaaDoor
theorem Tryd.ti3 : Sx.TI Tryd.prog 3 (.int .i64 0) 1 8 := .mk' (by kernel_rfl)
theorem Tryd.ti23 : Sx.TI Tryd.prog 23 (.agg #[.int .i64 0, .int .i64 0, .int .i64 0]) 3 24 := .mk' (by kernel_rfl)
theorem Tryd.ti41 : Sx.TI Tryd.prog 41 (.agg #[.int .i64 0, .int .i64 0, .int .i64 0, .int .i64 0, .int .i64 0]) 5 40 := .mk' (by kernel_rfl)
theorem Tryd.ti47 : Sx.TI Tryd.prog 47 (.agg #[.int .i64 0, .int .i64 0, .int .i64 0, .int .i64 0]) 4 32 := .mk' (by kernel_rfl)
theorem Tryd.ti60 : Sx.TI Tryd.prog 60 (.agg #[.int .i64 0, .int .i64 0, .int .i64 0]) 3 24 := .mk' (by kernel_rfl)
theorem Tryd.fl3 : Sx.Flat Tryd.prog 3 := ⟨_, Tryd.underlying3, trivial⟩
theorem Tryd.fa23_0 : Sx.FA Tryd.prog 23 0 0 := ⟨_, _, _, _, _, Tryd.underlying23, rfl, rfl, Tryd.ti3, by decide⟩
theorem Tryd.fa23_1 : Sx.FA Tryd.prog 23 1 1 := ⟨_, _, _, _, _, Tryd.underlying23, rfl, rfl, Tryd.ti3, by decide⟩
theorem Tryd.fa23_2 : Sx.FA Tryd.prog 23 2 2 := ⟨_, _, _, _, _, Tryd.underlying23, rfl, rfl, Tryd.ti3, by decide⟩
theorem Tryd.fa41_0 : Sx.FA Tryd.prog 41 0 0 := ⟨_, _, _, _, _, Tryd.underlying41, rfl, rfl, Tryd.ti3, by decide⟩
theorem Tryd.fa41_1 : Sx.FA Tryd.prog 41 1 1 := ⟨_, _, _, _, _, Tryd.underlying41, rfl, rfl, Tryd.ti3, by decide⟩
theorem Tryd.fa41_2 : Sx.FA Tryd.prog 41 2 2 := ⟨_, _, _, _, _, Tryd.underlying41, rfl, rfl, Tryd.ti23, by decide⟩
theorem Tryd.fa47_0 : Sx.FA Tryd.prog 47 0 0 := ⟨_, _, _, _, _, Tryd.underlying47, rfl, rfl, Tryd.ti3, by decide⟩
theorem Tryd.fa47_1 : Sx.FA Tryd.prog 47 1 1 := ⟨_, _, _, _, _, Tryd.underlying47, rfl, rfl, Tryd.ti23, by decide⟩
theorem Tryd.fa60_0 : Sx.FA Tryd.prog 60 0 0 := ⟨_, _, _, _, _, Tryd.underlying60, rfl, rfl, Tryd.ti23, by decide⟩
theorem Tryd.bld23 : Sx.Bld Tryd.prog 23 #[.int .i64 0, .int .i64 0, .int .i64 0] #[(0, 1), (1, 1), (2, 1)] := ⟨_, _, _, _, Tryd.ti23, rfl, Tryd.underlying23, fun w => by simp [Sx.placesOf, Sx.run_sizeOf Tryd.ti3]⟩
theorem Tryd.bld47 : Sx.Bld Tryd.prog 47 #[.int .i64 0, .int .i64 0, .int .i64 0, .int .i64 0] #[(0, 1), (1, 3)] := ⟨_, _, _, _, Tryd.ti47, rfl, Tryd.underlying47, fun w => by simp [Sx.placesOf, Sx.run_sizeOf Tryd.ti23, Sx.run_sizeOf Tryd.ti3]⟩
theorem Tryd.bld60 : Sx.Bld Tryd.prog 60 #[.int .i64 0, .int .i64 0, .int .i64 0] #[(0, 3)] := ⟨_, _, _, _, Tryd.ti60, rfl, Tryd.underlying60, fun w => by simp [Sx.placesOf, Sx.run_sizeOf Tryd.ti23]⟩
theorem Tryd.can4 : Sx.Can Tryd.prog 4 := ⟨_, Tryd.func4, by kernel_rfl, rfl⟩
theorem Tryd.can10 : Sx.Can Tryd.prog 10 := ⟨_, Tryd.func10, by kernel_rfl, rfl⟩
theorem Tryd.can11 : Sx.Can Tryd.prog 11 := ⟨_, Tryd.func11, by kernel_rfl, rfl⟩
theorem Tryd.can12 : Sx.Can Tryd.prog 12 := ⟨_, Tryd.func12, by kernel_rfl, rfl⟩
theorem Tryd.can13 : Sx.Can Tryd.prog 13 := ⟨_, Tryd.func13, by kernel_rfl, rfl⟩
theorem Tryd.can14 : Sx.Can Tryd.prog 14 := ⟨_, Tryd.func14, by kernel_rfl, rfl⟩
theorem Tryd.can15 : Sx.Can Tryd.prog 15 := ⟨_, Tryd.func15, by kernel_rfl, rfl⟩
theorem Tryd.can16 : Sx.Can Tryd.prog 16 := ⟨_, Tryd.func16, by kernel_rfl, rfl⟩
theorem Tryd.can17 : Sx.Can Tryd.prog 17 := ⟨_, Tryd.func17, by kernel_rfl, rfl⟩
theorem Tryd.can18 : Sx.Can Tryd.prog 18 := ⟨_, Tryd.func18, by kernel_rfl, rfl⟩
theorem Tryd.can19 : Sx.Can Tryd.prog 19 := ⟨_, Tryd.func19, by kernel_rfl, rfl⟩
theorem Tryd.can21 : Sx.Can Tryd.prog 21 := ⟨_, Tryd.func21, by kernel_rfl, rfl⟩
theorem Tryd.can22 : Sx.Can Tryd.prog 22 := ⟨_, Tryd.func22, by kernel_rfl, rfl⟩
theorem Tryd.can23 : Sx.Can Tryd.prog 23 := ⟨_, Tryd.func23, by kernel_rfl, rfl⟩
theorem Tryd.can24 : Sx.Can Tryd.prog 24 := ⟨_, Tryd.func24, by kernel_rfl, rfl⟩
theorem Tryd.can25 : Sx.Can Tryd.prog 25 := ⟨_, Tryd.func25, by kernel_rfl, rfl⟩
theorem Tryd.can26 : Sx.Can Tryd.prog 26 := ⟨_, Tryd.func26, by kernel_rfl, rfl⟩
theorem Tryd.can27 : Sx.Can Tryd.prog 27 := ⟨_, Tryd.func27, by kernel_rfl, rfl⟩
theorem Tryd.can28 : Sx.Can Tryd.prog 28 := ⟨_, Tryd.func28, by kernel_rfl, rfl⟩
theorem Tryd.can29 : Sx.Can Tryd.prog 29 := ⟨_, Tryd.func29, by kernel_rfl, rfl⟩
theorem Tryd.can30 : Sx.Can Tryd.prog 30 := ⟨_, Tryd.func30, by kernel_rfl, rfl⟩
theorem Tryd.can33 : Sx.Can Tryd.prog 33 := ⟨_, Tryd.func33, by kernel_rfl, rfl⟩
theorem Tryd.can34 : Sx.Can Tryd.prog 34 := ⟨_, Tryd.func34, by kernel_rfl, rfl⟩
theorem Tryd.eq23 (a0 : Int) (a1 : Int) (a2 : Int) (b0 : Int) (b1 : Int) (b2 : Int) : Sx.EqAt Tryd.prog 2 23 (.agg #[.int .i64 a0, .int .i64 a1, .int .i64 a2]) (.agg #[.int .i64 b0, .int .i64 b1, .int .i64 b2]) (decide (a0 = b0 ∧ a1 = b1 ∧ a2 = b2)) := by
  refine Sx.EqAt.as (Sx.EqAt.struct Tryd.underlying23 (by kernel_rfl) ⟨by decide, _, _, _, _, (Sx.run_part1 Tryd.fl3 rfl), (Sx.run_part1 Tryd.fl3 rfl), (Sx.EqAt.int Tryd.underlying3 _ _), ⟨by decide, _, _, _, _, (Sx.run_part1 Tryd.fl3 rfl), (Sx.run_part1 Tryd.fl3 rfl), (Sx.EqAt.int Tryd.underlying3 _ _), ⟨by decide, _, _, _, _, (Sx.run_part1 Tryd.fl3 rfl), (Sx.run_part1 Tryd.fl3 rfl), (Sx.EqAt.int Tryd.underlying3 _ _), rfl, rfl⟩, rfl⟩, rfl⟩) ?_
  simp [Bool.decide_and]
end Go.Proofs.YtioebjimkainjaaDoor
