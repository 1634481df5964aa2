/- The statement of LinesJoins. -/
import Derived.Test.YtonnladboikmhaaGreatDoorL0
import Derived.Test.YtonnladboikmhaaGreatDoorN6
import Derived.Test.YtonnladboikmhaaGreatDoorSxY
import Derived.Test.YtonnladboikmhaaGreatDoorRows
import Derived.Test.YtonnladboikmhaaGreatDoorCards
import Derived.Test.YtonnladboikmhaaGreatDoorTie
set_option linter.unusedSimpArgs false
set_option linter.unusedVariables false
namespace Go.Proofs.YtonnladboikmhaaGreatDoor
open Sx Go.ChangeShapes Go.WideShapes Go.ChangeAt Go.RowKit

theorem LinesJoins_key {H : Type} (enc : TypeId × Value → H) (W : World) (args : Array Value) (h : ArgsZ enc Tryz.prog W Tryz.f5.params.toList args.toList) (hlaid : laidMetH Tryz.prog Rows.linesJoinsRow.laid W) (hsh : W.ShapedOpen Tryz.prog) :
    Calls Tryz.prog 5 args W fun e W' => e = .returned (.bool true) ∧ Ext No W W' := by
  rw [Tryz.params5] at h
  obtain ⟨u0, us0, hargs, g0, r0⟩ := argsZ_cons h
  obtain ⟨u1, us1, rfl, g1, r1⟩ := argsZ_cons r0
  obtain rfl := argsZ_nil r1
  obtain ⟨s9, rfl, hls9⟩ := argZ_str Tryz.underlying9 g0
  obtain ⟨q9, rfl, hlq9⟩ := argZ_str Tryz.underlying9 g1
  obtain rfl : args = #[.string ⟨s9.toArray⟩, .string ⟨q9.toArray⟩] := by cases args; simp_all
  exact Joins_all s9 q9 (by omega) (by omega) (env2_of (show laidMetH Tryz.prog Rows.linesPrintsRow.laid W from hlaid) hsh)

theorem LinesJoins_door (os : Os) (args : Array Value) : laidMetH Tryz.prog Rows.linesJoinsRow.laid ((World.laidAll Tryz.prog os Rows.linesJoinsRow.laid).forCall (fun _ _ => 0) ⟨#[], args, []⟩).memory := by
  rw [MakeChecks.laidMetH_plain _ _ _ (by kernel_rfl)]; exact laidMet_laidAll _ (by kernel_rfl) (by kernel_rfl)
set_option maxRecDepth 100000 in
theorem LinesJoins_lifted (os : Os) (started : os.Started) (H : Type) (enc : TypeId × Value → H) :
    ReturnsInHanded {} Tryz.checked os 5 .any (fun w args => (Rows.linesJoinsSpec.pre enc Tryz.prog Tryz.f5 [] false w args ∧ laidMetH Tryz.prog Rows.linesJoinsRow.laid w) ∧ sizedMet enc Tryz.prog Tryz.f5 (OpenSpec.ofChange Rows.linesJoinsSpec) false w args) (Rows.linesJoinsSpec.post enc Tryz.prog Tryz.f5 false true false false) := by
  exact lift_laidZS (C := Tryz.checked) (t := 4) own started (by kernel_rfl) Tryz.func5
    (ChangeSpec.witness_shaped (enc := enc) (C := Tryz.checked) (os := os) (X := fun w _ => laidMetH Tryz.prog Rows.linesJoinsRow.laid w) false (World.laidAll Tryz.prog os Rows.linesJoinsRow.laid) #[.string .empty, .string .empty] 8 (World.laidAll_os _ _ _) (World.shaped_of_ZipB (by kernel_rfl) (by kernel_rfl)) (by kernel_rfl) (by kernel_rfl) (by kernel_rfl) (LinesJoins_door os _))
    laidOut (by kernel_rfl) (by kernel_rfl) Tryz.underlying4 rfl (fun ds h => by
    obtain ⟨a0, a1, rfl⟩ := list_2 h (by rw [Tryz.params5]; rfl)
    rfl) (LinesJoins_key enc)
theorem LinesJoins_row : Rows.LinesJoinsSaid :=
  OpenClaim.holds_of_wide 5 Tryz.f5 rfl rfl rfl rfl rfl rfl rfl ⟨rfl, rfl, rfl, rfl, rfl⟩ rfl rfl rfl rfl rfl (by kernel_rfl) Tryz.func5 (by kernel_rfl)
    (of_decide_eq_true (by kernel_rfl)) (by unfold Func.isWrapper; first | (rw [if_pos (by decide +kernel)]; kernel_rfl) | (rw [if_neg (by decide +kernel)]; exact ⟨rfl, rfl⟩))
    (fun os started H enc _ => LinesJoins_lifted os started H enc)
theorem LinesJoins_stand (t : TypeId) (h : t ∈ Tryz.f5.params.toList) : Tryz.prog.wantsStandIn t = false := by
  have h2 : (Tryz.f5.params.toList.all fun t => Tryz.prog.wantsStandIn t == false) = true := by kernel_rfl
  simpa using List.all_eq_true.1 h2 t h
theorem LinesJoins_holds : Rows.LinesJoinsCardSaid :=
  Claim7.holds_tied_plain_at .later [] [.data, .data, .data, .data, .sentinel, .sentinel, .pinned] true (true, "7a10e952791e63abf1abedcd8720322c9b6f4db8d43e3939df7c23eb82e51732") true
    LinesJoins_row (fun _ h => by cases h) (by kernel_rfl) (fun _ h => by cases h) linesJoins_row_tie rfl ⟨rfl, rfl⟩ (by kernel_rfl) rfl
    (fun f fn hf hfn => by
      obtain rfl : f = 5 := Option.some.inj ((show Tryz.prog.funcNamed "headrace/racelaw29.LinesJoins" = some 5 by kernel_rfl).symm.trans hf) |>.symm
      obtain rfl : fn = Tryz.f5 := (Option.some.inj (Tryz.func5.symm.trans hfn)).symm
      exact ⟨by kernel_rfl, fun j t ht => LinesJoins_stand t (List.mem_of_getElem? (by simpa using ht))⟩)
    (by kernel_rfl)

end Go.Proofs.YtonnladboikmhaaGreatDoor
