/- The statement of LinesPrints. -/
import Derived.Test.YtonnladboikmhaaGreatDoorL0
import Derived.Test.YtonnladboikmhaaGreatDoorSxY
import Derived.Test.YtonnladboikmhaaGreatDoorRows
import Derived.Test.YtonnladboikmhaaGreatDoorCards
import Derived.Test.YtonnladboikmhaaGreatDoorTie
set_option linter.unusedSimpArgs false
set_option linter.unusedVariables false
namespace Go.Proofs.YtonnladboikmhaaGreatDoor
open Sx Go.ChangeShapes Go.WideShapes Go.ChangeAt Go.RowKit

theorem LinesPrints_key {H : Type} (enc : TypeId × Value → H) (W : World) (args : Array Value) (h : ArgsZ enc Tryz.prog W Tryz.f3.params.toList args.toList) (hlaid : laidMetH Tryz.prog Rows.linesPrintsRow.laid W) (hsh : W.ShapedOpen Tryz.prog) :
    Calls Tryz.prog 3 args W fun e W' => e = .returned (.bool true) ∧ Ext No W W' := by
  rw [Tryz.params3] at h
  obtain ⟨u0, us0, hargs, g0, r0⟩ := argsZ_cons h
  obtain rfl := argsZ_nil r0
  obtain ⟨ad, c, l, rfl, hs, hw, -, hc, hzl⟩ := argZ_ents g0
  obtain rfl : args = #[.slice ad l.length c] := by cases args; simp_all
  exact Prints_all l hs hw (by omega) (env2_of hlaid hsh)

theorem LinesPrints_door (os : Os) (args : Array Value) : laidMetH Tryz.prog Rows.linesPrintsRow.laid ((World.laidAll Tryz.prog os Rows.linesPrintsRow.laid).forCall (fun _ _ => 0) ⟨#[], args, []⟩).memory := by
  rw [MakeChecks.laidMetH_plain _ _ _ (by kernel_rfl)]; exact laidMet_laidAll _ (by kernel_rfl) (by kernel_rfl)
set_option maxRecDepth 100000 in
theorem LinesPrints_lifted (os : Os) (started : os.Started) (H : Type) (enc : TypeId × Value → H) :
    ReturnsInHanded {} Tryz.checked os 3 .any (fun w args => (Rows.linesPrintsSpec.pre enc Tryz.prog Tryz.f3 [] false w args ∧ laidMetH Tryz.prog Rows.linesPrintsRow.laid w) ∧ sizedMet enc Tryz.prog Tryz.f3 (OpenSpec.ofChange Rows.linesPrintsSpec) false w args) (Rows.linesPrintsSpec.post enc Tryz.prog Tryz.f3 false true false false) := by
  exact lift_laidZS (C := Tryz.checked) (t := 4) own started (by kernel_rfl) Tryz.func3
    (ChangeSpec.witness_shaped (enc := enc) (C := Tryz.checked) (os := os) (X := fun w _ => laidMetH Tryz.prog Rows.linesPrintsRow.laid w) false (World.laidAll Tryz.prog os Rows.linesPrintsRow.laid) #[.slice none 0 0] 8 (World.laidAll_os _ _ _) (World.shaped_of_ZipB (by kernel_rfl) (by kernel_rfl)) (by kernel_rfl) (by kernel_rfl) (by kernel_rfl) (LinesPrints_door os _))
    laidOut (by kernel_rfl) (by kernel_rfl) Tryz.underlying4 rfl (fun ds h => by
    obtain ⟨a0, rfl⟩ := list_1 h (by rw [Tryz.params3]; rfl)
    rfl) (LinesPrints_key enc)
theorem LinesPrints_row : Rows.LinesPrintsSaid :=
  OpenClaim.holds_of_wide 3 Tryz.f3 rfl rfl rfl rfl rfl rfl rfl ⟨rfl, rfl, rfl, rfl, rfl⟩ rfl rfl rfl rfl rfl (by kernel_rfl) Tryz.func3 (by kernel_rfl)
    (of_decide_eq_true (by kernel_rfl)) (by unfold Func.isWrapper; first | (rw [if_pos (by decide +kernel)]; kernel_rfl) | (rw [if_neg (by decide +kernel)]; exact ⟨rfl, rfl⟩))
    (fun os started H enc _ => LinesPrints_lifted os started H enc)
theorem LinesPrints_stand (t : TypeId) (h : t ∈ Tryz.f3.params.toList) : Tryz.prog.wantsStandIn t = false := by
  have h2 : (Tryz.f3.params.toList.all fun t => Tryz.prog.wantsStandIn t == false) = true := by kernel_rfl
  simpa using List.all_eq_true.1 h2 t h
theorem LinesPrints_holds : Rows.LinesPrintsCardSaid :=
  Claim7.holds_tied_plain_at .later [] [.data, .data, .data, .data, .sentinel, .sentinel, .pinned] true (true, "7a10e952791e63abf1abedcd8720322c9b6f4db8d43e3939df7c23eb82e51732") true
    LinesPrints_row (fun _ h => by cases h) (by kernel_rfl) (fun _ h => by cases h) linesPrints_row_tie rfl ⟨rfl, rfl⟩ (by kernel_rfl) rfl
    (fun f fn hf hfn => by
      obtain rfl : f = 3 := Option.some.inj ((show Tryz.prog.funcNamed "headrace/racelaw29.LinesPrints" = some 3 by kernel_rfl).symm.trans hf) |>.symm
      obtain rfl : fn = Tryz.f3 := (Option.some.inj (Tryz.func3.symm.trans hfn)).symm
      exact ⟨by kernel_rfl, fun j t ht => LinesPrints_stand t (List.mem_of_getElem? (by simpa using ht))⟩)
    (by kernel_rfl)

end Go.Proofs.YtonnladboikmhaaGreatDoor
