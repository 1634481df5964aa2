/- The statement of LinesHalves. -/
import Derived.Test.YtonnladboikmhaaGreatDoorL0
import Derived.Test.YtonnladboikmhaaGreatDoorW16
import Derived.Test.YtonnladboikmhaaGreatDoorSxY
import Derived.Test.YtonnladboikmhaaGreatDoorRows
import Derived.Test.YtonnladboikmhaaGreatDoorCards
import Derived.Test.YtonnladboikmhaaGreatDoorTie
set_option linter.unusedSimpArgs false
set_option linter.unusedVariables false
namespace Go.Proofs.YtonnladboikmhaaGreatDoor
open Sx Go.ChangeShapes Go.WideShapes Go.ChangeAt Go.RowKit

theorem LinesHalves_key {H : Type} (enc : TypeId × Value → H) (W : World) (args : Array Value) (h : ArgsZ enc Tryz.prog W Tryz.f7.params.toList args.toList) (hlaid : laidMetH Tryz.prog Rows.linesHalvesRow.laid W) (hsh : W.ShapedOpen Tryz.prog) :
    Calls Tryz.prog 7 args W fun e W' => e = .returned (.bool true) ∧ Ext No W W' := by
  rw [Tryz.params7] at h
  obtain ⟨u0, us0, hargs, g0, r0⟩ := argsZ_cons h
  obtain ⟨u1, us1, rfl, g1, r1⟩ := argsZ_cons r0
  obtain rfl := argsZ_nil r1
  obtain ⟨ad, c, l, rfl, hs, hw, -, hc, hzl⟩ := argZ_ents g0
  obtain ⟨q9, rfl, hq9⟩ := argZ_stamp g1
  obtain rfl : args = #[.slice ad l.length c, Value.agg #[.int .i64 q9.w, .int .i64 q9.l, .int .i64 q9.n]] := by cases args; simp_all
  exact Halves_all l hs hw (by omega) (env2_of (show laidMetH Tryz.prog Rows.linesPrintsRow.laid W from hlaid) hsh) hc q9

theorem LinesHalves_door (os : Os) (args : Array Value) : laidMetH Tryz.prog Rows.linesHalvesRow.laid ((World.laidAll Tryz.prog os Rows.linesHalvesRow.laid).forCall (fun _ _ => 0) ⟨#[], args, []⟩).memory := by
  rw [MakeChecks.laidMetH_plain _ _ _ (by kernel_rfl)]; exact laidMet_laidAll _ (by kernel_rfl) (by kernel_rfl)
set_option maxRecDepth 100000 in
theorem LinesHalves_lifted (os : Os) (started : os.Started) (H : Type) (enc : TypeId × Value → H) :
    ReturnsInHanded {} Tryz.checked os 7 .any (fun w args => (Rows.linesHalvesSpec.pre enc Tryz.prog Tryz.f7 [] false w args ∧ laidMetH Tryz.prog Rows.linesHalvesRow.laid w) ∧ sizedMet enc Tryz.prog Tryz.f7 (OpenSpec.ofChange Rows.linesHalvesSpec) false w args) (Rows.linesHalvesSpec.post enc Tryz.prog Tryz.f7 false true false false) := by
  exact lift_laidZS (C := Tryz.checked) (t := 4) own started (by kernel_rfl) Tryz.func7
    (ChangeSpec.witness_shaped (enc := enc) (C := Tryz.checked) (os := os) (X := fun w _ => laidMetH Tryz.prog Rows.linesHalvesRow.laid w) false (World.laidAll Tryz.prog os Rows.linesHalvesRow.laid) #[.slice none 0 0, .agg #[.int .i64 0, .int .i64 0, .int .i64 0]] 8 (World.laidAll_os _ _ _) (World.shaped_of_ZipB (by kernel_rfl) (by kernel_rfl)) (by kernel_rfl) (by kernel_rfl) (by kernel_rfl) (LinesHalves_door os _))
    laidOut (by kernel_rfl) (by kernel_rfl) Tryz.underlying4 rfl (fun ds h => by
    obtain ⟨a0, a1, rfl⟩ := list_2 h (by rw [Tryz.params7]; rfl)
    rfl) (LinesHalves_key enc)
theorem LinesHalves_row : Rows.LinesHalvesSaid :=
  OpenClaim.holds_of_wide 7 Tryz.f7 rfl rfl rfl rfl rfl rfl rfl ⟨rfl, rfl, rfl, rfl, rfl⟩ rfl rfl rfl rfl rfl (by kernel_rfl) Tryz.func7 (by kernel_rfl)
    (of_decide_eq_true (by kernel_rfl)) (by unfold Func.isWrapper; first | (rw [if_pos (by decide +kernel)]; kernel_rfl) | (rw [if_neg (by decide +kernel)]; exact ⟨rfl, rfl⟩))
    (fun os started H enc _ => LinesHalves_lifted os started H enc)
theorem LinesHalves_stand (t : TypeId) (h : t ∈ Tryz.f7.params.toList) : Tryz.prog.wantsStandIn t = false := by
  have h2 : (Tryz.f7.params.toList.all fun t => Tryz.prog.wantsStandIn t == false) = true := by kernel_rfl
  simpa using List.all_eq_true.1 h2 t h
theorem LinesHalves_holds : Rows.LinesHalvesCardSaid :=
  Claim7.holds_tied_plain_at .later [] [.data, .data, .data, .data, .sentinel, .sentinel, .pinned] true (true, "7a10e952791e63abf1abedcd8720322c9b6f4db8d43e3939df7c23eb82e51732") true
    LinesHalves_row (fun _ h => by cases h) (by kernel_rfl) (fun _ h => by cases h) linesHalves_row_tie rfl ⟨rfl, rfl⟩ (by kernel_rfl) rfl
    (fun f fn hf hfn => by
      obtain rfl : f = 7 := Option.some.inj ((show Tryz.prog.funcNamed "headrace/racelaw29.LinesHalves" = some 7 by kernel_rfl).symm.trans hf) |>.symm
      obtain rfl : fn = Tryz.f7 := (Option.some.inj (Tryz.func7.symm.trans hfn)).symm
      exact ⟨by kernel_rfl, fun j t ht => LinesHalves_stand t (List.mem_of_getElem? (by simpa using ht))⟩)
    (by kernel_rfl)

end Go.Proofs.YtonnladboikmhaaGreatDoor
