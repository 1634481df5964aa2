/- The statement of LinesParses. -/
import Derived.Test.YtonnladboikmhaaGreatDoorL0
import Derived.Test.YtonnladboikmhaaGreatDoorN6
import Derived.Test.YtonnladboikmhaaGreatDoorSxY
import Derived.Test.YtonnladboikmhaaGreatDoorRows
import Derived.Test.YtonnladboikmhaaGreatDoorCards
import Derived.Test.YtonnladboikmhaaGreatDoorTie
set_option linter.unusedSimpArgs false
set_option linter.unusedVariables false
namespace Go.Proofs.YtonnladboikmhaaGreatDoor
open Sx Go.ChangeShapes Go.WideShapes Go.ChangeAt Go.RowKit

theorem LinesParses_key {H : Type} (enc : TypeId × Value → H) (W : World) (args : Array Value) (h : ArgsZ enc Tryz.prog W Tryz.f6.params.toList args.toList) (hlaid : laidMetH Tryz.prog Rows.linesParsesRow.laid W) (hsh : W.ShapedOpen Tryz.prog) :
    Calls Tryz.prog 6 args W fun e W' => e = .returned (.bool true) ∧ Ext No W W' := by
  rw [Tryz.params6] at h
  obtain ⟨u0, us0, hargs, g0, r0⟩ := argsZ_cons h
  obtain ⟨u1, us1, rfl, g1, r1⟩ := argsZ_cons r0
  obtain rfl := argsZ_nil r1
  obtain ⟨s9, rfl, hls9⟩ := argZ_str Tryz.underlying9 g0
  obtain ⟨q9, rfl, hq9⟩ := argZ_stamp g1
  obtain rfl : args = #[.string ⟨s9.toArray⟩, Value.agg #[.int .i64 q9.w, .int .i64 q9.l, .int .i64 q9.n]] := by cases args; simp_all
  exact Parses_all s9 (by omega) q9 (env2_of (show laidMetH Tryz.prog Rows.linesPrintsRow.laid W from hlaid) hsh)

theorem LinesParses_door (os : Os) (args : Array Value) : laidMetH Tryz.prog Rows.linesParsesRow.laid ((World.laidAll Tryz.prog os Rows.linesParsesRow.laid).forCall (fun _ _ => 0) ⟨#[], args, []⟩).memory := by
  rw [MakeChecks.laidMetH_plain _ _ _ (by kernel_rfl)]; exact laidMet_laidAll _ (by kernel_rfl) (by kernel_rfl)
set_option maxRecDepth 100000 in
theorem LinesParses_lifted (os : Os) (started : os.Started) (H : Type) (enc : TypeId × Value → H) :
    ReturnsInHanded {} Tryz.checked os 6 .any (fun w args => (Rows.linesParsesSpec.pre enc Tryz.prog Tryz.f6 [] false w args ∧ laidMetH Tryz.prog Rows.linesParsesRow.laid w) ∧ sizedMet enc Tryz.prog Tryz.f6 (OpenSpec.ofChange Rows.linesParsesSpec) false w args) (Rows.linesParsesSpec.post enc Tryz.prog Tryz.f6 false true false false) := by
  exact lift_laidZS (C := Tryz.checked) (t := 4) own started (by kernel_rfl) Tryz.func6
    (ChangeSpec.witness_shaped (enc := enc) (C := Tryz.checked) (os := os) (X := fun w _ => laidMetH Tryz.prog Rows.linesParsesRow.laid w) false (World.laidAll Tryz.prog os Rows.linesParsesRow.laid) #[.string .empty, .agg #[.int .i64 0, .int .i64 0, .int .i64 0]] 8 (World.laidAll_os _ _ _) (World.shaped_of_ZipB (by kernel_rfl) (by kernel_rfl)) (by kernel_rfl) (by kernel_rfl) (by kernel_rfl) (LinesParses_door os _))
    laidOut (by kernel_rfl) (by kernel_rfl) Tryz.underlying4 rfl (fun ds h => by
    obtain ⟨a0, a1, rfl⟩ := list_2 h (by rw [Tryz.params6]; rfl)
    rfl) (LinesParses_key enc)
theorem LinesParses_row : Rows.LinesParsesSaid :=
  OpenClaim.holds_of_wide 6 Tryz.f6 rfl rfl rfl rfl rfl rfl rfl ⟨rfl, rfl, rfl, rfl, rfl⟩ rfl rfl rfl rfl rfl (by kernel_rfl) Tryz.func6 (by kernel_rfl)
    (of_decide_eq_true (by kernel_rfl)) (by unfold Func.isWrapper; first | (rw [if_pos (by decide +kernel)]; kernel_rfl) | (rw [if_neg (by decide +kernel)]; exact ⟨rfl, rfl⟩))
    (fun os started H enc _ => LinesParses_lifted os started H enc)
theorem LinesParses_stand (t : TypeId) (h : t ∈ Tryz.f6.params.toList) : Tryz.prog.wantsStandIn t = false := by
  have h2 : (Tryz.f6.params.toList.all fun t => Tryz.prog.wantsStandIn t == false) = true := by kernel_rfl
  simpa using List.all_eq_true.1 h2 t h
theorem LinesParses_holds : Rows.LinesParsesCardSaid :=
  Claim7.holds_tied_plain_at .later [] [.data, .data, .data, .data, .sentinel, .sentinel, .pinned] true (true, "7a10e952791e63abf1abedcd8720322c9b6f4db8d43e3939df7c23eb82e51732") true
    LinesParses_row (fun _ h => by cases h) (by kernel_rfl) (fun _ h => by cases h) linesParses_row_tie rfl ⟨rfl, rfl⟩ (by kernel_rfl) rfl
    (fun f fn hf hfn => by
      obtain rfl : f = 6 := Option.some.inj ((show Tryz.prog.funcNamed "headrace/racelaw29.LinesParses" = some 6 by kernel_rfl).symm.trans hf) |>.symm
      obtain rfl : fn = Tryz.f6 := (Option.some.inj (Tryz.func6.symm.trans hfn)).symm
      exact ⟨by kernel_rfl, fun j t ht => LinesParses_stand t (List.mem_of_getElem? (by simpa using ht))⟩)
    (by kernel_rfl)

end Go.Proofs.YtonnladboikmhaaGreatDoor
