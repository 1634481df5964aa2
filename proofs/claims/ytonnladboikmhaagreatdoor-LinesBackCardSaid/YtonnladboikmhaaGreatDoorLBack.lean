/- The statement of LinesBack. -/
import Derived.Test.YtonnladboikmhaaGreatDoorL0
import Derived.Test.YtonnladboikmhaaGreatDoorW16
import Derived.Test.YtonnladboikmhaaGreatDoorSxY
import Derived.Test.YtonnladboikmhaaGreatDoorRows
import Derived.Test.YtonnladboikmhaaGreatDoorCards
import Derived.Test.YtonnladboikmhaaGreatDoorTie
set_option linter.unusedSimpArgs false
set_option linter.unusedVariables false
namespace Go.Proofs.YtonnladboikmhaaGreatDoor
open Sx Go.ChangeShapes Go.WideShapes Go.ChangeAt Go.RowKit

theorem LinesBack_key {H : Type} (enc : TypeId × Value → H) (W : World) (args : Array Value) (h : ArgsZ enc Tryz.prog W Tryz.f4.params.toList args.toList) (hlaid : laidMetH Tryz.prog Rows.linesBackRow.laid W) (hsh : W.ShapedOpen Tryz.prog) :
    Calls Tryz.prog 4 args W fun e W' => e = .returned (.bool true) ∧ Ext No W W' := by
  rw [Tryz.params4] at h
  obtain ⟨u0, us0, hargs, g0, r0⟩ := argsZ_cons h
  obtain ⟨u1, us1, rfl, g1, r1⟩ := argsZ_cons r0
  obtain ⟨u2, us2, rfl, g2, r2⟩ := argsZ_cons r1
  obtain ⟨u3, us3, rfl, g3, r3⟩ := argsZ_cons r2
  obtain rfl := argsZ_nil r3
  obtain ⟨ad, c, l, rfl, hs, hw, -, hc, hzl⟩ := argZ_ents g0
  obtain ⟨at9, rfl, hlat9, hbat9⟩ := argZ_int Tryz.underlying3 g1
  obtain ⟨x9, rfl⟩ := argZ_u8 Tryz.underlying5 g2
  obtain ⟨cut9, rfl⟩ := argZ_bool Tryz.underlying4 g3
  obtain rfl : args = #[.slice ad l.length c, .int .i64 at9, .int .u8 x9.toNat, .bool cut9] := by cases args; simp_all
  exact Back_all l hs hw (by omega) (env2_of (show laidMetH Tryz.prog Rows.linesPrintsRow.laid W from hlaid) hsh) at9 ⟨hlat9, hbat9⟩ x9 cut9

theorem LinesBack_door (os : Os) (args : Array Value) : laidMetH Tryz.prog Rows.linesBackRow.laid ((World.laidAll Tryz.prog os Rows.linesBackRow.laid).forCall (fun _ _ => 0) ⟨#[], args, []⟩).memory := by
  rw [MakeChecks.laidMetH_plain _ _ _ (by kernel_rfl)]; exact laidMet_laidAll _ (by kernel_rfl) (by kernel_rfl)
set_option maxRecDepth 100000 in
theorem LinesBack_lifted (os : Os) (started : os.Started) (H : Type) (enc : TypeId × Value → H) :
    ReturnsInHanded {} Tryz.checked os 4 .any (fun w args => (Rows.linesBackSpec.pre enc Tryz.prog Tryz.f4 [] false w args ∧ laidMetH Tryz.prog Rows.linesBackRow.laid w) ∧ sizedMet enc Tryz.prog Tryz.f4 (OpenSpec.ofChange Rows.linesBackSpec) false w args) (Rows.linesBackSpec.post enc Tryz.prog Tryz.f4 false true false false) := by
  exact lift_laidZS (C := Tryz.checked) (t := 4) own started (by kernel_rfl) Tryz.func4
    (ChangeSpec.witness_shaped (enc := enc) (C := Tryz.checked) (os := os) (X := fun w _ => laidMetH Tryz.prog Rows.linesBackRow.laid w) false (World.laidAll Tryz.prog os Rows.linesBackRow.laid) #[.slice none 0 0, .int .i64 0, .int .u8 0, .bool false] 8 (World.laidAll_os _ _ _) (World.shaped_of_ZipB (by kernel_rfl) (by kernel_rfl)) (by kernel_rfl) (by kernel_rfl) (by kernel_rfl) (LinesBack_door os _))
    laidOut (by kernel_rfl) (by kernel_rfl) Tryz.underlying4 rfl (fun ds h => by
    obtain ⟨a0, a1, a2, a3, rfl⟩ := list_4 h (by rw [Tryz.params4]; rfl)
    rfl) (LinesBack_key enc)
theorem LinesBack_row : Rows.LinesBackSaid :=
  OpenClaim.holds_of_wide 4 Tryz.f4 rfl rfl rfl rfl rfl rfl rfl ⟨rfl, rfl, rfl, rfl, rfl⟩ rfl rfl rfl rfl rfl (by kernel_rfl) Tryz.func4 (by kernel_rfl)
    (of_decide_eq_true (by kernel_rfl)) (by unfold Func.isWrapper; first | (rw [if_pos (by decide +kernel)]; kernel_rfl) | (rw [if_neg (by decide +kernel)]; exact ⟨rfl, rfl⟩))
    (fun os started H enc _ => LinesBack_lifted os started H enc)
theorem LinesBack_stand (t : TypeId) (h : t ∈ Tryz.f4.params.toList) : Tryz.prog.wantsStandIn t = false := by
  have h2 : (Tryz.f4.params.toList.all fun t => Tryz.prog.wantsStandIn t == false) = true := by kernel_rfl
  simpa using List.all_eq_true.1 h2 t h
theorem LinesBack_holds : Rows.LinesBackCardSaid :=
  Claim7.holds_tied_plain_at .later [] [.data, .data, .data, .data, .sentinel, .sentinel, .pinned] true (true, "7a10e952791e63abf1abedcd8720322c9b6f4db8d43e3939df7c23eb82e51732") true
    LinesBack_row (fun _ h => by cases h) (by kernel_rfl) (fun _ h => by cases h) linesBack_row_tie rfl ⟨rfl, rfl⟩ (by kernel_rfl) rfl
    (fun f fn hf hfn => by
      obtain rfl : f = 4 := Option.some.inj ((show Tryz.prog.funcNamed "headrace/racelaw29.LinesBack" = some 4 by kernel_rfl).symm.trans hf) |>.symm
      obtain rfl : fn = Tryz.f4 := (Option.some.inj (Tryz.func4.symm.trans hfn)).symm
      exact ⟨by kernel_rfl, fun j t ht => LinesBack_stand t (List.mem_of_getElem? (by simpa using ht))⟩)
    (by kernel_rfl)

end Go.Proofs.YtonnladboikmhaaGreatDoor
