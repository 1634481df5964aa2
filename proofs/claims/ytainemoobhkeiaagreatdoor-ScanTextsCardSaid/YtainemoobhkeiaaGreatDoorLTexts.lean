/- The statement of ScanTexts. -/
import Derived.Test.YtainemoobhkeiaaGreatDoorL1
import Derived.Test.YtainemoobhkeiaaGreatDoorW18
import Derived.Test.YtainemoobhkeiaaGreatDoorSxP
import Derived.Test.YtainemoobhkeiaaGreatDoorRows
import Derived.Test.YtainemoobhkeiaaGreatDoorCards
import Derived.Test.YtainemoobhkeiaaGreatDoorTie
set_option linter.unusedSimpArgs false
set_option linter.unusedVariables false
namespace Go.Proofs.YtainemoobhkeiaaGreatDoor
open Sx Go.ChangeShapes Go.WideShapes Go.ChangeAt Go.RowKit

theorem ScanTexts_key {H : Type} (enc : TypeId × Value → H) (W : World) (args : Array Value) (h : Args enc Tryz.prog W Tryz.f3.params.toList args.toList) (hlaid : laidMetH Tryz.prog Rows.scanTextsRow.laid W) :
    Calls Tryz.prog 3 args W fun e W' => e = .returned (.bool true) ∧ Ext No W W' := by
  rw [Tryz.params3] at h
  obtain ⟨u0, us0, hargs, g0, r0⟩ := args_cons h
  obtain ⟨u1, us1, rfl, g1, r1⟩ := args_cons r0
  obtain rfl := args_nil r1
  obtain ⟨q, rfl, hki, hmo, hlo, hhi⟩ := arg_queryF g0
  obtain ⟨s, rfl, hbs⟩ := arg_str Tryz.underlying9 g1
  obtain rfl : args = #[.agg #[.string ⟨q.fr.toArray⟩, .string ⟨q.to.toArray⟩, .int .i64 q.kind, .int .i64 q.lo.kind, .float .f64 q.lo.num, .string ⟨q.lo.text.toArray⟩, .int .i64 q.hi.kind, .float .f64 q.hi.num, .string ⟨q.hi.text.toArray⟩, .bool q.back, .int .i64 q.most, .string ⟨q.after.toArray⟩], .string ⟨s.toArray⟩] := by cases args; simp_all
  exact Texts_calls q s hki hmo hlo hhi W (env_laid hlaid)

theorem ScanTexts_door (os : Os) (args : Array Value) : laidMetH Tryz.prog Rows.scanTextsRow.laid ((World.doorLaid Tryz.prog 62 os).forCall (fun _ _ => 0) ⟨#[], args, []⟩).memory :=
  laidMetH_of_parts3 (fuel := 8) (laidMet_of_run' 8 (by kernel_rfl) (by kernel_rfl)) (by kernel_rfl) (by kernel_rfl)
set_option maxRecDepth 100000 in
theorem ScanTexts_lifted (os : Os) (started : os.Started) (H : Type) (enc : TypeId × Value → H) :
    ReturnsInHanded {} Tryz.checked os 3 .any (fun w args => (Rows.scanTextsSpec.pre enc Tryz.prog Tryz.f3 [] false w args ∧ laidMetH Tryz.prog Rows.scanTextsRow.laid w) ∧ sizedMet enc Tryz.prog Tryz.f3 (OpenSpec.ofChange Rows.scanTextsSpec) false w args) (Rows.scanTextsSpec.post enc Tryz.prog Tryz.f3 false true false false) := by
  exact lift_laid (C := Tryz.checked) (t := 4) own started (by kernel_rfl) Tryz.func3
    (ChangeSpec.witness_shaped (enc := enc) (C := Tryz.checked) (os := os) (X := fun w _ => laidMetH Tryz.prog Rows.scanTextsRow.laid w) false (World.doorLaid Tryz.prog 62 os) #[.agg #[.string .empty, .string .empty, .int .i64 0, .int .i64 0, .float .f64 0, .string .empty, .int .i64 0, .float .f64 0, .string .empty, .bool false, .int .i64 0, .string .empty], .string .empty] 8 rfl (World.shaped_of_RefB (by kernel_rfl) (by kernel_rfl)) (by kernel_rfl) (by kernel_rfl) (by kernel_rfl) (ScanTexts_door os _))
    laidOut (by kernel_rfl) (by kernel_rfl) Tryz.underlying4 rfl (fun ds h => by
    obtain ⟨a0, a1, rfl⟩ := list_2 h (by rw [Tryz.params3]; rfl)
    rfl) (ScanTexts_key enc)
theorem ScanTexts_row : Rows.ScanTextsSaid :=
  OpenClaim.holds_of_wide 3 Tryz.f3 rfl rfl rfl rfl rfl rfl rfl ⟨rfl, rfl, rfl, rfl, rfl⟩ rfl rfl rfl rfl rfl (by kernel_rfl) Tryz.func3 (by kernel_rfl)
    (of_decide_eq_true (by kernel_rfl)) (by unfold Func.isWrapper; first | (rw [if_pos (by decide +kernel)]; kernel_rfl) | (rw [if_neg (by decide +kernel)]; exact ⟨rfl, rfl⟩))
    (fun os started H enc _ => ScanTexts_lifted os started H enc)
theorem ScanTexts_stand (t : TypeId) (h : t ∈ Tryz.f3.params.toList) : Tryz.prog.wantsStandIn t = false := by
  have h2 : (Tryz.f3.params.toList.all fun t => Tryz.prog.wantsStandIn t == false) = true := by kernel_rfl
  simpa using List.all_eq_true.1 h2 t h
theorem ScanTexts_holds : Rows.ScanTextsCardSaid :=
  Claim7.holds_tied_plain_at .later [] [.data, .data, .data, .sentinel, .sentinel] true (true, "55b73475071480432e6ab4b1b4110300747ae9c5376ffd49daef297889fe501f") true
    ScanTexts_row (fun _ h => by cases h) (by kernel_rfl) (fun _ h => by cases h) scanTexts_row_tie rfl ⟨rfl, rfl⟩ (by kernel_rfl) rfl
    (fun f fn hf hfn => by
      obtain rfl : f = 3 := Option.some.inj ((show Tryz.prog.funcNamed "headrace/racelaw28.ScanTexts" = some 3 by kernel_rfl).symm.trans hf) |>.symm
      obtain rfl : fn = Tryz.f3 := (Option.some.inj (Tryz.func3.symm.trans hfn)).symm
      exact ⟨by kernel_rfl, fun j t ht => ScanTexts_stand t (List.mem_of_getElem? (by simpa using ht))⟩)
    (by kernel_rfl)

end Go.Proofs.YtainemoobhkeiaaGreatDoor
