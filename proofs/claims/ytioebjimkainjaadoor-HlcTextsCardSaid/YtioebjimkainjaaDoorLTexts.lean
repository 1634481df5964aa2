/- The statement of HlcTexts. -/
import Derived.Test.YtioebjimkainjaaDoorL2
import Derived.Test.YtioebjimkainjaaDoorSxP
import Derived.Test.YtioebjimkainjaaDoorRows
import Derived.Test.YtioebjimkainjaaDoorCards
import Derived.Test.YtioebjimkainjaaDoorTie
set_option linter.unusedSimpArgs false
set_option linter.unusedVariables false
namespace Go.Proofs.YtioebjimkainjaaDoor
open Sx Go.ChangeShapes Go.WideShapes Go.ChangeAt Go.RowKit

theorem list_1 {α : Type} {ds : List α} {n : Nat} (h : ds.length = n) (hn : n = 1) : ∃ a0, ds = [a0] := by
  subst hn
  match ds, h with
  | [a0], _ => exact ⟨a0, rfl⟩

theorem HlcTexts_key {H : Type} (enc : TypeId × Value → H) (W : World) (args : Array Value) (h : Args enc Tryd.prog W Tryd.f8.params.toList args.toList) (hlaid : laidMetH Tryd.prog Rows.hlcTextsRow.laid W) :
    Calls Tryd.prog 8 args W fun e W' => e = .returned (.bool true) ∧ Ext No W W' := by
  rw [Tryd.params8] at h
  obtain ⟨v0, vs0, hargs, h0, r0⟩ := args_cons h
  obtain rfl := args_nil r0
  obtain ⟨s, rfl, hs⟩ := arg_str Tryd.underlying9 h0
  obtain rfl : args = #[.string ⟨s.toArray⟩] := by cases args; simp_all
  exact Texts_calls s W hs (tab_errs hlaid).1 (tab_errs hlaid).2

theorem HlcTexts_door (os : Os) (args : Array Value) : laidMetH Tryd.prog Rows.hlcTextsRow.laid ((World.doorLaid Tryd.prog 62 os).forCall (fun _ _ => 0) ⟨#[], args, []⟩).memory :=
  laidMetH_of_parts3 (fuel := 8) (laidMet_of_run' 8 (by kernel_rfl) (by kernel_rfl)) (by kernel_rfl) (by kernel_rfl)
set_option maxRecDepth 100000 in
theorem HlcTexts_lifted (os : Os) (started : os.Started) (H : Type) (enc : TypeId × Value → H) :
    ReturnsInHanded {} Tryd.checked os 8 .any (fun w args => (Rows.hlcTextsSpec.pre enc Tryd.prog Tryd.f8 [] false w args ∧ laidMetH Tryd.prog Rows.hlcTextsRow.laid w) ∧ sizedMet enc Tryd.prog Tryd.f8 (OpenSpec.ofChange Rows.hlcTextsSpec) false w args) (Rows.hlcTextsSpec.post enc Tryd.prog Tryd.f8 false true false false) := by
  exact lift_laid (C := Tryd.checked) (t := 4) own started (by kernel_rfl) Tryd.func8
    (ChangeSpec.witness_shaped (enc := enc) (C := Tryd.checked) (os := os) (X := fun w _ => laidMetH Tryd.prog Rows.hlcTextsRow.laid w) false (World.doorLaid Tryd.prog 62 os) #[.string .empty] 8 rfl (World.shaped_of_RefB (by kernel_rfl) (by kernel_rfl)) (by kernel_rfl) (by kernel_rfl) (by kernel_rfl) (HlcTexts_door os _))
    laidOut (by kernel_rfl) (by kernel_rfl) Tryd.underlying4 rfl (fun ds h => by
    obtain ⟨a0, rfl⟩ := list_1 h (by rw [Tryd.params8]; rfl)
    rfl) (HlcTexts_key enc)
theorem HlcTexts_row : Rows.HlcTextsSaid :=
  OpenClaim.holds_of_wide 8 Tryd.f8 rfl rfl rfl rfl rfl rfl rfl ⟨rfl, rfl, rfl, rfl, rfl⟩ rfl rfl rfl rfl rfl (by kernel_rfl) Tryd.func8 (by kernel_rfl)
    (of_decide_eq_true (by kernel_rfl)) (by unfold Func.isWrapper; first | (rw [if_pos (by decide +kernel)]; kernel_rfl) | (rw [if_neg (by decide +kernel)]; exact ⟨rfl, rfl⟩))
    (fun os started H enc _ => HlcTexts_lifted os started H enc)
theorem HlcTexts_stand (t : TypeId) (h : t ∈ Tryd.f8.params.toList) : Tryd.prog.wantsStandIn t = false := by
  have h2 : (Tryd.f8.params.toList.all fun t => Tryd.prog.wantsStandIn t == false) = true := by kernel_rfl
  simpa using List.all_eq_true.1 h2 t h
theorem HlcTexts_holds : Rows.HlcTextsCardSaid :=
  Claim7.holds_tied_plain_at .later [] [.data, .data, .data, .sentinel, .sentinel] true (true, "1c29a9af414b328f397a78daa7dd68fef53c187c2cf557a4ec556f27615a4271") true
    HlcTexts_row (fun _ h => by cases h) (by kernel_rfl) (fun _ h => by cases h) hlcTexts_row_tie rfl ⟨rfl, rfl⟩ (by kernel_rfl) rfl
    (fun f fn hf hfn => by
      obtain rfl : f = 8 := Option.some.inj ((show Tryd.prog.funcNamed "headrace/racelaw8.HlcTexts" = some 8 by kernel_rfl).symm.trans hf) |>.symm
      obtain rfl : fn = Tryd.f8 := (Option.some.inj (Tryd.func8.symm.trans hfn)).symm
      exact ⟨by kernel_rfl, fun j t ht => HlcTexts_stand t (List.mem_of_getElem? (by simpa using ht))⟩)
    (by kernel_rfl)

end Go.Proofs.YtioebjimkainjaaDoor
