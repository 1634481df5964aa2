/- The statement of HlcPlays. -/
import Derived.Test.YtioebjimkainjaaDoorL0
import Derived.Test.YtioebjimkainjaaDoorSxP
import Derived.Test.YtioebjimkainjaaDoorRows
import Derived.Test.YtioebjimkainjaaDoorCards
import Derived.Test.YtioebjimkainjaaDoorTie
set_option linter.unusedSimpArgs false
set_option linter.unusedVariables false
namespace Go.Proofs.YtioebjimkainjaaDoor
open Sx Go.ChangeShapes Go.WideShapes Go.ChangeAt Go.RowKit

theorem HlcPlays_key {H : Type} (enc : TypeId × Value → H) (W : World) (args : Array Value) (h : Args enc Tryd.prog W Tryd.f4.params.toList args.toList) (hlaid : laidMetH Tryd.prog Rows.hlcPlaysRow.laid W) :
    Calls Tryd.prog 4 args W fun e W' => e = .returned (.bool true) ∧ Ext No W W' := by
  rw [Tryd.params4] at h
  obtain ⟨u0, us0, hargs, g0, r0⟩ := args_cons h
  obtain ⟨u1, us1, rfl, g1, r1⟩ := args_cons r0
  obtain ⟨u2, us2, rfl, g2, r2⟩ := args_cons r1
  obtain rfl := args_nil r2
  obtain ⟨node, rfl, nodeb1, nodeb2⟩ := arg_int Tryd.underlying3 g0
  obtain ⟨x, y, z, rfl, hbx, hby, hbz⟩ := arg_stamp g1
  obtain ⟨ad, c, os, rfl, hs, hl, hob⟩ := arg_ops g2
  obtain rfl : args = #[.int .i64 node, .agg #[.int .i64 x, .int .i64 y, .int .i64 z], .slice ad os.length c] := by cases args; simp_all
  by_cases hn : 1 ≤ node ∧ node ≤ 63 ∧ may ⟨x, y, z⟩ = true
  · exact Plays_yes node x y z ad c os W hs hl hn.1 hn.2.1 hn.2.2
  · exact Plays_no node x y z ad c os W hs hl hn

theorem HlcPlays_door (os : Os) (args : Array Value) : laidMetH Tryd.prog Rows.hlcPlaysRow.laid ((World.doorLaid Tryd.prog 62 os).forCall (fun _ _ => 0) ⟨#[], args, []⟩).memory :=
  laidMetH_of_parts3 (fuel := 8) (laidMet_of_run' 8 (by kernel_rfl) (by kernel_rfl)) (by kernel_rfl) (by kernel_rfl)
set_option maxRecDepth 100000 in
theorem HlcPlays_lifted (os : Os) (started : os.Started) (H : Type) (enc : TypeId × Value → H) :
    ReturnsInHanded {} Tryd.checked os 4 .any (fun w args => (Rows.hlcPlaysSpec.pre enc Tryd.prog Tryd.f4 [] false w args ∧ laidMetH Tryd.prog Rows.hlcPlaysRow.laid w) ∧ sizedMet enc Tryd.prog Tryd.f4 (OpenSpec.ofChange Rows.hlcPlaysSpec) false w args) (Rows.hlcPlaysSpec.post enc Tryd.prog Tryd.f4 false true false false) := by
  exact lift_laid (C := Tryd.checked) (t := 4) own started (by kernel_rfl) Tryd.func4
    (ChangeSpec.witness_shaped (enc := enc) (C := Tryd.checked) (os := os) (X := fun w _ => laidMetH Tryd.prog Rows.hlcPlaysRow.laid w) false (World.doorLaid Tryd.prog 62 os) #[.int .i64 0, .agg #[.int .i64 0, .int .i64 0, .int .i64 0], .slice none 0 0] 8 rfl (World.shaped_of_RefB (by kernel_rfl) (by kernel_rfl)) (by kernel_rfl) (by kernel_rfl) (by kernel_rfl) (HlcPlays_door os _))
    laidOut (by kernel_rfl) (by kernel_rfl) Tryd.underlying4 rfl (fun ds h => by
    obtain ⟨a0, a1, a2, rfl⟩ := list_3 h (by rw [Tryd.params4]; rfl)
    rfl) (HlcPlays_key enc)
theorem HlcPlays_row : Rows.HlcPlaysSaid :=
  OpenClaim.holds_of_wide 4 Tryd.f4 rfl rfl rfl rfl rfl rfl rfl ⟨rfl, rfl, rfl, rfl, rfl⟩ rfl rfl rfl rfl rfl (by kernel_rfl) Tryd.func4 (by kernel_rfl)
    (of_decide_eq_true (by kernel_rfl)) (by unfold Func.isWrapper; first | (rw [if_pos (by decide +kernel)]; kernel_rfl) | (rw [if_neg (by decide +kernel)]; exact ⟨rfl, rfl⟩))
    (fun os started H enc _ => HlcPlays_lifted os started H enc)
theorem HlcPlays_stand (t : TypeId) (h : t ∈ Tryd.f4.params.toList) : Tryd.prog.wantsStandIn t = false := by
  have h2 : (Tryd.f4.params.toList.all fun t => Tryd.prog.wantsStandIn t == false) = true := by kernel_rfl
  simpa using List.all_eq_true.1 h2 t h
theorem HlcPlays_holds : Rows.HlcPlaysCardSaid :=
  Claim7.holds_tied_plain_at .later [] [.data, .data, .data] true (true, "1c29a9af414b328f397a78daa7dd68fef53c187c2cf557a4ec556f27615a4271") true
    HlcPlays_row (fun _ h => by cases h) (by kernel_rfl) (fun _ h => by cases h) hlcPlays_row_tie rfl ⟨rfl, rfl⟩ (by kernel_rfl) rfl
    (fun f fn hf hfn => by
      obtain rfl : f = 4 := Option.some.inj ((show Tryd.prog.funcNamed "headrace/racelaw8.HlcPlays" = some 4 by kernel_rfl).symm.trans hf) |>.symm
      obtain rfl : fn = Tryd.f4 := (Option.some.inj (Tryd.func4.symm.trans hfn)).symm
      exact ⟨by kernel_rfl, fun j t ht => HlcPlays_stand t (List.mem_of_getElem? (by simpa using ht))⟩)
    (by kernel_rfl)

end Go.Proofs.YtioebjimkainjaaDoor
