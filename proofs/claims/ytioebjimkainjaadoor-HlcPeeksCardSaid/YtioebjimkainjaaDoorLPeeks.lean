/- The statement of HlcPeeks. -/
import Derived.Test.YtioebjimkainjaaDoorW5
import Derived.Test.YtioebjimkainjaaDoorL0
import Derived.Test.YtioebjimkainjaaDoorSxP
import Derived.Test.YtioebjimkainjaaDoorRows
import Derived.Test.YtioebjimkainjaaDoorCards
import Derived.Test.YtioebjimkainjaaDoorTie
set_option linter.unusedSimpArgs false
set_option linter.unusedVariables false
namespace Go.Proofs.YtioebjimkainjaaDoor
open Sx Go.ChangeShapes Go.WideShapes Go.ChangeAt Go.RowKit

theorem HlcPeeks_key {H : Type} (enc : TypeId × Value → H) (W : World) (args : Array Value) (h : Args enc Tryd.prog W Tryd.f6.params.toList args.toList) (hlaid : laidMetH Tryd.prog Rows.hlcPeeksRow.laid W) :
    Calls Tryd.prog 6 args W fun e W' => e = .returned (.bool true) ∧ Ext No W W' := by
  rw [Tryd.params6] at h
  obtain ⟨u0, us0, hargs, g0, r0⟩ := args_cons h
  obtain ⟨u1, us1, rfl, g1, r1⟩ := args_cons r0
  obtain ⟨u2, us2, rfl, g2, r2⟩ := args_cons r1
  obtain ⟨u3, us3, rfl, g3, r3⟩ := args_cons r2
  obtain ⟨u4, us4, rfl, g4, r4⟩ := args_cons r3
  obtain rfl := args_nil r4
  obtain ⟨node, rfl, nodeb1, nodeb2⟩ := arg_int Tryd.underlying3 g0
  obtain ⟨x, y, z, rfl, hbx, hby, hbz⟩ := arg_stamp g1
  obtain ⟨ad, c, os, rfl, hs, hl, hob⟩ := arg_ops g2
  obtain ⟨phys, rfl, physb1, physb2⟩ := arg_int Tryd.underlying3 g3
  obtain ⟨p, q, r, rfl, hbp, hbq, hbr⟩ := arg_stamp g4
  obtain rfl : args = #[.int .i64 node, .agg #[.int .i64 x, .int .i64 y, .int .i64 z], .slice ad os.length c, .int .i64 phys, .agg #[.int .i64 p, .int .i64 q, .int .i64 r]] := by cases args; simp_all
  by_cases hn : 1 ≤ node ∧ node ≤ 63 ∧ may ⟨x, y, z⟩ = true
  · exact Peeks_yes node x y z ad c os phys p q r W hs hl hn.1 hn.2.1 hn.2.2
  · exact Peeks_no node x y z ad c os phys p q r W hs hl hn

theorem HlcPeeks_door (os : Os) (args : Array Value) : laidMetH Tryd.prog Rows.hlcPeeksRow.laid ((World.doorLaid Tryd.prog 62 os).forCall (fun _ _ => 0) ⟨#[], args, []⟩).memory :=
  laidMetH_of_parts3 (fuel := 8) (laidMet_of_run' 8 (by kernel_rfl) (by kernel_rfl)) (by kernel_rfl) (by kernel_rfl)
set_option maxRecDepth 100000 in
theorem HlcPeeks_lifted (os : Os) (started : os.Started) (H : Type) (enc : TypeId × Value → H) :
    ReturnsInHanded {} Tryd.checked os 6 .any (fun w args => (Rows.hlcPeeksSpec.pre enc Tryd.prog Tryd.f6 [] false w args ∧ laidMetH Tryd.prog Rows.hlcPeeksRow.laid w) ∧ sizedMet enc Tryd.prog Tryd.f6 (OpenSpec.ofChange Rows.hlcPeeksSpec) false w args) (Rows.hlcPeeksSpec.post enc Tryd.prog Tryd.f6 false true false false) := by
  exact lift_laid (C := Tryd.checked) (t := 4) own started (by kernel_rfl) Tryd.func6
    (ChangeSpec.witness_shaped (enc := enc) (C := Tryd.checked) (os := os) (X := fun w _ => laidMetH Tryd.prog Rows.hlcPeeksRow.laid w) false (World.doorLaid Tryd.prog 62 os) #[.int .i64 0, .agg #[.int .i64 0, .int .i64 0, .int .i64 0], .slice none 0 0, .int .i64 0, .agg #[.int .i64 0, .int .i64 0, .int .i64 0]] 8 rfl (World.shaped_of_RefB (by kernel_rfl) (by kernel_rfl)) (by kernel_rfl) (by kernel_rfl) (by kernel_rfl) (HlcPeeks_door os _))
    laidOut (by kernel_rfl) (by kernel_rfl) Tryd.underlying4 rfl (fun ds h => by
    obtain ⟨a0, a1, a2, a3, a4, rfl⟩ := list_5 h (by rw [Tryd.params6]; rfl)
    rfl) (HlcPeeks_key enc)
theorem HlcPeeks_row : Rows.HlcPeeksSaid :=
  OpenClaim.holds_of_wide 6 Tryd.f6 rfl rfl rfl rfl rfl rfl rfl ⟨rfl, rfl, rfl, rfl, rfl⟩ rfl rfl rfl rfl rfl (by kernel_rfl) Tryd.func6 (by kernel_rfl)
    (of_decide_eq_true (by kernel_rfl)) (by unfold Func.isWrapper; first | (rw [if_pos (by decide +kernel)]; kernel_rfl) | (rw [if_neg (by decide +kernel)]; exact ⟨rfl, rfl⟩))
    (fun os started H enc _ => HlcPeeks_lifted os started H enc)
theorem HlcPeeks_stand (t : TypeId) (h : t ∈ Tryd.f6.params.toList) : Tryd.prog.wantsStandIn t = false := by
  have h2 : (Tryd.f6.params.toList.all fun t => Tryd.prog.wantsStandIn t == false) = true := by kernel_rfl
  simpa using List.all_eq_true.1 h2 t h
theorem HlcPeeks_holds : Rows.HlcPeeksCardSaid :=
  Claim7.holds_tied_plain_at .later [] [.data, .data, .data] true (true, "1c29a9af414b328f397a78daa7dd68fef53c187c2cf557a4ec556f27615a4271") true
    HlcPeeks_row (fun _ h => by cases h) (by kernel_rfl) (fun _ h => by cases h) hlcPeeks_row_tie rfl ⟨rfl, rfl⟩ (by kernel_rfl) rfl
    (fun f fn hf hfn => by
      obtain rfl : f = 6 := Option.some.inj ((show Tryd.prog.funcNamed "headrace/racelaw8.HlcPeeks" = some 6 by kernel_rfl).symm.trans hf) |>.symm
      obtain rfl : fn = Tryd.f6 := (Option.some.inj (Tryd.func6.symm.trans hfn)).symm
      exact ⟨by kernel_rfl, fun j t ht => HlcPeeks_stand t (List.mem_of_getElem? (by simpa using ht))⟩)
    (by kernel_rfl)

end Go.Proofs.YtioebjimkainjaaDoor
