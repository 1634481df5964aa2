/- The statement of HlcOrders. -/
import Derived.Test.YtioebjimkainjaaDoorW6
import Derived.Test.YtioebjimkainjaaDoorL0
import Derived.Test.YtioebjimkainjaaDoorSxP
import Derived.Test.YtioebjimkainjaaDoorRows
import Derived.Test.YtioebjimkainjaaDoorCards
import Derived.Test.YtioebjimkainjaaDoorTie
set_option linter.unusedSimpArgs false
set_option linter.unusedVariables false
namespace Go.Proofs.YtioebjimkainjaaDoor
open Sx Go.ChangeShapes Go.WideShapes Go.ChangeAt Go.RowKit

theorem HlcOrders_key {H : Type} (enc : TypeId × Value → H) (W : World) (args : Array Value) (h : Args enc Tryd.prog W Tryd.f7.params.toList args.toList) (hlaid : laidMetH Tryd.prog Rows.hlcOrdersRow.laid W) :
    Calls Tryd.prog 7 args W fun e W' => e = .returned (.bool true) ∧ Ext No W W' := by
  rw [Tryd.params7] at h
  obtain ⟨u0, us0, hargs, g0, r0⟩ := args_cons h
  obtain ⟨u1, us1, rfl, g1, r1⟩ := args_cons r0
  obtain ⟨u2, us2, rfl, g2, r2⟩ := args_cons r1
  obtain rfl := args_nil r2
  obtain ⟨node, rfl, nodeb1, nodeb2⟩ := arg_int Tryd.underlying3 g0
  obtain ⟨x, y, z, rfl, hbx, hby, hbz⟩ := arg_stamp g1
  obtain ⟨ad, c, os, rfl, hs, hl, hob⟩ := arg_ops g2
  obtain rfl : args = #[.int .i64 node, .agg #[.int .i64 x, .int .i64 y, .int .i64 z], .slice ad os.length c] := by cases args; simp_all
  by_cases hn : 1 ≤ node ∧ node ≤ 63 ∧ may ⟨x, y, z⟩ = true
  · by_cases hm : 2000 < os.length
    · exact Orders_many node x y z ad c os W hs hl hn.1 hn.2.1 hn.2.2 hm
    · exact Orders_few node x y z ad c os W hs hl hn.1 hn.2.1 hn.2.2 hm
  · exact Orders_no node x y z ad c os W hs hl hn

theorem HlcOrders_door (os : Os) (args : Array Value) : laidMetH Tryd.prog Rows.hlcOrdersRow.laid ((World.doorLaid Tryd.prog 62 os).forCall (fun _ _ => 0) ⟨#[], args, []⟩).memory :=
  laidMetH_of_parts3 (fuel := 8) (laidMet_of_run' 8 (by kernel_rfl) (by kernel_rfl)) (by kernel_rfl) (by kernel_rfl)
set_option maxRecDepth 100000 in
theorem HlcOrders_lifted (os : Os) (started : os.Started) (H : Type) (enc : TypeId × Value → H) :
    ReturnsInHanded {} Tryd.checked os 7 .any (fun w args => (Rows.hlcOrdersSpec.pre enc Tryd.prog Tryd.f7 [] false w args ∧ laidMetH Tryd.prog Rows.hlcOrdersRow.laid w) ∧ sizedMet enc Tryd.prog Tryd.f7 (OpenSpec.ofChange Rows.hlcOrdersSpec) false w args) (Rows.hlcOrdersSpec.post enc Tryd.prog Tryd.f7 false true false false) := by
  exact lift_laid (C := Tryd.checked) (t := 4) own started (by kernel_rfl) Tryd.func7
    (ChangeSpec.witness_shaped (enc := enc) (C := Tryd.checked) (os := os) (X := fun w _ => laidMetH Tryd.prog Rows.hlcOrdersRow.laid w) false (World.doorLaid Tryd.prog 62 os) #[.int .i64 0, .agg #[.int .i64 0, .int .i64 0, .int .i64 0], .slice none 0 0] 8 rfl (World.shaped_of_RefB (by kernel_rfl) (by kernel_rfl)) (by kernel_rfl) (by kernel_rfl) (by kernel_rfl) (HlcOrders_door os _))
    laidOut (by kernel_rfl) (by kernel_rfl) Tryd.underlying4 rfl (fun ds h => by
    obtain ⟨a0, a1, a2, rfl⟩ := list_3 h (by rw [Tryd.params7]; rfl)
    rfl) (HlcOrders_key enc)
theorem HlcOrders_row : Rows.HlcOrdersSaid :=
  OpenClaim.holds_of_wide 7 Tryd.f7 rfl rfl rfl rfl rfl rfl rfl ⟨rfl, rfl, rfl, rfl, rfl⟩ rfl rfl rfl rfl rfl (by kernel_rfl) Tryd.func7 (by kernel_rfl)
    (of_decide_eq_true (by kernel_rfl)) (by unfold Func.isWrapper; first | (rw [if_pos (by decide +kernel)]; kernel_rfl) | (rw [if_neg (by decide +kernel)]; exact ⟨rfl, rfl⟩))
    (fun os started H enc _ => HlcOrders_lifted os started H enc)
theorem HlcOrders_stand (t : TypeId) (h : t ∈ Tryd.f7.params.toList) : Tryd.prog.wantsStandIn t = false := by
  have h2 : (Tryd.f7.params.toList.all fun t => Tryd.prog.wantsStandIn t == false) = true := by kernel_rfl
  simpa using List.all_eq_true.1 h2 t h
theorem HlcOrders_holds : Rows.HlcOrdersCardSaid :=
  Claim7.holds_tied_plain_at .later [] [.data, .data, .data] true (true, "1c29a9af414b328f397a78daa7dd68fef53c187c2cf557a4ec556f27615a4271") true
    HlcOrders_row (fun _ h => by cases h) (by kernel_rfl) (fun _ h => by cases h) hlcOrders_row_tie rfl ⟨rfl, rfl⟩ (by kernel_rfl) rfl
    (fun f fn hf hfn => by
      obtain rfl : f = 7 := Option.some.inj ((show Tryd.prog.funcNamed "headrace/racelaw8.HlcOrders" = some 7 by kernel_rfl).symm.trans hf) |>.symm
      obtain rfl : fn = Tryd.f7 := (Option.some.inj (Tryd.func7.symm.trans hfn)).symm
      exact ⟨by kernel_rfl, fun j t ht => HlcOrders_stand t (List.mem_of_getElem? (by simpa using ht))⟩)
    (by kernel_rfl)

end Go.Proofs.YtioebjimkainjaaDoor
