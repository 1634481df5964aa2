/- The statement of ScanBack. -/
import Derived.Test.YtainemoobhkeiaaDoorL1
import Derived.Test.YtainemoobhkeiaaDoorSxP
import Derived.Test.YtainemoobhkeiaaDoorRows
import Derived.Test.YtainemoobhkeiaaDoorCards
import Derived.Test.YtainemoobhkeiaaDoorTie
set_option linter.unusedSimpArgs false
set_option linter.unusedVariables false
namespace Go.Proofs.YtainemoobhkeiaaDoor
open Sx Go.ChangeShapes Go.WideShapes Go.ChangeAt Go.RowKit

theorem ScanBack_key {H : Type} (enc : TypeId × Value → H) (W : World) (args : Array Value) (h : Args enc Tryd.prog W Tryd.f7.params.toList args.toList) (hlaid : laidMetH Tryd.prog Rows.scanBackRow.laid W) :
    Calls Tryd.prog 7 args W fun e W' => e = .returned (.bool true) ∧ Ext No W W' := by
  rw [Tryd.params7] at h
  obtain ⟨u0, us0, hargs, g0, r0⟩ := args_cons h
  obtain ⟨u1, us1, rfl, g1, r1⟩ := args_cons r0
  obtain rfl := args_nil r1
  obtain ⟨q, rfl, hki, hmo, hlo, hhi⟩ := arg_queryF g0
  obtain ⟨s, rfl, hbs⟩ := arg_str Tryd.underlying9 g1
  obtain rfl : args = #[.agg #[.string ⟨q.fr.toArray⟩, .string ⟨q.to.toArray⟩, .int .i64 q.kind, .int .i64 q.lo.kind, .float .f64 q.lo.num, .string ⟨q.lo.text.toArray⟩, .int .i64 q.hi.kind, .float .f64 q.hi.num, .string ⟨q.hi.text.toArray⟩, .bool q.back, .int .i64 q.most, .string ⟨q.after.toArray⟩], .string ⟨s.toArray⟩] := by cases args; simp_all
  exact Back_calls q s hki hmo hlo hhi W (env_laid hlaid)

theorem ScanBack_door (os : Os) (args : Array Value) : laidMetH Tryd.prog Rows.scanBackRow.laid ((World.doorLaid Tryd.prog 62 os).forCall (fun _ _ => 0) ⟨#[], args, []⟩).memory :=
  laidMetH_of_parts3 (fuel := 8) (laidMet_of_run' 8 (by kernel_rfl) (by kernel_rfl)) (by kernel_rfl) (by kernel_rfl)
set_option maxRecDepth 100000 in
theorem ScanBack_lifted (os : Os) (started : os.Started) (H : Type) (enc : TypeId × Value → H) :
    ReturnsInHanded {} Tryd.checked os 7 .any (fun w args => (Rows.scanBackSpec.pre enc Tryd.prog Tryd.f7 [] false w args ∧ laidMetH Tryd.prog Rows.scanBackRow.laid w) ∧ sizedMet enc Tryd.prog Tryd.f7 (OpenSpec.ofChange Rows.scanBackSpec) false w args) (Rows.scanBackSpec.post enc Tryd.prog Tryd.f7 false true false false) := by
  exact lift_laid (C := Tryd.checked) (t := 4) own started (by kernel_rfl) Tryd.func7
    (ChangeSpec.witness_shaped (enc := enc) (C := Tryd.checked) (os := os) (X := fun w _ => laidMetH Tryd.prog Rows.scanBackRow.laid w) false (World.doorLaid Tryd.prog 62 os) #[.agg #[.string .empty, .string .empty, .int .i64 0, .int .i64 0, .float .f64 0, .string .empty, .int .i64 0, .float .f64 0, .string .empty, .bool false, .int .i64 0, .string .empty], .string .empty] 8 rfl (World.shaped_of_RefB (by kernel_rfl) (by kernel_rfl)) (by kernel_rfl) (by kernel_rfl) (by kernel_rfl) (ScanBack_door os _))
    laidOut (by kernel_rfl) (by kernel_rfl) Tryd.underlying4 rfl (fun ds h => by
    obtain ⟨a0, a1, rfl⟩ := list_2 h (by rw [Tryd.params7]; rfl)
    rfl) (ScanBack_key enc)
theorem ScanBack_row : Rows.ScanBackSaid :=
  OpenClaim.holds_of_wide 7 Tryd.f7 rfl rfl rfl rfl rfl rfl rfl ⟨rfl, rfl, rfl, rfl, rfl⟩ rfl rfl rfl rfl rfl (by kernel_rfl) Tryd.func7 (by kernel_rfl)
    (of_decide_eq_true (by kernel_rfl)) (by unfold Func.isWrapper; first | (rw [if_pos (by decide +kernel)]; kernel_rfl) | (rw [if_neg (by decide +kernel)]; exact ⟨rfl, rfl⟩))
    (fun os started H enc _ => ScanBack_lifted os started H enc)
theorem ScanBack_stand (t : TypeId) (h : t ∈ Tryd.f7.params.toList) : Tryd.prog.wantsStandIn t = false := by
  have h2 : (Tryd.f7.params.toList.all fun t => Tryd.prog.wantsStandIn t == false) = true := by kernel_rfl
  simpa using List.all_eq_true.1 h2 t h
theorem ScanBack_holds : Rows.ScanBackCardSaid :=
  Claim7.holds_tied_plain_at .later [] [.data, .data, .data, .sentinel, .sentinel] true (true, "3bea1bdf862c37001c5643dafe90c75483aa257e94eb82cc181c9cf7e5c66877") true
    ScanBack_row (fun _ h => by cases h) (by kernel_rfl) (fun _ h => by cases h) scanBack_row_tie rfl ⟨rfl, rfl⟩ (by kernel_rfl) rfl
    (fun f fn hf hfn => by
      obtain rfl : f = 7 := Option.some.inj ((show Tryd.prog.funcNamed "headrace/racelaw28.ScanBack" = some 7 by kernel_rfl).symm.trans hf) |>.symm
      obtain rfl : fn = Tryd.f7 := (Option.some.inj (Tryd.func7.symm.trans hfn)).symm
      exact ⟨by kernel_rfl, fun j t ht => ScanBack_stand t (List.mem_of_getElem? (by simpa using ht))⟩)
    (by kernel_rfl)

end Go.Proofs.YtainemoobhkeiaaDoor
