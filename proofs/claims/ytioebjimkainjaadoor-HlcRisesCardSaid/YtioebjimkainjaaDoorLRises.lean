/- The statement of HlcRises. -/
import Derived.Test.YtioebjimkainjaaDoorL0
import Derived.Test.YtioebjimkainjaaDoorW11
import Derived.Test.YtioebjimkainjaaDoorSxP
import Derived.Test.YtioebjimkainjaaDoorRows
import Derived.Test.YtioebjimkainjaaDoorCards
import Derived.Test.YtioebjimkainjaaDoorTie
set_option linter.unusedSimpArgs false
set_option linter.unusedVariables false
namespace Go.Proofs.YtioebjimkainjaaDoor
open Sx Go.ChangeShapes Go.WideShapes Go.ChangeAt Go.RowKit

theorem Tryd.cells4 : Tryd.prog.cellsOf 4 = 1 := by kernel_rfl

theorem arg_ints {H : Type} {enc : TypeId × Value → H} {W : World} {v : Value} (h : Arg enc Tryd.prog W 49 v) : ∃ ad c l, v = .slice ad (List.length l) c ∧ Ss W ad icell 1 l ∧ l.length ≤ 9223372036854775807 := by
  obtain ⟨ad, c, rs, us, rfl, h1, h2, -, h4, h5⟩ := arg_things (en := icell) (R := fun _ (_ : Unit) => True) Tryd.underlying49 Tryd.cells3 (by decide) icell_len (fun n cs y hl hy => by
    obtain ⟨k, e, -⟩ := Sx.read_int Tryd.underlying3 hy
    exact ⟨k, (), e, trivial⟩) h
  exact ⟨ad, c, rs, rfl, h1, by unfold maxLen at h5; omega⟩
theorem arg_bools {H : Type} {enc : TypeId × Value → H} {W : World} {v : Value} (h : Arg enc Tryd.prog W 50 v) : ∃ ad c l, v = .slice ad (List.length l) c ∧ Ss W ad bcell 1 l ∧ l.length ≤ 9223372036854775807 := by
  obtain ⟨ad, c, rs, us, rfl, h1, h2, -, h4, h5⟩ := arg_things (en := bcell) (R := fun _ (_ : Unit) => True) Tryd.underlying50 Tryd.cells4 (by decide) bcell_len (fun n cs y hl hy => by
    obtain ⟨k, e⟩ := Sx.read_bool Tryd.underlying4 hy
    exact ⟨k, (), e, trivial⟩) h
  exact ⟨ad, c, rs, rfl, h1, by unfold maxLen at h5; omega⟩

theorem HlcRises_key {H : Type} (enc : TypeId × Value → H) (W : World) (args : Array Value) (h : Args enc Tryd.prog W Tryd.f5.params.toList args.toList) (hlaid : laidMetH Tryd.prog Rows.hlcRisesRow.laid W) :
    Calls Tryd.prog 5 args W fun e W' => e = .returned (.bool true) ∧ Ext No W W' := by
  rw [Tryd.params5] at h
  obtain ⟨u0, us0, hargs, g0, r0⟩ := args_cons h
  obtain ⟨u1, us1, rfl, g1, r1⟩ := args_cons r0
  obtain ⟨u2, us2, rfl, g2, r2⟩ := args_cons r1
  obtain ⟨u3, us3, rfl, g3, r3⟩ := args_cons r2
  obtain ⟨u4, us4, rfl, g4, r4⟩ := args_cons r3
  obtain ⟨u5, us5, rfl, g5, r5⟩ := args_cons r4
  obtain rfl := args_nil r5
  obtain ⟨n1, rfl, n1b1, n1b2⟩ := arg_int Tryd.underlying3 g0
  obtain ⟨n2, rfl, n2b1, n2b2⟩ := arg_int Tryd.underlying3 g1
  obtain ⟨x, y, z, rfl, hbx, hby, hbz⟩ := arg_stamp g2
  obtain ⟨adp, cp, phys, rfl, hsp, hlp⟩ := arg_ints g3
  obtain ⟨adw, cw, which, rfl, hsw, hlw⟩ := arg_bools g4
  obtain ⟨adh, ch, hears, rfl, hsh, hlh⟩ := arg_bools g5
  obtain rfl : args = #[.int .i64 n1, .int .i64 n2, .agg #[.int .i64 x, .int .i64 y, .int .i64 z], .slice adp phys.length cp, .slice adw which.length cw, .slice adh hears.length ch] := by cases args; simp_all
  by_cases h1 : 1 ≤ n1 ∧ n1 ≤ 63 ∧ may ⟨x, y, z⟩ = true
  · by_cases h2 : 1 ≤ n2 ∧ n2 ≤ 63 ∧ may ⟨x, y, z⟩ = true
    · by_cases hab : n1 = n2
      · exact Rises_same n1 n2 x y z adp cp phys adw cw which adh ch hears W hsp hsw hsh hlp hlw hlh h1 h2 hab
      · exact Rises_yes n1 n2 x y z adp cp phys adw cw which adh ch hears W hsp hsw hsh hlp hlw hlh h1 h2 hab
    · exact Rises_no2 n1 n2 x y z adp cp phys adw cw which adh ch hears W hsp hsw hsh hlp hlw hlh h1 h2
  · exact Rises_no1 n1 n2 x y z adp cp phys adw cw which adh ch hears W hsp hsw hsh hlp hlw hlh h1

theorem HlcRises_door (os : Os) (args : Array Value) : laidMetH Tryd.prog Rows.hlcRisesRow.laid ((World.doorLaid Tryd.prog 62 os).forCall (fun _ _ => 0) ⟨#[], args, []⟩).memory :=
  laidMetH_of_parts3 (fuel := 8) (laidMet_of_run' 8 (by kernel_rfl) (by kernel_rfl)) (by kernel_rfl) (by kernel_rfl)
set_option maxRecDepth 100000 in
theorem HlcRises_lifted (os : Os) (started : os.Started) (H : Type) (enc : TypeId × Value → H) :
    ReturnsInHanded {} Tryd.checked os 5 .any (fun w args => (Rows.hlcRisesSpec.pre enc Tryd.prog Tryd.f5 [] false w args ∧ laidMetH Tryd.prog Rows.hlcRisesRow.laid w) ∧ sizedMet enc Tryd.prog Tryd.f5 (OpenSpec.ofChange Rows.hlcRisesSpec) false w args) (Rows.hlcRisesSpec.post enc Tryd.prog Tryd.f5 false true false false) := by
  exact lift_laid (C := Tryd.checked) (t := 4) own started (by kernel_rfl) Tryd.func5
    (ChangeSpec.witness_shaped (enc := enc) (C := Tryd.checked) (os := os) (X := fun w _ => laidMetH Tryd.prog Rows.hlcRisesRow.laid w) false (World.doorLaid Tryd.prog 62 os) #[.int .i64 0, .int .i64 0, .agg #[.int .i64 0, .int .i64 0, .int .i64 0], .slice none 0 0, .slice none 0 0, .slice none 0 0] 8 rfl (World.shaped_of_RefB (by kernel_rfl) (by kernel_rfl)) (by kernel_rfl) (by kernel_rfl) (by kernel_rfl) (HlcRises_door os _))
    laidOut (by kernel_rfl) (by kernel_rfl) Tryd.underlying4 rfl (fun ds h => by
    obtain ⟨a0, a1, a2, a3, a4, a5, rfl⟩ := list_6 h (by rw [Tryd.params5]; rfl)
    rfl) (HlcRises_key enc)
theorem HlcRises_row : Rows.HlcRisesSaid :=
  OpenClaim.holds_of_wide 5 Tryd.f5 rfl rfl rfl rfl rfl rfl rfl ⟨rfl, rfl, rfl, rfl, rfl⟩ rfl rfl rfl rfl rfl (by kernel_rfl) Tryd.func5 (by kernel_rfl)
    (of_decide_eq_true (by kernel_rfl)) (by unfold Func.isWrapper; first | (rw [if_pos (by decide +kernel)]; kernel_rfl) | (rw [if_neg (by decide +kernel)]; exact ⟨rfl, rfl⟩))
    (fun os started H enc _ => HlcRises_lifted os started H enc)
theorem HlcRises_stand (t : TypeId) (h : t ∈ Tryd.f5.params.toList) : Tryd.prog.wantsStandIn t = false := by
  have h2 : (Tryd.f5.params.toList.all fun t => Tryd.prog.wantsStandIn t == false) = true := by kernel_rfl
  simpa using List.all_eq_true.1 h2 t h
theorem HlcRises_holds : Rows.HlcRisesCardSaid :=
  Claim7.holds_tied_plain_at .later [] [.data, .data, .data] true (true, "1c29a9af414b328f397a78daa7dd68fef53c187c2cf557a4ec556f27615a4271") true
    HlcRises_row (fun _ h => by cases h) (by kernel_rfl) (fun _ h => by cases h) hlcRises_row_tie rfl ⟨rfl, rfl⟩ (by kernel_rfl) rfl
    (fun f fn hf hfn => by
      obtain rfl : f = 5 := Option.some.inj ((show Tryd.prog.funcNamed "headrace/racelaw8.HlcRises" = some 5 by kernel_rfl).symm.trans hf) |>.symm
      obtain rfl : fn = Tryd.f5 := (Option.some.inj (Tryd.func5.symm.trans hfn)).symm
      exact ⟨by kernel_rfl, fun j t ht => HlcRises_stand t (List.mem_of_getElem? (by simpa using ht))⟩)
    (by kernel_rfl)

end Go.Proofs.YtioebjimkainjaaDoor
