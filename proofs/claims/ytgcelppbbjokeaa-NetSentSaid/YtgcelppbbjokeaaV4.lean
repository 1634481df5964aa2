/- The statement of NetSent. -/
import Derived.Test.YtgcelppbbjokeaaV3
import Derived.Test.YtgcelppbbjokeaaRows
import Derived.Test.YtgcelppbbjokeaaSxO
import Derived.Lib.SmallJoins
set_option linter.unusedSimpArgs false
set_option linter.unusedVariables false
namespace Go.Proofs.Ytgcelppbbjokeaa
open Sx Go.Joins Go.ChangeShapes Go.WideShapes Go.ChangeAt Go.RowKit

theorem own : ownKnob Try.prog.godebug = none := by kernel_rfl
theorem laidOut : laidOutB Try.prog = true := by kernel_rfl
theorem cells3 : Try.prog.cellsOf 3 = 1 := by kernel_rfl
theorem cells5 : Try.prog.cellsOf 5 = 1 := by kernel_rfl
theorem cells30 : Try.prog.cellsOf 30 = 1 := by kernel_rfl
theorem cells32 : Try.prog.cellsOf 32 = 4 := by kernel_rfl

theorem read_op {H : Type} {enc : TypeId × Value → H} {w : World} {base : Nat} {spare : Nat → Bool} {held : Bool} (n : Nat) (cs : List Value) (y : DataW H × List MemPlace) (hl : cs.length = 4) (h : DataW.trod enc Try.prog w base spare held n 32 cs = some y) :
    ∃ (r : ROp) (o : OpV), cs = r.cells ∧ r.is w o := by
  obtain ⟨y0, y1, y2, y3, m, -, -, h0, h1, h2, h3⟩ := trod_struct4 Try.underlying32 h
  rw [cells3] at h0 h1 h2
  rw [cells30] at h3
  obtain ⟨c0, c1, c2, c3, rfl⟩ : ∃ c0 c1 c2 c3, cs = [c0, c1, c2, c3] := by
    match cs, hl with
    | [c0, c1, c2, c3], _ => exact ⟨_, _, _, _, rfl⟩
  obtain ⟨k, e0, -, -⟩ := read_int Try.underlying3 h0
  obtain ⟨a, e1, -, -⟩ := read_int Try.underlying3 h1
  obtain ⟨b, e2, -, -⟩ := read_int Try.underlying3 h2
  obtain ⟨ad, c, l, e3, hb, hn, hc, hm⟩ := open_bytes Try.underlying30 Try.underlying5 cells5 h3
  simp at e0 e1 e2 e3
  subst e0 e1 e2 e3
  exact ⟨⟨k, a, b, ad, l.length, c⟩, ⟨k, a, b, l⟩, rfl, rfl, rfl, rfl, rfl, hb, hn, Nat.le_trans hc (Nat.le_trans hm (by decide))⟩

theorem read_ops {H : Type} {enc : TypeId × Value → H} {w : World} {v : Value} (h : Arg enc Try.prog w 22 v) : ∃ ad c rs os, v = .slice ad (List.length rs) c ∧ Ops w ad rs os := by
  obtain ⟨ad, c, rs, os, rfl, h1, h2, h3, h4, h5⟩ := arg_things (en := ROp.cells) (R := ROp.is w) Try.underlying22 cells32 (by decide) ROp.len (fun n cs' y => read_op n cs' y) h
  exact ⟨ad, c, rs, os, rfl, h1, h2, Nat.le_trans h4 (Nat.le_trans h5 (by decide))⟩



theorem list_1 {α : Type} {ds : List α} {n : Nat} (h : ds.length = n) (hn : n = 1) : ∃ a0, ds = [a0] := by
  subst hn
  match ds, h with
  | [a0], _ => exact ⟨a0, rfl⟩

theorem NetSent_key {H : Type} (enc : TypeId × Value → H) (W : World) (args : Array Value) (h : Args enc Try.prog W Try.f6.params.toList args.toList) :
    Calls Try.prog 6 args W fun e W' => e = .returned (.bool true) ∧ Ext No W W' := by
  rw [Try.params6] at h
  obtain ⟨v0, vs0, hargs, h0, r0⟩ := args_cons h
  obtain rfl := args_nil r0
  obtain ⟨ad, c, rs, os, rfl, ho⟩ := read_ops h0
  obtain rfl : args = #[.slice ad rs.length c] := by cases args; simp_all
  cases hf : fewB os with
  | false => exact NetSent_many ad c rs os W ho hf
  | true => exact NetSent_few ad c rs os W ho hf

set_option maxRecDepth 100000 in
theorem NetSent_lifted (os : Os) (started : os.Started) (H : Type) (enc : TypeId × Value → H) :
    ReturnsInHanded {} Try.checked os 6 .any (Rows.netSentSpec.pre6 enc Try.prog Try.f6 Rows.netSentRow.domain false) (Rows.netSentSpec.post enc Try.prog Try.f6 false true false false) := by
  exact lift_true (C := Try.checked) (t := 4) own started (by kernel_rfl) Try.func6
    (ChangeSpec.witness6 (enc := enc) (C := Try.checked) false ⟨#[], #[.slice none 0 0], []⟩ 8 (by kernel_rfl) (by kernel_rfl) (by kernel_rfl) (by kernel_rfl))
    laidOut (by kernel_rfl) (by kernel_rfl) Try.underlying4 rfl (fun ds h => by
    obtain ⟨a0, rfl⟩ := list_1 h (by rw [Try.params6]; rfl)
    rfl) (NetSent_key enc)
theorem NetSent_holds : Rows.NetSentSaid :=
  OpenClaim.holds_of_wide 6 Try.f6 rfl rfl rfl rfl rfl rfl rfl ⟨rfl, rfl, rfl, rfl, rfl⟩ rfl rfl rfl rfl rfl (by kernel_rfl) Try.func6 (by kernel_rfl)
    (of_decide_eq_true (by kernel_rfl)) (by unfold Func.isWrapper; first | (rw [if_pos (by decide +kernel)]; kernel_rfl) | (rw [if_neg (by decide +kernel)]; exact ⟨rfl, rfl⟩))
    (fun os started H enc _ => NetSent_lifted os started H enc)

end Go.Proofs.Ytgcelppbbjokeaa
