/- The statement of NetOrder. -/
import Derived.Test.YtgcelppbbjokeaaL3
import Derived.Test.YtgcelppbbjokeaaRows
import Derived.Test.YtgcelppbbjokeaaSxO
namespace Go.Proofs.Ytgcelppbbjokeaa
open Sx Go.ChangeShapes Go.WideShapes Go.ChangeAt Go.RowKit

theorem own4 : ownKnob Try.prog.godebug = none := by kernel_rfl
theorem laidOut4 : laidOutB Try.prog = true := by kernel_rfl
theorem cells4 : Try.prog.cellsOf 4 = 1 := by kernel_rfl
theorem cells5' : Try.prog.cellsOf 5 = 1 := by kernel_rfl
theorem cells30' : Try.prog.cellsOf 30 = 1 := by kernel_rfl

theorem read_data {H : Type} {enc : TypeId × Value → H} {w : World} {v : Value} (h : Arg enc Try.prog w 42 v) : ∃ ad c rs ls, v = .slice ad (List.length rs) c ∧ Dat w ad rs ls := by
  obtain ⟨ad, c, rs, os, rfl, h1, h2, h3, h4, h5⟩ := arg_things (en := RB.cells) (R := RB.is w) Try.underlying42 cells30' (by decide) RB.len (fun n cs' y _ hy => by
    obtain ⟨ad, c, l, e, hb, hn, hc, hm⟩ := open_bytes Try.underlying30 Try.underlying5 cells5' hy
    exact ⟨⟨ad, l.length, c⟩, l, e, rfl, hb, hn, Nat.le_trans hc (Nat.le_trans hm (by decide))⟩) h
  exact ⟨ad, c, rs, os, rfl, h1, h2, Nat.le_trans h4 (Nat.le_trans h5 (by decide))⟩
theorem read_bits {H : Type} {enc : TypeId × Value → H} {w : World} {v : Value} (h : Arg enc Try.prog w 43 v) : ∃ ad c bs, v = .slice ad (List.length bs) c ∧ Ss w ad bit 1 bs ∧ bs.length ≤ 9223372036854775807 := by
  obtain ⟨ad, c, rs, os, rfl, h1, h2, h3, h4, h5⟩ := arg_things (β := Unit) (en := bit) (R := fun _ _ => True) Try.underlying43 cells4 (by decide) bit_len (fun n cs' y _ hy => by
    obtain ⟨b, e⟩ := read_bool Try.underlying4 hy
    exact ⟨b, (), e, trivial⟩) h
  exact ⟨ad, c, rs, rfl, h1, Nat.le_trans h4 (Nat.le_trans h5 (by decide))⟩

theorem NetOrder_key {H : Type} (enc : TypeId × Value → H) (W : World) (args : Array Value) (h : Args enc Try.prog W Try.f4.params.toList args.toList) :
    Calls Try.prog 4 args W fun e W' => e = .returned (.bool true) ∧ Ext No W W' := by
  rw [Try.params4] at h
  obtain ⟨v0, vs0, hargs, h0, r0⟩ := args_cons h
  obtain ⟨v1, vs1, rfl, h1, r1⟩ := args_cons r0
  obtain ⟨v2, vs2, rfl, h2, r2⟩ := args_cons r1
  obtain rfl := args_nil r2
  obtain ⟨most, rfl, -, -⟩ := arg_int Try.underlying3 h0
  obtain ⟨ad, c, rs, ls, rfl, hd⟩ := read_data h1
  obtain ⟨adT, cT, bs, rfl, hb, hbl⟩ := read_bits h2
  obtain rfl : args = #[.int .i64 most, .slice ad rs.length c, .slice adT bs.length cT] := by cases args; simp_all
  by_cases hr : most < 1 ∨ 4096 < most
  · exact NetOrder_room ad c rs ls adT cT bs W hd hb hbl most hr
  by_cases hw : 64 < most
  · exact NetOrder_wide ad c rs ls adT cT bs W hd hb hbl most hr hw
  cases hf : fewD ls with
  | false => exact NetOrder_many ad c rs ls adT cT bs W hd hb hbl most hr hw hf
  | true => exact NetOrder_few ad c rs ls adT cT bs W hd hb hbl most hr hw hf

theorem three_of4 {α : Type} {ds : List α} {n : Nat} (h : ds.length = n) (hn : n = 3) : ∃ a b c, ds = [a, b, c] := by
  subst hn
  match ds, h with
  | [a, b, c], _ => exact ⟨a, b, c, rfl⟩

set_option maxRecDepth 100000 in
theorem NetOrder_lifted (os : Os) (started : os.Started) (H : Type) (enc : TypeId × Value → H) :
    ReturnsInHanded {} Try.checked os 4 .any (Rows.netOrderSpec.pre6 enc Try.prog Try.f4 Rows.netOrderRow.domain false) (Rows.netOrderSpec.post enc Try.prog Try.f4 false true false false) := by
  refine lift_true (C := Try.checked) (t := 4) own4 started (by kernel_rfl) Try.func4
    (ChangeSpec.witness6 (enc := enc) (C := Try.checked) false ⟨#[], #[.int .i64 0, .slice none 0 0, .slice none 0 0], []⟩ 8 (by kernel_rfl) (by kernel_rfl) (by kernel_rfl) (by kernel_rfl))
    laidOut4 (by kernel_rfl) (by kernel_rfl) Try.underlying4 rfl (fun ds h => ?_) (NetOrder_key enc)
  obtain ⟨a, b, c, rfl⟩ := three_of4 h (by rw [Try.params4]; rfl)
  rfl

theorem NetOrder_holds : Rows.NetOrderSaid :=
  OpenClaim.holds_of_wide 4 Try.f4 rfl rfl rfl rfl rfl rfl rfl ⟨rfl, rfl, rfl, rfl, rfl⟩ rfl rfl rfl rfl rfl (by kernel_rfl) Try.func4 (by kernel_rfl)
    (of_decide_eq_true (by kernel_rfl)) (by unfold Func.isWrapper; first | (rw [if_pos (by decide +kernel)]; kernel_rfl) | (rw [if_neg (by decide +kernel)]; exact ⟨rfl, rfl⟩))
    (fun os started H enc _ => NetOrder_lifted os started H enc)
end Go.Proofs.Ytgcelppbbjokeaa
