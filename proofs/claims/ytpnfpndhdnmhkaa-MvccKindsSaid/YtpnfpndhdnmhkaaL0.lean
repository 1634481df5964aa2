/- Reading arguments. -/
import Derived.Test.YtpnfpndhdnmhkaaK10
import Derived.Test.YtpnfpndhdnmhkaaSxY
set_option linter.unusedSimpArgs false
set_option linter.unusedVariables false
namespace Go.Proofs.Ytpnfpndhdnmhkaa
open Sx Go.ChangeShapes Go.WideShapes Go.ChangeAt Go.RowKit

theorem own : ownKnob Try.prog.godebug = none := by kernel_rfl
theorem laidOut : laidOutB Try.prog = true := by kernel_rfl

theorem Try.cells3 : Try.prog.cellsOf 3 = 1 := by kernel_rfl
theorem Try.cells9 : Try.prog.cellsOf 9 = 1 := by kernel_rfl
theorem Try.cells23 : Try.prog.cellsOf 23 = 3 := by kernel_rfl
theorem Try.cells25 : Try.prog.cellsOf 25 = 3 := by kernel_rfl
theorem Try.cells26 : Try.prog.cellsOf 26 = 1 := by kernel_rfl
theorem Try.cells27 : Try.prog.cellsOf 27 = 1 := by kernel_rfl
theorem Try.cells29 : Try.prog.cellsOf 29 = 8 := by kernel_rfl
theorem Try.cells47 : Try.prog.cellsOf 47 = 1 := by kernel_rfl
theorem Try.cells49 : Try.prog.cellsOf 49 = 3 := by kernel_rfl
theorem Try.cells51 : Try.prog.cellsOf 51 = 4 := by kernel_rfl

theorem rz_kc {H : Type} {enc : TypeId × Value → H} {w : World} {base : Nat} {spare : Nat → Bool} {held : Bool} (cs : List Value) (hl : cs.length = 1) (h : Rz enc Try.prog w base spare held 9 cs) : ∃ r : Key, cs = kc r ∧ r.length ≤ 140737488351232 := by
  obtain ⟨n, rfl, h1⟩ := rz_str Try.underlying9 h
  exact ⟨n, rfl, h1⟩

theorem rz_wr {H : Type} {enc : TypeId × Value → H} {w : World} {base : Nat} {spare : Nat → Bool} {held : Bool} (cs : List Value) (hl : cs.length = 4) (h : Rz enc Try.prog w base spare held 51 cs) : ∃ r : Wt, cs = r.cells ∧ r.wf := by
  obtain ⟨c0, c1, c2, c3, rfl⟩ : ∃ c0 c1 c2 c3, cs = [c0, c1, c2, c3] := by
    match cs, hl with
    | [c0, c1, c2, c3], _ => exact ⟨_, _, _, _, rfl⟩
  have h1 := rz_at Try.underlying51 h 0 rfl (ty := 9) (off := 0) rfl rfl Try.cells9 (ds := [c0]) rfl
  obtain ⟨v0, e0, b0⟩ := rz_str Try.underlying9 h1
  simp only [List.cons.injEq, and_true] at e0; subst e0
  have h2 := rz_at Try.underlying51 h 1 rfl (ty := 49) (off := 1) rfl rfl Try.cells49 (ds := [c1, c2, c3]) rfl
  have h3 := rz_at Try.underlying49 h2 0 rfl (ty := 3) (off := 0) rfl rfl Try.cells3 (ds := [c1]) rfl
  obtain ⟨v1, e1, b1, b1'⟩ := rz_int Try.underlying3 h3
  simp only [List.cons.injEq, and_true] at e1; subst e1
  have h4 := rz_at Try.underlying49 h2 1 rfl (ty := 47) (off := 1) rfl rfl Try.cells47 (ds := [c2]) rfl
  obtain ⟨v2, e2, b2⟩ := rz_flt Try.underlying47 h4
  simp only [List.cons.injEq, and_true] at e2; subst e2
  have h5 := rz_at Try.underlying49 h2 2 rfl (ty := 9) (off := 2) rfl rfl Try.cells9 (ds := [c3]) rfl
  obtain ⟨v3, e3, b3⟩ := rz_str Try.underlying9 h5
  simp only [List.cons.injEq, and_true] at e3; subst e3
  exact ⟨⟨v0, ⟨v1, v2, v3⟩⟩, rfl, ⟨b0, ⟨b1, b1', b2, b3⟩⟩⟩

theorem rz_pn {H : Type} {enc : TypeId × Value → H} {w : World} {base : Nat} {spare : Nat → Bool} {held : Bool} (cs : List Value) (hl : cs.length = 8) (h : Rz enc Try.prog w base spare held 29 cs) : ∃ r : Pn, cs = r.cells ∧ (Ss w r.ra kc 1 r.rs ∧ Ss w r.wa Wt.cells 4 r.ws) ∧ r.t.wf ∧ ((r.rs.length ≤ 9223372036854775806 ∧ ∀ y ∈ r.rs, y.length ≤ 140737488351232) ∧ r.ws.length ≤ 9223372036854775806 ∧ ∀ y ∈ r.ws, y.wf) ∧ (r.ra = none → r.rs.length = 0 ∧ r.rc = 0) ∧ (r.wa = none → r.ws.length = 0 ∧ r.wc = 0) := by
  obtain ⟨c0, c1, c2, c3, c4, c5, c6, c7, rfl⟩ : ∃ c0 c1 c2 c3 c4 c5 c6 c7, cs = [c0, c1, c2, c3, c4, c5, c6, c7] := by
    match cs, hl with
    | [c0, c1, c2, c3, c4, c5, c6, c7], _ => exact ⟨_, _, _, _, _, _, _, _, rfl⟩
  have h1 := rz_at Try.underlying29 h 0 rfl (ty := 23) (off := 0) rfl rfl Try.cells23 (ds := [c0, c1, c2]) rfl
  have h2 := rz_at Try.underlying23 h1 0 rfl (ty := 3) (off := 0) rfl rfl Try.cells3 (ds := [c0]) rfl
  obtain ⟨v0, e0, b0, b0'⟩ := rz_int Try.underlying3 h2
  simp only [List.cons.injEq, and_true] at e0; subst e0
  have h3 := rz_at Try.underlying23 h1 1 rfl (ty := 3) (off := 1) rfl rfl Try.cells3 (ds := [c1]) rfl
  obtain ⟨v1, e1, b1, b1'⟩ := rz_int Try.underlying3 h3
  simp only [List.cons.injEq, and_true] at e1; subst e1
  have h4 := rz_at Try.underlying23 h1 2 rfl (ty := 3) (off := 2) rfl rfl Try.cells3 (ds := [c2]) rfl
  obtain ⟨v2, e2, b2, b2'⟩ := rz_int Try.underlying3 h4
  simp only [List.cons.injEq, and_true] at e2; subst e2
  have h5 := rz_at Try.underlying29 h 1 rfl (ty := 25) (off := 3) rfl rfl Try.cells25 (ds := [c3, c4, c5]) rfl
  have h6 := rz_at Try.underlying25 h5 0 rfl (ty := 3) (off := 0) rfl rfl Try.cells3 (ds := [c3]) rfl
  obtain ⟨v3, e3, b3, b3'⟩ := rz_int Try.underlying3 h6
  simp only [List.cons.injEq, and_true] at e3; subst e3
  have h7 := rz_at Try.underlying25 h5 1 rfl (ty := 3) (off := 1) rfl rfl Try.cells3 (ds := [c4]) rfl
  obtain ⟨v4, e4, b4, b4'⟩ := rz_int Try.underlying3 h7
  simp only [List.cons.injEq, and_true] at e4; subst e4
  have h8 := rz_at Try.underlying25 h5 2 rfl (ty := 3) (off := 2) rfl rfl Try.cells3 (ds := [c5]) rfl
  obtain ⟨v5, e5, b5, b5'⟩ := rz_int Try.underlying3 h8
  simp only [List.cons.injEq, and_true] at e5; subst e5
  have h9 := rz_at Try.underlying29 h 2 rfl (ty := 26) (off := 6) rfl rfl Try.cells26 (ds := [c6]) rfl
  obtain ⟨ad6, cc6, v6, e6, s6, r6, n6, m6, -, z6⟩ := rz_things (en := kc) (R := fun r => r.length ≤ 140737488351232) Try.underlying26 Try.cells9 (by decide) kc_len (fun cs hl hz => rz_kc cs hl hz) h9
  rw [show Try.prog.bytesOf 9 = 16 from by kernel_rfl] at z6
  simp only [List.cons.injEq, and_true] at e6; subst e6
  have h10 := rz_at Try.underlying29 h 3 rfl (ty := 27) (off := 7) rfl rfl Try.cells27 (ds := [c7]) rfl
  obtain ⟨ad7, cc7, v7, e7, s7, r7, n7, m7, -, z7⟩ := rz_things (en := Wt.cells) (R := fun r => r.wf) Try.underlying27 Try.cells51 (by decide) Wt.len (fun cs hl hz => rz_wr cs hl hz) h10
  rw [show Try.prog.bytesOf 51 = 48 from by kernel_rfl] at z7
  simp only [List.cons.injEq, and_true] at e7; subst e7
  exact ⟨⟨⟨v0, v1, v2⟩, ⟨v3, v4, v5⟩, v6, ad6, cc6, v7, ad7, cc7⟩, rfl, ⟨⟨s6, s7⟩, ⟨⟨b0, b0'⟩, ⟨b1, b1'⟩, ⟨b2, b2'⟩⟩, ⟨⟨by show v6.length ≤ _; omega, r6⟩, by show v7.length ≤ _; omega, r7⟩, n6, n7⟩⟩

theorem rz_tx {H : Type} {enc : TypeId × Value → H} {w : World} {base : Nat} {spare : Nat → Bool} {held : Bool} (cs : List Value) (hl : cs.length = 3) (h : Rz enc Try.prog w base spare held 23 cs) : ∃ r : Tn, cs = r.cells ∧ r.wf := by
  obtain ⟨c0, c1, c2, rfl⟩ : ∃ c0 c1 c2, cs = [c0, c1, c2] := by
    match cs, hl with
    | [c0, c1, c2], _ => exact ⟨_, _, _, rfl⟩
  have h1 := rz_at Try.underlying23 h 0 rfl (ty := 3) (off := 0) rfl rfl Try.cells3 (ds := [c0]) rfl
  obtain ⟨v0, e0, b0, b0'⟩ := rz_int Try.underlying3 h1
  simp only [List.cons.injEq, and_true] at e0; subst e0
  have h2 := rz_at Try.underlying23 h 1 rfl (ty := 3) (off := 1) rfl rfl Try.cells3 (ds := [c1]) rfl
  obtain ⟨v1, e1, b1, b1'⟩ := rz_int Try.underlying3 h2
  simp only [List.cons.injEq, and_true] at e1; subst e1
  have h3 := rz_at Try.underlying23 h 2 rfl (ty := 3) (off := 2) rfl rfl Try.cells3 (ds := [c2]) rfl
  obtain ⟨v2, e2, b2, b2'⟩ := rz_int Try.underlying3 h3
  simp only [List.cons.injEq, and_true] at e2; subst e2
  exact ⟨⟨v0, v1, v2⟩, rfl, ⟨⟨b0, b0'⟩, ⟨b1, b1'⟩, ⟨b2, b2'⟩⟩⟩

theorem argZ_tx {H : Type} {enc : TypeId × Value → H} {W : World} {v : Value} (h : ArgZ enc Try.prog W 23 v) : ∃ s : Tn, v = .agg #[.int .i64 s.co, .int .i64 s.li, .int .i64 s.sq] ∧ s.wf := by
  obtain ⟨cs, rfl, hl, hz⟩ := argZ_struct Try.underlying23 h
  rw [Try.cells23] at hl
  obtain ⟨s, rfl, hr⟩ := rz_tx cs hl hz
  exact ⟨s, rfl, hr⟩

theorem argZ_pn {H : Type} {enc : TypeId × Value → H} {W : World} {v : Value} (h : ArgZ enc Try.prog W 29 v) : ∃ s : Pn, v = .agg #[.int .i64 s.t.co, .int .i64 s.t.li, .int .i64 s.t.sq, .int .i64 s.s.w, .int .i64 s.s.l, .int .i64 s.s.n, .slice s.ra s.rs.length s.rc, .slice s.wa s.ws.length s.wc] ∧ (Ss W s.ra kc 1 s.rs ∧ Ss W s.wa Wt.cells 4 s.ws) ∧ s.t.wf ∧ ((s.rs.length ≤ 9223372036854775806 ∧ ∀ y ∈ s.rs, y.length ≤ 140737488351232) ∧ s.ws.length ≤ 9223372036854775806 ∧ ∀ y ∈ s.ws, y.wf) ∧ (s.ra = none → s.rs.length = 0 ∧ s.rc = 0) ∧ (s.wa = none → s.ws.length = 0 ∧ s.wc = 0) := by
  obtain ⟨cs, rfl, hl, hz⟩ := argZ_struct Try.underlying29 h
  rw [Try.cells29] at hl
  obtain ⟨s, rfl, hr⟩ := rz_pn cs hl hz
  exact ⟨s, rfl, hr⟩

theorem list_1 {α : Type} {ds : List α} {n : Nat} (h : ds.length = n) (hn : n = 1) : ∃ a0, ds = [a0] := by
  subst hn
  match ds, h with
  | [a0], _ => exact ⟨a0, rfl⟩

theorem list_2 {α : Type} {ds : List α} {n : Nat} (h : ds.length = n) (hn : n = 2) : ∃ a0 a1, ds = [a0, a1] := by
  subst hn
  match ds, h with
  | [a0, a1], _ => exact ⟨a0, a1, rfl⟩

theorem list_3 {α : Type} {ds : List α} {n : Nat} (h : ds.length = n) (hn : n = 3) : ∃ a0 a1 a2, ds = [a0, a1, a2] := by
  subst hn
  match ds, h with
  | [a0, a1, a2], _ => exact ⟨a0, a1, a2, rfl⟩

end Go.Proofs.Ytpnfpndhdnmhkaa
