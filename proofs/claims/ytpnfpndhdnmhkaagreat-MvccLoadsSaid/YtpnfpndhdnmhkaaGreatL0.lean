/- Reading arguments. -/
import Derived.Test.YtpnfpndhdnmhkaaGreatK6
import Derived.Test.YtpnfpndhdnmhkaaGreatSxY
set_option linter.unusedSimpArgs false
set_option linter.unusedVariables false
namespace Go.Proofs.YtpnfpndhdnmhkaaGreat
open Sx Go.ChangeShapes Go.WideShapes Go.ChangeAt Go.RowKit
theorem own : ownKnob Tryz.prog.godebug = none := by kernel_rfl
theorem laidOut : laidOutB Tryz.prog = true := by kernel_rfl
theorem Tryz.cells3 : Tryz.prog.cellsOf 3 = 1 := by kernel_rfl
theorem Tryz.cells9 : Tryz.prog.cellsOf 9 = 1 := by kernel_rfl
theorem Tryz.cells24 : Tryz.prog.cellsOf 24 = 3 := by kernel_rfl
theorem Tryz.cells26 : Tryz.prog.cellsOf 26 = 3 := by kernel_rfl
theorem Tryz.cells33 : Tryz.prog.cellsOf 33 = 1 := by kernel_rfl
theorem Tryz.cells34 : Tryz.prog.cellsOf 34 = 1 := by kernel_rfl
theorem Tryz.cells36 : Tryz.prog.cellsOf 36 = 8 := by kernel_rfl
theorem Tryz.cells49 : Tryz.prog.cellsOf 49 = 1 := by kernel_rfl
theorem Tryz.cells51 : Tryz.prog.cellsOf 51 = 3 := by kernel_rfl
theorem Tryz.cells65 : Tryz.prog.cellsOf 65 = 4 := by kernel_rfl
theorem rz_kc {H : Type} {enc : TypeId × Value → H} {w : World} {base : Nat} {spare : Nat → Bool} {held : Bool} (cs : List Value) (hl : cs.length = 1) (h : Rz enc Tryz.prog w base spare held 9 cs) : ∃ r : Key, cs = kc r ∧ r.length ≤ 140737488351232 := by
  obtain ⟨n, rfl, h1⟩ := rz_str Tryz.underlying9 h
  exact ⟨n, rfl, h1⟩
theorem rz_wr {H : Type} {enc : TypeId × Value → H} {w : World} {base : Nat} {spare : Nat → Bool} {held : Bool} (cs : List Value) (hl : cs.length = 4) (h : Rz enc Tryz.prog w base spare held 65 cs) : ∃ r : Wt, cs = r.cells ∧ r.wf := by
  obtain ⟨c0, c1, c2, c3, rfl⟩ : ∃ c0 c1 c2 c3, cs = [c0, c1, c2, c3] := by
    match cs, hl with
    | [c0, c1, c2, c3], _ => exact ⟨_, _, _, _, rfl⟩
  have h1 := rz_at Tryz.underlying65 h 0 rfl (ty := 9) (off := 0) rfl rfl Tryz.cells9 (ds := [c0]) rfl
  obtain ⟨v0, e0, b0⟩ := rz_str Tryz.underlying9 h1
  simp only [List.cons.injEq, and_true] at e0; subst e0
  have h2 := rz_at Tryz.underlying65 h 1 rfl (ty := 51) (off := 1) rfl rfl Tryz.cells51 (ds := [c1, c2, c3]) rfl
  have h3 := rz_at Tryz.underlying51 h2 0 rfl (ty := 3) (off := 0) rfl rfl Tryz.cells3 (ds := [c1]) rfl
  obtain ⟨v1, e1, b1, b1'⟩ := rz_int Tryz.underlying3 h3
  simp only [List.cons.injEq, and_true] at e1; subst e1
  have h4 := rz_at Tryz.underlying51 h2 1 rfl (ty := 49) (off := 1) rfl rfl Tryz.cells49 (ds := [c2]) rfl
  obtain ⟨v2, e2, b2⟩ := rz_flt Tryz.underlying49 h4
  simp only [List.cons.injEq, and_true] at e2; subst e2
  have h5 := rz_at Tryz.underlying51 h2 2 rfl (ty := 9) (off := 2) rfl rfl Tryz.cells9 (ds := [c3]) rfl
  obtain ⟨v3, e3, b3⟩ := rz_str Tryz.underlying9 h5
  simp only [List.cons.injEq, and_true] at e3; subst e3
  exact ⟨⟨v0, ⟨v1, v2, v3⟩⟩, rfl, ⟨b0, ⟨b1, b1', b2, b3⟩⟩⟩
theorem rz_pn {H : Type} {enc : TypeId × Value → H} {w : World} {base : Nat} {spare : Nat → Bool} {held : Bool} (cs : List Value) (hl : cs.length = 8) (h : Rz enc Tryz.prog w base spare held 36 cs) : ∃ r : Pn, cs = r.cells ∧ (Ss w r.ra kc 1 r.rs ∧ Ss w r.wa Wt.cells 4 r.ws) ∧ r.t.wf ∧ ((r.rs.length ≤ 9223372036854775806 ∧ ∀ y ∈ r.rs, y.length ≤ 140737488351232) ∧ r.ws.length ≤ 9223372036854775806 ∧ ∀ y ∈ r.ws, y.wf) ∧ (r.ra = none → r.rs.length = 0 ∧ r.rc = 0) ∧ (r.wa = none → r.ws.length = 0 ∧ r.wc = 0) := by
  obtain ⟨c0, c1, c2, c3, c4, c5, c6, c7, rfl⟩ : ∃ c0 c1 c2 c3 c4 c5 c6 c7, cs = [c0, c1, c2, c3, c4, c5, c6, c7] := by
    match cs, hl with
    | [c0, c1, c2, c3, c4, c5, c6, c7], _ => exact ⟨_, _, _, _, _, _, _, _, rfl⟩
  have h1 := rz_at Tryz.underlying36 h 0 rfl (ty := 24) (off := 0) rfl rfl Tryz.cells24 (ds := [c0, c1, c2]) rfl
  have h2 := rz_at Tryz.underlying24 h1 0 rfl (ty := 3) (off := 0) rfl rfl Tryz.cells3 (ds := [c0]) rfl
  obtain ⟨v0, e0, b0, b0'⟩ := rz_int Tryz.underlying3 h2
  simp only [List.cons.injEq, and_true] at e0; subst e0
  have h3 := rz_at Tryz.underlying24 h1 1 rfl (ty := 3) (off := 1) rfl rfl Tryz.cells3 (ds := [c1]) rfl
  obtain ⟨v1, e1, b1, b1'⟩ := rz_int Tryz.underlying3 h3
  simp only [List.cons.injEq, and_true] at e1; subst e1
  have h4 := rz_at Tryz.underlying24 h1 2 rfl (ty := 3) (off := 2) rfl rfl Tryz.cells3 (ds := [c2]) rfl
  obtain ⟨v2, e2, b2, b2'⟩ := rz_int Tryz.underlying3 h4
  simp only [List.cons.injEq, and_true] at e2; subst e2
  have h5 := rz_at Tryz.underlying36 h 1 rfl (ty := 26) (off := 3) rfl rfl Tryz.cells26 (ds := [c3, c4, c5]) rfl
  have h6 := rz_at Tryz.underlying26 h5 0 rfl (ty := 3) (off := 0) rfl rfl Tryz.cells3 (ds := [c3]) rfl
  obtain ⟨v3, e3, b3, b3'⟩ := rz_int Tryz.underlying3 h6
  simp only [List.cons.injEq, and_true] at e3; subst e3
  have h7 := rz_at Tryz.underlying26 h5 1 rfl (ty := 3) (off := 1) rfl rfl Tryz.cells3 (ds := [c4]) rfl
  obtain ⟨v4, e4, b4, b4'⟩ := rz_int Tryz.underlying3 h7
  simp only [List.cons.injEq, and_true] at e4; subst e4
  have h8 := rz_at Tryz.underlying26 h5 2 rfl (ty := 3) (off := 2) rfl rfl Tryz.cells3 (ds := [c5]) rfl
  obtain ⟨v5, e5, b5, b5'⟩ := rz_int Tryz.underlying3 h8
  simp only [List.cons.injEq, and_true] at e5; subst e5
  have h9 := rz_at Tryz.underlying36 h 2 rfl (ty := 33) (off := 6) rfl rfl Tryz.cells33 (ds := [c6]) rfl
  obtain ⟨ad6, cc6, v6, e6, s6, r6, n6, m6, -, z6⟩ := rz_things (en := kc) (R := fun r => r.length ≤ 140737488351232) Tryz.underlying33 Tryz.cells9 (by decide) kc_len (fun cs hl hz => rz_kc cs hl hz) h9
  rw [show Tryz.prog.bytesOf 9 = 16 from by kernel_rfl] at z6
  simp only [List.cons.injEq, and_true] at e6; subst e6
  have h10 := rz_at Tryz.underlying36 h 3 rfl (ty := 34) (off := 7) rfl rfl Tryz.cells34 (ds := [c7]) rfl
  obtain ⟨ad7, cc7, v7, e7, s7, r7, n7, m7, -, z7⟩ := rz_things (en := Wt.cells) (R := fun r => r.wf) Tryz.underlying34 Tryz.cells65 (by decide) Wt.len (fun cs hl hz => rz_wr cs hl hz) h10
  rw [show Tryz.prog.bytesOf 65 = 48 from by kernel_rfl] at z7
  simp only [List.cons.injEq, and_true] at e7; subst e7
  exact ⟨⟨⟨v0, v1, v2⟩, ⟨v3, v4, v5⟩, v6, ad6, cc6, v7, ad7, cc7⟩, rfl, ⟨⟨s6, s7⟩, ⟨⟨b0, b0'⟩, ⟨b1, b1'⟩, ⟨b2, b2'⟩⟩, ⟨⟨by show v6.length ≤ _; omega, r6⟩, by show v7.length ≤ _; omega, r7⟩, n6, n7⟩⟩
theorem list_3 {α : Type} {ds : List α} {n : Nat} (h : ds.length = n) (hn : n = 3) : ∃ a0 a1 a2, ds = [a0, a1, a2] := by
  subst hn
  match ds, h with
  | [a0, a1, a2], _ => exact ⟨a0, a1, a2, rfl⟩
theorem Tryz.cells4 : Tryz.prog.cellsOf 4 = 1 := by kernel_rfl
theorem Tryz.cells37 : Tryz.prog.cellsOf 37 = 1 := by kernel_rfl
theorem Tryz.cells39 : Tryz.prog.cellsOf 39 = 18 := by kernel_rfl
theorem Tryz.cells53 : Tryz.prog.cellsOf 53 = 7 := by kernel_rfl
theorem rz_sn {H : Type} {enc : TypeId × Value → H} {w : World} {base : Nat} {spare : Nat → Bool} {held : Bool} (cs : List Value) (hl : cs.length = 7) (h : Rz enc Tryz.prog w base spare held 53 cs) : ∃ r : Sn, cs = r.cells ∧ (r.key.length ≤ 140737488351232 ∧ r.v.tx.length ≤ 140737488351232) := by
  obtain ⟨c0, c1, c2, c3, c4, c5, c6, rfl⟩ : ∃ c0 c1 c2 c3 c4 c5 c6, cs = [c0, c1, c2, c3, c4, c5, c6] := by
    match cs, hl with
    | [c0, c1, c2, c3, c4, c5, c6], _ => exact ⟨_, _, _, _, _, _, _, rfl⟩
  have h1 := rz_at Tryz.underlying53 h 0 rfl (ty := 9) (off := 0) rfl rfl Tryz.cells9 (ds := [c0]) rfl
  obtain ⟨v0, e0, b0⟩ := rz_str Tryz.underlying9 h1
  simp only [List.cons.injEq, and_true] at e0; subst e0
  have h2 := rz_at Tryz.underlying53 h 1 rfl (ty := 51) (off := 1) rfl rfl Tryz.cells51 (ds := [c1, c2, c3]) rfl
  have h3 := rz_at Tryz.underlying51 h2 0 rfl (ty := 3) (off := 0) rfl rfl Tryz.cells3 (ds := [c1]) rfl
  obtain ⟨v1, e1, b1, b1'⟩ := rz_int Tryz.underlying3 h3
  simp only [List.cons.injEq, and_true] at e1; subst e1
  have h4 := rz_at Tryz.underlying51 h2 1 rfl (ty := 49) (off := 1) rfl rfl Tryz.cells49 (ds := [c2]) rfl
  obtain ⟨v2, e2, b2⟩ := rz_flt Tryz.underlying49 h4
  simp only [List.cons.injEq, and_true] at e2; subst e2
  have h5 := rz_at Tryz.underlying51 h2 2 rfl (ty := 9) (off := 2) rfl rfl Tryz.cells9 (ds := [c3]) rfl
  obtain ⟨v3, e3, b3⟩ := rz_str Tryz.underlying9 h5
  simp only [List.cons.injEq, and_true] at e3; subst e3
  have h6 := rz_at Tryz.underlying53 h 2 rfl (ty := 26) (off := 4) rfl rfl Tryz.cells26 (ds := [c4, c5, c6]) rfl
  have h7 := rz_at Tryz.underlying26 h6 0 rfl (ty := 3) (off := 0) rfl rfl Tryz.cells3 (ds := [c4]) rfl
  obtain ⟨v4, e4, b4, b4'⟩ := rz_int Tryz.underlying3 h7
  simp only [List.cons.injEq, and_true] at e4; subst e4
  have h8 := rz_at Tryz.underlying26 h6 1 rfl (ty := 3) (off := 1) rfl rfl Tryz.cells3 (ds := [c5]) rfl
  obtain ⟨v5, e5, b5, b5'⟩ := rz_int Tryz.underlying3 h8
  simp only [List.cons.injEq, and_true] at e5; subst e5
  have h9 := rz_at Tryz.underlying26 h6 2 rfl (ty := 3) (off := 2) rfl rfl Tryz.cells3 (ds := [c6]) rfl
  obtain ⟨v6, e6, b6, b6'⟩ := rz_int Tryz.underlying3 h9
  simp only [List.cons.injEq, and_true] at e6; subst e6
  exact ⟨⟨v0, ⟨v1, v2, v3⟩, ⟨v4, v5, v6⟩⟩, rfl, ⟨b0, b3⟩⟩
theorem rz_ox {H : Type} {enc : TypeId × Value → H} {w : World} {base : Nat} {spare : Nat → Bool} {held : Bool} (cs : List Value) (hl : cs.length = 18) (h : Rz enc Tryz.prog w base spare held 39 cs) : ∃ r : Ox, cs = r.cells ∧ (Ss w r.p.ra kc 1 r.p.rs ∧ Ss w r.p.wa Wt.cells 4 r.p.ws ∧ Ss w r.sa Sn.cells 7 r.sn) ∧ (r.key.length ≤ 140737488351232 ∧ r.t.wf ∧ r.p.t.wf ∧ ((r.p.rs.length ≤ 9223372036854775806 ∧ ∀ y ∈ r.p.rs, y.length ≤ 140737488351232) ∧ r.p.ws.length ≤ 9223372036854775806 ∧ ∀ y ∈ r.p.ws, y.wf) ∧ (r.sn.length ≤ 9223372036854775806 ∧ ∀ y ∈ r.sn, y.key.length ≤ 140737488351232 ∧ y.v.tx.length ≤ 140737488351232) ∧ (r.p.ra = none → r.p.rs.length = 0 ∧ r.p.rc = 0) ∧ (r.p.wa = none → r.p.ws.length = 0 ∧ r.p.wc = 0)) := by
  obtain ⟨c0, c1, c2, c3, c4, c5, c6, c7, c8, c9, c10, c11, c12, c13, c14, c15, c16, c17, rfl⟩ : ∃ c0 c1 c2 c3 c4 c5 c6 c7 c8 c9 c10 c11 c12 c13 c14 c15 c16 c17, cs = [c0, c1, c2, c3, c4, c5, c6, c7, c8, c9, c10, c11, c12, c13, c14, c15, c16, c17] := by
    match cs, hl with
    | [c0, c1, c2, c3, c4, c5, c6, c7, c8, c9, c10, c11, c12, c13, c14, c15, c16, c17], _ => exact ⟨_, _, _, _, _, _, _, _, _, _, _, _, _, _, _, _, _, _, rfl⟩
  have h1 := rz_at Tryz.underlying39 h 0 rfl (ty := 3) (off := 0) rfl rfl Tryz.cells3 (ds := [c0]) rfl
  obtain ⟨v0, e0, b0, b0'⟩ := rz_int Tryz.underlying3 h1
  simp only [List.cons.injEq, and_true] at e0; subst e0
  have h2 := rz_at Tryz.underlying39 h 1 rfl (ty := 9) (off := 1) rfl rfl Tryz.cells9 (ds := [c1]) rfl
  obtain ⟨v1, e1, b1⟩ := rz_str Tryz.underlying9 h2
  simp only [List.cons.injEq, and_true] at e1; subst e1
  have h3 := rz_at Tryz.underlying39 h 2 rfl (ty := 26) (off := 2) rfl rfl Tryz.cells26 (ds := [c2, c3, c4]) rfl
  have h4 := rz_at Tryz.underlying26 h3 0 rfl (ty := 3) (off := 0) rfl rfl Tryz.cells3 (ds := [c2]) rfl
  obtain ⟨v2, e2, b2, b2'⟩ := rz_int Tryz.underlying3 h4
  simp only [List.cons.injEq, and_true] at e2; subst e2
  have h5 := rz_at Tryz.underlying26 h3 1 rfl (ty := 3) (off := 1) rfl rfl Tryz.cells3 (ds := [c3]) rfl
  obtain ⟨v3, e3, b3, b3'⟩ := rz_int Tryz.underlying3 h5
  simp only [List.cons.injEq, and_true] at e3; subst e3
  have h6 := rz_at Tryz.underlying26 h3 2 rfl (ty := 3) (off := 2) rfl rfl Tryz.cells3 (ds := [c4]) rfl
  obtain ⟨v4, e4, b4, b4'⟩ := rz_int Tryz.underlying3 h6
  simp only [List.cons.injEq, and_true] at e4; subst e4
  have h7 := rz_at Tryz.underlying39 h 3 rfl (ty := 24) (off := 5) rfl rfl Tryz.cells24 (ds := [c5, c6, c7]) rfl
  have h8 := rz_at Tryz.underlying24 h7 0 rfl (ty := 3) (off := 0) rfl rfl Tryz.cells3 (ds := [c5]) rfl
  obtain ⟨v5, e5, b5, b5'⟩ := rz_int Tryz.underlying3 h8
  simp only [List.cons.injEq, and_true] at e5; subst e5
  have h9 := rz_at Tryz.underlying24 h7 1 rfl (ty := 3) (off := 1) rfl rfl Tryz.cells3 (ds := [c6]) rfl
  obtain ⟨v6, e6, b6, b6'⟩ := rz_int Tryz.underlying3 h9
  simp only [List.cons.injEq, and_true] at e6; subst e6
  have h10 := rz_at Tryz.underlying24 h7 2 rfl (ty := 3) (off := 2) rfl rfl Tryz.cells3 (ds := [c7]) rfl
  obtain ⟨v7, e7, b7, b7'⟩ := rz_int Tryz.underlying3 h10
  simp only [List.cons.injEq, and_true] at e7; subst e7
  have h11 := rz_at Tryz.underlying39 h 4 rfl (ty := 4) (off := 8) rfl rfl Tryz.cells4 (ds := [c8]) rfl
  obtain ⟨v8, e8⟩ := rz_bool Tryz.underlying4 h11
  simp only [List.cons.injEq, and_true] at e8; subst e8
  have h12 := rz_at Tryz.underlying39 h 5 rfl (ty := 36) (off := 9) rfl rfl Tryz.cells36 (ds := [c9, c10, c11, c12, c13, c14, c15, c16]) rfl
  have h13 := rz_at Tryz.underlying36 h12 0 rfl (ty := 24) (off := 0) rfl rfl Tryz.cells24 (ds := [c9, c10, c11]) rfl
  have h14 := rz_at Tryz.underlying24 h13 0 rfl (ty := 3) (off := 0) rfl rfl Tryz.cells3 (ds := [c9]) rfl
  obtain ⟨v9, e9, b9, b9'⟩ := rz_int Tryz.underlying3 h14
  simp only [List.cons.injEq, and_true] at e9; subst e9
  have h15 := rz_at Tryz.underlying24 h13 1 rfl (ty := 3) (off := 1) rfl rfl Tryz.cells3 (ds := [c10]) rfl
  obtain ⟨v10, e10, b10, b10'⟩ := rz_int Tryz.underlying3 h15
  simp only [List.cons.injEq, and_true] at e10; subst e10
  have h16 := rz_at Tryz.underlying24 h13 2 rfl (ty := 3) (off := 2) rfl rfl Tryz.cells3 (ds := [c11]) rfl
  obtain ⟨v11, e11, b11, b11'⟩ := rz_int Tryz.underlying3 h16
  simp only [List.cons.injEq, and_true] at e11; subst e11
  have h17 := rz_at Tryz.underlying36 h12 1 rfl (ty := 26) (off := 3) rfl rfl Tryz.cells26 (ds := [c12, c13, c14]) rfl
  have h18 := rz_at Tryz.underlying26 h17 0 rfl (ty := 3) (off := 0) rfl rfl Tryz.cells3 (ds := [c12]) rfl
  obtain ⟨v12, e12, b12, b12'⟩ := rz_int Tryz.underlying3 h18
  simp only [List.cons.injEq, and_true] at e12; subst e12
  have h19 := rz_at Tryz.underlying26 h17 1 rfl (ty := 3) (off := 1) rfl rfl Tryz.cells3 (ds := [c13]) rfl
  obtain ⟨v13, e13, b13, b13'⟩ := rz_int Tryz.underlying3 h19
  simp only [List.cons.injEq, and_true] at e13; subst e13
  have h20 := rz_at Tryz.underlying26 h17 2 rfl (ty := 3) (off := 2) rfl rfl Tryz.cells3 (ds := [c14]) rfl
  obtain ⟨v14, e14, b14, b14'⟩ := rz_int Tryz.underlying3 h20
  simp only [List.cons.injEq, and_true] at e14; subst e14
  have h21 := rz_at Tryz.underlying36 h12 2 rfl (ty := 33) (off := 6) rfl rfl Tryz.cells33 (ds := [c15]) rfl
  obtain ⟨ad15, cc15, v15, e15, s15, r15, n15, m15, -, z15⟩ := rz_things (en := kc) (R := fun r => r.length ≤ 140737488351232) Tryz.underlying33 Tryz.cells9 (by decide) kc_len (fun cs hl hz => rz_kc cs hl hz) h21
  rw [show Tryz.prog.bytesOf 9 = 16 from by kernel_rfl] at z15
  simp only [List.cons.injEq, and_true] at e15; subst e15
  have h22 := rz_at Tryz.underlying36 h12 3 rfl (ty := 34) (off := 7) rfl rfl Tryz.cells34 (ds := [c16]) rfl
  obtain ⟨ad16, cc16, v16, e16, s16, r16, n16, m16, -, z16⟩ := rz_things (en := Wt.cells) (R := fun r => r.wf) Tryz.underlying34 Tryz.cells65 (by decide) Wt.len (fun cs hl hz => rz_wr cs hl hz) h22
  rw [show Tryz.prog.bytesOf 65 = 48 from by kernel_rfl] at z16
  simp only [List.cons.injEq, and_true] at e16; subst e16
  have h23 := rz_at Tryz.underlying39 h 6 rfl (ty := 37) (off := 17) rfl rfl Tryz.cells37 (ds := [c17]) rfl
  obtain ⟨ad17, cc17, v17, e17, s17, r17, n17, m17, -, z17⟩ := rz_things (en := Sn.cells) (R := fun r => (r.key.length ≤ 140737488351232 ∧ r.v.tx.length ≤ 140737488351232)) Tryz.underlying37 Tryz.cells53 (by decide) Sn.len (fun cs hl hz => rz_sn cs hl hz) h23
  rw [show Tryz.prog.bytesOf 53 = 72 from by kernel_rfl] at z17
  simp only [List.cons.injEq, and_true] at e17; subst e17
  exact ⟨⟨v0, v1, ⟨v2, v3, v4⟩, ⟨v5, v6, v7⟩, v8, ⟨⟨v9, v10, v11⟩, ⟨v12, v13, v14⟩, v15, ad15, cc15, v16, ad16, cc16⟩, v17, ad17, cc17⟩, rfl, ⟨⟨s15, s16, s17⟩, b1, ⟨⟨b5, b5'⟩, ⟨b6, b6'⟩, ⟨b7, b7'⟩⟩, ⟨⟨b9, b9'⟩, ⟨b10, b10'⟩, ⟨b11, b11'⟩⟩, ⟨⟨by show v15.length ≤ _; omega, r15⟩, by show v16.length ≤ _; omega, r16⟩, ⟨by show v17.length ≤ _; omega, r17⟩, n15, n16⟩⟩
theorem argZ_ops {H : Type} {enc : TypeId × Value → H} {W : World} {v : Value} (h : ArgZ enc Tryz.prog W 22 v) : ∃ ad c l, v = .slice ad (List.length l) c ∧ Ss W ad Ox.cells 18 l ∧ (∀ r ∈ l, (Ss W r.p.ra kc 1 r.p.rs ∧ Ss W r.p.wa Wt.cells 4 r.p.ws ∧ Ss W r.sa Sn.cells 7 r.sn) ∧ (r.key.length ≤ 140737488351232 ∧ r.t.wf ∧ r.p.t.wf ∧ ((r.p.rs.length ≤ 9223372036854775806 ∧ ∀ y ∈ r.p.rs, y.length ≤ 140737488351232) ∧ r.p.ws.length ≤ 9223372036854775806 ∧ ∀ y ∈ r.p.ws, y.wf) ∧ (r.sn.length ≤ 9223372036854775806 ∧ ∀ y ∈ r.sn, y.key.length ≤ 140737488351232 ∧ y.v.tx.length ≤ 140737488351232) ∧ (r.p.ra = none → r.p.rs.length = 0 ∧ r.p.rc = 0) ∧ (r.p.wa = none → r.p.ws.length = 0 ∧ r.p.wc = 0))) ∧ (ad = none → l.length = 0 ∧ c = 0) ∧ l.length ≤ c ∧ l.length * 200 ≤ 140737488351232 := by
  obtain ⟨ad, c, l, rfl, h1, h2, h3, h4, h5, h6⟩ := argZ_things (en := Ox.cells) (R := fun r => (Ss W r.p.ra kc 1 r.p.rs ∧ Ss W r.p.wa Wt.cells 4 r.p.ws ∧ Ss W r.sa Sn.cells 7 r.sn) ∧ (r.key.length ≤ 140737488351232 ∧ r.t.wf ∧ r.p.t.wf ∧ ((r.p.rs.length ≤ 9223372036854775806 ∧ ∀ y ∈ r.p.rs, y.length ≤ 140737488351232) ∧ r.p.ws.length ≤ 9223372036854775806 ∧ ∀ y ∈ r.p.ws, y.wf) ∧ (r.sn.length ≤ 9223372036854775806 ∧ ∀ y ∈ r.sn, y.key.length ≤ 140737488351232 ∧ y.v.tx.length ≤ 140737488351232) ∧ (r.p.ra = none → r.p.rs.length = 0 ∧ r.p.rc = 0) ∧ (r.p.wa = none → r.p.ws.length = 0 ∧ r.p.wc = 0))) Tryz.underlying22 Tryz.cells39 (by decide) Ox.len (fun cs hl hz => rz_ox cs hl hz) h
  rw [show Tryz.prog.bytesOf 39 = 200 from by kernel_rfl] at h6
  exact ⟨ad, c, l, rfl, h1, h2, h3, h4, h6⟩
theorem Tryz.cells90 : Tryz.prog.cellsOf 90 = 1 := by kernel_rfl
theorem Tryz.cells92 : Tryz.prog.cellsOf 92 = 6 := by kernel_rfl
theorem Tryz.cells95 : Tryz.prog.cellsOf 95 = 2 := by kernel_rfl
theorem rz_vr {H : Type} {enc : TypeId × Value → H} {w : World} {base : Nat} {spare : Nat → Bool} {held : Bool} (cs : List Value) (hl : cs.length = 6) (h : Rz enc Tryz.prog w base spare held 92 cs) : ∃ r : Vr, cs = r.cells ∧ r.v.tx.length ≤ 140737488351232 := by
  obtain ⟨c0, c1, c2, c3, c4, c5, rfl⟩ : ∃ c0 c1 c2 c3 c4 c5, cs = [c0, c1, c2, c3, c4, c5] := by
    match cs, hl with
    | [c0, c1, c2, c3, c4, c5], _ => exact ⟨_, _, _, _, _, _, rfl⟩
  have h1 := rz_at Tryz.underlying92 h 0 rfl (ty := 26) (off := 0) rfl rfl Tryz.cells26 (ds := [c0, c1, c2]) rfl
  have h2 := rz_at Tryz.underlying26 h1 0 rfl (ty := 3) (off := 0) rfl rfl Tryz.cells3 (ds := [c0]) rfl
  obtain ⟨v0, e0, b0, b0'⟩ := rz_int Tryz.underlying3 h2
  simp only [List.cons.injEq, and_true] at e0; subst e0
  have h3 := rz_at Tryz.underlying26 h1 1 rfl (ty := 3) (off := 1) rfl rfl Tryz.cells3 (ds := [c1]) rfl
  obtain ⟨v1, e1, b1, b1'⟩ := rz_int Tryz.underlying3 h3
  simp only [List.cons.injEq, and_true] at e1; subst e1
  have h4 := rz_at Tryz.underlying26 h1 2 rfl (ty := 3) (off := 2) rfl rfl Tryz.cells3 (ds := [c2]) rfl
  obtain ⟨v2, e2, b2, b2'⟩ := rz_int Tryz.underlying3 h4
  simp only [List.cons.injEq, and_true] at e2; subst e2
  have h5 := rz_at Tryz.underlying92 h 1 rfl (ty := 51) (off := 3) rfl rfl Tryz.cells51 (ds := [c3, c4, c5]) rfl
  have h6 := rz_at Tryz.underlying51 h5 0 rfl (ty := 3) (off := 0) rfl rfl Tryz.cells3 (ds := [c3]) rfl
  obtain ⟨v3, e3, b3, b3'⟩ := rz_int Tryz.underlying3 h6
  simp only [List.cons.injEq, and_true] at e3; subst e3
  have h7 := rz_at Tryz.underlying51 h5 1 rfl (ty := 49) (off := 1) rfl rfl Tryz.cells49 (ds := [c4]) rfl
  obtain ⟨v4, e4, b4⟩ := rz_flt Tryz.underlying49 h7
  simp only [List.cons.injEq, and_true] at e4; subst e4
  have h8 := rz_at Tryz.underlying51 h5 2 rfl (ty := 9) (off := 2) rfl rfl Tryz.cells9 (ds := [c5]) rfl
  obtain ⟨v5, e5, b5⟩ := rz_str Tryz.underlying9 h8
  simp only [List.cons.injEq, and_true] at e5; subst e5
  exact ⟨⟨⟨v0, v1, v2⟩, ⟨v3, v4, v5⟩⟩, rfl, b5⟩
theorem rz_hi {H : Type} {enc : TypeId × Value → H} {w : World} {base : Nat} {spare : Nat → Bool} {held : Bool} (cs : List Value) (hl : cs.length = 2) (h : Rz enc Tryz.prog w base spare held 95 cs) : ∃ r : Hs, cs = r.cells ∧ Ss w r.ad Vr.cells 6 r.vs ∧ r.key.length ≤ 140737488351232 ∧ r.vs.length ≤ 9223372036854775806 ∧ ∀ y ∈ r.vs, y.v.tx.length ≤ 140737488351232 := by
  obtain ⟨c0, c1, rfl⟩ : ∃ c0 c1, cs = [c0, c1] := by
    match cs, hl with
    | [c0, c1], _ => exact ⟨_, _, rfl⟩
  have h1 := rz_at Tryz.underlying95 h 0 rfl (ty := 9) (off := 0) rfl rfl Tryz.cells9 (ds := [c0]) rfl
  obtain ⟨v0, e0, b0⟩ := rz_str Tryz.underlying9 h1
  simp only [List.cons.injEq, and_true] at e0; subst e0
  have h2 := rz_at Tryz.underlying95 h 1 rfl (ty := 90) (off := 1) rfl rfl Tryz.cells90 (ds := [c1]) rfl
  obtain ⟨ad1, cc1, v1, e1, s1, r1, n1, m1, -, z1⟩ := rz_things (en := Vr.cells) (R := fun r => r.v.tx.length ≤ 140737488351232) Tryz.underlying90 Tryz.cells92 (by decide) Vr.len (fun cs hl hz => rz_vr cs hl hz) h2
  rw [show Tryz.prog.bytesOf 92 = 56 from by kernel_rfl] at z1
  simp only [List.cons.injEq, and_true] at e1; subst e1
  exact ⟨⟨v0, v1, ad1, cc1⟩, rfl, ⟨s1, b0, by show v1.length ≤ _; omega, r1⟩⟩
theorem argZ_his {H : Type} {enc : TypeId × Value → H} {W : World} {v : Value} (h : ArgZ enc Tryz.prog W 42 v) : ∃ ad c l, v = .slice ad (List.length l) c ∧ Ss W ad Hs.cells 2 l ∧ (∀ r ∈ l, Ss W r.ad Vr.cells 6 r.vs ∧ r.key.length ≤ 140737488351232 ∧ r.vs.length ≤ 9223372036854775806 ∧ ∀ y ∈ r.vs, y.v.tx.length ≤ 140737488351232) ∧ (ad = none → l.length = 0 ∧ c = 0) ∧ l.length ≤ c ∧ l.length * 40 ≤ 140737488351232 := by
  obtain ⟨ad, c, l, rfl, h1, h2, h3, h4, h5, h6⟩ := argZ_things (en := Hs.cells) (R := fun r => Ss W r.ad Vr.cells 6 r.vs ∧ r.key.length ≤ 140737488351232 ∧ r.vs.length ≤ 9223372036854775806 ∧ ∀ y ∈ r.vs, y.v.tx.length ≤ 140737488351232) Tryz.underlying42 Tryz.cells95 (by decide) Hs.len (fun cs hl hz => rz_hi cs hl hz) h
  rw [show Tryz.prog.bytesOf 95 = 40 from by kernel_rfl] at h6
  exact ⟨ad, c, l, rfl, h1, h2, h3, h4, h6⟩
theorem argZ_pns {H : Type} {enc : TypeId × Value → H} {W : World} {v : Value} (h : ArgZ enc Tryz.prog W 45 v) : ∃ ad c l, v = .slice ad (List.length l) c ∧ Ss W ad Pn.cells 8 l ∧ (∀ r ∈ l, (Ss W r.ra kc 1 r.rs ∧ Ss W r.wa Wt.cells 4 r.ws) ∧ r.t.wf ∧ ((r.rs.length ≤ 9223372036854775806 ∧ ∀ y ∈ r.rs, y.length ≤ 140737488351232) ∧ r.ws.length ≤ 9223372036854775806 ∧ ∀ y ∈ r.ws, y.wf) ∧ (r.ra = none → r.rs.length = 0 ∧ r.rc = 0) ∧ (r.wa = none → r.ws.length = 0 ∧ r.wc = 0)) ∧ (ad = none → l.length = 0 ∧ c = 0) ∧ l.length ≤ c ∧ l.length * 96 ≤ 140737488351232 := by
  obtain ⟨ad, c, l, rfl, h1, h2, h3, h4, h5, h6⟩ := argZ_things (en := Pn.cells) (R := fun r => (Ss W r.ra kc 1 r.rs ∧ Ss W r.wa Wt.cells 4 r.ws) ∧ r.t.wf ∧ ((r.rs.length ≤ 9223372036854775806 ∧ ∀ y ∈ r.rs, y.length ≤ 140737488351232) ∧ r.ws.length ≤ 9223372036854775806 ∧ ∀ y ∈ r.ws, y.wf) ∧ (r.ra = none → r.rs.length = 0 ∧ r.rc = 0) ∧ (r.wa = none → r.ws.length = 0 ∧ r.wc = 0)) Tryz.underlying45 Tryz.cells36 (by decide) Pn.len (fun cs hl hz => rz_pn cs hl hz) h
  rw [show Tryz.prog.bytesOf 36 = 96 from by kernel_rfl] at h6
  exact ⟨ad, c, l, rfl, h1, h2, h3, h4, h6⟩
end Go.Proofs.YtpnfpndhdnmhkaaGreat
