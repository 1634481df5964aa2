/- Operations; what is there till it comes out, plainly. -/
import Derived.Test.YthhdoeflafakaaaS3
set_option linter.unusedSimpArgs false
set_option linter.unusedVariables false
namespace Go.Proofs.Ythhdoeflafakaaa
open Sx

/-! operations; what is there till it comes out -/
structure Op where
  k : Int
  n : Int
  f : Fr
  s : Stp
def Op.cells (o : Op) : List Value := [.int .i64 o.k, .int .i64 o.n, .int .i64 o.f.rg, .int .i64 o.f.at_, .int .i64 o.f.t.co, .int .i64 o.f.t.li, .int .i64 o.f.t.sq, .int .i64 o.f.s.w, .int .i64 o.f.s.l, .int .i64 o.f.s.n, .slice o.f.ad o.f.ws.length o.f.c, .int .i64 o.s.w, .int .i64 o.s.l, .int .i64 o.s.n]
theorem Op.len (o : Op) : o.cells.length = 14 := rfl
def P1 : Fp := ⟨1, 1, ⟨1, 1, 1⟩, ⟨5, 0, 1⟩, [⟨[97], vz⟩]⟩
def P2 : Fp := ⟨2, 1, ⟨1, 1, 1⟩, ⟨5, 0, 1⟩, [⟨[98], vz⟩]⟩
def P3 : Fp := ⟨3, 1, ⟨1, 1, 1⟩, ⟨5, 0, 1⟩, [⟨[97], vz⟩]⟩
def Q1 : Ep := ⟨⟨1, 1, 1⟩, ⟨5, 0, 1⟩, [⟨[97], vz⟩, ⟨[98], vz⟩]⟩
theorem f1 : addE [] P1 = 0 ∧ addL [] P1 = [P1] := by decide +kernel
theorem f2 : addE [P1] P2 = 0 ∧ addL [P1] P2 = [P1, P2] := by decide +kernel
theorem f3 : addE [P1, P2] P3 = 18 ∧ addL [P1, P2] P3 = [P1, P2] := by decide +kernel
theorem f4 : uptoE [P1, P2] ⟨4, 0, 0⟩ = [] ∧ uptoL [P1, P2] ⟨4, 0, 0⟩ = [P1, P2] := by decide +kernel
theorem f5 : uptoE [P1, P2] ⟨5, 0, 1⟩ = [Q1] ∧ uptoL [P1, P2] ⟨5, 0, 1⟩ = [] := by decide +kernel
theorem one_of {E : List En} {q : Ep} (h : E.map En.p = [q]) : ∃ e, E = [e] ∧ e.p = q := by
  match E, h with
  | [e], h => simp at h; exact ⟨e, rfl, h⟩
theorem hasF_iff {L : List Fp} {rg : Int} {t : Tn} : hasF L rg t = true ↔ ∃ x ∈ L, x.rg = rg ∧ x.t = t := by
  unfold hasF
  rw [List.any_eq_true]
  simp
theorem has_add {L : List Fp} {f : Fp} (h : addE L f = 0) : hasF L f.rg f.t = false ∧ hasF (addL L f) f.rg f.t = true ∧ (addL L f).length = L.length + 1 := by
  obtain ⟨-, h2, -, -⟩ := add_zero h
  unfold addL
  rw [if_pos h]
  refine ⟨?_, hasF_iff.2 ⟨f, (ins_perm L f).mem_iff.2 (by simp), rfl, rfl⟩, by rw [(ins_perm L f).length_eq, List.length_cons]⟩
  cases h3 : hasF L f.rg f.t
  · rfl
  · obtain ⟨x, hx, hxe⟩ := hasF_iff.1 h3
    exact absurd hxe (h2 x hx)
theorem cntS_all {at_ : Stp} : ∀ {L : List Fp} {x : Fp}, x ∈ L.take (cntS at_ L) → cmpS x.s at_ ≤ 0
  | [], x, h => by simp at h
  | y :: r, x, h => by
    unfold cntS at h
    split at h
    · rename_i hy
      rw [List.take_succ_cons] at h
      rcases List.mem_cons.1 h with rfl | h
      · exact hy
      · exact cntS_all h
    · simp at h
theorem cmp_up {a b c : Stp} (h : ¬ ltS b a) (hc : ¬ cmpS a c ≤ 0) : ¬ cmpS b c ≤ 0 := by
  rw [cmp_le] at hc ⊢
  have hc2 : ltS c a := by
    rcases ltS_tot c a with h1 | h1 | h1
    · exact h1
    · exact absurd (by rw [h1]; exact ltS_irr _ : ¬ ltS c a) hc
    · exact absurd (fun h9 => ltS_as h1 h9) hc
  refine fun h9 => h9 ?_
  rcases ltS_tot a b with h1 | h1 | h1
  · exact ltS_tr hc2 h1
  · rw [← h1]; exact hc2
  · exact absurd h1 h
theorem cntS_drop {at_ : Stp} : ∀ {L : List Fp}, L.Pairwise ltF → ∀ x ∈ L.drop (cntS at_ L), ¬ cmpS x.s at_ ≤ 0
  | [], _, x, h => by simp at h
  | y :: r, hp, x, h => by
    have hc := List.pairwise_cons.1 hp
    unfold cntS at h
    split at h
    · exact cntS_drop hc.2 x (by simpa using h)
    · rename_i hy
      rw [List.drop_zero] at h
      rcases List.mem_cons.1 h with rfl | h
      · exact hy
      · refine cmp_up (a := y.s) ?_ hy
        rcases hc.1 x h with h1 | ⟨h1, -⟩
        · exact ltS_as h1
        · rw [h1]; exact ltS_irr _
theorem upto_from {L : List Fp} (hL : Held L) {at_ : Stp} {e : Ep} (he : e ∈ uptoE L at_) : ∃ x ∈ L.take (cntS at_ L), x.t = e.t := by
  unfold uptoE at he
  obtain ⟨g, hg, rfl⟩ := List.mem_map.1 he
  have h1 := (grp_all hL (cntS at_ L) (cntS_le at_ L)).dis g hg
  obtain ⟨w, hw⟩ := List.exists_mem_of_length_pos (l := g.ws) h1.2.2.1
  obtain ⟨x, hx, hxt, -⟩ := h1.2.1 w hw
  exact ⟨x, hx, hxt⟩
theorem upto_has {L : List Fp} (hL : Held L) {at_ : Stp} {e : Ep} (he : e ∈ uptoE L at_) (id : Int) : hasF (uptoL L at_) id e.t = false := by
  cases h : hasF (uptoL L at_) id e.t
  · rfl
  · obtain ⟨y, hy, -, hyt⟩ := hasF_iff.1 h
    obtain ⟨x, hx, hxt⟩ := upto_from hL he
    have h1 := cntS_drop hL.srt y hy
    have h2 := cntS_all hx
    have h3 := (hL.like x (List.mem_of_mem_take hx) y (List.mem_of_mem_drop hy)).1 (hxt.trans hyt.symm)
    rw [h3] at h2
    exact absurd h2 h1
theorem grpE_ne (E : List Ep) (f : Fp) : grpE E f ≠ [] := by unfold grpE; split <;> simp
theorem uptoG_ne {P : List Fp} (h : P ≠ []) : uptoG P ≠ [] := by
  obtain ⟨A, g, rfl⟩ : ∃ A g, P = A ++ [g] := ⟨P.dropLast, P.getLast h, (List.dropLast_concat_getLast h).symm⟩
  unfold uptoG
  rw [List.foldl_append]
  exact grpE_ne _ _
theorem upto_len (L : List Fp) (at_ : Stp) : (uptoE L at_ = [] ↔ (uptoL L at_).length = L.length) ∧ (uptoL L at_).length ≤ L.length := by
  have hc := cntS_le at_ L
  unfold uptoE uptoL
  rw [List.length_drop]
  refine ⟨⟨fun h => ?_, fun h => ?_⟩, by omega⟩
  · have h1 := List.map_eq_nil_iff.1 h
    rcases Nat.eq_zero_or_pos (cntS at_ L) with h2 | h2
    · omega
    · exact absurd h1 (uptoG_ne fun h9 => by have := congrArg List.length h9; rw [List.length_take, List.length_nil] at this; omega)
  · have h2 : cntS at_ L = 0 := by omega
    rw [h2, List.take_zero]
    rfl
theorem held_upto {L : List Fp} (h : Held L) (at_ : Stp) : Held (uptoL L at_) := held_drop h _
theorem add_no {L : List Fp} {f : Fp} {z : Int} (h : addE L f = z) (hz : z ≠ 0) : addL L f = L := by
  unfold addL; exact if_neg (by rw [h]; exact hz)

end Go.Proofs.Ythhdoeflafakaaa
