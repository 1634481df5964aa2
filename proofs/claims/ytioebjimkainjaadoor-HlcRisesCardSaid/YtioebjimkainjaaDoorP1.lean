/- Plain: two clocks. -/
import Derived.Test.YtioebjimkainjaaDoorW6
set_option linter.unusedSimpArgs false
set_option linter.unusedVariables false
namespace Go.Proofs.YtioebjimkainjaaDoor
open Sx

def lexle (x y : Stamp) : Prop := x.wall < y.wall ∨ (x.wall = y.wall ∧ x.logical ≤ y.logical)
def lexlt (x y : Stamp) : Prop := x.wall < y.wall ∨ (x.wall = y.wall ∧ x.logical < y.logical)
theorem mayI {s : Stamp} (h : may s = true) : 0 ≤ s.wall ∧ s.wall ≤ 281474976710656 ∧ 0 ≤ s.logical ∧ s.logical ≤ 65535 ∧ 0 ≤ s.node ∧ s.node ≤ 63 := by unfold may at h; simpa using h
theorem mayM {s : Stamp} (h : 0 ≤ s.wall ∧ s.wall ≤ 281474976710656 ∧ 0 ≤ s.logical ∧ s.logical ≤ 65535 ∧ 0 ≤ s.node ∧ s.node ≤ 63) : may s = true := by unfold may; simpa using h
theorem peek_ok {u : Stamp} {p : Int} (hm : may u = true) (h : (peek u p).2 = 0) :
    may (peek u p).1 = true ∧ (peek u p).1.node = u.node ∧ lexlt u (peek u p).1 ∧ p ≤ (peek u p).1.wall ∧ ((peek u p).1.wall = u.wall ∨ (peek u p).1.wall = p) := by
  have h9 := mayI hm
  unfold lexlt
  unfold peek at h ⊢
  split at h
  · cases h
  · rename_i h1
    rw [if_neg h1]
    split at h
    · rename_i h2
      rw [if_pos h2]
      refine ⟨mayM ?_, rfl, ?_, ?_, ?_⟩ <;> dsimp only <;> omega
    · rename_i h2
      rw [if_neg h2]
      split at h
      · cases h
      · rename_i h3
        rw [if_neg h3]
        refine ⟨mayM ?_, rfl, ?_, ?_, ?_⟩ <;> dsimp only <;> omega
theorem peek_err {u : Stamp} {p : Int} (h : ¬ (peek u p).2 = 0) : 281474976710656 < p ∨ 65535 ≤ u.logical := by
  unfold peek at h
  split at h
  · omega
  · split at h
    · exact absurd rfl h
    · split at h
      · omega
      · exact absurd rfl h
structure RI (a b : Int) (u0 u1 l0 l1 : Stamp) (ws : Int) (told : List Stamp) : Prop where
  m0 : may u0 = true
  m1 : may u1 = true
  n0 : u0.node = a
  n1 : u1.node = b
  le0 : lexle l0 u0
  le1 : lexle l1 u1
  w0 : u0.wall ≤ ws
  w1 : u1.wall ≤ ws
  old : ∀ t ∈ told, (t.node = a ∧ lexle t u0) ∨ (t.node = b ∧ lexle t u1)
section
variable {a b : Int} {u0 u1 l0 l1 : Stamp} {ws : Int} {told : List Stamp}
theorem RI.swap (h : RI a b u0 u1 l0 l1 ws told) : RI b a u1 u0 l1 l0 ws told := ⟨h.m1, h.m0, h.n1, h.n0, h.le1, h.le0, h.w1, h.w0, fun t ht => (h.old t ht).symm⟩
theorem obs_facts (u x : Stamp) (hu : may u = true) (hx : may x = true) : may (obs u x) = true ∧ (obs u x).node = u.node ∧ lexle u (obs u x) ∧ lexle x (obs u x) ∧ ((obs u x).wall = u.wall ∨ (obs u x).wall = x.wall) := by
  have h1 := mayI hu
  have h2 := mayI hx
  rw [obs_def]
  unfold lexle
  split
  · refine ⟨mayM ?_, rfl, ?_, ?_, ?_⟩ <;> dsimp only <;> omega
  · rename_i h3
    simp only [hx, true_and] at h3
    refine ⟨hu, rfl, ?_, ?_, ?_⟩ <;> omega
theorem lexle_trans {x y z : Stamp} (h : lexle x y) (k : lexle y z) : lexle x z := by unfold lexle at *; omega
theorem RI.hear_keep (h : RI a b u0 u1 l0 l1 ws told) : RI a b (obs u0 u1) u1 l0 l1 ws told := by
  obtain ⟨k1, k2, k3, k4, k5⟩ := obs_facts u0 u1 h.m0 h.m1
  have h1 := h.w0
  have h2 := h.w1
  exact ⟨k1, h.m1, k2.trans h.n0, h.n1, lexle_trans h.le0 k3, h.le1, by omega, h.w1, fun t ht => (h.old t ht).imp (fun h9 => ⟨h9.1, lexle_trans h9.2 k3⟩) id⟩
theorem RI.hear_set (h : RI a b u0 u1 l0 l1 ws told) : RI a b (obs u0 u1) u1 u1 l1 ws told := by
  obtain ⟨k1, k2, k3, k4, k5⟩ := obs_facts u0 u1 h.m0 h.m1
  have h0 := h.hear_keep
  exact ⟨h0.m0, h0.m1, h0.n0, h0.n1, k4, h0.le1, h0.w0, h0.w1, h0.old⟩
theorem RI.tell (h : RI a b u0 u1 l0 l1 ws told) (hab : a ≠ b) {p : Int} (hp : (peek u0 p).2 = 0) :
    RI a b (peek u0 p).1 u1 (peek u0 p).1 l1 (max ws p) (told ++ [(peek u0 p).1]) ∧ may (peek u0 p).1 = true ∧ (peek u0 p).1.node = a ∧ (peek u0 p).1.wall ≤ max ws p ∧ p ≤ (peek u0 p).1.wall ∧ lexlt l0 (peek u0 p).1 ∧
      ∀ t ∈ told, ¬ (t.wall = (peek u0 p).1.wall ∧ t.logical = (peek u0 p).1.logical ∧ t.node = (peek u0 p).1.node) := by
  obtain ⟨k1, k2, k3, k4, k5⟩ := peek_ok h.m0 hp
  generalize (peek u0 p).1 = s at *
  have h1 := h.w0
  have h2 := h.w1
  have h3 := h.le0
  have h4 := h.n0
  refine ⟨⟨k1, h.m1, k2.trans h4, h.n1, ?_, h.le1, by omega, by omega, fun t ht => ?_⟩, k1, k2.trans h4, by omega, k4, ?_, fun t ht => ?_⟩
  · unfold lexle; omega
  · rcases List.mem_append.1 ht with h9 | h9
    · refine (h.old t h9).imp (fun h8 => ⟨h8.1, ?_⟩) id
      have h7 := h8.2
      unfold lexle lexlt at *
      omega
    · rw [List.mem_singleton] at h9
      subst h9
      exact .inl ⟨k2.trans h4, by unfold lexle; omega⟩
  · unfold lexle lexlt at *; omega
  · rcases h.old t ht with ⟨h8, h7⟩ | ⟨h8, h7⟩
    · unfold lexle lexlt at *; omega
    · omega
end
def stc (s : Stamp) : List Value := [.int .i64 s.wall, .int .i64 s.logical, .int .i64 s.node]
theorem stc_len (s : Stamp) : (stc s).length = 3 := rfl
def icell (n : Int) : List Value := [.int .i64 n]
theorem icell_len (n : Int) : (icell n).length = 1 := rfl
def bcell (b : Bool) : List Value := [.bool b]
theorem bcell_len (b : Bool) : (bcell b).length = 1 := rfl
structure RG where
  i : Nat
  u0 : Stamp
  u1 : Stamp
  l0 : Stamp
  l1 : Stamp
  ws : Int
  told : List Stamp
  ad : Option Addr
  c : Nat

end Go.Proofs.YtioebjimkainjaaDoor
