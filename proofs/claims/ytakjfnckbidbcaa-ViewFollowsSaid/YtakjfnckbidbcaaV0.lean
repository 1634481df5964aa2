/- Groups, plainly. -/
import Derived.Test.YtakjfnckbidbcaaC3
set_option linter.unusedSimpArgs false
set_option linter.unusedVariables false
namespace Go.Proofs.Ytakjfnckbidbcaa
open Sx

structure G6 where
  name : Key
  keys : Int
  nums : Int
  sum : Nat
  least : Nat
  most : Nat
  deriving DecidableEq
def G6.cells (g : G6) : List Value := [.string ⟨g.name.toArray⟩, .int .i64 g.keys, .int .i64 g.nums, .float .f64 g.sum, .float .f64 g.least, .float .f64 g.most]
theorem G6.len (g : G6) : g.cells.length = 6 := rfl
theorem G6.one (g : G6) : ∀ u ∈ g.cells, u.oneCell' = true := by
  intro u hu
  simp only [G6.cells, List.mem_cons, List.not_mem_nil, or_false] at hu
  rcases hu with rfl | rfl | rfl | rfl | rfl | rfl <;> rfl
def g6new (n : Key) : G6 := ⟨n, 0, 0, 0, 0, 0⟩
def gz6 : G6 := g6new []
/-- a group's least and most follow others -/
def endsG (g : G6) (a b : Nat) : G6 := if g.nums = 0 then { g with least := fcan a, most := fcan b } else { g with least := leastF g.least a, most := mostF g.most b }
theorem endsG_keep (g : G6) (a b : Nat) : (endsG g a b).name = g.name ∧ (endsG g a b).keys = g.keys ∧ (endsG g a b).nums = g.nums ∧ (endsG g a b).sum = g.sum := by
  unfold endsG; split <;> exact ⟨rfl, rfl, rfl, rfl⟩
/-- a pair's value comes to its group (ns: the group's numbers, with this one) -/
def updG (g : G6) (v : Vl) (ns : List Nat) : G6 :=
  if v.k = 1 then { endsG { g with keys := g.keys + 1 } v.num v.num with nums := g.nums + 1, sum := fsum ns } else { g with keys := g.keys + 1 }
/-- the group that a name calls for stands last -/
def s1F (s : List G6 × List Nat) (nm : Key) : List G6 × List Nat :=
  if s.1 ≠ [] ∧ (s.1.getLastD gz6).name = nm then s else (s.1 ++ [g6new nm], [])
def gst (cut : Nat) (s : List G6 × List Nat) (x : Wt) : List G6 × List Nat :=
  let s1 := s1F s (x.key.take cut)
  let ns := if x.v.k = 1 then s1.2 ++ [x.v.num] else s1.2
  (s1.1.set (s1.1.length - 1) (updG (s1.1.getLastD gz6) x.v ns), ns)
def gfold (cut : Nat) (l : List Wt) : List G6 × List Nat := l.foldl (gst cut) ([], [])
def groupsF (cut : Nat) (l : List Wt) : List G6 := (gfold cut l).1
theorem gfold_snoc {cut : Nat} {l : List Wt} {k : Nat} {x : Wt} (h : l[k]? = some x) : gfold cut (l.take (k + 1)) = gst cut (gfold cut (l.take k)) x := by
  unfold gfold; rw [take_app h, List.foldl_append]; rfl
theorem last_at {L : List G6} {g : G6} (h : L[L.length - 1]? = some g) : L.getLastD gz6 = g := by
  rw [List.getLastD_eq_getLast?, List.getLast?_eq_getElem?, h]; rfl
theorem gst_eq {cut : Nat} {s : List G6 × List Nat} {x : Wt} {L1 : List G6} {n1 : List Nat} {g : G6} (h1 : (L1, n1) = s1F s (x.key.take cut)) (hg : L1[L1.length - 1]? = some g) :
    gst cut s x = (L1.set (L1.length - 1) (updG g x.v (if x.v.k = 1 then n1 ++ [x.v.num] else n1)), if x.v.k = 1 then n1 ++ [x.v.num] else n1) := by
  unfold gst
  rw [← h1]
  dsimp only
  rw [last_at hg]
/-- numbers of what was met so far stay within it -/
def gbound (k : Nat) (L : List G6) : Prop := ∀ g ∈ L, 0 ≤ g.keys ∧ g.keys ≤ k ∧ 0 ≤ g.nums ∧ g.nums ≤ k
theorem gbound_s1 {k : Nat} {s : List G6 × List Nat} {nm : Key} (h : gbound k s.1) : gbound k (s1F s nm).1 := by
  unfold s1F
  split
  · exact h
  · intro g hg
    rcases List.mem_append.1 hg with hg | hg
    · exact h g hg
    · simp at hg; subst hg; show (0 : Int) ≤ 0 ∧ (0 : Int) ≤ k ∧ (0 : Int) ≤ 0 ∧ (0 : Int) ≤ k; omega
theorem gbound_set {k i : Nat} {L : List G6} {g : G6} {v : Vl} {ns : List Nat} (h : gbound k L) (hg : L[i]? = some g) : gbound (k + 1) (L.set i (updG g v ns)) := by
  have hgb := h g (List.mem_of_getElem? hg)
  intro x hx
  rcases List.mem_or_eq_of_mem_set hx with hx | rfl
  · have := h x hx; omega
  · unfold updG
    split
    · have := endsG_keep { g with keys := g.keys + 1 } v.num v.num
      show 0 ≤ (endsG _ _ _).keys ∧ (endsG _ _ _).keys ≤ _ ∧ 0 ≤ g.nums + 1 ∧ g.nums + 1 ≤ _
      rw [this.2.1]
      show 0 ≤ g.keys + 1 ∧ g.keys + 1 ≤ _ ∧ _
      omega
    · show 0 ≤ g.keys + 1 ∧ g.keys + 1 ≤ _ ∧ 0 ≤ g.nums ∧ g.nums ≤ _
      omega
theorem tk_g {L : List G6} {nm : Key} : L.flatMap G6.cells ++ [.string ⟨nm.toArray⟩, .int .i64 0, .int .i64 0, .float .f64 0, .float .f64 0, .float .f64 0] = (L ++ [g6new nm]).flatMap G6.cells := by
  rw [List.flatMap_append]; rfl
theorem tk_f {l : List Nat} {x : Nat} : l.flatMap fcell ++ [.float .f64 x] = (l ++ [x]).flatMap fcell := by
  rw [List.flatMap_append]; rfl
theorem min_take (k : Key) (cut : Nat) : k.take (min cut k.length) = k.take cut := by
  rcases Nat.le_total cut k.length with h | h
  · rw [Nat.min_eq_left h]
  · rw [Nat.min_eq_right h, List.take_of_length_le (Nat.le_refl _), List.take_of_length_le h]
theorem s1_same {L : List G6} {ns : List Nat} {nm : Key} {g : G6} (hg : L[L.length - 1]? = some g) (h : g.name = nm) : s1F (L, ns) nm = (L, ns) := by
  unfold s1F
  have hne : L ≠ [] := fun h9 => by subst h9; simp at hg
  rw [if_pos ⟨hne, by rw [last_at hg]; exact h⟩]
theorem s1_new {L : List G6} {ns : List Nat} {nm : Key} (h : L = [] ∨ ∃ g, L[L.length - 1]? = some g ∧ g.name ≠ nm) : s1F (L, ns) nm = (L ++ [g6new nm], []) := by
  unfold s1F
  rw [if_neg]
  rintro ⟨h1, h2⟩
  rcases h with h | ⟨g, hg, hn⟩
  · exact h1 h
  · rw [last_at hg] at h2
    exact hn h2


end Go.Proofs.Ytakjfnckbidbcaa
