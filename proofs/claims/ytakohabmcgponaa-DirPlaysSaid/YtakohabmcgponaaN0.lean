/- Floats by their bits, ranges, plainly. -/
import Derived.Test.YtakohabmcgponaaSxW
set_option linter.unusedSimpArgs false
set_option linter.unusedVariables false
namespace Go.Proofs.Ytakohabmcgponaa
open Sx

def sgn : Int := 9223372036854775808
def fexp (b : Nat) : Nat := b % 18446744073709551616 / 4503599627370496 % 2048
def ffrac (b : Nat) : Nat := b % 4503599627370496
def classF (b : Nat) : Int :=
  if fexp b = 2047 ∧ ffrac b ≠ 0 then 0
  else if uand b sgn = 0 then (if fexp b = 2047 then 8 else if 0 < fexp b then 7 else if 0 < ffrac b then 6 else 5)
  else 9 - (if fexp b = 2047 then 8 else if 0 < fexp b then 7 else if 0 < ffrac b then 6 else 5)
theorem ret_b {a b : Bool} (h : a = b) : Ending.returned (.bool a) = Ending.returned (.bool b) := by rw [h]
theorem ret_i {k : IntKind} {a b : Int} (h : a = b) : Ending.returned (.int k a) = Ending.returned (.int k b) := by rw [h]
theorem ret_f {a b : Nat} (h : a = b) : Ending.returned (.float .f64 a) = Ending.returned (.float .f64 b) := by rw [h]
def fone : Nat := 4607182418800017408
def pointF (b : Nat) : Bool := decide (5 ≤ classF (fcan b)) && fle b fone
structure Rg where
  id : Int
  epoch : Int
  lo : Nat
  hi : Nat
  deriving DecidableEq
def Rg.cells (r : Rg) : List Value := [.int .i64 r.id, .int .i64 r.epoch, .float .f64 r.lo, .float .f64 r.hi]
def Rg.wf (r : Rg) : Prop := -9223372036854775808 ≤ r.id ∧ r.id ≤ 9223372036854775807 ∧ -9223372036854775808 ≤ r.epoch ∧ r.epoch ≤ 9223372036854775807 ∧ r.lo < 2 ^ 64 ∧ r.hi < 2 ^ 64
theorem Rg.len (r : Rg) : r.cells.length = 4 := rfl
theorem Rg.one (r : Rg) : ∀ u ∈ r.cells, u.oneCell' = true := by
  intro u hu
  simp only [Rg.cells, List.mem_cons, List.not_mem_nil, or_false] at hu
  rcases hu with rfl | rfl | rfl | rfl <;> rfl
def Rg.val (r : Rg) : Value := .agg #[.int .i64 r.id, .int .i64 r.epoch, .float .f64 r.lo, .float .f64 r.hi]
def Rg.key (r : Rg) : Lit := .int .i64 r.id
def mayR (r : Rg) : Bool := decide (1 ≤ r.id) && decide (r.id ≤ 12) && decide (0 ≤ r.epoch) && pointF r.lo && pointF r.hi && flt r.lo r.hi
abbrev tb (L : List Rg) : DataW Value := tab Rg.key Rg.val L
def gt (L : List Rg) (i : Int) : Option Rg := getT Rg.key L (.int .i64 i)
def pt (r : Rg) (L : List Rg) : List Rg := putT Rg.key r L
theorem look_yes {L : List Rg} {i : Int} {o : Rg} (h : gt L i = some o) (z : Value) : atV (tb L) (.int .i64 i) z = .agg #[.int .i64 o.id, .int .i64 o.epoch, .float .f64 o.lo, .float .f64 o.hi] ∧ Maps.has (tb L) (.int .i64 i) = true := by
  rw [atV_tab, has_tab]
  unfold gt at h
  rw [h]
  exact ⟨rfl, rfl⟩
theorem look_no {L : List Rg} {i : Int} (h : gt L i = none) (z : Value) : atV (tb L) (.int .i64 i) z = z ∧ Maps.has (tb L) (.int .i64 i) = false := by
  rw [atV_tab, has_tab]
  unfold gt at h
  rw [h]
  exact ⟨rfl, rfl⟩
theorem put_tb (r : Rg) (L : List Rg) : (tb L).put (.int .i64 r.id) (.held (.agg #[.int .i64 r.id, .int .i64 r.epoch, .float .f64 r.lo, .float .f64 r.hi])) = tb (pt r L) := put_tab r L
def learn1 (s : List Rg × Nat) (r : Rg) : List Rg × Nat :=
  if mayR r = true then (match gt s.1 r.id with
    | some o => if r.epoch ≤ o.epoch then s else (pt r s.1, s.2 + 1)
    | none => (pt r s.1, s.2 + 1)) else s
def learnR (L l : List Rg) : List Rg × Nat := l.foldl learn1 (L, 0)
theorem learn_snoc {s : List Rg × Nat} {l : List Rg} {k : Nat} {o : Rg} (h : l[k]? = some o) : (l.take (k + 1)).foldl learn1 s = learn1 ((l.take k).foldl learn1 s) o := by
  obtain ⟨hk, rfl⟩ := List.getElem?_eq_some_iff.1 h
  rw [List.take_succ_eq_append_getElem hk, List.foldl_append]
  rfl
theorem ins_len {α : Type} (kl : α → Lit) (x : α) : ∀ L : List α, (insT kl x L).length = L.length + 1
  | [] => rfl
  | y :: r => by
    unfold insT
    split
    · rfl
    · simp [ins_len kl x r]
theorem pt_len (r : Rg) (L : List Rg) : (pt r L).length ≤ L.length + 1 := by
  unfold pt putT
  rw [ins_len]
  have := List.length_filter_le (fun y : Rg => !y.key.sameKey r.key) L
  omega

end Go.Proofs.Ytakohabmcgponaa
