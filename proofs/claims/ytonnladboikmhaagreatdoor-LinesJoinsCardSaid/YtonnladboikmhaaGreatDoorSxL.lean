/- Structs held against each other; results as one wishes them. -/
import Derived.Test.YtonnladboikmhaaGreatDoorSxK
set_option linter.unusedSimpArgs false
set_option linter.unusedVariables false
namespace Go.Sx
def EqAt (P : Program) (n : Nat) (t : TypeId) (v u : Value) (b : Bool) : Prop := ∀ d w, (Op.equalIn (d + n) t v u).run P w = .ok b w
section
variable {P : Program} {t : TypeId} {n m : Nat} {v u : Value} {b c : Bool} {xs ys : Array Value} {fs : Array Field}
theorem EqAt.up (k : Nat) (h : EqAt P n t v u b) : EqAt P (n + k) t v u b := fun d w => by
  have := h (d + k) w
  rwa [show d + k + n = d + (n + k) from by omega] at this
theorem EqAt.as (h : EqAt P n t v u b) (e : b = c) : EqAt P n t v u c := e ▸ h
theorem EqAt.int {k : IntKind} (hu : P.underlying t = some (.int k)) (p q : Int) : EqAt P 1 t (.int k p) (.int k q) (decide (p = q)) := fun d w => by
  unfold Op.equalIn
  simp [run_underlying hu]
  rfl
theorem EqAt.bool (hu : P.underlying t = some .bool) (p q : Bool) : EqAt P 1 t (.bool p) (.bool q) (decide (p = q)) := fun d w => by
  unfold Op.equalIn
  simp [run_underlying hu]
  cases p <;> cases q <;> rfl
theorem EqAt.flt {k : FloatKind} (hu : P.underlying t = some (.float k)) (p q : Nat) : EqAt P 1 t (.float k p) (.float k q) (Op.floatEq k p q) := fun d w => by
  unfold Op.equalIn
  simp [run_underlying hu]
def Eqs (P : Program) (n : Nat) (xs ys : Array Value) : List Field → Bool → Prop
  | [], b => b = true
  | f :: fs, b => f.name ≠ "_" ∧ ∃ v u b1 b2, (∀ w, (part f.type xs f.offset).run P w = .ok v w) ∧ (∀ w, (part f.type ys f.offset).run P w = .ok u w) ∧ EqAt P n f.type v u b1 ∧ Eqs P n xs ys fs b2 ∧ b = (b1 && b2)
theorem eqs_run (d : Nat) (w : World) : ∀ (fs : List Field) (b : Bool), Eqs P n xs ys fs b →
    (forIn (m := Sem) fs ((none, ()) : Option Bool × Unit) fun f _ =>
      if f.name ≠ "_" then do
        let a ← part f.type xs f.offset
        let c ← part f.type ys f.offset
        let e ← Op.equalIn (d + n) f.type a c
        if (!e) = true then pure (ForInStep.done (some false, ())) else pure (ForInStep.yield (none, ()))
      else pure (ForInStep.yield (none, ()))).run P w = .ok (if b then none else some false, ()) w
  | [], b, h => by
    have h : b = true := h
    subst h
    simp
  | f :: fs, b, ⟨hn, v, u, b1, b2, h1, h2, h3, h4, e⟩ => by
    subst e
    have ih := eqs_run d w fs b2 h4
    simp only [List.forIn_cons, hn, ne_eq, not_false_eq_true, if_true, bind_assoc, Sem.run_bind, h1, h2, h3 d w, Result.andThen_ok]
    cases b1 with
    | false => simp
    | true =>
      simp only [Bool.not_true, Bool.false_eq_true, if_false, pure_bind, Bool.true_and]
      exact ih
theorem EqAt.struct (hu : P.underlying t = some (.struct fs)) (hs : P.stoodInHeld t = false) (h : Eqs P n xs ys fs.toList b) : EqAt P (n + 1) t (.agg xs) (.agg ys) b := fun d w => by
  have key := eqs_run d w fs.toList b h
  show (Op.equalIn (d + n + 1) t (.agg xs) (.agg ys)).run P w = _
  unfold Op.equalIn
  simp only [Sem.run_bind, run_underlying hu, Result.andThen_ok]
  have hp : (program).run P w = .ok P w := by simp [program, Sem.run]
  simp only [hp, Result.andThen_ok, hs, Bool.false_eq_true, if_false]
  rw [← Array.forIn_toList]
  simp only [pure_bind, Sem.run_bind]
  refine (congrArg (fun r => Result.andThen r _) key).trans ?_
  cases b <;> simp
end
section
variable {nz : Sz} {P : Program} {n k : Nat} {l : List (Nat × Value)} {a : Act} {o : Oper} {x y : Operand} {t t' : TypeId} {xs ys : Array Value} {b : Bool} {v v' : Value}
theorem run_guardS (op : BinOp) (hg : P.eqGuardType P.depth t = false) (w : World) : (eqGuard op t x y (.agg xs) (.agg ys)).run P w = .ok () w := by
  have hp : (program).run P w = .ok P w := by simp [program, Sem.run]
  unfold eqGuard
  split
  all_goals (simp [hp, hg]; try (intro h; rw [hg] at h; cases h))
theorem x_eqS (hT : Sl nz l a) (hop : o.op = .binOp .eql t x y t') (hg : P.eqGuardType P.depth t = false) (h : EqAt P k t (.agg xs) (.agg ys) b) (hk : Nat.ble k 100 = true) (hx : opnd l x = some (.agg xs)) (hy : opnd l y = some (.agg ys)) (w : World) : (execOp a.eval o).run P w = .ok (.value (.bool b)) w := by
  have hk := Nat.le_of_ble_eq_true hk
  refine x_eql hT hop hx hy (run_guardS _ hg w) (run_eqof rfl ?_)
  have := h (10000 - k) w
  rwa [show 10000 - k + k = Op.maxDepth from by unfold Op.maxDepth; omega] at this
end
end Go.Sx
