/- More on chunks: two made one, free ones, an empty block as a row. -/
import Derived.Test.YtpnfpndhdnmhkaaGreatSxM
import Derived.Laws.Externs
set_option linter.unusedSimpArgs false
set_option linter.unusedVariables false
namespace Go.Sx
section
variable {w0 w w' u : World} {S T : Nat → Prop} {l m l' rest : List Chunk} {c d : Chunk} {b : Nat} {cs cs' : List Value} {e : TypeId} {p q : World → Prop} {i j : Nat}
theorem Hp.free (H : Hp w0 S w l) (p : World → Prop) (hp : ∀ w, p w) : Hp w0 S w ((No, p) :: l) :=
  H.cons (Ext.refl _ _) (fun w' _ => hp w') fun k hk => hk.elim
theorem Hp.merge {F G : Nat → Prop} (H : Hp w0 S w l) (i j : Nat) (hi : cget l i = some (F, p)) (hj : cget l j = some (G, q)) (os : List Nat) (hn : nodup (i :: j :: os) = true) (hr : cpick l os = some rest) :
    Hp w0 S w ((fun k => F k ∨ G k, fun w => p w ∧ q w) :: rest) := by
  have K := H.keep (i :: j :: os) hn (m := (F, p) :: (G, q) :: rest) (by simp only [cpick, hi, hj, hr])
  have h1 := K.ck (F, p) (by simp)
  have h2 := K.ck (G, q) (by simp)
  refine ⟨K.ext, fun a b c d ha hb hab k hk1 hk2 => ?_, fun c hc k hk => ?_, fun c hc => ?_⟩
  · cases a with
    | zero =>
      cases b with
      | zero => exact hab rfl
      | succ b =>
        simp at ha hb
        subst ha
        rcases hk1 with h3 | h3
        · exact K.dis 0 (b + 2) (F, p) d rfl (by simpa using hb) (by omega) k h3 hk2
        · exact K.dis 1 (b + 2) (G, q) d rfl (by simpa using hb) (by omega) k h3 hk2
    | succ a =>
      cases b with
      | zero =>
        simp at ha hb
        subst hb
        rcases hk2 with h3 | h3
        · exact K.dis 0 (a + 2) (F, p) c rfl (by simpa using ha) (by omega) k h3 hk1
        · exact K.dis 1 (a + 2) (G, q) c rfl (by simpa using ha) (by omega) k h3 hk1
      | succ b => exact K.dis (a + 2) (b + 2) c d (by simpa using ha) (by simpa using hb) (by omega) k hk1 hk2
  · rcases List.mem_cons.1 hc with rfl | hc
    · rcases hk with h3 | h3
      · exact K.own (F, p) (by simp) k h3
      · exact K.own (G, q) (by simp) k h3
    · exact K.own c (by simp [hc]) k hk
  · rcases List.mem_cons.1 hc with rfl | hc
    · exact h1.and h2
    · exact K.ck c (by simp [hc])
theorem _root_.Go.Sx.Blk.svn {m sz : Nat} {vs : List Value} (h : Blk w b vs e) (hl : vs.length = m * sz) : Sv w (some ⟨b, 0, none⟩) m sz vs :=
  ⟨hl, fun _ => rfl, h.cs_of fun j v hj => by simpa [ao] using hj⟩
theorem Hp.off2 {c d a : Chunk} {i j k9 : Nat} (H : Hp w0 S w l) (hi : cget l i = some c) (hj : cget l j = some d) (hk : cget l k9 = some a) (hij : Nat.beq i j = false) (hik : Nat.beq i k9 = false) : ∀ k, k < w.heap.size → c.1 k → ¬ (d.1 k ∨ a.1 k) := fun k h1 h2 h3 =>
  h3.elim (H.off i j hi hj hij k h1 h2) (H.off i k9 hi hk hik k h1 h2)
end
section
variable {P : Program} {n : Nat} {l : List (Nat × Value)} {a : Act} {o : Oper} {x y lo hi : Operand} {t t' e : TypeId}
theorem x_lenStr {ts : Array TypeId} {s : List UInt8} (hT : Sl n l a) (hop : o.op = .call { callee := .builtin .len, args := #[x], argTypes := ts }) (ht : ts = #[t]) (hu : P.underlying t = some .string) (hx : opnd l x = some (.string ⟨s.toArray⟩)) (w : World) : (execOp a.eval o).run P w = .ok (.value (.int .i64 s.length)) w := by
  have := x_len_string (P := P) hT hop ht hu hx w
  simpa [ByteArray.size] using this
end
/-! several ways that meet again -/
section
variable {n : Nat} {a : Act} {w w0 : World} {S : Nat → Prop} {m : List (Nat × Value)} {mc : List Chunk}
theorem wp_join {G : Type} {K X : Act → World → Prop} {C : Prop} (sl : G → List (Nat × Value)) (hp : G → List Chunk) (J : G → Prop) (hT : Sl n m a) (H : Hp w0 S w mc) (hK : ∀ a w, X a w → K a w)
    (tail : ∀ g a w, J g → Sl n (sl g ++ m) a → Hp w0 S w (hp g ++ mc) → X a w) (k : (∀ g a w, J g → Sl n (sl g ++ m) a → Hp w0 S w (hp g ++ mc) → K a w) → C) : C :=
  k fun g a w h1 h2 h3 => hK _ _ (tail g a w h1 h2 h3)
end
/-! floats and their bits -/
section
variable {P : Program} {n : Nat} {l : List (Nat × Value)} {a : Act} {o : Oper}
theorem x_extern {f : FuncId} {fn : Func} {e : Array Value → Sem Value} {xs : List Operand} {ts : Array TypeId} {vs : List Value} {v : Value} (hT : Sl n l a) (hop : o.op = .call { callee := .value (.func f), args := xs.toArray, argTypes := ts }) (hx : opnds l xs = some vs)
    (hf : P.funcs[f]? = some fn) (hname : (fn.name == "runtime.NumGoroutine") = false) (hb : fn.body.isNone = true) (hn : Extern.findNext fn = none) (he : Extern.find fn = some e) (w : World) (hv : (e vs.toArray).run P w = .ok v w) :
    (execOp a.eval o).run P w = .ok (.value v) w := by
  simp [execOp, hop, resolve, Deferred.ofValue, invoke, Act.eval, run_callFunc_extern hf hname hb hn he, hv, hT.evals hx, Result.andThen]
theorem run_f64bits (b : Nat) (w : World) : (Extern.MathFloatBits.float64bits #[.float .f64 b]).run P w = .ok (.int .u64 b) w := rfl
theorem run_f64frombits (z : Int) (w : World) : (Extern.MathFloatBits.float64frombits #[.int .u64 z]).run P w = .ok (.float .f64 z.toNat) w := rfl
end
/-! floats held against one another; bits of whole numbers without a sign -/
section
variable {P : Program} {n : Nat} {l : List (Nat × Value)} {a : Act} {o : Oper} {x y : Operand} {t t' : TypeId} {p q : Int}
theorem x_fne {k : FloatKind} {b c : Nat} (hT : Sl n l a) (hop : o.op = .binOp .neq t x y t') (hx : opnd l x = some (.float k b)) (hy : opnd l y = some (.float k c)) (w : World) : (execOp a.eval o).run P w = .ok (.value (.bool (!Op.floatEq k b c))) w :=
  x_neq hT hop hx hy rfl (by simp [binOp, Op.floatCmp, Op.floatEq, bne])
end
/-! a new block as a row -/
theorem Blk.rowN {w : World} {b : Nat} {e : TypeId} {cs : List Value} {n : Nat} (sz : Nat) (h : Blk w b cs e) (hl : cs.length = n * sz) (hm : n ≤ maxLen) : Row w e sz (some ⟨b, 0, none⟩) n n cs :=
  ⟨hl, .inr ⟨[], rfl, by rw [List.append_nil]; exact h, by rw [List.append_nil]; exact hl, Nat.le_refl _, hm⟩⟩
/-! the two halves of a byte -/
section
variable {P : Program} {n : Nat} {l : List (Nat × Value)} {a : Act} {o : Oper} {x y : Operand} {t t' : TypeId}
end
end Go.Sx
