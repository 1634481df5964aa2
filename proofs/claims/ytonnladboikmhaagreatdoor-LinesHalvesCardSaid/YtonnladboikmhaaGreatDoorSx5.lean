/- Shorter steps: several equations of a step as one, and the way from a region to the next one in one theorem. -/
import Derived.Test.YtonnladboikmhaaGreatDoorSx1
set_option linter.unusedSimpArgs false
set_option linter.unusedVariables false
namespace Go.Sx
section
variable {nz : Sz} {P : Program} {ops : Array Oper} {Q : Exit → Act → World → Prop} {H : World → Prop} {n : Nat} {l m : List (Nat × Value)} {a : Act} {w : World} {s : List (Nat × How)} {i d : Nat} {o : Oper} {v : Value} {x y : Operand} {t t' : TypeId}
theorem tk (hT : Sl nz l a) (e : (ops[i]?, o.dst, Nat.blt d nz.n, wantedIn ops l o.guard) = (some o, some d, true, some true)) (hv : ∀ w, (execOp a.eval o).run P w = .ok (.value v) w)
    (k : ∀ a', Sl nz ((d, v) :: l) a' → Ser P ops Q H s a' w) : Ser P ops Q H ((i, .take) :: s) a w := by
  simp only [Prod.mk.injEq] at e
  exact st_take hT e.1 e.2.1 e.2.2.1 e.2.2.2 hv k
theorem sk (hT : Sl nz l a) (e : (ops[i]?, o.dst, Nat.blt d nz.n, wantedIn ops l o.guard) = (some o, some d, true, some false))
    (k : ∀ a', Sl nz ((d, undef) :: l) a' → Ser P ops Q H s a' w) : Ser P ops Q H ((i, .take) :: s) a w := by
  simp only [Prod.mk.injEq] at e
  exact st_skip hT e.1 e.2.1 e.2.2.1 e.2.2.2 k
theorem rn {w' : World} (hT : Sl nz l a) (e : (ops[i]?, o.dst, Nat.blt d nz.n, wantedIn ops l o.guard) = (some o, some d, true, some true)) (hv : (execOp a.eval o).run P w = .ok (.value v) w')
    (k : ∀ a', Sl nz ((d, v) :: l) a' → Ser P ops Q H s a' w') : Ser P ops Q H ((i, .run) :: s) a w := by
  simp only [Prod.mk.injEq] at e
  exact st_run hT e.1 e.2.1 e.2.2.1 e.2.2.2 hv k
theorem hed (hT : Sl nz l a) (e : (ops[i]?, o.dst, Nat.blt d nz.n, wantedIn ops l o.guard) = (some o, some d, true, some true)) (hH : H w) (hv : ∀ w, H w → (execOp a.eval o).run P w = .ok (.value v) w)
    (k : ∀ a', Sl nz ((d, v) :: l) a' → Ser P ops Q H s a' w) : Ser P ops Q H ((i, .held) :: s) a w := by
  simp only [Prod.mk.injEq] at e
  exact st_held hT e.1 e.2.1 e.2.2.1 e.2.2.2 hH hv k
theorem mv (hT : Sl nz l a) (e : (ops[i]?, o.dst, Nat.blt d nz.n, wantedIn ops l o.guard, o.op, opnd l x) = (some o, some d, true, some true, .move x, some v))
    (k : ∀ a', Sl nz ((d, v) :: l) a' → Ser P ops Q H s a' w) : Ser P ops Q H ((i, .take) :: s) a w := by
  simp only [Prod.mk.injEq] at e
  exact st_take hT e.1 e.2.1 e.2.2.1 e.2.2.2.1 (x_move hT e.2.2.2.2.1 e.2.2.2.2.2) k
theorem asn (hT : Sl nz l a) (e : (ops[i]?, o.dst, Nat.blt d nz.n, wantedIn ops l o.guard, o.op, opnd l x) = (some o, some d, true, some true, .assign x, some v))
    (k : ∀ a', Sl nz ((d, v) :: l) a' → Ser P ops Q H s a' w) : Ser P ops Q H ((i, .take) :: s) a w := by
  simp only [Prod.mk.injEq] at e
  exact st_take hT e.1 e.2.1 e.2.2.1 e.2.2.2.1 (x_assign hT e.2.2.2.2.1 e.2.2.2.2.2) k
theorem nck {ad : Addr} (hT : Sl nz l a) (e : (ops[i]?, o.dst, Nat.blt d nz.n, wantedIn ops l o.guard, o.op, opnd l x) = (some o, some d, true, some true, .nilCheck x, some (.pointer (some ad))))
    (k : ∀ a', Sl nz ((d, .pointer (some ad)) :: l) a' → Ser P ops Q H s a' w) : Ser P ops Q H ((i, .take) :: s) a w := by
  simp only [Prod.mk.injEq] at e
  exact st_take hT e.1 e.2.1 e.2.2.1 e.2.2.2.1 (x_nilCheck hT e.2.2.2.2.1 e.2.2.2.2.2) k
theorem fad {r : TypeId} {f k b off : Nat} (hT : Sl nz l a) (hfa : FA P r f k) (e : (ops[i]?, o.dst, Nat.blt d nz.n, wantedIn ops l o.guard, o.op, opnd l x) = (some o, some d, true, some true, .fieldAddr r x f, some (.pointer (some ⟨b, off, none⟩))))
    (k : ∀ a', Sl nz ((d, .pointer (some ⟨b, off + k, none⟩)) :: l) a' → Ser P ops Q H s a' w) : Ser P ops Q H ((i, .take) :: s) a w := by
  simp only [Prod.mk.injEq] at e
  exact st_take hT e.1 e.2.1 e.2.2.1 e.2.2.2.1 (x_fieldAddr hT e.2.2.2.2.1 hfa e.2.2.2.2.2) k
end
section
variable {nz : Sz} {P : Program} {ops : Array Oper} {Q : Exit → Act → World → Prop} {H : World → Prop} {n : Nat} {l m : List (Nat × Value)} {a : Act} {w : World} {c c1 c2 : Code}
/-- the rest of a sequence, and of it the first -/
theorem nx {K0 : Act → World → Prop} (k : ∀ K : Act → World → Prop, (∀ a w, c2.wp P Q a w → K a w) → c1.wp P (Exit.then K Q) a w) (h0 : ∀ a w, (Code.seq c1 c2).wp P Q a w → K0 a w) : Exit.then K0 Q .normal a w :=
  h0 _ _ (wp_seq_k k)
/-- a region is done: the next one in the order of its text -/
theorem rg {K0 : Act → World → Prop} {id : Nat} {ops2 : Array Oper} (ks : List Nat) (s : List (Nat × How)) (hm : (picks l ks, s.map Prod.fst) = (some m, List.range ops2.size))
    (k : ∀ K : Act → World → Prop, (∀ a w, c2.wp P Q a w → K a w) → Sl nz m a → Ser P ops2 (Exit.then K Q) (fun _ => True) s a w) (h0 : ∀ a w, (Code.seq (.region id ops2 false) c2).wp P Q a w → K0 a w) (hT : Sl nz l a) : Ser P ops (Exit.then K0 Q) H [] a w := by
  simp only [Prod.mk.injEq] at hm
  exact ser_nil (h0 _ _ (wp_seq_k fun K hK => wp_text s hm.2 (k K hK (hT.keep ks hm.1))))
/-- a region is done: the next one is a sequence again -/
theorem rq {K0 : Act → World → Prop} (ks : List Nat) (hm : picks l ks = some m)
    (k : ∀ K : Act → World → Prop, (∀ a w, c2.wp P Q a w → K a w) → Sl nz m a → c1.wp P (Exit.then K Q) a w) (h0 : ∀ a w, (Code.seq c1 c2).wp P Q a w → K0 a w) (hT : Sl nz l a) : Ser P ops (Exit.then K0 Q) H [] a w :=
  ser_nil (h0 _ _ (wp_seq_k fun K hK => k K hK (hT.keep ks hm)))
/-- a region is done: behind it there is one thing left -/
theorem rp {K0 : Act → World → Prop} (ks : List Nat) (hm : picks l ks = some m)
    (k : Sl nz m a → c.wp P Q a w) (h0 : ∀ a w, c.wp P Q a w → K0 a w) (hT : Sl nz l a) : Ser P ops (Exit.then K0 Q) H [] a w :=
  ser_nil (h0 _ _ (k (hT.keep ks hm)))
/-- a region is done: it forks -/
theorem rif {K0 : Act → World → Prop} {x : Operand} {y z : Code} {b : Bool} (ks : List Nat) (hm : (picks l ks, opnd m x) = (some m, some (.bool b)))
    (ht : Sl nz m a → b = true → y.wp P Q a w) (hf : Sl nz m a → b = false → z.wp P Q a w) (h0 : ∀ a w, (Code.cond x y z).wp P Q a w → K0 a w) (hT : Sl nz l a) : Ser P ops (Exit.then K0 Q) H [] a w := by
  simp only [Prod.mk.injEq] at hm
  have h1 := hT.keep ks hm.1
  exact ser_nil (h0 _ _ (wp_if h1 hm.2 (ht h1) (hf h1)))
theorem sj {id : Nat} (s : List (Nat × How)) (hm : s.map Prod.fst = List.range ops.size)
    (k : ∀ K : Act → World → Prop, (∀ a w, c2.wp P Q a w → K a w) → Ser P ops (Exit.then K Q) (fun _ => True) s a w) : (Code.seq (.region id ops false) c2).wp P Q a w :=
  wp_seq_k fun K hK => wp_text s hm (k K hK)
/-- a drawn region over a heap -/
theorem drw {w0 : World} {S : Nat → Prop} {mc : List Chunk} {id : Nat} (T : Nat → Prop) (s : List (Nat × How)) (hm : P.follows .mixedOrders = true)
    (hs : (Region.noSelect ops && Nat.ble s.length ops.size && good .any ops (mark s) s (Array.replicate ops.size false)) = true)
    (h : ∀ u, Hp w0 S u mc → Ext T u u → Ser P ops (Calm Q) (fun u' => Ext T u u') s a u) (H : Hp w0 S w mc) : (Code.region id ops true).wp P Q a w :=
  wp_draws (fun u => Ext T u) s hm hs fun u E _ => h u (H.pure E) (Ext.refl _ _)
theorem dn {R : Ending → World → Prop} {t : Tmp} {v : Value} {kz : Nat} (fn : Func) (hT : Sl ⟨kz, []⟩ l a) (e : (fn.results, look l t) = (#[.tmp t], some v)) (h : R (.returned v) w) : bodyPost P fn R .ret a w := by
  simp only [Prod.mk.injEq] at e
  exact done1 hT e.1 (.tmp (hT.get t _ e.2)) h
@[reducible] def zz : Nat → List How → List (Nat × How)
  | _, [] => []
  | i, x :: xs => (i, x) :: zz (i + 1) xs
end
@[reducible] def tt : How := .take
@[reducible] def uu : How := .run
@[reducible] def kk : How := .keep
end Go.Sx
