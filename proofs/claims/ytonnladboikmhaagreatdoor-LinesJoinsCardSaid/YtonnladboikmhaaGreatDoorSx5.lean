/- Shorter steps: several equations of a step as one, and the way from a region to the next one in one theorem. -/
import Derived.Test.YtonnladboikmhaaGreatDoorSx1
set_option linter.unusedSimpArgs false
set_option linter.unusedVariables false
namespace Go.Sx
section
variable {nz : Sz} {P : Program} {ops : Array Oper} {Q : Exit → Act → World → Prop} {H : World → Prop} {n : Nat} {l m : List (Nat × Value)} {a : Act} {w : World} {s : List (Nat × How)} {i d : Nat} {o : Oper} {v : Value} {x y : Operand} {t t' : TypeId}
theorem tk (hT : Sl nz l a) (e : (ops[i]?, o.dst, Nat.blt d nz.n, wantedIn ops l o.guard) = (some o, some d, true, some true)) (hv : ∀ w, (execOp a.eval o).run P w = .ok (.value v) w)
    (k : ∀ a', Sl nz ((d, v) :: l) a' → Ser P ops Q H s a' w) : Ser P ops Q H ((i, .take) :: s) a w := by
  simp only [Prod.mk.injEq] at e
  exact st_take hT e.1 e.2.1 e.2.2.1 e.2.2.2 hv k
theorem sk (hT : Sl nz l a) (e : (ops[i]?, o.dst, Nat.blt d nz.n, wantedIn ops l o.guard) = (some o, some d, true, some false))
    (k : ∀ a', Sl nz ((d, undef) :: l) a' → Ser P ops Q H s a' w) : Ser P ops Q H ((i, .take) :: s) a w := by
  simp only [Prod.mk.injEq] at e
  exact st_skip hT e.1 e.2.1 e.2.2.1 e.2.2.2 k
theorem rn {w' : World} (hT : Sl nz l a) (e : (ops[i]?, o.dst, Nat.blt d nz.n, wantedIn ops l o.guard) = (some o, some d, true, some true)) (hv : (execOp a.eval o).run P w = .ok (.value v) w')
    (k : ∀ a', Sl nz ((d, v) :: l) a' → Ser P ops Q H s a' w') : Ser P ops Q H ((i, .run) :: s) a w := by
  simp only [Prod.mk.injEq] at e
  exact st_run hT e.1 e.2.1 e.2.2.1 e.2.2.2 hv k
theorem hed (hT : Sl nz l a) (e : (ops[i]?, o.dst, Nat.blt d nz.n, wantedIn ops l o.guard) = (some o, some d, true, some true)) (hH : H w) (hv : ∀ w, H w → (execOp a.eval o).run P w = .ok (.value v) w)
    (k : ∀ a', Sl nz ((d, v) :: l) a' → Ser P ops Q H s a' w) : Ser P ops Q H ((i, .held) :: s) a w := by
  simp only [Prod.mk.injEq] at e
  exact st_held hT e.1 e.2.1 e.2.2.1 e.2.2.2 hH hv k
theorem mv (hT : Sl nz l a) (e : (ops[i]?, o.dst, Nat.blt d nz.n, wantedIn ops l o.guard, o.op, opnd l x) = (some o, some d, true, some true, .move x, some v))
    (k : ∀ a', Sl nz ((d, v) :: l) a' → Ser P ops Q H s a' w) : Ser P ops Q H ((i, .take) :: s) a w := by
  simp only [Prod.mk.injEq] at e
  exact st_take hT e.1 e.2.1 e.2.2.1 e.2.2.2.1 (x_move hT e.2.2.2.2.1 e.2.2.2.2.2) k
theorem asn (hT : Sl nz l a) (e : (ops[i]?, o.dst, Nat.blt d nz.n, wantedIn ops l o.guard, o.op, opnd l x) = (some o, some d, true, some true, .assign x, some v))
    (k : ∀ a', Sl nz ((d, v) :: l) a' → Ser P ops Q H s a' w) : Ser P ops Q H ((i, .take) :: s) a w := by
  simp only [Prod.mk.injEq] at e
  exact st_take hT e.1 e.2.1 e.2.2.1 e.2.2.2.1 (x_assign hT e.2.2.2.2.1 e.2.2.2.2.2) k
theorem nck {ad : Addr} (hT : Sl nz l a) (e : (ops[i]?, o.dst, Nat.blt d nz.n, wantedIn ops l o.guard, o.op, opnd l x) = (some o, some d, true, some true, .nilCheck x, some (.pointer (some ad))))
    (k : ∀ a', Sl nz ((d, .pointer (some ad)) :: l) a' → Ser P ops Q H s a' w) : Ser P ops Q H ((i, .take) :: s) a w := by
  simp only [Prod.mk.injEq] at e
  exact st_take hT e.1 e.2.1 e.2.2.1 e.2.2.2.1 (x_nilCheck hT e.2.2.2.2.1 e.2.2.2.2.2) k
theorem fad {r : TypeId} {f k b off : Nat} (hT : Sl nz l a) (hfa : FA P r f k) (e : (ops[i]?, o.dst, Nat.blt d nz.n, wantedIn ops l o.guard, o.op, opnd l x) = (some o, some d, true, some true, .fieldAddr r x f, some (.pointer (some ⟨b, off, none⟩))))
    (k : ∀ a', Sl nz ((d, .pointer (some ⟨b, off + k, none⟩)) :: l) a' → Ser P ops Q H s a' w) : Ser P ops Q H ((i, .take) :: s) a w := by
  simp only [Prod.mk.injEq] at e
  exact st_take hT e.1 e.2.1 e.2.2.1 e.2.2.2.1 (x_fieldAddr hT e.2.2.2.2.1 hfa e.2.2.2.2.2) k
end
section
variable {nz : Sz} {P : Program} {ops : Array Oper} {Q : Exit → Act → World → Prop} {H : World → Prop} {n : Nat} {l m : List (Nat × Value)} {a : Act} {w : World} {c c1 c2 : Code}
/-- the rest of a sequence, and of it the first -/
theorem nx {K0 : Act → World → Prop} (k : ∀ K : Act → World → Prop, (∀ a w, c2.wp P Q a w → K a w) → c1.wp P (Exit.then K Q) a w) (h0 : ∀ a w, (Code.seq c1 c2).wp P Q a w → K0 a w) : Exit.then K0 Q .normal a w :=
  h0 _ _ (wp_seq_k k)
/-- a region is done: the next one in the order of its text -/
theorem rg {K0 : Act → World → Prop} {id : Nat} {ops2 : Array Oper} (ks : List Nat) (s : List (Nat × How)) (hm : (picks l ks, s.map Prod.fst) = (some m, List.range ops2.size))
    (k : ∀ K : Act → World → Prop, (∀ a w, c2.wp P Q a w → K a w) → Sl nz m a → Ser P ops2 (Exit.then K Q) (fun _ => True) s a w) (h0 : ∀ a w, (Code.seq (.region id ops2 false) c2).wp P Q a w → K0 a w) (hT : Sl nz l a) : Ser P ops (Exit.then K0 Q) H [] a w := by
  simp only [Prod.mk.injEq] at hm
  exact ser_nil (h0 _ _ (wp_seq_k fun K hK => wp_text s hm.2 (k K hK (hT.keep ks hm.1))))
/-- a region is done: the next one is a sequence again -/
theorem rq {K0 : Act → World → Prop} (ks : List Nat) (hm : picks l ks = some m)
    (k : ∀ K : Act → World → Prop, (∀ a w, c2.wp P Q a w → K a w) → Sl nz m a → c1.wp P (Exit.then K Q) a w) (h0 : ∀ a w, (Code.seq c1 c2).wp P Q a w → K0 a w) (hT : Sl nz l a) : Ser P ops (Exit.then K0 Q) H [] a w :=
  ser_nil (h0 _ _ (wp_seq_k fun K hK => k K hK (hT.keep ks hm)))
/-- a region is done: behind it there is one thing left -/
theorem rp {K0 : Act → World → Prop} (ks : List Nat) (hm : picks l ks = some m)
    (k : Sl nz m a → c.wp P Q a w) (h0 : ∀ a w, c.wp P Q a w → K0 a w) (hT : Sl nz l a) : Ser P ops (Exit.then K0 Q) H [] a w :=
  ser_nil (h0 _ _ (k (hT.keep ks hm)))
/-- a region is done: it forks -/
theorem rif {K0 : Act → World → Prop} {x : Operand} {y z : Code} {b : Bool} (ks : List Nat) (hm : (picks l ks, opnd m x) = (some m, some (.bool b)))
    (ht : Sl nz m a → b = true → y.wp P Q a w) (hf : Sl nz m a → b = false → z.wp P Q a w) (h0 : ∀ a w, (Code.cond x y z).wp P Q a w → K0 a w) (hT : Sl nz l a) : Ser P ops (Exit.then K0 Q) H [] a w := by
  simp only [Prod.mk.injEq] at hm
  have h1 := hT.keep ks hm.1
  exact ser_nil (h0 _ _ (wp_if h1 hm.2 (ht h1) (hf h1)))
theorem sj {id : Nat} (s : List (Nat × How)) (hm : s.map Prod.fst = List.range ops.size)
    (k : ∀ K : Act → World → Prop, (∀ a w, c2.wp P Q a w → K a w) → Ser P ops (Exit.then K Q) (fun _ => True) s a w) : (Code.seq (.region id ops false) c2).wp P Q a w :=
  wp_seq_k fun K hK => wp_text s hm (k K hK)
/-- a drawn region over a heap -/
theorem drw {w0 : World} {S : Nat → Prop} {mc : List Chunk} {id : Nat} (T : Nat → Prop) (s : List (Nat × How)) (hm : P.follows .mixedOrders = true)
    (hs : (Region.noSelect ops && Nat.ble s.length ops.size && good .any ops (mark s) s (Array.replicate ops.size false)) = true)
    (h : ∀ u, Hp w0 S u mc → Ext T u u → Ser P ops (Calm Q) (fun u' => Ext T u u') s a u) (H : Hp w0 S w mc) : (Code.region id ops true).wp P Q a w :=
  wp_draws (fun u => Ext T u) s hm hs fun u E _ => h u (H.pure E) (Ext.refl _ _)
theorem dn {R : Ending → World → Prop} {t : Tmp} {v : Value} {kz : Nat} (fn : Func) (hT : Sl ⟨kz, []⟩ l a) (e : (fn.results, look l t) = (#[.tmp t], some v)) (h : R (.returned v) w) : bodyPost P fn R .ret a w := by
  simp only [Prod.mk.injEq] at e
  exact done1 hT e.1 (.tmp (hT.get t _ e.2)) h
@[reducible] def zz : Nat → List How → List (Nat × How)
  | _, [] => []
  | i, x :: xs => (i, x) :: zz (i + 1) xs
end
/-! steps in which all that is to be seen is one equation -/
section
variable {nz : Sz} {P : Program} {ops : Array Oper} {Q : Exit → Act → World → Prop} {H : World → Prop} {l : List (Nat × Value)} {a : Act} {w : World} {s : List (Nat × How)} {i d : Nat} {o : Oper} {v : Value} {x y c : Operand} {t t' : TypeId} {k9 : IntKind} {p q : Int}
theorem pt (hT : Sl nz l a) (e : (ops[i]?, o.dst, Nat.blt d nz.n, wantedIn ops l o.guard, o.op, opnd l c, opnd l x) = (some o, some d, true, some true, .pick c x y, some (.bool true), some v))
    (k : ∀ a', Sl nz ((d, v) :: l) a' → Ser P ops Q H s a' w) : Ser P ops Q H ((i, .take) :: s) a w := by
  simp only [Prod.mk.injEq] at e
  exact st_take hT e.1 e.2.1 e.2.2.1 e.2.2.2.1 (x_pick_t hT e.2.2.2.2.1 e.2.2.2.2.2.1 e.2.2.2.2.2.2) k
theorem pf (hT : Sl nz l a) (e : (ops[i]?, o.dst, Nat.blt d nz.n, wantedIn ops l o.guard, o.op, opnd l c, opnd l y) = (some o, some d, true, some true, .pick c x y, some (.bool false), some v))
    (k : ∀ a', Sl nz ((d, v) :: l) a' → Ser P ops Q H s a' w) : Ser P ops Q H ((i, .take) :: s) a w := by
  simp only [Prod.mk.injEq] at e
  exact st_take hT e.1 e.2.1 e.2.2.1 e.2.2.2.1 (x_pick_f hT e.2.2.2.2.1 e.2.2.2.2.2.1 e.2.2.2.2.2.2) k
theorem tlt (hT : Sl nz l a) (e : (ops[i]?, o.dst, Nat.blt d nz.n, wantedIn ops l o.guard, o.op, opnd l x, opnd l y) = (some o, some d, true, some true, .binOp .lss t x y t', some (.int k9 p), some (.int k9 q)))
    (k : ∀ a', Sl nz ((d, .bool (decide (p < q))) :: l) a' → Ser P ops Q H s a' w) : Ser P ops Q H ((i, .take) :: s) a w := by
  simp only [Prod.mk.injEq] at e
  exact st_take hT e.1 e.2.1 e.2.2.1 e.2.2.2.1 (fun w => x_lt w hT e.2.2.2.2.1 e.2.2.2.2.2.1 e.2.2.2.2.2.2) k
theorem tle (hT : Sl nz l a) (e : (ops[i]?, o.dst, Nat.blt d nz.n, wantedIn ops l o.guard, o.op, opnd l x, opnd l y) = (some o, some d, true, some true, .binOp .leq t x y t', some (.int k9 p), some (.int k9 q)))
    (k : ∀ a', Sl nz ((d, .bool (decide (p ≤ q))) :: l) a' → Ser P ops Q H s a' w) : Ser P ops Q H ((i, .take) :: s) a w := by
  simp only [Prod.mk.injEq] at e
  exact st_take hT e.1 e.2.1 e.2.2.1 e.2.2.2.1 (fun w => x_le w hT e.2.2.2.2.1 e.2.2.2.2.2.1 e.2.2.2.2.2.2) k
theorem tgt (hT : Sl nz l a) (e : (ops[i]?, o.dst, Nat.blt d nz.n, wantedIn ops l o.guard, o.op, opnd l x, opnd l y) = (some o, some d, true, some true, .binOp .gtr t x y t', some (.int k9 p), some (.int k9 q)))
    (k : ∀ a', Sl nz ((d, .bool (decide (q < p))) :: l) a' → Ser P ops Q H s a' w) : Ser P ops Q H ((i, .take) :: s) a w := by
  simp only [Prod.mk.injEq] at e
  exact st_take hT e.1 e.2.1 e.2.2.1 e.2.2.2.1 (fun w => x_gt w hT e.2.2.2.2.1 e.2.2.2.2.2.1 e.2.2.2.2.2.2) k
theorem tge (hT : Sl nz l a) (e : (ops[i]?, o.dst, Nat.blt d nz.n, wantedIn ops l o.guard, o.op, opnd l x, opnd l y) = (some o, some d, true, some true, .binOp .geq t x y t', some (.int k9 p), some (.int k9 q)))
    (k : ∀ a', Sl nz ((d, .bool (decide (q ≤ p))) :: l) a' → Ser P ops Q H s a' w) : Ser P ops Q H ((i, .take) :: s) a w := by
  simp only [Prod.mk.injEq] at e
  exact st_take hT e.1 e.2.1 e.2.2.1 e.2.2.2.1 (fun w => x_ge w hT e.2.2.2.2.1 e.2.2.2.2.2.1 e.2.2.2.2.2.2) k
theorem teq (hT : Sl nz l a) (e : (ops[i]?, o.dst, Nat.blt d nz.n, wantedIn ops l o.guard, o.op, opnd l x, opnd l y) = (some o, some d, true, some true, .binOp .eql t x y t', some (.int k9 p), some (.int k9 q)))
    (k : ∀ a', Sl nz ((d, .bool (decide (p = q))) :: l) a' → Ser P ops Q H s a' w) : Ser P ops Q H ((i, .take) :: s) a w := by
  simp only [Prod.mk.injEq] at e
  exact st_take hT e.1 e.2.1 e.2.2.1 e.2.2.2.1 (fun w => x_eq w hT e.2.2.2.2.1 e.2.2.2.2.2.1 e.2.2.2.2.2.2) k
theorem tne (hT : Sl nz l a) (e : (ops[i]?, o.dst, Nat.blt d nz.n, wantedIn ops l o.guard, o.op, opnd l x, opnd l y) = (some o, some d, true, some true, .binOp .neq t x y t', some (.int k9 p), some (.int k9 q)))
    (k : ∀ a', Sl nz ((d, .bool (!decide (p = q))) :: l) a' → Ser P ops Q H s a' w) : Ser P ops Q H ((i, .take) :: s) a w := by
  simp only [Prod.mk.injEq] at e
  exact st_take hT e.1 e.2.1 e.2.2.1 e.2.2.2.1 (fun w => x_ne w hT e.2.2.2.2.1 e.2.2.2.2.2.1 e.2.2.2.2.2.2) k
theorem nt {b : Bool} (hT : Sl nz l a) (e : (ops[i]?, o.dst, Nat.blt d nz.n, wantedIn ops l o.guard, o.op, opnd l x) = (some o, some d, true, some true, .unOp .not t x, some (.bool b)))
    (k : ∀ a', Sl nz ((d, .bool (!b)) :: l) a' → Ser P ops Q H s a' w) : Ser P ops Q H ((i, .take) :: s) a w := by
  simp only [Prod.mk.injEq] at e
  exact st_take hT e.1 e.2.1 e.2.2.1 e.2.2.2.1 (x_not hT e.2.2.2.2.1 e.2.2.2.2.2) k
theorem tad (hT : Sl nz l a) (e : (ops[i]?, o.dst, Nat.blt d nz.n, wantedIn ops l o.guard, o.op, opnd l x, opnd l y) = (some o, some d, true, some true, .binOp .add t x y t', some (.int .i64 p), some (.int .i64 q)))
    (h : -9223372036854775808 ≤ p + q ∧ p + q ≤ 9223372036854775807) (k : ∀ a', Sl nz ((d, .int .i64 (p + q)) :: l) a' → Ser P ops Q H s a' w) : Ser P ops Q H ((i, .take) :: s) a w := by
  simp only [Prod.mk.injEq] at e
  exact st_take hT e.1 e.2.1 e.2.2.1 e.2.2.2.1 (fun w => x_add w hT e.2.2.2.2.1 e.2.2.2.2.2.1 e.2.2.2.2.2.2 (wrap64 h)) k
theorem tsb (hT : Sl nz l a) (e : (ops[i]?, o.dst, Nat.blt d nz.n, wantedIn ops l o.guard, o.op, opnd l x, opnd l y) = (some o, some d, true, some true, .binOp .sub t x y t', some (.int .i64 p), some (.int .i64 q)))
    (h : -9223372036854775808 ≤ p - q ∧ p - q ≤ 9223372036854775807) (k : ∀ a', Sl nz ((d, .int .i64 (p - q)) :: l) a' → Ser P ops Q H s a' w) : Ser P ops Q H ((i, .take) :: s) a w := by
  simp only [Prod.mk.injEq] at e
  exact st_take hT e.1 e.2.1 e.2.2.1 e.2.2.2.1 (fun w => x_sub w hT e.2.2.2.2.1 e.2.2.2.2.2.1 e.2.2.2.2.2.2 (wrap64 h)) k
theorem tml (hT : Sl nz l a) (e : (ops[i]?, o.dst, Nat.blt d nz.n, wantedIn ops l o.guard, o.op, opnd l x, opnd l y) = (some o, some d, true, some true, .binOp .mul t x y t', some (.int .i64 p), some (.int .i64 q)))
    (h : -9223372036854775808 ≤ p * q ∧ p * q ≤ 9223372036854775807) (k : ∀ a', Sl nz ((d, .int .i64 (p * q)) :: l) a' → Ser P ops Q H s a' w) : Ser P ops Q H ((i, .take) :: s) a w := by
  simp only [Prod.mk.injEq] at e
  exact st_take hT e.1 e.2.1 e.2.2.1 e.2.2.2.1 (fun w => x_mul w hT e.2.2.2.2.1 e.2.2.2.2.2.1 e.2.2.2.2.2.2 (wrap64 h)) k
theorem xt {j : Nat} {vs : List Value} (hT : Sl nz l a) (e : (ops[i]?, o.dst, Nat.blt d nz.n, wantedIn ops l o.guard, o.op, opnd l x, nth vs j) = (some o, some d, true, some true, .extract x j, some (.tuple vs.toArray), some v))
    (k : ∀ a', Sl nz ((d, v) :: l) a' → Ser P ops Q H s a' w) : Ser P ops Q H ((i, .take) :: s) a w := by
  simp only [Prod.mk.injEq] at e
  exact st_take hT e.1 e.2.1 e.2.2.1 e.2.2.2.1 (x_extractL hT e.2.2.2.2.1 e.2.2.2.2.2.1 e.2.2.2.2.2.2) k
theorem bd {zs cs : List Value} {places : List (Nat × Nat)} {parts : List (Nat × Operand)} {vs : List (Nat × Value)} (hT : Sl nz l a) (hb : Bld P t zs.toArray places.toArray) (e : (ops[i]?, o.dst, Nat.blt d nz.n, wantedIn ops l o.guard, o.op, opndPs l parts, bldL (plc places) zs vs) = (some o, some d, true, some true, .build t parts.toArray, some vs, some cs))
    (k : ∀ a', Sl nz ((d, .agg cs.toArray) :: l) a' → Ser P ops Q H s a' w) : Ser P ops Q H ((i, .take) :: s) a w := by
  simp only [Prod.mk.injEq] at e
  exact st_take hT e.1 e.2.1 e.2.2.1 e.2.2.2.1 (x_bld hT e.2.2.2.2.1 hb e.2.2.2.2.2.1 e.2.2.2.2.2.2) k
theorem tls {ts : Array TypeId} {b : List UInt8} (hT : Sl nz l a) (hu : P.underlying t = some .string) (e : (ops[i]?, o.dst, Nat.blt d nz.n, wantedIn ops l o.guard, o.op, ts, opnd l x) = (some o, some d, true, some true, .call { callee := .builtin .len, args := #[x], argTypes := ts }, #[t], some (.string ⟨b.toArray⟩)))
    (k : ∀ a', Sl nz ((d, .int .i64 b.length) :: l) a' → Ser P ops Q H s a' w) : Ser P ops Q H ((i, .take) :: s) a w := by
  simp only [Prod.mk.injEq] at e
  exact st_take hT e.1 e.2.1 e.2.2.1 e.2.2.2.1 (x_lenStr hT e.2.2.2.2.1 e.2.2.2.2.2.1 hu e.2.2.2.2.2.2) k
theorem tln {ts : Array TypeId} {e9 : TypeId} {ad : Option Addr} {m c9 : Nat} (hT : Sl nz l a) (hu : P.underlying t = some (.slice e9)) (e : (ops[i]?, o.dst, Nat.blt d nz.n, wantedIn ops l o.guard, o.op, ts, opnd l x) = (some o, some d, true, some true, .call { callee := .builtin .len, args := #[x], argTypes := ts }, #[t], some (.slice ad m c9)))
    (k : ∀ a', Sl nz ((d, .int .i64 m) :: l) a' → Ser P ops Q H s a' w) : Ser P ops Q H ((i, .take) :: s) a w := by
  simp only [Prod.mk.injEq] at e
  exact st_take hT e.1 e.2.1 e.2.2.1 e.2.2.2.1 (x_len_slice hT e.2.2.2.2.1 e.2.2.2.2.2.1 hu e.2.2.2.2.2.2) k
theorem tse {b c : ByteArray} (hT : Sl nz l a) (e : (ops[i]?, o.dst, Nat.blt d nz.n, wantedIn ops l o.guard, o.op, opnd l x, opnd l y) = (some o, some d, true, some true, .binOp .eql t x y t', some (.string b), some (.string c)))
    (k : ∀ a', Sl nz ((d, .bool (decide (b.data.toList = c.data.toList))) :: l) a' → Ser P ops Q H s a' w) : Ser P ops Q H ((i, .take) :: s) a w := by
  simp only [Prod.mk.injEq] at e
  exact st_take hT e.1 e.2.1 e.2.2.1 e.2.2.2.1 (fun w => x_streq w hT e.2.2.2.2.1 e.2.2.2.2.2.1 e.2.2.2.2.2.2) k
theorem tsn {b c : ByteArray} (hT : Sl nz l a) (e : (ops[i]?, o.dst, Nat.blt d nz.n, wantedIn ops l o.guard, o.op, opnd l x, opnd l y) = (some o, some d, true, some true, .binOp .neq t x y t', some (.string b), some (.string c)))
    (k : ∀ a', Sl nz ((d, .bool (!decide (b.data.toList = c.data.toList))) :: l) a' → Ser P ops Q H s a' w) : Ser P ops Q H ((i, .take) :: s) a w := by
  simp only [Prod.mk.injEq] at e
  exact st_take hT e.1 e.2.1 e.2.2.1 e.2.2.2.1 (fun w => x_strne w hT e.2.2.2.2.1 e.2.2.2.2.2.1 e.2.2.2.2.2.2) k
theorem tct {b c : List UInt8} (hT : Sl nz l a) (e : (ops[i]?, o.dst, Nat.blt d nz.n, wantedIn ops l o.guard, o.op, opnd l x, opnd l y) = (some o, some d, true, some true, .binOp .add t x y t', some (.string ⟨b.toArray⟩), some (.string ⟨c.toArray⟩)))
    (h : b.length + c.length ≤ 9223372036854775807) (k : ∀ a', Sl nz ((d, .string ⟨(b ++ c).toArray⟩) :: l) a' → Ser P ops Q H s a' w) : Ser P ops Q H ((i, .take) :: s) a w := by
  simp only [Prod.mk.injEq] at e
  exact st_take hT e.1 e.2.1 e.2.2.1 e.2.2.2.1 (fun w => x_catL w hT e.2.2.2.2.1 e.2.2.2.2.2.1 e.2.2.2.2.2.2 h) k
theorem tld {b j : Nat} {cs : List Value} (hT : Sl nz l a) (hf : Flat P t) (hb : Blk w b cs t') (e : (ops[i]?, o.dst, Nat.blt d nz.n, wantedIn ops l o.guard, o.op, opnd l x, nth cs j) = (some o, some d, true, some true, .load t x, some (.pointer (some ⟨b, j, none⟩)), some v))
    (k : ∀ a', Sl nz ((d, v) :: l) a' → Ser P ops Q H s a' w) : Ser P ops Q H ((i, .run) :: s) a w := by
  simp only [Prod.mk.injEq] at e
  exact st_run hT e.1 e.2.1 e.2.2.1 e.2.2.2.1 (x_load1 hT e.2.2.2.2.1 hf e.2.2.2.2.2.1 (hb.nth e.2.2.2.2.2.2)) k
theorem cal {w0 : World} {S : Nat → Prop} {mc : List Chunk} {f : FuncId} {xs : List Operand} {ts : Array TypeId} {vs : List Value} (hT : Sl nz l a) (hH : Hp w0 S w mc) (hc : Can P f) (e : (ops[i]?, o.op, o.dst, Nat.blt d nz.n, wantedIn ops l o.guard, opnds l xs) = (some o, .call { callee := .value (.func f), args := xs.toArray, argTypes := ts }, some d, true, some true, some vs))
    (hC : Calls P f vs.toArray w fun e w' => e = .returned v ∧ Ext No w w') (k : ∀ w', Hp w0 S w' mc → ∀ a', Sl nz ((d, v) :: l) a' → Ser P ops Q H s a' w') : Ser P ops Q H ((i, .run) :: s) a w := by
  simp only [Prod.mk.injEq] at e
  exact st_call hT e.1 e.2.1 e.2.2.1 e.2.2.2.1 e.2.2.2.2.1 hc e.2.2.2.2.2 hC fun e9 w' h => ⟨v, h.1, k w' (hH.pure h.2)⟩
theorem calk {w0 : World} {S : Nat → Prop} {mc : List Chunk} {T : Nat → Prop} {u : World} {f : FuncId} {xs : List Operand} {ts : Array TypeId} {vs : List Value} (hT : Sl nz l a) (hH : Ext T u w) (hP : Hp w0 S w mc) (hc : Can P f) (e : (ops[i]?, o.op, o.dst, Nat.blt d nz.n, wantedIn ops l o.guard, opnds l xs) = (some o, .call { callee := .value (.func f), args := xs.toArray, argTypes := ts }, some d, true, some true, some vs))
    (hC : Calls P f vs.toArray w fun e w' => e = .returned v ∧ Ext No w w') (k : ∀ w', Ext T u w' → Hp w0 S w' mc → ∀ a', Sl nz ((d, v) :: l) a' → Ser P ops Q (fun u' => Ext T u u') s a' w') : Ser P ops Q (fun u' => Ext T u u') ((i, .keep) :: s) a w := by
  simp only [Prod.mk.injEq] at e
  exact st_callkeep hT e.1 e.2.1 e.2.2.1 e.2.2.2.1 e.2.2.2.2.1 hc e.2.2.2.2.2 hC fun e9 w' h => ⟨v, h.1, hH.step h.2, k w' (hH.step h.2) (hP.pure h.2)⟩
theorem stS {w0 : World} {S : Nat → Prop} {mc mc' : List Chunk} {z : Value} {by_ b off : Nat} {cs cur cur' : List Value} (n : Nat) (hT : Sl nz l a) (hH : Hp w0 S w mc) (hti : TI P t z cs.length by_)
    (e : (ops[i]?, o.dst, wantedIn ops l o.guard, o.op, opnd l x, opnd l y, cellsOf v, cs.all Value.oneCell', cs.isEmpty, cget mc n) = (some o, none, some true, .store t x y, some (.pointer (some ⟨b, off, none⟩)), some v, some cs, true, false, some (cB b cur t')))
    (e2 : (puts cur off cs, cset mc n (cB b cur' t')) = (some cur', some mc')) (k : ∀ w', Hp w0 S w' mc' → Ser P ops Q H s a w') : Ser P ops Q H ((i, .run) :: s) a w := by
  simp only [Prod.mk.injEq] at e e2
  obtain ⟨e0, e1, e3, e4, e5, e6, e7, e8, e9, e10⟩ := e
  obtain ⟨w', h1, h2, h3, -⟩ := y_storeS (w := w) hT e4 hti e5 e6 e7 e8 e9 (hH.blk n e10) e2.1
  exact st_act (R := fun u => Blk u b cur' t' ∧ Ext (One b) w u) hT e0 e1 e3 ⟨w', h1, h2, h3⟩ fun w' h => k w' (hH.setB n e10 h.1 h.2 e2.2)
end
section
variable {P : Program} {l : List (Nat × Value)} {a : Act} {w : World}
theorem dn2 {R : Ending → World → Prop} {t t' : Tmp} {v v' : Value} {kz : Nat} (fn : Func) (hT : Sl ⟨kz, []⟩ l a) (e : (fn.results, look l t, look l t') = (#[.tmp t, .tmp t'], some v, some v')) (h : R (.returned (.tuple #[v, v'])) w) : bodyPost P fn R .ret a w := by
  simp only [Prod.mk.injEq] at e
  exact done2 hT e.1 (.tmp (hT.get t _ e.2.1)) (.tmp (hT.get t' _ e.2.2)) h
theorem dc2 {R : Ending → World → Prop} {t t' : Tmp} {ty ty' : TypeId} {v' z : Value} {kz b off k sz by_ : Nat} {cs vs : List Value} {fs : Array Field} (fn : Func) (hT : Sl ⟨kz, []⟩ l a) (hu : P.underlying ty = some (.struct fs)) (hti : TI P ty z sz by_) (hb : Blk w b cs ty')
    (e : (fn.results, look l t, look l t', seg cs off k) = (#[.cell t ty, .tmp t'], some (.pointer (some ⟨b, off, none⟩)), some v', some vs)) (hl : vs.length = sz) (h : R (.returned (.tuple #[.agg vs.toArray, v'])) w) : bodyPost P fn R .ret a w := by
  simp only [Prod.mk.injEq] at e
  exact done2 hT e.1 (.cell (hT.get t _ e.2.1) (run_resS hu hti (hb.seg e.2.2.2) hl)) (.tmp (hT.get t' _ e.2.2.1)) h
theorem ll : (∀ (α : Type) (a b : List α), (a ++ b).length = a.length + b.length) ∧ (∀ (α : Type) (a : α) (b : List α), (a :: b).length = b.length + 1) ∧ (∀ α : Type, ([] : List α).length = 0) := ⟨fun _ _ _ => List.length_append, fun _ _ _ => rfl, fun _ => rfl⟩
end
@[reducible] def tt : How := .take
@[reducible] def uu : How := .run
@[reducible] def kk : How := .keep
end Go.Sx
