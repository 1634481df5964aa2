/- More on chunks: two made one, free ones, an empty block as a row. -/
import Derived.Test.YtonnladboikmhaaGreatDoorSxM
import Derived.Laws.Externs
set_option linter.unusedSimpArgs false
set_option linter.unusedVariables false
namespace Go.Sx
section
variable {w0 w w' u : World} {S T : Nat → Prop} {l m l' rest : List Chunk} {c d : Chunk} {b : Nat} {cs cs' : List Value} {e : TypeId} {p q : World → Prop} {i j : Nat}
theorem Hp.free (H : Hp w0 S w l) (p : World → Prop) (hp : ∀ w, p w) : Hp w0 S w ((No, p) :: l) :=
  H.cons (Ext.refl _ _) (fun w' _ => hp w') fun k hk => hk.elim
theorem Hp.merge {F G : Nat → Prop} (H : Hp w0 S w l) (i j : Nat) (hi : cget l i = some (F, p)) (hj : cget l j = some (G, q)) (os : List Nat) (hn : nodup (i :: j :: os) = true) (hr : cpick l os = some rest) :
    Hp w0 S w ((fun k => F k ∨ G k, fun w => p w ∧ q w) :: rest) := by
  have K := H.keep (i :: j :: os) hn (m := (F, p) :: (G, q) :: rest) (by simp only [cpick, hi, hj, hr])
  have h1 := K.ck (F, p) (by simp)
  have h2 := K.ck (G, q) (by simp)
  refine ⟨K.ext, fun a b c d ha hb hab k hk1 hk2 => ?_, fun c hc k hk => ?_, fun c hc => ?_⟩
  · cases a with
    | zero =>
      cases b with
      | zero => exact hab rfl
      | succ b =>
        simp at ha hb
        subst ha
        rcases hk1 with h3 | h3
        · exact K.dis 0 (b + 2) (F, p) d rfl (by simpa using hb) (by omega) k h3 hk2
        exact K.dis 1 (b + 2) (G, q) d rfl (by simpa using hb) (by omega) k h3 hk2
    | succ a =>
      cases b with
      | zero =>
        simp at ha hb
        subst hb
        rcases hk2 with h3 | h3
        · exact K.dis 0 (a + 2) (F, p) c rfl (by simpa using ha) (by omega) k h3 hk1
        exact K.dis 1 (a + 2) (G, q) c rfl (by simpa using ha) (by omega) k h3 hk1
      | succ b => exact K.dis (a + 2) (b + 2) c d (by simpa using ha) (by simpa using hb) (by omega) k hk1 hk2
  · rcases List.mem_cons.1 hc with rfl | hc
    · rcases hk with h3 | h3
      · exact K.own (F, p) (by simp) k h3
      exact K.own (G, q) (by simp) k h3
    exact K.own c (by simp [hc]) k hk
  rcases List.mem_cons.1 hc with rfl | hc
  · exact h1.and h2
  exact K.ck c (by simp [hc])
theorem _root_.Go.Sx.Blk.svn {m sz : Nat} {vs : List Value} (h : Blk w b vs e) (hl : vs.length = m * sz) : Sv w (some ⟨b, 0, none⟩) m sz vs :=
  ⟨hl, fun _ => rfl, h.cs_of fun j v hj => by simpa [ao] using hj⟩
theorem Hp.off2 {c d a : Chunk} {i j k9 : Nat} (H : Hp w0 S w l) (hi : cget l i = some c) (hj : cget l j = some d) (hk : cget l k9 = some a) (hij : Nat.beq i j = false) (hik : Nat.beq i k9 = false) : ∀ k, k < w.heap.size → c.1 k → ¬ (d.1 k ∨ a.1 k) := fun k h1 h2 h3 =>
  h3.elim (H.off i j hi hj hij k h1 h2) (H.off i k9 hi hk hik k h1 h2)
end
section
variable {nz : Sz} {P : Program} {n : Nat} {l : List (Nat × Value)} {a : Act} {o : Oper} {x y lo hi : Operand} {t t' e : TypeId}
theorem x_indexStr {s : List UInt8} {k : Nat} {b : UInt8} {i : Int} {ik : IntKind} (hT : Sl nz l a) (hop : o.op = .index t x y) (hu : P.underlying t = some .string) (hx : opnd l x = some (.string ⟨s.toArray⟩)) (hy : opnd l y = some (.int ik i)) (hi : i = (k : Int)) (hk : s[k]? = some b) (w : World) :
    (execOp a.eval o).run P w = .ok (.value (.int .u8 b.toNat)) w := by
  subst hi
  have h1 : (⟨s.toArray⟩ : ByteArray)[k]? = some b := by
    obtain ⟨h2, h3⟩ := List.getElem?_eq_some_iff.1 hk
    have h4 : k < (⟨s.toArray⟩ : ByteArray).size := by simpa [ByteArray.size] using h2
    rw [getElem?_pos (⟨s.toArray⟩ : ByteArray) k h4]
    exact congrArg some (by subst h3; rfl)
  simp [execOp, hop, hT.eval hx, hT.eval hy, Instr.index, asIntOf, run_underlying hu, h1]
theorem run_sliceStr {s : List UInt8} {p q : Nat} (h1 : p ≤ q) (h2 : q ≤ s.length) : (⟨s.toArray⟩ : ByteArray).extract p q = ⟨((s.take q).drop p).toArray⟩ := by
  have e : ((⟨s.toArray⟩ : ByteArray).extract p q).data = s.toArray.extract p q := by simp
  refine ByteArray.ext ?_
  rw [e]
  apply Array.ext'
  simp [List.extract_eq_take_drop, List.drop_take]
theorem x_sliceStr_lh {s : List UInt8} {p q : Nat} {ip iq : Int} (hT : Sl nz l a) (hop : o.op = .slice t x (some lo) (some hi) none) (hu : P.underlying t = some .string) (hx : opnd l x = some (.string ⟨s.toArray⟩)) (hlo : opnd l lo = some (.int .i64 ip)) (hhi : opnd l hi = some (.int .i64 iq)) (hp : ip = (p : Int)) (hq : iq = (q : Int)) (h1 : p ≤ q) (h2 : q ≤ s.length) (w : World) :
    (execOp a.eval o).run P w = .ok (.value (.string ⟨((s.take q).drop p).toArray⟩)) w := by
  subst hp; subst hq
  have h3 : q ≤ (⟨s.toArray⟩ : ByteArray).size := by simpa [ByteArray.size] using h2
  rw [← run_sliceStr h1 h2]
  simp [execOp, hop, hT.eval hx, hT.eval hlo, hT.eval hhi, Instr.sliceAt, Instr.slice, run_underlying hu, Instr.sliceBounds, run_sliceBound, h1, h3]
theorem x_sliceStr_l {s : List UInt8} {p : Nat} {ip : Int} (hT : Sl nz l a) (hop : o.op = .slice t x (some lo) none none) (hu : P.underlying t = some .string) (hx : opnd l x = some (.string ⟨s.toArray⟩)) (hlo : opnd l lo = some (.int .i64 ip)) (hp : ip = (p : Int)) (h1 : p ≤ s.length) (w : World) :
    (execOp a.eval o).run P w = .ok (.value (.string ⟨(s.drop p).toArray⟩)) w := by
  subst hp
  have h3 : p ≤ (⟨s.toArray⟩ : ByteArray).size := by simpa [ByteArray.size] using h1
  have e : (⟨s.toArray⟩ : ByteArray).extract p (⟨s.toArray⟩ : ByteArray).size = ⟨(s.drop p).toArray⟩ := by
    have := run_sliceStr (s := s) (p := p) (q := s.length) h1 (Nat.le_refl _)
    rw [List.take_length] at this
    simpa [ByteArray.size] using this
  rw [← e]
  simp [execOp, hop, hT.eval hx, hT.eval hlo, Instr.sliceAt, Instr.slice, run_underlying hu, Instr.sliceBounds, run_sliceBound, h3]
theorem x_sliceStr_h {s : List UInt8} {q : Nat} {iq : Int} (hT : Sl nz l a) (hop : o.op = .slice t x none (some hi) none) (hu : P.underlying t = some .string) (hx : opnd l x = some (.string ⟨s.toArray⟩)) (hhi : opnd l hi = some (.int .i64 iq)) (hq : iq = (q : Int)) (h2 : q ≤ s.length) (w : World) :
    (execOp a.eval o).run P w = .ok (.value (.string ⟨(s.take q).toArray⟩)) w := by
  subst hq
  have h3 : q ≤ (⟨s.toArray⟩ : ByteArray).size := by simpa [ByteArray.size] using h2
  have e := run_sliceStr (s := s) (p := 0) (q := q) (Nat.zero_le _) h2
  rw [List.drop_zero] at e
  rw [← e]
  simp [execOp, hop, hT.eval hx, hT.eval hhi, Instr.sliceAt, Instr.slice, run_underlying hu, Instr.sliceBounds, run_sliceBound, h3]
theorem x_lenStr {ts : Array TypeId} {s : List UInt8} (hT : Sl nz l a) (hop : o.op = .call { callee := .builtin .len, args := #[x], argTypes := ts }) (ht : ts = #[t]) (hu : P.underlying t = some .string) (hx : opnd l x = some (.string ⟨s.toArray⟩)) (w : World) : (execOp a.eval o).run P w = .ok (.value (.int .i64 s.length)) w := by
  have := x_len_string (P := P) hT hop ht hu hx w
  simpa [ByteArray.size] using this
theorem x_neiface {ms : Array (String × TypeId)} {u : TypeId} {v : Value} (hT : Sl nz l a) (hop : o.op = .binOp .neq t x y t') (hu : P.underlying t = some (.interface ms)) (hx : opnd l x = some (.iface u v)) (hy : opnd l y = some .nilIface) (w : World) : (execOp a.eval o).run P w = .ok (.value (.bool true)) w := by
  refine x_neq hT hop hx hy rfl (run_neof (b := false) rfl ?_)
  unfold Op.equal Op.maxDepth Op.equalIn
  simp only [Sem.run_bind, run_underlying hu, Result.andThen_ok, Sem.run_pure]
theorem x_nenil {ms : Array (String × TypeId)} {c : Value} (hT : Sl nz l a) (hop : o.op = .binOp .neq t x (.const .nilIface) t') (hu : P.underlying t = some (.interface ms)) (hx : opnd l x = some .nilIface) (w : World) : (execOp a.eval o).run P w = .ok (.value (.bool false)) w := by
  refine x_neq hT hop hx (show opnd l (.const .nilIface) = some .nilIface from rfl) ?_ (run_neof (b := true) rfl ?_)
  · unfold eqGuard
    simp
  unfold Op.equal Op.maxDepth Op.equalIn
  simp only [Sem.run_bind, run_underlying hu, Result.andThen_ok, Sem.run_pure]
end
/-! several ways that meet again -/
section
variable {nz : Sz} {n : Nat} {a : Act} {w w0 : World} {S : Nat → Prop} {m : List (Nat × Value)} {mc : List Chunk}
theorem wp_join {G : Type} {K X : Act → World → Prop} {C : Prop} (sl : G → List (Nat × Value)) (hp : G → List Chunk) (J : G → Prop) (hT : Sl nz m a) (H : Hp w0 S w mc) (hK : ∀ a w, X a w → K a w)
    (tail : ∀ g a w, J g → Sl nz (sl g ++ m) a → Hp w0 S w (hp g ++ mc) → X a w) (k : (∀ g a w, J g → Sl nz (sl g ++ m) a → Hp w0 S w (hp g ++ mc) → K a w) → C) : C :=
  k fun g a w h1 h2 h3 => hK _ _ (tail g a w h1 h2 h3)
end
/-! floats and their bits -/
section
variable {nz : Sz} {P : Program} {n : Nat} {l : List (Nat × Value)} {a : Act} {o : Oper}
theorem x_extern {f : FuncId} {fn : Func} {e : Array Value → Sem Value} {xs : List Operand} {ts : Array TypeId} {vs : List Value} {v : Value} (hT : Sl nz l a) (hop : o.op = .call { callee := .value (.func f), args := xs.toArray, argTypes := ts }) (hx : opnds l xs = some vs)
    (hf : P.funcs[f]? = some fn) (hname : (fn.name == "runtime.NumGoroutine") = false) (hb : fn.body.isNone = true) (hn : Extern.findNext fn = none) (he : Extern.find fn = some e) (w : World) (hv : (e vs.toArray).run P w = .ok v w) :
    (execOp a.eval o).run P w = .ok (.value v) w := by
  simp [execOp, hop, resolve, Deferred.ofValue, invoke, Act.eval, run_callFunc_extern hf hname hb hn he, hv, hT.evals hx, Result.andThen]
theorem run_f64bits (b : Nat) (w : World) : (Extern.MathFloatBits.float64bits #[.float .f64 b]).run P w = .ok (.int .u64 b) w := rfl
theorem run_f64frombits (z : Int) (w : World) : (Extern.MathFloatBits.float64frombits #[.int .u64 z]).run P w = .ok (.float .f64 z.toNat) w := rfl
end
/-! floats held against one another; bits of whole numbers without a sign -/
def uand (x y : Int) : Int := IntKind.u64.wrap ((BitVec.ofInt 64 x &&& BitVec.ofInt 64 y).toNat)
def uor (x y : Int) : Int := IntKind.u64.wrap ((BitVec.ofInt 64 x ||| BitVec.ofInt 64 y).toNat)
section
variable {nz : Sz} {P : Program} {n : Nat} {l : List (Nat × Value)} {a : Act} {o : Oper} {x y : Operand} {t t' : TypeId} {p q : Int}
theorem x_feq {k : FloatKind} {b c : Nat} (hT : Sl nz l a) (hop : o.op = .binOp .eql t x y t') (hx : opnd l x = some (.float k b)) (hy : opnd l y = some (.float k c)) (w : World) : (execOp a.eval o).run P w = .ok (.value (.bool (Op.floatEq k b c))) w :=
  x_eql hT hop hx hy rfl (by simp [binOp, Op.floatCmp, Op.floatEq])
theorem x_fne {k : FloatKind} {b c : Nat} (hT : Sl nz l a) (hop : o.op = .binOp .neq t x y t') (hx : opnd l x = some (.float k b)) (hy : opnd l y = some (.float k c)) (w : World) : (execOp a.eval o).run P w = .ok (.value (.bool (!Op.floatEq k b c))) w :=
  x_neq hT hop hx hy rfl (by simp [binOp, Op.floatCmp, Op.floatEq, bne])
theorem x_uand (hT : Sl nz l a) (hop : o.op = .binOp .and t x y t') (hx : opnd l x = some (.int .u64 p)) (hy : opnd l y = some (.int .u64 q)) (w : World) : (execOp a.eval o).run P w = .ok (.value (.int .u64 (uand p q))) w :=
  x_bin hT hop hx hy w (by simp only [binOp]; rfl)
theorem x_uor (hT : Sl nz l a) (hop : o.op = .binOp .or t x y t') (hx : opnd l x = some (.int .u64 p)) (hy : opnd l y = some (.int .u64 q)) (w : World) : (execOp a.eval o).run P w = .ok (.value (.int .u64 (uor p q))) w :=
  x_bin hT hop hx hy w (by simp only [binOp]; rfl)
end
/-! a new block as a row -/
theorem Blk.rowN {w : World} {b : Nat} {e : TypeId} {cs : List Value} {n : Nat} (sz : Nat) (h : Blk w b cs e) (hl : cs.length = n * sz) (hm : n ≤ maxLen) : Row w e sz (some ⟨b, 0, none⟩) n n cs :=
  ⟨hl, .inr ⟨[], rfl, by rw [List.append_nil]; exact h, by rw [List.append_nil]; exact hl, Nat.le_refl _, hm⟩⟩
/-! the two halves of a byte -/
theorem and15 : ∀ m : Fin 256, IntKind.u8.wrap ((BitVec.ofInt 8 (m.val : Int) &&& BitVec.ofInt 8 15).toNat : Int) = ((m.val % 16 : Nat) : Int) := by decide +kernel
section
variable {nz : Sz} {P : Program} {n : Nat} {l : List (Nat × Value)} {a : Act} {o : Oper} {x y : Operand} {t t' : TypeId}
theorem x_and15 {m : Nat} (hT : Sl nz l a) (hop : o.op = .binOp .and t x y t') (hx : opnd l x = some (.int .u8 (m : Int))) (hy : opnd l y = some (.int .u8 15)) (hm : m < 256) (w : World) : (execOp a.eval o).run P w = .ok (.value (.int .u8 ((m % 16 : Nat) : Int))) w := by
  rw [← and15 ⟨m, hm⟩]
  exact x_bin hT hop hx hy w (by simp only [binOp]; rfl)
theorem x_shr4 {m : Nat} {k : IntKind} (hT : Sl nz l a) (hop : o.op = .binOp .shr t x y t') (hx : opnd l x = some (.int .u8 (m : Int))) (hy : opnd l y = some (.int k 4)) (w : World) : (execOp a.eval o).run P w = .ok (.value (.int .u8 ((m / 16 : Nat) : Int))) w := by
  have h : (binOp .shr t (.int .u8 (m : Int)) (.int k 4)).run P w = .ok (.int .u8 ((m / 16 : Nat) : Int)) w := by
    have e : (m : Int).fdiv (2 ^ min (4 : Int).toNat IntKind.u8.bits) = ((m / 16 : Nat) : Int) := by
      have e2 : min (4 : Int).toNat IntKind.u8.bits = 4 := rfl
      rw [e2]
      have := Int.fdiv_eq_ediv_of_nonneg (m : Int) (b := 2 ^ 4) (by decide)
      rw [this]
      omega
    simp only [binOp, Op.shift]
    rw [if_neg (by decide)]
    exact congrArg (fun z => Result.ok (Value.int .u8 z) w) e
  simp [execOp, hop, hT.eval hx, hT.eval hy, eqGuard, h]
end
end Go.Sx
