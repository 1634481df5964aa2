/- The steps of a walk in a script: one law an operation. The state is a letter; of its slots a list is known; of the world, blocks and cells. -/
import Derived.Test.YtonnladboikmhaaGreatDoorSxB
namespace Go.Sx
section
variable {P : Program} {ops : Array Oper} {Q : Exit → Act → World → Prop} {H : World → Prop}
theorem Ser.all : ∀ (s : List (Nat × How)) (a : Act) (w : World), Ser P ops Q H s a w → wpOps P ops Q (s.map Prod.fst) a w
  | [], a, w, h => h
  | (i, .take) :: s, a, w, h => by
    obtain ⟨o, v, ho, hy, hr⟩ := h
    rw [List.map_cons, wpOps_cons]
    exact hy.wpOp ho (Ser.all s _ _ hr)
  | (i, .held) :: s, a, w, h => by
    obtain ⟨o, v, ho, hy, hH, hr⟩ := h
    rw [List.map_cons, wpOps_cons]
    exact hy.wpOp ho hH (Ser.all s _ _ hr)
  | (i, .run) :: s, a, w, h => by
    rw [List.map_cons, wpOps_cons]
    exact wpOp_mono (fun a' w' h' => Ser.all s _ _ h') h
  | (i, .keep) :: s, a, w, h => by
    rw [List.map_cons, wpOps_cons]
    exact wpOp_mono (fun a' w' h' => Ser.all s _ _ h'.2) h
theorem wp_text {id : Nat} {a : Act} {w : World} (s : List (Nat × How)) (hs : s.map Prod.fst = List.range ops.size)
    (h : Ser P ops Q (fun _ => True) s a w) : (Code.region id ops false).wp P Q a w :=
  wp_region (hs ▸ Ser.all s a w h)
theorem Ser.cut (J : Act → World → Prop) : ∀ (s r : List (Nat × How)) (a : Act) (w : World),
    Ser P ops (fun e a w => match e with | .normal => J a w | e => Q e a w) H s a w → (∀ a w, J a w → Ser P ops Q H r a w) → Ser P ops Q H (s ++ r) a w
  | [], r, a, w, h, hr => hr a w h
  | (i, .take) :: s, r, a, w, h, hr => by
    obtain ⟨o, v, ho, hy, h⟩ := h
    exact ⟨o, v, ho, hy, Ser.cut J s r _ _ h hr⟩
  | (i, .held) :: s, r, a, w, h, hr => by
    obtain ⟨o, v, ho, hy, hH, h⟩ := h
    exact ⟨o, v, ho, hy, hH, Ser.cut J s r _ _ h hr⟩
  | (i, .run) :: s, r, a, w, h, hr => by
    have key : wpOp P ops Q i (Ser P ops (fun e a w => match e with | .normal => J a w | e => Q e a w) H s) a w := by
      simp only [Ser, wpOp, Oper.wp] at h ⊢
      split
      · simpa [*] using h
      rename_i o ho
      simp only [ho] at h
      split
      · rename_i hw
        simp only [hw, if_true] at h
        refine h.imp (fun h => ?_) (fun h => ⟨h.1, ?_⟩)
        · generalize (execOp a.eval o).run P w = r at *
          cases r with
          | ok n w' => cases n <;> simp only [Oper.upon] at h ⊢ <;> first | exact h | exact Calls.mono h (fun e w'' he => by cases e <;> exact he)
          | halt x w' => cases x <;> simp only [Oper.upon] at h ⊢ <;> exact h
        · obtain ⟨a', w', hq⟩ := h.2
          exact ⟨a', w', hq⟩
      rename_i hw
      simpa [hw] using h
    exact wpOp_mono (fun a' w' h' => Ser.cut J s r _ _ h' hr) key
  | (i, .keep) :: s, r, a, w, h, hr => by
    have key : wpOp P ops Q i (fun a' w' => (H w → H w') ∧ Ser P ops (fun e a w => match e with | .normal => J a w | e => Q e a w) H s a' w') a w := by
      simp only [Ser, wpOp, Oper.wp] at h ⊢
      split
      · simpa [*] using h
      rename_i o ho
      simp only [ho] at h
      split
      · rename_i hw
        simp only [hw, if_true] at h
        refine h.imp (fun h => ?_) (fun h => ⟨h.1, ?_⟩)
        · generalize (execOp a.eval o).run P w = r at *
          cases r with
          | ok n w' => cases n <;> simp only [Oper.upon] at h ⊢ <;> first | exact h | exact Calls.mono h (fun e w'' he => by cases e <;> exact he)
          | halt x w' => cases x <;> simp only [Oper.upon] at h ⊢ <;> exact h
        · obtain ⟨a', w', hq⟩ := h.2
          exact ⟨a', w', hq⟩
      rename_i hw
      simpa [hw] using h
    exact wpOp_mono (fun a' w' h' => ⟨h'.1, Ser.cut J s r _ _ h'.2 hr⟩) key
/-! ### Slots, once more -/
section
variable {nz : Sz} {n : Nat} {l : List (Nat × Value)} {a : Act}
theorem Sl.set (h : Sl nz l a) {d : Nat} {v v' : Value} (hl : look l d = some v) (e : v = v') : Sl nz ((d, v') :: l) a := by
  subst e
  refine ⟨h.defers, h.size, fun t u ht => ?_⟩
  unfold look at ht
  cases hb : Nat.beq d t with
  | true =>
    have : d = t := Nat.eq_of_beq_eq_true hb
    subst this
    simp only [hb, cond_true, Option.some.injEq] at ht
    subst ht
    exact h.get _ _ hl
  | false =>
    simp only [hb, cond_false] at ht
    exact h.get t u ht
theorem Sl.two {G : Prop} (h : Sl nz l a) (d : Nat) {b : Bool} (hl : look l d = some (.bool b)) (ht : b = true → Sl nz ((d, .bool true) :: l) a → G)
    (hf : b = false → Sl nz ((d, .bool false) :: l) a → G) : G := by
  cases b with
  | true => exact ht rfl (h.set hl rfl)
  | false => exact hf rfl (h.set hl rfl)
def wantedIn (ops : Array Oper) (l : List (Nat × Value)) (g : Option (Nat × Bool)) : Option Bool :=
  match g with
  | none => some true
  | some (j, want) => match ((ops[j]?).bind (·.dst)).bind (look l) with
    | some (.bool b) => some (b == want)
    | some (.tuple _) => some false
    | _ => none
theorem Sl.wanted (h : Sl nz l a) {o : Oper} {r : Bool} (hw : wantedIn ops l o.guard = some r) : Region.wanted o (yielded ops a.tmps) = r := by
  unfold Region.wanted
  unfold wantedIn at hw
  split at hw
  · rename_i hg; simp [hg]; simpa using hw
  rename_i j want hg
  simp only [hg]
  cases ht : (ops[j]?).bind (·.dst) with
  | none => simp [ht] at hw
  | some t =>
    simp only [ht, Option.bind_some] at hw
    unfold yielded
    split at hw
    · rename_i b hb
      simp only [Option.some.injEq] at hw
      subst hw
      simp [ht, h.get t _ hb]
    · rename_i vs hb
      simp only [Option.some.injEq] at hw
      subst hw
      simp [ht, h.get t _ hb]
    cases hw
end
/-! ### The three kinds of a step -/
section
variable {nz : Sz} {n : Nat} {l : List (Nat × Value)} {a : Act} {w : World} {s : List (Nat × How)} {i : Nat} {o : Oper} {d : Nat} {v : Value}
theorem st_take (hT : Sl nz l a) (ho : ops[i]? = some o) (hd : o.dst = some d) (hn : Nat.blt d nz.n = true) (hw : wantedIn ops l o.guard = some true)
    (hv : ∀ w, (execOp a.eval o).run P w = .ok (.value v) w)
    (k : ∀ a', Sl nz ((d, v) :: l) a' → Ser P ops Q H s a' w) : Ser P ops Q H ((i, .take) :: s) a w := by
  have hlt : d < nz.n := Nat.le_of_ble_eq_true hn
  refine ⟨o, v, ho, .inl ⟨hT.wanted hw, hv⟩, ?_⟩
  rw [hd]
  exact k _ (hT.put hlt v)
theorem st_skip (hT : Sl nz l a) (ho : ops[i]? = some o) (hd : o.dst = some d) (hn : Nat.blt d nz.n = true) (hw : wantedIn ops l o.guard = some false)
    (k : ∀ a', Sl nz ((d, undef) :: l) a' → Ser P ops Q H s a' w) : Ser P ops Q H ((i, .take) :: s) a w := by
  have hlt : d < nz.n := Nat.le_of_ble_eq_true hn
  refine ⟨o, undef, ho, .inr ⟨hT.wanted hw, rfl⟩, ?_⟩
  rw [hd]
  exact k _ (hT.put hlt undef)
theorem st_held (hT : Sl nz l a) (ho : ops[i]? = some o) (hd : o.dst = some d) (hn : Nat.blt d nz.n = true) (hw : wantedIn ops l o.guard = some true)
    (hH : H w) (hv : ∀ w, H w → (execOp a.eval o).run P w = .ok (.value v) w)
    (k : ∀ a', Sl nz ((d, v) :: l) a' → Ser P ops Q H s a' w) : Ser P ops Q H ((i, .held) :: s) a w := by
  have hlt : d < nz.n := Nat.le_of_ble_eq_true hn
  refine ⟨o, v, ho, .inl ⟨hT.wanted hw, hv⟩, hH, ?_⟩
  rw [hd]
  exact k _ (hT.put hlt v)
theorem st_heldskip (hT : Sl nz l a) (ho : ops[i]? = some o) (hd : o.dst = some d) (hn : Nat.blt d nz.n = true) (hw : wantedIn ops l o.guard = some false)
    (hH : H w) (k : ∀ a', Sl nz ((d, undef) :: l) a' → Ser P ops Q H s a' w) : Ser P ops Q H ((i, .held) :: s) a w := by
  have hlt : d < nz.n := Nat.le_of_ble_eq_true hn
  refine ⟨o, undef, ho, .inr ⟨hT.wanted hw, rfl⟩, hH, ?_⟩
  rw [hd]
  exact k _ (hT.put hlt undef)
theorem st_run {w' : World} (hT : Sl nz l a) (ho : ops[i]? = some o) (hd : o.dst = some d) (hn : Nat.blt d nz.n = true) (hw : wantedIn ops l o.guard = some true)
    (hv : (execOp a.eval o).run P w = .ok (.value v) w')
    (k : ∀ a', Sl nz ((d, v) :: l) a' → Ser P ops Q H s a' w') : Ser P ops Q H ((i, .run) :: s) a w := by
  have hlt : d < nz.n := Nat.le_of_ble_eq_true hn
  show wpOp P ops Q i (Ser P ops Q H s) a w
  simp only [wpOp, ho, hT.wanted hw, if_true, Oper.wp, hv, Oper.upon, hd]
  exact .inl (k _ (hT.put hlt v))
theorem st_keep {w' : World} (hT : Sl nz l a) (ho : ops[i]? = some o) (hd : o.dst = some d) (hn : Nat.blt d nz.n = true) (hw : wantedIn ops l o.guard = some true)
    (hv : (execOp a.eval o).run P w = .ok (.value v) w') (hH : H w')
    (k : ∀ a', Sl nz ((d, v) :: l) a' → Ser P ops Q H s a' w') : Ser P ops Q H ((i, .keep) :: s) a w := by
  have hlt : d < nz.n := Nat.le_of_ble_eq_true hn
  show wpOp P ops Q i (fun a' w' => (H w → H w') ∧ Ser P ops Q H s a' w') a w
  simp only [wpOp, ho, hT.wanted hw, if_true, Oper.wp, hv, Oper.upon, hd]
  exact .inl ⟨fun _ => hH, k _ (hT.put hlt v)⟩
theorem st_do {w' : World} (hT : Sl nz l a) (ho : ops[i]? = some o) (hd : o.dst = none) (hw : wantedIn ops l o.guard = some true)
    (hv : (execOp a.eval o).run P w = .ok .skip w')
    (k : Ser P ops Q H s a w') : Ser P ops Q H ((i, .run) :: s) a w := by
  show wpOp P ops Q i (Ser P ops Q H s) a w
  simp only [wpOp, ho, hT.wanted hw, if_true, Oper.wp, hv, Oper.upon, hd]
  exact .inl k
theorem st_dokeep {w' : World} (hT : Sl nz l a) (ho : ops[i]? = some o) (hd : o.dst = none) (hw : wantedIn ops l o.guard = some true)
    (hv : (execOp a.eval o).run P w = .ok .skip w') (hH : H w')
    (k : Ser P ops Q H s a w') : Ser P ops Q H ((i, .keep) :: s) a w := by
  show wpOp P ops Q i (fun a' w' => (H w → H w') ∧ Ser P ops Q H s a' w') a w
  simp only [wpOp, ho, hT.wanted hw, if_true, Oper.wp, hv, Oper.upon, hd]
  exact .inl ⟨fun _ => hH, k⟩
theorem st_runskip (hT : Sl nz l a) (ho : ops[i]? = some o) (hd : o.dst = some d) (hn : Nat.blt d nz.n = true) (hw : wantedIn ops l o.guard = some false)
    (k : ∀ a', Sl nz ((d, undef) :: l) a' → Ser P ops Q H s a' w) : Ser P ops Q H ((i, .run) :: s) a w := by
  have hlt : d < nz.n := Nat.le_of_ble_eq_true hn
  show wpOp P ops Q i (Ser P ops Q H s) a w
  simp only [wpOp, ho, hT.wanted hw, Bool.false_eq_true, if_false, hd]
  exact k _ (hT.put hlt undef)
theorem st_keepskip (hT : Sl nz l a) (ho : ops[i]? = some o) (hd : o.dst = some d) (hn : Nat.blt d nz.n = true) (hw : wantedIn ops l o.guard = some false)
    (hH : H w) (k : ∀ a', Sl nz ((d, undef) :: l) a' → Ser P ops Q H s a' w) : Ser P ops Q H ((i, .keep) :: s) a w := by
  have hlt : d < nz.n := Nat.le_of_ble_eq_true hn
  show wpOp P ops Q i (fun a' w' => (H w → H w') ∧ Ser P ops Q H s a' w') a w
  simp only [wpOp, ho, hT.wanted hw, Bool.false_eq_true, if_false, hd]
  exact ⟨fun _ => hH, k _ (hT.put hlt undef)⟩
structure Can (P : Program) (f : FuncId) : Prop where
  can : ∃ fn, P.funcs[f]? = some fn ∧ (fn.name == "runtime.NumGoroutine") = false ∧ fn.body.isNone = false
theorem run_callFunc {f : FuncId} {args : Array Value} (h : Can P f) : (callFunc f args).run P w = .ok (.enter f args) w := by
  obtain ⟨fn, hf, hn, hb⟩ := h.can
  have hn' : ¬ fn.name = "runtime.NumGoroutine" := by simpa using hn
  have hb' : ¬ fn.body = none := fun e => by rw [e] at hb; cases hb
  simp [callFunc, program, Sem.run, hf, hn', hb']
theorem run_call {f : FuncId} {xs : List Operand} {ts : Array TypeId} {vs : List Value}
    (hT : Sl nz l a) (hop : o.op = .call { callee := .value (.func f), args := xs.toArray, argTypes := ts }) (hc : Can P f) (hx : opnds l xs = some vs) :
    (execOp a.eval o).run P w = .ok (.enter f vs.toArray) w := by
  simp [execOp, hop, resolve, Deferred.ofValue, invoke, Act.eval, run_callFunc hc, hT.evals hx]
theorem st_call {f : FuncId} {xs : List Operand} {ts : Array TypeId} {vs : List Value} {R : Ending → World → Prop}
    (hT : Sl nz l a) (ho : ops[i]? = some o) (hop : o.op = .call { callee := .value (.func f), args := xs.toArray, argTypes := ts }) (hd : o.dst = some d) (hn : Nat.blt d nz.n = true) (hw : wantedIn ops l o.guard = some true)
    (hc : Can P f) (hx : opnds l xs = some vs) (hC : Calls P f vs.toArray w R)
    (k : ∀ e w', R e w' → ∃ v, e = .returned v ∧ ∀ a', Sl nz ((d, v) :: l) a' → Ser P ops Q H s a' w') : Ser P ops Q H ((i, .run) :: s) a w := by
  have hlt : d < nz.n := Nat.le_of_ble_eq_true hn
  show wpOp P ops Q i (Ser P ops Q H s) a w
  simp only [wpOp, ho, hT.wanted hw, if_true, Oper.wp, run_call hT hop hc hx, Oper.upon]
  refine .inl (hC.mono fun e w' hR => ?_)
  obtain ⟨v, rfl, hk⟩ := k e w' hR
  show Ser P ops Q H s (a.put o.dst v) w'
  rw [hd]
  exact hk _ (hT.put hlt v)
theorem st_callkeep {f : FuncId} {xs : List Operand} {ts : Array TypeId} {vs : List Value} {R : Ending → World → Prop}
    (hT : Sl nz l a) (ho : ops[i]? = some o) (hop : o.op = .call { callee := .value (.func f), args := xs.toArray, argTypes := ts }) (hd : o.dst = some d) (hn : Nat.blt d nz.n = true) (hw : wantedIn ops l o.guard = some true)
    (hc : Can P f) (hx : opnds l xs = some vs) (hC : Calls P f vs.toArray w R)
    (k : ∀ e w', R e w' → ∃ v, e = .returned v ∧ H w' ∧ ∀ a', Sl nz ((d, v) :: l) a' → Ser P ops Q H s a' w') : Ser P ops Q H ((i, .keep) :: s) a w := by
  have hlt : d < nz.n := Nat.le_of_ble_eq_true hn
  show wpOp P ops Q i (fun a' w' => (H w → H w') ∧ Ser P ops Q H s a' w') a w
  simp only [wpOp, ho, hT.wanted hw, if_true, Oper.wp, run_call hT hop hc hx, Oper.upon]
  refine .inl (hC.mono fun e w' hR => ?_)
  obtain ⟨v, rfl, hH, hk⟩ := k e w' hR
  show (H w → H w') ∧ Ser P ops Q H s (a.put o.dst v) w'
  rw [hd]
  exact ⟨fun _ => hH, hk _ (hT.put hlt v)⟩
end
/-! ### Code -/
section
variable {nz : Sz} {n : Nat} {l : List (Nat × Value)} {a : Act} {w : World} {c : Code}
theorem wp_if {x : Operand} {y z : Code} {b : Bool} (hT : Sl nz l a) (hx : opnd l x = some (.bool b)) (ht : b = true → y.wp P Q a w) (hf : b = false → z.wp P Q a w) : (Code.cond x y z).wp P Q a w :=
  wp_cond_split (hT.eval hx) ht hf
theorem then_normal {K : Act → World → Prop} (h : K a w) : Exit.then K Q .normal a w := h
theorem then_ret {K : Act → World → Prop} (h : Q .ret a w) : Exit.then K Q .ret a w := h
theorem then_exit {K : Act → World → Prop} {i : Nat} (h : Q (.exit i) a w) : Exit.then K Q (.exit i) a w := h
theorem block_normal {i : Nat} (h : Q .normal a w) : Exit.inBlock i Q .normal a w := h
theorem block_ret {i : Nat} (h : Q .ret a w) : Exit.inBlock i Q .ret a w := h
theorem block_exit {i : Nat} (h : Q .normal a w) : Exit.inBlock i Q (.exit i) a w := by simpa [Exit.inBlock] using h
theorem ser_nil {ops : Array Oper} {H : World → Prop} (h : Q .normal a w) : Ser P ops Q H [] a w := h
theorem ser_calm {ops : Array Oper} {H : World → Prop} (h : Q .normal a w) : Ser P ops (Calm Q) H [] a w := h
theorem wp_while {G : Type} (I : G → Act → World → Prop) (μ : G → Nat) (g₀ : G) (h₀ : I g₀ a w)
    (round : ∀ g a w, I g a w → c.wp P (Exit.then (fun a' w' => ∃ g', I g' a' w' ∧ μ g' < μ g) Q) a w) : (Code.loop c).wp P Q a w := by
  intro b k cs
  have key : ∀ m g a w, μ g = m → I g a w →
      ∃ e a' w', Q e a' w' ∧ Arrives P (lone (b.at a (.code c :: .inLoop c :: k)) cs w) b k cs e a' w' := by
    intro m
    induction m using Nat.strongRecOn with
    | _ m ih =>
      intro g a w hn hI
      obtain ⟨e, a₁, w₁, hq, harr⟩ := round g a w hI b (.inLoop c :: k) cs
      cases e with
      | normal =>
        obtain ⟨g', hI₁, hlt⟩ := hq
        obtain ⟨e₂, a₂, w₂, hq₂, harr₂⟩ := ih (μ g') (hn ▸ hlt) g' a₁ w₁ rfl hI₁
        exact ⟨e₂, a₂, w₂, hq₂, .of_steps (Steps.trans harr (.one step_inLoop)) harr₂⟩
      | exit id => exact ⟨_, a₁, w₁, hq, .pass (x := .inLoop c) rfl (fun _ _ => .inl (by simp)) harr⟩
      | goto l => exact ⟨_, a₁, w₁, hq, .pass (x := .inLoop c) rfl (fun _ _ => .inl (by simp)) harr⟩
      | ret => exact ⟨_, a₁, w₁, hq, .pass (x := .inLoop c) rfl (fun _ _ => .inl (by simp)) harr⟩
      | panic ch => exact ⟨_, a₁, w₁, hq, .pass (x := .inLoop c) rfl (fun _ _ => .inl (by simp)) harr⟩
      | outgrown => exact ⟨_, a₁, w₁, hq, .pass (x := .inLoop c) rfl (fun _ _ => .inl (by simp)) harr⟩
  obtain ⟨e, a', w', hq, harr⟩ := key _ g₀ a w rfl h₀
  exact ⟨e, a', w', hq, .of_steps (.one step_loop) harr⟩
theorem calls_into {f : FuncId} {fn : Func} {c : Code} {vs : List Value} {R : Ending → World → Prop} {k : Nat}
    (hf : P.funcs[f]? = some fn) (hb : fn.body = some c) (hk : fn.ntmps = k) (hlen : Nat.ble vs.length k = true)
    (h : ∀ a, Sl ⟨k, []⟩ (enum vs 0) a → c.wp P (bodyPost P fn R) a w) : Calls P f vs.toArray w R := by
  refine calls_of_wp hf hb ?_
  rw [hk]
  exact h _ (by simpa using Sl.enter (Nat.le_of_ble_eq_true hlen))
end
/-! ### Results -/
section
variable {nz : Sz} {n : Nat} {l : List (Nat × Value)} {a : Act} {w : World} {fn : Func} {R : Ending → World → Prop}
inductive Res (P : Program) (a : Act) (w : World) : ResultVar → Value → Prop
  | tmp {t : Tmp} {v : Value} (h : a.tmps[t]? = some v) : Res P a w (.tmp t) v
  | cell {t : Tmp} {ty : TypeId} {ad : Addr} {v : Value} (h : a.tmps[t]? = some (.pointer (some ad))) (hl : (loadVar ty ad).run P w = .ok v w) : Res P a w (.cell t ty) v
theorem done0 {kz : Nat} (hT : Sl ⟨kz, []⟩ l a) (hr : fn.results = #[]) (h : R (.returned (.tuple #[])) w) : bodyPost P fn R .ret a w :=
  ⟨hT.defers, _, by simp [results, hr], h⟩
theorem done1 {r : ResultVar} {v : Value} {kz : Nat} (hT : Sl ⟨kz, []⟩ l a) (hr : fn.results = #[r]) (h1 : Res P a w r v) (h : R (.returned v) w) : bodyPost P fn R .ret a w :=
  ⟨hT.defers, v, by cases h1 <;> simp [results, asAddr, *], h⟩
theorem done2 {r r' : ResultVar} {v v' : Value} {kz : Nat} (hT : Sl ⟨kz, []⟩ l a) (hr : fn.results = #[r, r']) (h1 : Res P a w r v) (h2 : Res P a w r' v') (h : R (.returned (.tuple #[v, v'])) w) : bodyPost P fn R .ret a w :=
  ⟨hT.defers, _, by cases h1 <;> cases h2 <;> simp [results, asAddr, *], h⟩
theorem done3 {r r' r'' : ResultVar} {v v' v'' : Value} {kz : Nat} (hT : Sl ⟨kz, []⟩ l a) (hr : fn.results = #[r, r', r'']) (h1 : Res P a w r v) (h2 : Res P a w r' v') (h3 : Res P a w r'' v'') (h : R (.returned (.tuple #[v, v', v''])) w) : bodyPost P fn R .ret a w :=
  ⟨hT.defers, _, by cases h1 <;> cases h2 <;> cases h3 <;> simp [results, asAddr, *], h⟩
theorem done_end (h : bodyPost P fn R .ret a w) : bodyPost P fn R .normal a w := h
end
end
end Go.Sx
