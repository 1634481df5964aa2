/- Draws never fall back: no step of the machine takes one back, so no call does. -/
import Derived.Test.YtonnladboikmhaaGreatDoorSxA
import Derived.StepT
import Derived.Calls
set_option linter.unusedSimpArgs false
set_option linter.unusedVariables false
namespace Go.Sx
def Result.wd {α:Type}:Result α→World
  | .ok _ w=>w
  | .halt _ w=>w
theorem run_mono {α:Type} (p:Program) (m:Sem α):∀ w:World,w.drawn≤(Result.wd (m.run p w)).drawn:=by
  induction m with
  | pure a=>intro w;exact Nat.le_refl _
  | load m a k ih=>
    intro w
    unfold Sem.run
    split
    · exact ih _ _
    split
    · exact ih _ _
    exact Nat.le_refl _
  | store m a x k ih=>
    intro w
    cases x <;> simp only [Sem.run]
    all_goals first | exact Nat.le_refl _ | skip
    all_goals split
    all_goals split
    all_goals first | exact Nat.le_refl _ | exact ih (w.setCell a _) | (rename_i hf;have h1:=farStore_drawn hf;exact Nat.le_trans (Nat.le_of_eq h1.symm) (ih _))
  | new o k ih=>intro w;unfold Sem.run;exact ih w.heap.size { w with heap:=w.heap.push o }
  | shape r k ih=>intro w;unfold Sem.run;exact ih _ _
  | freeze a n k ih=>intro w;unfold Sem.run;exact Nat.le_trans (Nat.le_of_eq (freeze_drawn w a n).symm) (ih _)
  | frozen a k ih=>intro w;unfold Sem.run;exact ih _ _
  | getObj r k ih=>
    intro w
    unfold Sem.run
    split
    · exact Nat.le_refl _
    · exact ih _ _
    exact Nat.le_refl _
  | setObj r o k ih=>
    intro w
    unfold Sem.run
    split
    · exact Nat.le_refl _
    · exact ih { w with heap:=w.heap.setIfInBounds r o }
    exact Nat.le_refl _
  | choose q k ih=>
    intro w
    unfold Sem.run
    split
    · exact ih _ _
    exact Nat.le_trans (Nat.le_succ _) (ih _ { w with drawn:=w.drawn + 1 })
  | sys c k ih=>intro w;unfold Sem.run;exact Nat.le_trans (sys_drawn w c) (ih _ _)
  | program k ih=>intro w;unfold Sem.run;exact ih _ _
  | mark m k ih=>intro w;unfold Sem.run;exact ih _
  | halt h=>intro w;exact Nat.le_refl _
theorem ok_mono {α:Type} {p:Program} {m:Sem α} {w w':World} {v:α} (h:m.run p w = .ok v w'):w.drawn≤w'.drawn:=by
  have:=run_mono p m w
  rw [h] at this
  exact this
theorem halt_mono {α:Type} {p:Program} {m:Sem α} {w w':World} {v:Halt} (h:m.run p w = .halt v w'):w.drawn≤w'.drawn:=by
  have:=run_mono p m w
  rw [h] at this
  exact this
def GS (d:Nat):GStep→Prop
  | .go _ w _=>d≤w.drawn
  | .comm _ _ _ _ w _=>d≤w.drawn
  | .spawn _ _ w _=>d≤w.drawn
  | .count _ w _=>d≤w.drawn
  | .timer _ _ w _=>d≤w.drawn
  | .alone _ _ w _=>d≤w.drawn
  | .newcoro _ _ _ w _=>d≤w.drawn
  | .coroswitch _ _ _ w _=>d≤w.drawn
  | .collect _ w _=>d≤w.drawn
  | .watch _ w _=>d≤w.drawn
  | .ended _ _ _=>True
theorem GS_after (d:Nat) (es:Array Event) (s:GStep):GS d (GStep.after es s) = GS d s:=by cases s <;> rfl
theorem GS.le {d d':Nat} {s:GStep} (h:GS d s) (hd:d'≤d):GS d' s:=by
  cases s <;> first | trivial | exact Nat.le_trans hd h
theorem dieOf_ge (fr:Frame) (a:List ByteArray) (m:String) (b:Bool) (w:World):GS w.drawn (dieOf fr a m b w):=Nat.le_refl _
theorem endThrow_ge (fr:Frame) (m:String) (w:World):GS w.drawn (endThrow fr m w):=Nat.le_refl _
theorem endWith_ge (d:Nat) (w:World) (fd:Nat) (t:ByteArray) (o:Outcome):GS d (endWith w fd t o):=by
  unfold endWith
  dsimp only
  repeat' split
  all_goals trivial
theorem endPrinting_ge (p:Program) (fr:Frame) (v:Value) (w:World):GS w.drawn (endPrinting p fr v w):=by
  unfold endPrinting
  dsimp only
  split
  · exact endThrow_ge ..
  trivial
theorem endFatal_ge (p:Program) (fr:Frame) (cs:List Frame) (dy:Option Dying) (m:String) (w:World):GS w.drawn (endFatal p fr cs dy m w):=by
  unfold endFatal
  dsimp only
  split
  · rename_i h;exact (dieOf_ge ..).le (ok_mono h)
  · trivial
  trivial
theorem writeOn_ge (p:Program) (fr:Frame) (d:Dying) (f:Fatal) (w:World):GS w.drawn (writeOn p fr d f w):=by
  unfold writeOn
  dsimp only
  split
  · trivial
  simp only [Sem.runT_eq]
  split
  · rename_i h;rw [Prod.mk.injEq] at h;exact ok_mono h.1
  · rename_i h;rw [Prod.mk.injEq] at h;exact halt_mono h.1
  · trivial
  trivial
theorem die_ge (p:Program) (fr:Frame) (d:Dying) (w:World):GS w.drawn (die p fr d w):=by
  unfold die
  split
  · exact writeOn_ge ..
  dsimp only
  split
  · split
    · exact Nat.le_refl _
    exact endWith_ge ..
  split
  · exact Nat.le_refl _
  · split
    · rename_i h;exact ok_mono h
    trivial
  · simp only [Sem.runT_eq,GS_after]
    split
    · rename_i h;exact ok_mono h
    · rename_i h;exact ok_mono h
    · trivial
    · rename_i h;exact (endPrinting_ge ..).le (halt_mono h)
    trivial
  trivial
theorem doReturn_ge (p:Program) (main:Bool) (fr:Frame) (cs:List Frame) (dy:Option Dying) (v:Value) (w:World):GS w.drawn (doReturn p main fr cs dy v w):=by
  unfold doReturn
  dsimp only
  repeat' split
  all_goals first | exact Nat.le_refl _ | trivial
theorem ite_ge {d:Nat} {c:Prop} [Decidable c] {a b:GStep} (h1:GS d a) (h2:GS d b):GS d (if c then a else b):=by split;exact h1;exact h2
theorem callDeferred_ge (p:Program) (fr:Frame) (cs:List Frame) (dy:Option Dying) (d:Deferred) (w:World):GS w.drawn (callDeferred p fr cs dy d w):=by
  unfold callDeferred
  dsimp only
  refine ite_ge trivial ?_
  simp only [Sem.runT_eq,GS_after]
  split
  all_goals first | trivial | (rename_i h;exact ok_mono h) | (rename_i h;exact halt_mono h) | (rename_i h;exact (endFatal_ge ..).le (halt_mono h)) | (rename_i h;exact (endThrow_ge ..).le (halt_mono h)) | skip
  all_goals first | (rename_i h;have hm:=ok_mono h;split <;> exact hm) | skip
theorem unwind_ge (p:Program) (main:Bool) (fr:Frame) (cs:List Frame) (dy:Option Dying) (w:World):GS w.drawn (unwind p main fr cs dy w):=by
  unfold unwind
  split
  · simp only [Sem.runT_eq,GS_after]
    split
    · rename_i h;exact ok_mono h
    trivial
  · exact callDeferred_ge ..
  split
  · trivial
  · split
    · trivial
    split
    · exact Nat.le_refl _
    split
    · split
      · exact Nat.le_refl _
      split
      · rename_i h;exact ok_mono h
      · trivial
      trivial
    split
    · exact endPrinting_ge ..
    trivial
  split
  · exact doReturn_ge ..
  simp only [Sem.runT_eq,GS_after]
  split
  · rename_i h;exact (doReturn_ge ..).le (ok_mono h)
  · trivial
  trivial
theorem early_ge (p:Program) (fr:Frame) (cs:List Frame) (dy:Option Dying) (g:Nat) (w:World):GS w.drawn (early p fr cs dy g w):=by
  unfold early
  dsimp only
  repeat' split
  all_goals first
    | exact Nat.le_refl _
    | trivial
    | (rename_i h;have hm:=ok_mono h;exact hm)
    | (rename_i h _;have hm:=ok_mono h;exact hm)
    | (rename_i h _ _;have hm:=ok_mono h;exact hm)
    | (rename_i h _ _ _;have hm:=ok_mono h;exact hm)
    | (rename_i h _ _ _ _;have hm:=ok_mono h;exact hm)
theorem apply_ge (p:Program) (listen:Bool) (fr:Frame) (cs:List Frame) (dy:Option Dying) (s:Sem Next) (w:World):GS w.drawn (stepG.apply p listen fr cs dy s w):=by
  unfold stepG.apply
  dsimp only
  have e:(if listen = true then s.runT p w #[] else (s.run p w,#[])).1 = s.run p w:=by split <;> simp
  simp only [GS_after,e]
  split
  all_goals first | trivial | (rename_i h;exact ok_mono h) | (rename_i h;exact halt_mono h) | (rename_i h;exact (endFatal_ge ..).le (halt_mono h)) | (rename_i h;exact (endThrow_ge ..).le (halt_mono h)) | (rename_i h;exact (early_ge ..).le (halt_mono h)) | skip
  all_goals (rename_i h;have hm:=ok_mono h;repeat' split)
  all_goals first | exact hm | (exact (endThrow_ge ..).le hm) | trivial
theorem elim_ge {α:Type} {d:Nat} (o:Option α) (a:GStep) (f:α→GStep) (h1:GS d a) (h2:∀ x,GS d (f x)):GS d (o.elim a f):=by
  cases o
  · exact h1
  exact h2 _
theorem oper_ge (p:Program) (listen:Bool) (fr:Frame) (cs:List Frame) (dy:Option Dying) (w:World):GS w.drawn (stepG.oper p listen fr cs dy w):=by
  unfold stepG.oper
  split
  · trivial
  split
  · exact apply_ge ..
  exact apply_ge ..
theorem exec_ge (p:Program) (main:Bool) (listen:Bool) (fr:Frame) (cs:List Frame) (dy:Option Dying) (w:World):GS w.drawn (stepG.exec p main listen fr cs dy w):=by
  unfold stepG.exec
  dsimp only
  split
  all_goals first
    | exact Nat.le_refl _
    | trivial
    | exact apply_ge ..
    | (refine elim_ge _ _ _ trivial fun _=>?_;exact apply_ge ..)
    | (refine elim_ge _ _ _ ?_ fun _=>Nat.le_refl _)
    | skip
  all_goals try simp only [Sem.runT_eq,GS_after]
  all_goals repeat' split
  all_goals try simp only [Sem.runT_eq,GS_after]
  all_goals repeat' split
  all_goals first
    | exact Nat.le_refl _
    | trivial
    | exact oper_ge ..
    | (rename_i h;exact (doReturn_ge ..).le (ok_mono h))
    | (rename_i h;exact (apply_ge ..).le (ok_mono h))
    | (rename_i h;exact ok_mono h)
    | (rename_i h;exact halt_mono h)
theorem stepG_ge (p:Program) (main:Bool) (g:Goroutine) (w:World) (listen:Bool):GS w.drawn (stepG p main g w listen):=by
  unfold stepG
  dsimp only
  split
  · exact die_ge ..
  · exact exec_ge ..
  exact unwind_ge ..
def MS (d:Nat):Stepped→Prop
  | .next m=>d≤m.world.drawn
  | _=>True
theorem MS.le {d d':Nat} {s:Stepped} (h:MS d s) (hd:d'≤d):MS d' s:=by
  cases s <;> first | trivial | exact Nat.le_trans hd h
theorem look_ge (p:Program) (gs:Array Goroutine) (rest:Rest) (w:World):MS w.drawn (Go.look p gs rest w):=by
  unfold Go.look
  dsimp only
  split
  · split
    · trivial
    split
    · trivial
    split
    · rename_i h;have hm:=ok_mono h;exact hm
    · trivial
    trivial
  trivial
theorem waiting_ge {rest:Rest} {cases:Array CommCase} {w w':World} (h:waitingAt rest cases w = some w'):w'.drawn = w.drawn:=by
  unfold waitingAt at h
  split at h
  · split at h
    · cases h;rfl
    cases h
  cases h;rfl
theorem communicate_ge (p:Program) (rest:Rest) (gs:Array Goroutine) (i:Nat) (g:Goroutine) (cases:Array CommCase) (b:Bool) (shape:CommShape) (w:World):MS w.drawn (communicate p rest gs i g cases b shape w).1:=by
  unfold communicate
  dsimp only
  split
  · trivial
  split
  · split
    · split
      · rename_i h;exact Nat.le_of_eq (waiting_ge h).symm
      trivial
    exact Nat.le_refl _
  split
  · trivial
  rename_i h
  have hm:=ok_mono h
  clear h
  split
  · split
    · rename_i h2;exact Nat.le_trans hm (halt_mono h2)
    trivial
  · exact hm
  · exact hm
  · split
    · exact hm
    split
    · rename_i h2;have h3:=ok_mono h2;exact Nat.le_trans hm h3
    trivial
  · exact hm
  · exact hm
  trivial
theorem timers_drawn (m:Machine) (ts:Array Timer):(m.withTimers ts).world.drawn = m.world.drawn:=by
  unfold Machine.withTimers
  first | rfl | (dsimp only;split <;> rfl)
theorem drain_drawn (w:World) (c:Nat):(drain w c).2.drawn = w.drawn:=by
  unfold drain
  split <;> rfl
theorem retime_drawn (m:Machine) (k:Nat) (t:Timer) (a b:Nat):(retime m k t a b).2.world.drawn = m.world.drawn:=by
  unfold retime
  cases t.chan with
  | none=>rfl
  | some c=>exact drain_drawn m.world c
theorem timerOp_drawn {m m':Machine} {op:TimerOp} {v:Value} (h:timerOp m op = .ok (v,m')):m'.world.drawn = m.world.drawn:=by
  have nm:∀ (m m':Machine) (var:Addr) (a b:Nat) (f:Timer→Nat) (v:Value),timerOp.named m var (fun k t=>retime m k t a (f t)) = .ok (v,m')→m'.world.drawn = m.world.drawn:=fun m m' var a b f v h=>by
    unfold timerOp.named at h
    split at h
    · cases h;exact retime_drawn ..
    cases h
  unfold timerOp at h
  split at h
  · split at h
    · cases h;exact timers_drawn ..
    split at h
    · split at h
      · cases h
      cases h;rfl
    cases h
  · exact nm m m' _ _ 0 (fun t=>t.period) _ h
  · split at h
    · rename_i var when period m2 ho
      have e1:m2.world.drawn = m.world.drawn:=by
        unfold timerOp.opened at ho
        split at ho
        · split at ho
          · cases ho;rfl
          cases ho
        cases ho;rfl
      unfold timerOp.named at h
      split at h
      · simp only [Except.ok.injEq] at h
        have h7:=congrArg Prod.snd h
        dsimp only at h7
        rw [← h7]
        exact (retime_drawn ..).trans e1
      cases h
    cases h
  dsimp only at h
  cases h
  exact timers_drawn ..
theorem runT_ge (p:Program) (m:Machine) (i:Nat) (listen:Bool):MS m.world.drawn (runT p m i listen).1:=by
  have S:=fun g=>stepG_ge p (i == 0) g m.world listen
  unfold Go.runT
  dsimp only
  generalize hg:(m.gs.swapAt! i { (default:Goroutine) with status:=.finished }).1 = g
  have hs:=S g
  split
  · trivial
  · rename_i h;rw [h] at hs;exact (communicate_ge ..).le hs
  · rename_i h;rw [h] at hs;exact hs
  · rename_i h;rw [h] at hs;exact hs
  · rename_i h;rw [h] at hs;split;trivial;exact hs
  · rename_i h;rw [h] at hs;exact hs
  · rename_i h;rw [h] at hs;exact (look_ge ..).le hs
  · rename_i h;rw [h] at hs;exact hs
  · rename_i h;rw [h] at hs;exact hs
  · rename_i h
    rw [h] at hs
    split
    · exact hs
    · split
      · rename_i h2;simp only [endThrow,dieOf] at h2;cases h2;exact hs
      trivial
    trivial
  rename_i h
  rw [h] at hs
  split
  · rename_i h2;have h3:=timerOp_drawn h2;exact Nat.le_trans hs (Nat.le_of_eq h3.symm)
  · split
    · rename_i h2;simp only [endThrow,dieOf] at h2;cases h2;exact hs
    trivial
  · trivial
  trivial
theorem serve_ge (p:Program) (m:Machine) (k:Nat):MS m.world.drawn (serve p m k):=by
  unfold serve
  split
  · trivial
  · exact Nat.le_refl _
  dsimp only
  split
  · trivial
  exact Nat.le_refl _
def VS (d:Nat):Move→Prop
  | .goroutine m _=>d≤m.world.drawn
  | .machine s _=>MS d s
theorem VS.le {d d':Nat} {s:Move} (h:VS d s) (hd:d'≤d):VS d' s:=by
  cases s
  · exact Nat.le_trans hd h
  exact MS.le h hd
theorem askOn_ge (p:Program) (m:Machine):VS m.world.drawn (askOn p m):=by
  unfold askOn
  dsimp only
  split
  · trivial
  rename_i hk
  have h0:=ok_mono hk
  clear hk
  split
  · exact (serve_ge ..).le h0
  split
  · split
    · exact h0
    split
    · exact h0
    split
    · trivial
    trivial
  split
  · split
    · trivial
    rename_i h;have h1:=Nat.le_trans h0 (ok_mono h)
    split
    · exact h1
    split
    · trivial
    rename_i h2;exact Nat.le_trans h1 (ok_mono h2)
  split
  · trivial
  · rename_i h;have h1:=Nat.le_trans h0 (ok_mono h)
    split
    · trivial
    rename_i h2;have h3:=Nat.le_trans h1 (ok_mono h2)
    split
    · exact h3
    split
    · trivial
    rename_i h4;exact Nat.le_trans h3 (ok_mono h4)
  · rename_i h;have hm:=ok_mono h;exact Nat.le_trans h0 hm
  rename_i h;have h1:=Nat.le_trans h0 (ok_mono h)
  split
  · trivial
  rename_i h2;have h8:=ok_mono h2;have h3:=Nat.le_trans h1 h8
  split
  · exact h3
  split
  · trivial
  rename_i h4;exact Nat.le_trans h3 (ok_mono h4)
theorem ask_ge (p:Program) (m:Machine):VS m.world.drawn (Go.ask p m):=by
  unfold Go.ask
  split
  · split
    · trivial
    · rename_i h
      have hm:=ok_mono h
      split
      · rename_i h2
        have h1:=look_ge p m.gs m.rest ‹World›
        rw [h2] at h1
        exact (askOn_ge ..).le (Nat.le_trans hm h1)
      exact MS.le (look_ge p m.gs m.rest ‹World›) hm
    rename_i h;exact (askOn_ge _ _).le (ok_mono h)
  exact askOn_ge ..
theorem move_ge (p:Program) (m:Machine):VS m.world.drawn (move p m):=by
  unfold move
  split
  · split
    · exact Nat.le_refl _
    trivial
  split
  · split
    · exact Nat.le_refl _
    exact (ask_ge _ _)
  exact ask_ge ..
theorem step_ge {p:Program} {m m':Machine} (h:step p m = .next m'):m.world.drawn≤m'.world.drawn:=by
  unfold step stepT at h
  have hm:=move_ge p m
  split at h
  · rename_i m1 i h1
    rw [h1] at hm
    have h2:=runT_ge p m1 i true
    rw [h] at h2
    exact Nat.le_trans hm h2
  rename_i h1
  rw [h1] at hm
  dsimp only at h
  rw [h] at hm
  exact hm
theorem runN_ge {p:Program}:∀ {n:Nat} {m m':Machine},runN p n m = .next m'→m.world.drawn≤m'.world.drawn
  | 0,m,m',h=>by unfold runN at h;cases h;exact Nat.le_refl _
  | n + 1,m,m',h=>by
    unfold runN at h
    split at h
    · rename_i h1;exact Nat.le_trans (step_ge h1) (runN_ge h)
    rename_i h1 h2;first | exact absurd h (by simp_all) | cases h
theorem calls_drawn {P:Program} {f:FuncId} {args:Array Value} {w:World} {R:Ending→World→Prop} (h:Calls P f args w R) :
    Calls P f args w fun e w'=>R e w'∧((∃ v,e = .returned v)→w.drawn≤w'.drawn):=by
  intro cs
  obtain ⟨e,w',fr,hR,hC,h1,h2⟩:=h cs
  refine ⟨e,w',fr,⟨hR,fun ⟨v,hv⟩=>?_⟩,hC,h1,h2⟩
  subst hv
  obtain ⟨n,hn⟩:=(hC:Steps P _ _)
  exact runN_ge hn
end Go.Sx
