/- Texts, values, stamps, transactions and writes, plainly. -/
import Derived.Test.YtonnladboikmhaaGreatDoorSxZ
set_option linter.unusedSimpArgs false
set_option linter.unusedVariables false
namespace Go.Proofs.YtonnladboikmhaaGreatDoor
open Sx
theorem ret_b {a b:Bool} (h:a = b):Ending.returned (.bool a) = Ending.returned (.bool b):=by rw [h]
theorem ret_i {k:IntKind} {a b:Int} (h:a = b):Ending.returned (.int k a) = Ending.returned (.int k b):=by rw [h]
theorem ret_f {a b:Nat} (h:a = b):Ending.returned (.float .f64 a) = Ending.returned (.float .f64 b):=by rw [h]
/-! texts in their order -/
abbrev Key:=List UInt8
def slt (a b:Key):Prop:=Op.bytesLess a b = true
instance (a b:Key):Decidable (slt a b):=inferInstanceAs (Decidable (_ = true))
/-! values, writes, stamps, transactions -/
structure Vl where
  k:Int
  num:Nat
  tx:Key
  deriving DecidableEq
def Vl.cells (v:Vl):List Value:=[.int .i64 v.k,.float .f64 v.num,.string ⟨v.tx.toArray⟩]
theorem Vl.len (v:Vl):v.cells.length = 3:=rfl
structure Vl.wf (v:Vl):Prop where
  k1:-9223372036854775808≤v.k
  k2:v.k≤9223372036854775807
  n:v.num < 2 ^ 64
  t:v.tx.length≤140737488351232
structure Wt where
  key:Key
  v:Vl
  deriving DecidableEq
def Wt.cells (x:Wt):List Value:=[.string ⟨x.key.toArray⟩,.int .i64 x.v.k,.float .f64 x.v.num,.string ⟨x.v.tx.toArray⟩]
theorem Wt.len (x:Wt):x.cells.length = 4:=rfl
theorem Wt.one (x:Wt):∀ u ∈ x.cells,u.oneCell' = true:=by
  intro u hu
  simp only [Wt.cells,List.mem_cons,List.not_mem_nil,or_false] at hu
  rcases hu with rfl | rfl | rfl | rfl <;> rfl
def Wt.wf (x:Wt):Prop:=x.key.length≤140737488351232∧x.v.wf
structure Stp where
  w:Int
  l:Int
  n:Int
  deriving DecidableEq
def Stp.cells (s:Stp):List Value:=[.int .i64 s.w,.int .i64 s.l,.int .i64 s.n]
def sz0:Stp:=⟨0,0,0⟩
structure Tn where
  co:Int
  li:Int
  sq:Int
  deriving DecidableEq
def Tn.cells (t:Tn):List Value:=[.int .i64 t.co,.int .i64 t.li,.int .i64 t.sq]
def keyB (k:Key):Bool:=decide (1≤k.length) && decide (k.length≤24)
def mayS (s:Stp):Bool:=decide (0≤s.w∧s.w≤281474976710656∧0≤s.l∧s.l≤65535∧0≤s.n∧s.n≤63)
def mayT (t:Tn):Bool:=decide (1≤t.co∧t.co≤2∧1≤t.li∧1≤t.sq)
def ordI (a b:Int):Int:=if a < b then -1 else if b < a then 1 else 0
theorem ord_tri (a b:Int):(ordI a b < 0 ↔ a < b)∧(ordI a b = 0 ↔ a = b)∧(0 < ordI a b ↔ b < a)∧-1≤ordI a b∧ordI a b≤1:=by
  unfold ordI;split <;> (try split) <;> omega
def cmpS (a b:Stp):Int:=if a.w = b.w then (if a.l = b.l then ordI a.n b.n else ordI a.l b.l) else ordI a.w b.w
def ltS (a b:Stp):Prop:=a.w < b.w∨(a.w = b.w∧(a.l < b.l∨(a.l = b.l∧a.n < b.n)))
instance (a b:Stp):Decidable (ltS a b):=by unfold ltS;infer_instance
theorem cmp_lt (a b:Stp):cmpS a b < 0 ↔ ltS a b:=by
  unfold cmpS ltS ordI;(repeat' split) <;> omega
theorem cmp_gt (a b:Stp):0 < cmpS a b ↔ ltS b a:=by
  unfold cmpS ltS ordI;(repeat' split) <;> omega
theorem cmp_eq (a b:Stp):cmpS a b = 0 ↔ a = b:=by
  obtain ⟨x,y,z⟩:=a
  obtain ⟨p,q,r⟩:=b
  unfold cmpS ordI
  simp only [Stp.mk.injEq]
  (repeat' split) <;> omega
theorem cmp_le (a b:Stp):cmpS a b≤0 ↔ ¬ ltS b a:=by rw [← cmp_gt];omega
theorem ltS_tot (a b:Stp):ltS a b∨a = b∨ltS b a:=by
  have h1:=cmp_lt a b
  have h2:=cmp_eq a b
  have h3:=cmp_gt a b
  rcases Int.lt_trichotomy (cmpS a b) 0 with h | h | h
  · exact .inl (h1.1 h)
  · exact .inr (.inl (h2.1 h))
  exact .inr (.inr (h3.1 h))
def mayV (v:Vl):Bool:=
  if v.k = 0 then decide (v.num = 0) && decide (v.tx = [])
  else if v.k = 1 then decide (v.tx = []) && decide (v.num = fcan v.num)
  else if v.k = 2 then decide (v.num = 0) && decide (v.tx.length≤64)
  else false
/-! writes that rise -/
def kbad (l:List Key) (i:Nat):Bool:=match l[i]? with
  | none=>false
  | some x=>!keyB x || (match i with
    | 0=>false
    | j + 1=>match l[j]? with
      | some y=>!Op.bytesLess y x
      | none=>false)
def wbad (l:List Wt) (i:Nat):Bool:=kbad (l.map Wt.key) i || (match l[i]? with
  | none=>false
  | some x=>!mayV x.v)
def allOk (f:Nat→Bool) (n:Nat):Bool:=(List.range n).all fun i=>!f i
theorem allOk_of {f:Nat→Bool} {n:Nat} (h:∀ i,i < n→f i = false):allOk f n = true:=by
  unfold allOk
  rw [List.all_eq_true]
  intro i hi
  rw [h i (List.mem_range.1 hi)]
  rfl
theorem allOk_no {f:Nat→Bool} {n k:Nat} (hk:k < n) (h:f k = true):allOk f n = false:=by
  unfold allOk
  rw [List.all_eq_false]
  exact ⟨k,List.mem_range.2 hk,by rw [h];decide⟩
theorem allOk_iff {f:Nat→Bool} {n:Nat}:allOk f n = true ↔ ∀ i,i < n→f i = false:=by
  refine ⟨fun h i hi=>?_,allOk_of⟩
  unfold allOk at h
  have:=List.all_eq_true.1 h i (List.mem_range.2 hi)
  simpa using this
theorem ok_up {f:Nat→Bool} {k:Nat} (h:∀ i,i < k→f i = false) (hk:f k = false):∀ i,i < k + 1→f i = false:=fun i hi=>by
  rcases Nat.lt_or_ge i k with h1 | h1
  · exact h i h1
  obtain rfl:i = k:=by omega
  exact hk
theorem kbad_key {l:List Key} {k:Nat} {x:Key} (h:l[k]? = some x) (hx:keyB x = false):kbad l k = true:=by
  unfold kbad;rw [h];dsimp only;rw [hx];rfl
theorem kbad_zero {l:List Key} {x:Key} {k:Nat} (h:l[k]? = some x) (hx:keyB x = true) (hk:k = 0):kbad l k = false:=by
  subst hk;unfold kbad;rw [h];dsimp only;rw [hx];rfl
theorem kbad_pos {l:List Key} {k:Nat} {x y:Key} (h:l[k]? = some x) (hx:keyB x = true) (hk:0 < k) (hy:l[k - 1]? = some y):kbad l k = !Op.bytesLess y x:=by
  obtain ⟨j,rfl⟩:∃ j,k = j + 1:=⟨k - 1,by omega⟩
  rw [Nat.add_sub_cancel] at hy
  unfold kbad
  rw [h]
  dsimp only
  rw [hx,hy]
  rfl
def okW (l:List Wt) (most:Nat):Bool:=decide (l.length≤most) && allOk (wbad l) l.length
def keysOk (l:List Key):Bool:=allOk (kbad l) l.length
def wkeys (l:List Wt):List Key:=l.map Wt.key
def pmay (t:Tn) (s:Stp) (reads:List Key) (ws:List Wt):Int:=
  if mayT t = false then 4
  else if mayS s = false∨s = sz0 then 17
  else if (keysOk reads && decide (reads.length≤16)) = false∨(keysOk (wkeys ws) && decide (ws.length≤16)) = false then 4
  else if (ws.all fun x=>mayV x.v) = true then 0 else 4
def emay (t:Tn) (s:Stp) (ws:List Wt):Bool:=mayT t && mayS s && !decide (s = sz0) && okW ws 16
theorem okW_iff (l:List Wt) (m:Nat):okW l m = (keysOk (wkeys l) && decide (l.length≤m) && l.all fun x=>mayV x.v):=by
  have key:allOk (wbad l) l.length = (keysOk (wkeys l) && l.all fun x=>mayV x.v):=by
    rw [Bool.eq_iff_iff]
    unfold keysOk
    rw [Bool.and_eq_true,allOk_iff,allOk_iff,List.all_eq_true]
    unfold wkeys
    rw [List.length_map]
    constructor
    · intro h
      refine ⟨fun i hi=>?_,fun x hx=>?_⟩
      · have h1:=h i hi
        unfold wbad at h1
        exact (Bool.or_eq_false_iff.1 h1).1
      obtain ⟨i,hi⟩:=List.mem_iff_getElem?.1 hx
      have h1:=h i (List.getElem?_eq_some_iff.1 hi).1
      unfold wbad at h1
      have h2:=(Bool.or_eq_false_iff.1 h1).2
      rw [hi] at h2
      simpa using h2
    rintro ⟨h1,h2⟩ i hi
    unfold wbad
    rw [h1 i hi,Bool.false_or,List.getElem?_eq_getElem hi]
    dsimp only
    rw [h2 _ (List.getElem_mem _)]
    rfl
  unfold okW
  rw [key,Bool.eq_iff_iff]
  simp only [Bool.and_eq_true]
  exact ⟨fun ⟨a,b,c⟩=>⟨⟨b,a⟩,c⟩,fun ⟨⟨b,a⟩,c⟩=>⟨a,b,c⟩⟩
theorem pmay_emay (t:Tn) (s:Stp) (ws:List Wt):decide (pmay t s [] ws = 0) = emay t s ws:=by
  unfold pmay emay
  rw [okW_iff]
  have e1:(keysOk [] && decide (([]:List Key).length≤16)) = true:=by decide
  rw [e1]
  cases h1:mayT t
  · simp
  cases h2:mayS s
  · simp
  by_cases h3:s = sz0
  · simp [h3]
  cases h4:(keysOk (wkeys ws) && decide (ws.length≤16))
  · simp [h3]
  cases h5:ws.all fun x=>mayV x.v
  · simp [h3]
  simp [h3]
/-! what writes weigh -/
def few2F (a b c:Nat):Nat:=if c < b∨c < a then c + 1 else a + b
def wwF (m:Nat):List Wt→Nat→Nat
  | [],n=>n
  | x :: r,n=>if n≤m then wwF m r (few2F (few2F n (1 + x.key.length) m) x.v.tx.length m) else n
theorem few2_le {a b c:Nat} (h:few2F a b c≤c):few2F a b c = a + b:=by
  unfold few2F at *
  split
  · rename_i h1;rw [if_pos h1] at h;omega
  rfl
theorem ww_facts {m:Nat}:∀ (l:List Wt) (n:Nat),wwF m l n≤m→n + l.length≤m∧∀ x ∈ l,x.key.length≤m∧x.v.tx.length≤m
  | [],n,h=>⟨by simpa [wwF] using h,by simp⟩
  | x :: r,n,h=>by
    unfold wwF at h
    split at h
    · have h1:=ww_facts r _ h
      have h3:few2F (few2F n (1 + x.key.length) m) x.v.tx.length m≤m:=by omega
      have h4:=few2_le h3
      have h6:=few2_le (show few2F n (1 + x.key.length) m≤m by omega)
      refine ⟨by rw [List.length_cons];omega,fun y hy=>?_⟩
      rcases List.mem_cons.1 hy with rfl | hy
      · omega
      exact h1.2 y hy
    omega
/-! cells of plain lists -/
def kc (l:Key):List Value:=[.string ⟨l.toArray⟩]
theorem kc_len (l:Key):(kc l).length = 1:=rfl
theorem take_app {α:Type} {l:List α} {n:Nat} {k:α} (h:l[n]? = some k):l.take (n + 1) = l.take n++[k]:=by
  obtain ⟨hk,rfl⟩:=List.getElem?_eq_some_iff.1 h
  exact List.take_succ_eq_append_getElem hk
theorem tk_k {l:List Wt} {k:Nat} {o:Wt} (h:l[k]? = some o):((l.take k).map Wt.key).flatMap kc++[.string ⟨o.key.toArray⟩] = ((l.take (k + 1)).map Wt.key).flatMap kc:=by
  rw [take_app h,List.map_append,List.flatMap_append];rfl
end Go.Proofs.YtonnladboikmhaaGreatDoor
