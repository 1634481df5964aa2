/- Entries as lines, plainly. -/
import Derived.Test.YtonnladboikmhaaGreatDoorX1
import Derived.Test.YtonnladboikmhaaGreatDoorN0
import Derived.Test.YtonnladboikmhaaGreatDoorC5
import Derived.Lib.Bytealg
set_option linter.unusedSimpArgs false
set_option linter.unusedVariables false
namespace Go.Proofs.YtonnladboikmhaaGreatDoor
open Sx
theorem idx_app {a b:List UInt8} {x:UInt8} (h:∀ c ∈ a,c ≠ x):Lib.indexByte (a++x :: b) x = a.length:=by
  induction a with
  | nil=>simp [Lib.indexByte]
  | cons c a ih=>
    have h1:=ih (fun d hd=>h d (by simp [hd]))
    have h2:(c == x) = false:=beq_eq_false_iff_ne.2 (h c (by simp))
    rw [List.cons_append,Lib.indexByte,h2,h1,List.length_cons]
    have h3:((a.length:Int) == -1) = false:=beq_eq_false_iff_ne.2 (by omega)
    rw [h3]
    simp
theorem idx_bd (a:List UInt8) (x:UInt8):-1≤Lib.indexByte a x∧Lib.indexByte a x < a.length:=by
  induction a with
  | nil=>simp [Lib.indexByte]
  | cons c a ih=>
    rw [Lib.indexByte,List.length_cons]
    split
    · omega
    split <;> omega
theorem esc_no34 (c:UInt8):∀ d ∈ esc c,d ≠ 34:=fun d hd h9=>by
  subst h9
  have b:=c.toNat_lt
  cases hp:plainB c
  · rw [esc_code hp] at hd
    simp only [List.mem_cons,List.not_mem_nil,or_false] at hd
    rcases hd with h | h | h
    · exact absurd h (by decide)
    · exact (hex_ne _ (by omega)).1 h.symm
    exact (hex_ne _ (by omega)).1 h.symm
  rw [esc_plain hp] at hd
  simp only [List.mem_cons,List.not_mem_nil,or_false] at hd
  exact (plain_ne hp).2 hd.symm
theorem flat_no34 (t:List UInt8):∀ d ∈ t.flatMap esc,d ≠ 34:=fun d hd=>by
  obtain ⟨c,-,h⟩:=List.mem_flatMap.1 hd
  exact esc_no34 c d h
theorem quote_cons (t r:List UInt8):quote t++r = 34 :: (t.flatMap esc++34 :: r):=by unfold quote;simp
/-! the first that is wrong -/
def fstB (f:Nat→Int):Nat→Int
  | 0=>0
  | n + 1=>if fstB f n = 0 then f n else fstB f n
theorem fstB_of {f:Nat→Int}:∀ {n:Nat},(∀ i,i < n→f i = 0)→fstB f n = 0
  | 0,_=>rfl
  | n + 1,h=>by
    unfold fstB
    rw [if_pos (fstB_of fun i hi=>h i (by omega))]
    exact h n (Nat.lt_succ_self n)
theorem fstB_at {f:Nat→Int} {k:Nat} (h:∀ i,i < k→f i = 0) (hk:f k ≠ 0):∀ {n:Nat},k < n→fstB f n = f k
  | 0,hn=>by omega
  | n + 1,hn=>by
    unfold fstB
    by_cases h1:k = n
    · subst h1
      rw [if_pos (fstB_of h)]
    rw [fstB_at h hk (n:=n) (by omega),if_neg hk]
theorem fstB_zero {f:Nat→Int}:∀ {n:Nat},fstB f n = 0→∀ i,i < n→f i = 0
  | 0,_,i,hi=>by omega
  | n + 1,h,i,hi=>by
    unfold fstB at h
    by_cases h1:fstB f n = 0
    · rw [if_pos h1] at h
      by_cases h2:i = n
      · subst h2;exact h
      exact fstB_zero h1 i (by omega)
    rw [if_neg h1] at h
    exact absurd h h1
/-! entries as lines -/
def dot3 (a b c:Int):Key:=Lib.itoa a++46 :: (Lib.itoa b++46 :: Lib.itoa c)
def stpT (s:Stp):Key:=dot3 s.w s.l s.n
def tnT (t:Tn):Key:=dot3 t.co t.li t.sq
def hdT (t:Tn) (s:Stp) (n:Int):Key:=64 :: 32 :: (stpT s++32 :: (tnT t++32 :: Lib.itoa n))
def wrT (w:Wt):Key:=if w.v.k = 0 then 45 :: 32 :: quote w.key else 43 :: 32 :: (quote w.key++32 :: printV w.v)
def lin (x:Key):Key:=x++[10]
def linesE (x:Ep):List Key:=hdT x.t x.s x.ws.length :: x.ws.map wrT
def linesL (l:List Ep):List Key:=l.flatMap linesE
def bodyT (l:List Ep):Key:=(linesL l).flatMap lin
def hex8 (n:Nat):Key:=[hexd.getD (n / 268435456 % 16) 0,hexd.getD (n / 16777216 % 16) 0,hexd.getD (n / 1048576 % 16) 0,hexd.getD (n / 65536 % 16) 0,hexd.getD (n / 4096 % 16) 0,hexd.getD (n / 256 % 16) 0,hexd.getD (n / 16 % 16) 0,hexd.getD (n % 16) 0]
def sumT (b:Key):Key:=46 :: 32 :: hex8 (crc b)
def textT (l:List Ep):Key:=bodyT l++(sumT (bodyT l)++[10])
def okE (x:Ep):Bool:=emay x.t x.s x.ws
def ebad (l:List Ep) (i:Nat):Int:=match l[i]? with
  | none=>0
  | some x=>if okE x = false then 4 else match i with
    | 0=>0
    | j + 1=>match l[j]? with
      | some y=>if ltS y.s x.s then 0 else 20
      | none=>0
def fault (l:List Ep):Int:=fstB (ebad l) l.length
def printL (l:List Ep):Key × Int:=if fault l = 0 then (textT l,0) else ([],fault l)
structure Good (l:List Ep):Prop where
  ok:fault l = 0
  num:∀ x ∈ l,(inInt x.t.li∧inInt x.t.sq)∧∀ w ∈ x.ws,w.v.num < 18446744073709551616
theorem good_at {l:List Ep} (h:fault l = 0) {i:Nat} {x:Ep} (hi:l[i]? = some x):okE x = true∧∀ y,0 < i→l[i - 1]? = some y→ltS y.s x.s:=by
  have h1:=fstB_zero h i (List.getElem?_eq_some_iff.1 hi).1
  unfold ebad at h1
  rw [hi] at h1
  dsimp only at h1
  cases h2:okE x
  · rw [h2] at h1;simp at h1
  refine ⟨rfl,fun y h0 hy=>?_⟩
  rw [h2,if_neg (by decide)] at h1
  cases i with
  | zero=>omega
  | succ j=>
    rw [Nat.add_sub_cancel] at hy
    dsimp only at h1
    rw [hy] at h1
    dsimp only at h1
    split at h1
    · assumption
    cases h1
theorem fault_of {l:List Ep} (h:∀ (i:Nat) x,l[i]? = some x→okE x = true∧∀ y,0 < i→l[i - 1]? = some y→ltS y.s x.s):fault l = 0:=fstB_of fun i hi=>by
  have ho:l[i]? = some l[i]:=List.getElem?_eq_getElem hi
  obtain ⟨h1,h2⟩:=h i _ ho
  unfold ebad
  rw [ho]
  dsimp only
  rw [h1,if_neg (by decide)]
  cases i with
  | zero=>rfl
  | succ j=>
    have hy:l[j]? = some l[j]:=List.getElem?_eq_getElem (by omega)
    dsimp only
    rw [hy]
    dsimp only
    rw [if_pos (h2 _ (Nat.succ_pos j) (by rw [Nat.add_sub_cancel];exact hy))]
theorem fault_nil:fault [] = 0:=rfl
theorem good_pre {l m:List Ep} (h:Good (l++m)):Good l:=⟨fault_of fun i x hx=>by
    have hi:=(List.getElem?_eq_some_iff.1 hx).1
    have h1:=good_at h.ok (i:=i) (x:=x) (by rw [List.getElem?_append_left hi];exact hx)
    exact ⟨h1.1,fun y h0 hy=>h1.2 y h0 (by rw [List.getElem?_append_left (by omega)];exact hy)⟩,fun x hx=>h.num x (List.mem_append_left _ hx)⟩
theorem good_app {l m:List Ep} (hl:Good l) (hm:Good m) (h:∀ x y,l[l.length - 1]? = some x→m[0]? = some y→ltS x.s y.s):Good (l++m):=⟨fault_of fun i x hx=>by
    rcases Nat.lt_or_ge i l.length with h1 | h1
    · rw [List.getElem?_append_left h1] at hx
      have h2:=good_at hl.ok hx
      exact ⟨h2.1,fun y h0 hy=>h2.2 y h0 (by rw [List.getElem?_append_left (by omega)] at hy;exact hy)⟩
    · rw [List.getElem?_append_right h1] at hx
      have h2:=good_at hm.ok hx
      refine ⟨h2.1,fun y h0 hy=>?_⟩
      rcases Nat.eq_or_lt_of_le h1 with h3 | h3
      · subst h3
        rw [List.getElem?_append_left (by omega)] at hy
        rw [Nat.sub_self] at hx
        exact h y x hy hx
      rw [List.getElem?_append_right (by omega)] at hy
      exact h2.2 y (by omega) (by rw [show i - l.length - 1 = i - 1 - l.length from by omega];exact hy),fun x hx=>by
    rcases List.mem_append.1 hx with h1 | h1
    · exact hl.num x h1
    exact hm.num x h1⟩
/-! lines of a text -/
def cutN:Key→Key × Key
  | []=>([],[])
  | c :: r=>if c = 10 then ([],r) else (c :: (cutN r).1,(cutN r).2)
theorem cutN_len:∀ (b:Key),b ≠ []→(cutN b).2.length < b.length
  | [],h=>absurd rfl h
  | c :: r,_=>by
    unfold cutN
    split
    · simp
    show (cutN r).2.length < _
    cases r with
    | nil=>simp [cutN]
    | cons d r=>
      have:=cutN_len (d :: r) (List.cons_ne_nil _ _)
      simp only [List.length_cons] at this ⊢
      omega
theorem cutN_lin (x r:Key) (h:∀ c ∈ x,c ≠ 10):cutN (lin x++r) = (x,r):=by
  induction x with
  | nil=>rfl
  | cons c x ih=>
    have e:=ih fun d hd=>h d (by simp [hd])
    show cutN (c :: (lin x++r)) = _
    unfold cutN
    rw [if_neg (h c (by simp)),e]
def ended (b:Key):Prop:=b = []∨b[b.length - 1]? = some 10
theorem cutN_text:∀ (b:Key),ended b→b ≠ []→b = lin (cutN b).1++(cutN b).2∧ended (cutN b).2∧∀ c ∈ (cutN b).1,c ≠ 10
  | [],_,h=>absurd rfl h
  | c :: r,he,_=>by
    unfold cutN
    by_cases h1:c = 10
    · subst h1
      rw [if_pos rfl]
      refine ⟨rfl,?_,fun c h=>by cases h⟩
      show ended r
      rcases he with he | he
      · cases he
      cases r with
      | nil=>exact .inl rfl
      | cons d r=>exact .inr (by simpa using he)
    · rw [if_neg h1]
      have hr:r ≠ []:=by
        rintro rfl
        rcases he with he | he
        · cases he
        simp at he;exact h1 he
      have he2:ended r:=by
        rcases he with he | he
        · cases he
        right
        cases r with
        | nil=>exact absurd rfl hr
        | cons d r=>simpa using he
      obtain ⟨h2,h3,h4⟩:=cutN_text r he2 hr
      refine ⟨?_,h3,fun d hd=>?_⟩
      · conv=>lhs;rw [h2]
        rfl
      rcases List.mem_cons.1 hd with rfl | hd
      · exact h1
      exact h4 d hd
/-! parts at a byte -/
theorem part_eq {a b a' b':Key} {x:UInt8} (h:a++x :: b = a'++x :: b') (ha:∀ c ∈ a,c ≠ x) (ha':∀ c ∈ a',c ≠ x):a = a'∧b = b':=by
  induction a generalizing a' with
  | nil=>
    cases a' with
    | nil=>exact ⟨rfl,(List.cons.inj h).2⟩
    | cons c a'=>exact absurd (List.cons.inj h).1.symm (ha' c (by simp))
  | cons c a ih=>
    cases a' with
    | nil=>exact absurd (List.cons.inj h).1 (ha c (by simp))
    | cons d a'=>
      obtain ⟨h1,h2⟩:=List.cons.inj h
      obtain ⟨h3,h4⟩:=ih h2 (fun e he=>ha e (by simp [he])) (fun e he=>ha' e (by simp [he]))
      exact ⟨by rw [h1,h3],h4⟩
def ich (c:UInt8):Prop:=c.toNat = 45∨48≤c.toNat∧c.toNat≤57
theorem itoa_ich (n:Int):∀ c ∈ Lib.itoa n,ich c:=fun c hc=>by
  rw [itoa_abs] at hc
  rcases List.mem_append.1 hc with h | h
  · unfold sgT at h
    split at h
    · simp only [List.mem_cons,List.not_mem_nil,or_false] at h
      subst h
      exact .inl rfl
    cases h
  exact .inr ((dec_all _).1 c h)
theorem ich_ne {c:UInt8} (h:ich c):c ≠ 46∧c ≠ 32∧c ≠ 10∧c ≠ 34:=by
  refine ⟨?_,?_,?_,?_⟩ <;> (rintro rfl;revert h;unfold ich;decide)
theorem dot3_ch (a b c:Int):∀ x ∈ dot3 a b c,ich x∨x = 46:=fun x hx=>by
  unfold dot3 at hx
  rcases List.mem_append.1 hx with h | h
  · exact .inl (itoa_ich _ x h)
  rcases List.mem_cons.1 h with h | h
  · exact .inr h
  rcases List.mem_append.1 h with h | h
  · exact .inl (itoa_ich _ x h)
  rcases List.mem_cons.1 h with h | h
  · exact .inr h
  exact .inl (itoa_ich _ x h)
theorem dot3_ne (a b c:Int):∀ x ∈ dot3 a b c,x ≠ 32∧x ≠ 10:=fun x hx=>by
  rcases dot3_ch a b c x hx with h | h
  · exact ⟨(ich_ne h).2.1,(ich_ne h).2.2.1⟩
  subst h;decide
theorem itoa_inj {m n:Int} (h:Lib.itoa m = Lib.itoa n):m = n:=by
  have h1:=unsg_itoa m
  rw [h,unsg_itoa n] at h1
  simp only [Prod.mk.injEq,decide_eq_decide] at h1
  have h2:=(dec_all n.natAbs).2
  rw [h1.2,(dec_all m.natAbs).2] at h2
  have:=h1.1
  omega
theorem dot3_inj {a b c a' b' c':Int} (h:dot3 a b c = dot3 a' b' c'):a = a'∧b = b'∧c = c':=by
  have hn:∀ n:Int,∀ x ∈ Lib.itoa n,x ≠ 46:=fun n x hx=>(ich_ne (itoa_ich n x hx)).1
  unfold dot3 at h
  obtain ⟨h1,h2⟩:=part_eq h (hn _) (hn _)
  obtain ⟨h3,h4⟩:=part_eq h2 (hn _) (hn _)
  exact ⟨itoa_inj h1,itoa_inj h3,itoa_inj h4⟩
theorem stpT_inj {s s':Stp} (h:stpT s = stpT s'):s = s':=by
  obtain ⟨a,b,c⟩:=s
  obtain ⟨d,e,f⟩:=s'
  obtain ⟨h1,h2,h3⟩:=dot3_inj h
  simp only at h1 h2 h3
  subst h1 h2 h3
  rfl
theorem tnT_inj {s s':Tn} (h:tnT s = tnT s'):s = s':=by
  obtain ⟨a,b,c⟩:=s
  obtain ⟨d,e,f⟩:=s'
  obtain ⟨h1,h2,h3⟩:=dot3_inj h
  simp only at h1 h2 h3
  subst h1 h2 h3
  rfl
theorem hdT_inj {t t':Tn} {s s':Stp} {n n':Int} (h:hdT t s n = hdT t' s' n'):t = t'∧s = s'∧n = n':=by
  unfold hdT at h
  simp only [List.cons.injEq,true_and] at h
  obtain ⟨h1,h2⟩:=part_eq h (fun c hc=>(dot3_ne _ _ _ c hc).1) (fun c hc=>(dot3_ne _ _ _ c hc).1)
  obtain ⟨h3,h4⟩:=part_eq h2 (fun c hc=>(dot3_ne _ _ _ c hc).1) (fun c hc=>(dot3_ne _ _ _ c hc).1)
  exact ⟨tnT_inj h3,stpT_inj h1,itoa_inj h4⟩
theorem hdT_no10 (t:Tn) (s:Stp) (n:Int):∀ c ∈ hdT t s n,c ≠ 10:=fun c hc=>by
  unfold hdT at hc
  rcases List.mem_cons.1 hc with rfl | hc
  · decide
  rcases List.mem_cons.1 hc with rfl | hc
  · decide
  rcases List.mem_append.1 hc with hc | hc
  · exact (dot3_ne _ _ _ c hc).2
  rcases List.mem_cons.1 hc with rfl | hc
  · decide
  rcases List.mem_append.1 hc with hc | hc
  · exact (dot3_ne _ _ _ c hc).2
  rcases List.mem_cons.1 hc with rfl | hc
  · decide
  exact (ich_ne (itoa_ich _ c hc)).2.2.1
theorem hexd_hi:∀ k < 16,48≤(hexd.getD k 0).toNat:=by decide
theorem esc_no10 (c:UInt8):∀ d ∈ esc c,d ≠ 10:=fun d hd h9=>by
  subst h9
  have b:=c.toNat_lt
  cases hp:plainB c
  · rw [esc_code hp] at hd
    simp only [List.mem_cons,List.not_mem_nil,or_false] at hd
    rcases hd with h | h | h
    · exact absurd h (by decide)
    · have:=hexd_hi (c.toNat / 16) (by omega)
      rw [← h] at this
      exact absurd this (by decide)
    have:=hexd_hi (c.toNat % 16) (by omega)
    rw [← h] at this
    exact absurd this (by decide)
  rw [esc_plain hp] at hd
  simp only [List.mem_cons,List.not_mem_nil,or_false] at hd
  subst hd
  revert hp
  decide
theorem quote_no10 (t:Key):∀ d ∈ quote t,d ≠ 10:=fun d hd=>by
  unfold quote at hd
  rcases List.mem_cons.1 hd with rfl | hd
  · decide
  rcases List.mem_append.1 hd with hd | hd
  · obtain ⟨c,-,h⟩:=List.mem_flatMap.1 hd
    exact esc_no10 c d h
  simp only [List.mem_cons,List.not_mem_nil,or_false] at hd
  subst hd
  decide
theorem sgT_no10 (n:Bool):∀ c ∈ sgT n,c ≠ 10:=by cases n <;> decide
theorem numP_no10 {b:Nat} (h:Can b):∀ c ∈ numP b,c ≠ 10:=by
  rcases num_cases h.1 h.2 with ⟨e,-⟩ | ⟨e,-⟩ | ⟨e,-⟩ | ⟨e,-⟩ | ⟨e,-⟩ | ⟨n,m,x,r,⟨e,-⟩,-⟩
  · rw [e];decide
  · rw [e];decide
  · rw [e];decide
  · rw [e];decide
  · rw [e];decide
  rw [e]
  intro c hc
  rcases List.mem_append.1 hc with h2 | h2
  · exact sgT_no10 n c h2
  rcases List.mem_append.1 h2 with h3 | h3
  · have:=(dec_all _).1 c h3
    rintro rfl
    exact absurd this.1 (by decide)
  rcases List.mem_cons.1 h3 with rfl | h4
  · decide
  exact (ich_ne (itoa_ich _ c h4)).2.2.1
theorem printV_no10 {v:Vl} (h:mayV v = true) (hn:v.num < 18446744073709551616):∀ c ∈ printV v,c ≠ 10:=by
  unfold printV
  rw [if_neg (by simp [h])]
  split
  · rename_i h1
    exact numP_no10 ⟨(mayV_num h h1).2,hn⟩
  split
  · exact quote_no10 _
  decide
structure WrOk (w:Wt):Prop where
  key:keyB w.key = true
  may:mayV w.v = true
  num:w.v.num < 18446744073709551616
theorem wrT_no10 {w:Wt} (h:WrOk w):∀ c ∈ wrT w,c ≠ 10:=fun c hc=>by
  unfold wrT at hc
  split at hc
  · rcases List.mem_cons.1 hc with rfl | hc
    · decide
    rcases List.mem_cons.1 hc with rfl | hc
    · decide
    exact quote_no10 _ c hc
  rcases List.mem_cons.1 hc with rfl | hc
  · decide
  rcases List.mem_cons.1 hc with rfl | hc
  · decide
  rcases List.mem_append.1 hc with hc | hc
  · exact quote_no10 _ c hc
  rcases List.mem_cons.1 hc with rfl | hc
  · decide
  exact printV_no10 h.may h.num c hc
theorem quote_part {k k' r r':Key} (h:quote k++r = quote k'++r'):k = k'∧r = r':=by
  rw [quote_cons,quote_cons] at h
  obtain ⟨h1,h2⟩:=part_eq (List.cons.inj h).2 (flat_no34 k) (flat_no34 k')
  exact ⟨esc_inj h1,h2⟩
theorem wrT_inj {w w':Wt} (h:WrOk w) (h':WrOk w') (e:wrT w = wrT w'):w = w':=by
  unfold wrT at e
  by_cases h0:w.v.k = 0
  · by_cases h1:w'.v.k = 0
    · rw [if_pos h0,if_pos h1] at e
      have e2:=quote_inj (List.cons.inj (List.cons.inj e).2).2
      have z:=mayV_none h.may (by omega) (by omega)
      have z':=mayV_none h'.may (by omega) (by omega)
      obtain ⟨a,b⟩:=w
      obtain ⟨a',b'⟩:=w'
      simp only at e2 z z'
      rw [e2,z,z']
    rw [if_pos h0,if_neg h1] at e
    exact absurd (List.cons.inj e).1 (by decide)
  by_cases h1:w'.v.k = 0
  · rw [if_neg h0,if_pos h1] at e
    exact absurd (List.cons.inj e).1 (by decide)
  rw [if_neg h0,if_neg h1] at e
  obtain ⟨e2,e3⟩:=quote_part (List.cons.inj (List.cons.inj e).2).2
  have e4:=parse_print h.may h.num
  rw [(List.cons.inj e3).2,parse_print h'.may h'.num] at e4
  obtain ⟨a,b⟩:=w
  obtain ⟨a',b'⟩:=w'
  simp only [Prod.mk.injEq,and_true] at e2 e4
  rw [e2,e4]
/-! lines read -/
structure HdOk (t:Tn) (s:Stp) (n:Int):Prop where
  ht:mayT t = true
  hs:mayS s = true
  hz:s ≠ sz0
  hi:inInt t.li∧inInt t.sq
  n0:0≤n
  n1:n≤16
open Classical in
noncomputable def rdE (x:Key):Option (Tn × Stp × Int):=if h:∃ p:Tn × Stp × Int,hdT p.1 p.2.1 p.2.2 = x∧HdOk p.1 p.2.1 p.2.2 then some h.choose else none
theorem rdE_of {t:Tn} {s:Stp} {n:Int} {x:Key} (e:hdT t s n = x) (h:HdOk t s n):rdE x = some (t,s,n):=by
  have h1:∃ p:Tn × Stp × Int,hdT p.1 p.2.1 p.2.2 = x∧HdOk p.1 p.2.1 p.2.2:=⟨(t,s,n),e,h⟩
  unfold rdE
  rw [dif_pos h1]
  obtain ⟨a,b,c⟩:=hdT_inj (h1.choose_spec.1.trans e.symm)
  rw [show h1.choose = (h1.choose.1,h1.choose.2.1,h1.choose.2.2) from rfl,a,b,c]
theorem rdE_no {x:Key} (h:∀ t s n,HdOk t s n→hdT t s n ≠ x):rdE x = none:=by
  unfold rdE
  rw [dif_neg (fun h1=>h _ _ _ h1.choose_spec.2 h1.choose_spec.1)]
theorem rdE_some {x:Key} {p:Tn × Stp × Int} (h:rdE x = some p):hdT p.1 p.2.1 p.2.2 = x∧HdOk p.1 p.2.1 p.2.2:=by
  unfold rdE at h
  split at h
  · rename_i h1
    cases h
    exact h1.choose_spec
  cases h
open Classical in
noncomputable def rdW (x:Key):Option Wt:=if h:∃ w,wrT w = x∧WrOk w then some h.choose else none
theorem rdW_of {w:Wt} {x:Key} (e:wrT w = x) (h:WrOk w):rdW x = some w:=by
  have h1:∃ w,wrT w = x∧WrOk w:=⟨w,e,h⟩
  unfold rdW
  rw [dif_pos h1,wrT_inj h1.choose_spec.2 h (h1.choose_spec.1.trans e.symm)]
theorem rdW_no {x:Key} (h:∀ w,WrOk w→wrT w ≠ x):rdW x = none:=by
  unfold rdW
  rw [dif_neg (fun h1=>h _ h1.choose_spec.2 h1.choose_spec.1)]
theorem rdW_some {x:Key} {w:Wt} (h:rdW x = some w):wrT w = x∧WrOk w:=by
  unfold rdW at h
  split at h
  · rename_i h1
    cases h
    exact h1.choose_spec
  cases h
def addW (l:List Ep) (w:Wt):List Ep:=match l.getLast? with
  | none=>l
  | some e=>l.dropLast++[⟨e.t,e.s,e.ws++[w]⟩]
def nextW (l:List Ep) (w:Wt):Prop:=∃ e,l.getLast? = some e∧∀ y,e.ws.getLast? = some y→slt y.key w.key
def nextE (l:List Ep) (s:Stp):Prop:=∀ e,l.getLast? = some e→ltS e.s s
open Classical in
noncomputable def stepL (o:List Ep × Int) (x:Key):Option (List Ep × Int):=
  if 0 < o.2 then match rdW x with
    | none=>none
    | some w=>if nextW o.1 w then some (addW o.1 w,o.2 - 1) else none
  else match rdE x with
    | none=>none
    | some p=>if nextE o.1 p.2.1 then some (o.1++[⟨p.1,p.2.1,[]⟩],p.2.2) else none
noncomputable def runL (ls:List Key):Option (List Ep × Int):=ls.foldl (fun o x=>o.bind fun o=>stepL o x) (some ([],0))
theorem runL_snoc (ls:List Key) (x:Key):runL (ls++[x]) = (runL ls).bind fun o=>stepL o x:=by
  unfold runL
  rw [List.foldl_append]
  rfl
theorem run_none (ls:List Key):ls.foldl (fun (o:Option (List Ep × Int)) x=>o.bind fun o=>stepL o x) none = none:=by
  induction ls with
  | nil=>rfl
  | cons x ls ih=>exact ih
theorem runL_none {ls:List Key} (h:runL ls = none) (m:List Key):runL (ls++m) = none:=by
  unfold runL at h ⊢
  rw [List.foldl_append,h]
  exact run_none m
theorem getLast_snoc {α:Type} (l:List α) (x:α):(l++[x]).getLast? = some x:=by simp
theorem addW_snoc (l:List Ep) (e:Ep) (w:Wt):addW (l++[e]) w = l++[⟨e.t,e.s,e.ws++[w]⟩]:=by
  unfold addW
  rw [getLast_snoc]
  simp
theorem step_write {l:List Ep} {k:Int} {x:Key} {w:Wt} (hk:0 < k) (hw:rdW x = some w) (hn:nextW l w):stepL (l,k) x = some (addW l w,k - 1):=by
  unfold stepL
  rw [if_pos hk,hw]
  dsimp only
  rw [if_pos hn]
theorem step_write_no {l:List Ep} {k:Int} {x:Key} (hk:0 < k) (h:rdW x = none∨∃ w,rdW x = some w∧¬ nextW l w):stepL (l,k) x = none:=by
  unfold stepL
  rw [if_pos hk]
  rcases h with h | ⟨w,h,h2⟩
  · rw [h]
  rw [h]
  dsimp only
  rw [if_neg h2]
theorem step_head {l:List Ep} {k:Int} {x:Key} {t:Tn} {s:Stp} {n:Int} (hk:¬ 0 < k) (hw:rdE x = some (t,s,n)) (hn:nextE l s):stepL (l,k) x = some (l++[⟨t,s,[]⟩],n):=by
  unfold stepL
  rw [if_neg hk,hw]
  dsimp only
  rw [if_pos hn]
theorem step_head_no {l:List Ep} {k:Int} {x:Key} (hk:¬ 0 < k) (h:rdE x = none∨∃ p,rdE x = some p∧¬ nextE l p.2.1):stepL (l,k) x = none:=by
  unfold stepL
  rw [if_neg hk]
  rcases h with h | ⟨w,h,h2⟩
  · rw [h]
  rw [h]
  dsimp only
  rw [if_neg h2]
structure Ups (ws:List Wt):Prop where
  ok:∀ w ∈ ws,WrOk w
  up:keysOk (wkeys ws) = true
theorem ups_last {ws:List Wt} (h:keysOk (wkeys ws) = true) {i:Nat} {x y:Wt} (hx:ws[i]? = some x) (h0:0 < i) (hy:ws[i - 1]? = some y):slt y.key x.key:=by
  unfold keysOk at h
  have hi:=(List.getElem?_eq_some_iff.1 hx).1
  have hm:(wkeys ws)[i]? = some x.key:=by unfold wkeys;rw [List.getElem?_map,hx];rfl
  have hm2:(wkeys ws)[i - 1]? = some y.key:=by unfold wkeys;rw [List.getElem?_map,hy];rfl
  have h1:=allOk_iff.1 h i (by unfold wkeys;rw [List.length_map];exact hi)
  cases hk:keyB x.key
  · rw [kbad_key hm hk] at h1;cases h1
  rw [kbad_pos hm hk h0 hm2] at h1
  unfold slt
  simpa using h1
theorem kbad_congr {l m:List Key} {i:Nat} (h:l[i]? = m[i]?) (h':∀ j,j + 1 = i→l[j]? = m[j]?):kbad l i = kbad m i:=by
  unfold kbad
  rw [h]
  cases i with
  | zero=>rfl
  | succ j=>
    dsimp only
    rw [h' j rfl]
theorem ups_snoc {ws:List Wt} {w:Wt} (h:keysOk (wkeys ws) = true) (hk:keyB w.key = true) (hl:∀ y,ws.getLast? = some y→slt y.key w.key):keysOk (wkeys (ws++[w])) = true:=by
  unfold keysOk at h ⊢
  rw [allOk_iff] at h ⊢
  have e:wkeys (ws++[w]) = wkeys ws++[w.key]:=by unfold wkeys;simp
  have el:(wkeys ws).length = ws.length:=by unfold wkeys;simp
  rw [e]
  intro i hi
  rw [List.length_append,List.length_singleton] at hi
  rcases Nat.lt_or_ge i (wkeys ws).length with h1 | h1
  · have h2:=h i h1
    rw [← h2]
    exact kbad_congr (List.getElem?_append_left h1) fun j hj=>List.getElem?_append_left (by omega)
  obtain rfl:i = (wkeys ws).length:=by omega
  have hx:(wkeys ws++[w.key])[(wkeys ws).length]? = some w.key:=by simp
  rcases Nat.eq_zero_or_pos ws.length with h2 | h2
  · exact kbad_zero hx hk (by omega)
  have hg:ws.getLast? = some ws[ws.length - 1]:=by rw [List.getLast?_eq_getElem?];exact List.getElem?_eq_getElem (by omega)
  rw [kbad_pos (y:=ws[ws.length - 1].key) hx hk (by omega) (by
    rw [List.getElem?_append_left (by omega),el]
    unfold wkeys
    rw [List.getElem?_map,List.getElem?_eq_getElem (by omega)]
    rfl)]
  have h3:Op.bytesLess ws[ws.length - 1].key w.key = true:=hl _ hg
  rw [h3]
  rfl
theorem ups_pre {ws ws2:List Wt} (h:keysOk (wkeys (ws++ws2)) = true):keysOk (wkeys ws) = true:=by
  unfold keysOk at h ⊢
  rw [allOk_iff] at h ⊢
  have e:wkeys (ws++ws2) = wkeys ws++wkeys ws2:=by unfold wkeys;simp
  rw [e] at h
  intro i hi
  have h1:=h i (by rw [List.length_append];omega)
  rw [← h1]
  exact (kbad_congr (List.getElem?_append_left hi) fun j hj=>List.getElem?_append_left (by omega)).symm
theorem keys_mem {ws:List Wt} (h:keysOk (wkeys ws) = true) {w:Wt} (hw:w ∈ ws):keyB w.key = true:=by
  obtain ⟨i,hi⟩:=List.mem_iff_getElem?.1 hw
  unfold keysOk at h
  have h1:=allOk_iff.1 h i (by unfold wkeys;rw [List.length_map];exact (List.getElem?_eq_some_iff.1 hi).1)
  cases hk:keyB w.key
  · rw [kbad_key (l:=wkeys ws) (x:=w.key) (by unfold wkeys;rw [List.getElem?_map,hi];rfl) hk] at h1
    cases h1
  rfl
def Part (o:List Ep) (k:Int) (ls:List Key):Prop:=(o = []∧k = 0∧ls = []) ∨
  ∃ p e,o = p++[e]∧Good p∧HdOk e.t e.s (e.ws.length + k)∧0≤k∧Ups e.ws∧nextE p e.s∧ls = linesL p++(hdT e.t e.s (e.ws.length + k) :: e.ws.map wrT)
theorem okE_iff {x:Ep}:okE x = true ↔ mayT x.t = true∧mayS x.s = true∧x.s ≠ sz0∧keysOk (wkeys x.ws) = true∧x.ws.length≤16∧∀ w ∈ x.ws,mayV w.v = true:=by
  unfold okE emay
  rw [okW_iff]
  simp only [Bool.and_eq_true,Bool.not_eq_true',decide_eq_false_iff_not,decide_eq_true_eq,List.all_eq_true]
  exact ⟨fun ⟨⟨⟨a,b⟩,c⟩,⟨d,e⟩,f⟩=>⟨a,b,c,d,e,f⟩,fun ⟨a,b,c,d,e,f⟩=>⟨⟨⟨a,b⟩,c⟩,⟨d,e⟩,f⟩⟩
theorem part_good {o:List Ep} {ls:List Key} (h:Part o 0 ls):Good o∧ls = linesL o:=by
  rcases h with ⟨rfl,-,rfl⟩ | ⟨p,e,rfl,hp,hh,-,hu,hn,rfl⟩
  · exact ⟨⟨fault_nil,fun x hx=>by cases hx⟩,rfl⟩
  rw [Int.add_zero] at hh ⊢
  refine ⟨good_app hp ⟨fault_of fun i x hx=>?_,fun x hx=>?_⟩ fun x y hx hy=>?_,?_⟩
  · have hi:=(List.getElem?_eq_some_iff.1 hx).1
    have h0:i = 0:=by simpa using hi
    subst h0
    simp only [List.getElem?_cons_zero,Option.some.injEq] at hx
    subst hx
    exact ⟨okE_iff.2 ⟨hh.ht,hh.hs,hh.hz,hu.up,by have:=hh.n1;omega,fun w hw=>(hu.ok w hw).may⟩,fun y h9=>by omega⟩
  · simp only [List.mem_cons,List.not_mem_nil,or_false] at hx
    subst hx
    exact ⟨hh.hi,fun w hw=>(hu.ok w hw).num⟩
  · simp only [List.getElem?_cons_zero,Option.some.injEq] at hy
    subst hy
    exact hn x (by rw [List.getLast?_eq_getElem?];exact hx)
  unfold linesL
  rw [List.flatMap_append]
  simp [linesE]
theorem part_step {o:List Ep} {k:Int} {ls:List Key} {x:Key} {o':List Ep × Int} (h:Part o k ls) (hs:stepL (o,k) x = some o'):Part o'.1 o'.2 (ls++[x]):=by
  by_cases hk:0 < k
  · rcases h with ⟨rfl,rfl,rfl⟩ | ⟨p,e,rfl,hp,hh,-,hu,hn,rfl⟩
    · omega
    unfold stepL at hs
    rw [if_pos hk] at hs
    cases hw:rdW x with
    | none=>rw [hw] at hs;cases hs
    | some w=>
      rw [hw] at hs
      dsimp only at hs
      split at hs
      · rename_i h1
        cases hs
        obtain ⟨e2,he2,h3⟩:=h1
        rw [getLast_snoc] at he2
        cases he2
        obtain ⟨hx,hok⟩:=rdW_some hw
        refine .inr ⟨p,⟨e.t,e.s,e.ws++[w]⟩,addW_snoc p e w,hp,?_,by show 0≤k - 1;omega,⟨fun v hv=>?_,ups_snoc hu.up hok.key h3⟩,hn,?_⟩
        · show HdOk e.t e.s (((e.ws++[w]).length:Int) + (k - 1))
          rw [List.length_append,show ((e.ws.length + [w].length:Nat):Int) + (k - 1) = e.ws.length + k from by simp only [List.length_singleton];omega]
          exact hh
        · rcases List.mem_append.1 hv with h4 | h4
          · exact hu.ok v h4
          simp only [List.mem_cons,List.not_mem_nil,or_false] at h4
          subst h4
          exact hok
        show _ = linesL p++(hdT e.t e.s (((e.ws++[w]).length:Int) + (k - 1)) :: (e.ws++[w]).map wrT)
        rw [List.length_append,show ((e.ws.length + [w].length:Nat):Int) + (k - 1) = e.ws.length + k from by simp only [List.length_singleton];omega,List.map_append,← hx]
        simp
      cases hs
  have hg:Good o∧ls = linesL o:=by
    have h0:k = 0:=by
      rcases h with ⟨-,h,-⟩ | ⟨p,e,-,-,-,h,-⟩ <;> omega
    subst h0
    exact part_good h
  unfold stepL at hs
  rw [if_neg hk] at hs
  cases hw:rdE x with
  | none=>rw [hw] at hs;cases hs
  | some q=>
    rw [hw] at hs
    dsimp only at hs
    split at hs
    · rename_i h1
      cases hs
      obtain ⟨hx,hok⟩:=rdE_some hw
      refine .inr ⟨o,⟨q.1,q.2.1,[]⟩,rfl,hg.1,?_,hok.n0,⟨fun v hv=>(by cases hv),rfl⟩,h1,?_⟩
      · show HdOk q.1 q.2.1 (((([]:List Wt).length:Nat):Int) + q.2.2)
        rw [show ((([]:List Wt).length:Nat):Int) + q.2.2 = q.2.2 from by simp]
        exact hok
      show ls++[x] = linesL o++(hdT q.1 q.2.1 (((([]:List Wt).length:Nat):Int) + q.2.2) :: [])
      rw [show ((([]:List Wt).length:Nat):Int) + q.2.2 = q.2.2 from by simp,hx,hg.2]
    cases hs
theorem run_part:∀ (ls:List Key) {o:List Ep × Int},runL ls = some o→Part o.1 o.2 ls:=by
  intro ls
  induction h:ls.length generalizing ls with
  | zero=>
    intro o ho
    rw [List.eq_nil_of_length_eq_zero h] at ho ⊢
    cases ho
    exact .inl ⟨rfl,rfl,rfl⟩
  | succ n ih=>
    intro o ho
    obtain ⟨m,x,rfl⟩:∃ m x,ls = m++[x]:=⟨ls.dropLast,ls.getLast (by intro h9;subst h9;simp at h),(List.dropLast_concat_getLast _).symm⟩
    rw [runL_snoc] at ho
    cases hm:runL m with
    | none=>rw [hm] at ho;cases ho
    | some o1=>
      rw [hm] at ho
      exact part_step (ih m (by simpa using h) hm) ho
theorem run_writes {p:List Ep} {t:Tn} {s:Stp} {ls:List Key}:∀ (ws:List Wt) (n:Nat),runL ls = some (p++[⟨t,s,[]⟩],((ws.length + n:Nat):Int))→(∀ w ∈ ws,WrOk w)→keysOk (wkeys ws) = true→runL (ls++ws.map wrT) = some (p++[⟨t,s,ws⟩],(n:Int)):=by
  intro ws
  induction h:ws.length generalizing ws with
  | zero=>
    intro n ho _ _
    rw [List.eq_nil_of_length_eq_zero h]
    rw [Nat.zero_add] at ho
    rw [List.map_nil,List.append_nil]
    exact ho
  | succ k ih=>
    intro n ho hw hu
    obtain ⟨m,x,rfl⟩:∃ m x,ws = m++[x]:=⟨ws.dropLast,ws.getLast (by intro h9;subst h9;simp at h),(List.dropLast_concat_getLast _).symm⟩
    have hm:m.length = k:=by simpa using h
    have h1:=ih m hm (n + 1) (by rw [ho];congr 3;omega) (fun w hw2=>hw w (List.mem_append_left _ hw2)) (ups_pre hu)
    rw [List.map_append,← List.append_assoc,List.map_singleton,runL_snoc,h1]
    show stepL (p++[⟨t,s,m⟩],((n + 1:Nat):Int)) (wrT x) = _
    rw [step_write (by omega) (rdW_of rfl (hw x (by simp))) ⟨⟨t,s,m⟩,getLast_snoc _ _,fun y hy=>?_⟩,addW_snoc]
    · congr 2
      omega
    have hml:0 < m.length:=by
      rcases Nat.eq_zero_or_pos m.length with h9 | h9
      · rw [List.eq_nil_of_length_eq_zero h9] at hy;cases hy
      exact h9
    refine ups_last (i:=m.length) (x:=x) hu (by simp) hml ?_
    rw [List.getElem?_append_left (by omega)]
    rw [List.getLast?_eq_getElem?] at hy
    exact hy
theorem linesL_snoc (l:List Ep) (e:Ep):linesL (l++[e]) = linesL l++[hdT e.t e.s e.ws.length]++e.ws.map wrT:=by
  unfold linesL
  rw [List.flatMap_append]
  simp [linesE]
theorem run_good:∀ (l:List Ep),Good l→runL (linesL l) = some (l,0):=by
  intro l
  induction h:l.length generalizing l with
  | zero=>intro _;rw [List.eq_nil_of_length_eq_zero h];rfl
  | succ n ih=>
    intro hg
    obtain ⟨p,e,rfl⟩:∃ m x,l = m++[x]:=⟨l.dropLast,l.getLast (by intro h9;subst h9;simp at h),(List.dropLast_concat_getLast _).symm⟩
    have hp:p.length = n:=by simpa using h
    have h1:=ih p hp (good_pre hg)
    have he:(p++[e])[p.length]? = some e:=by simp
    obtain ⟨h2,h3⟩:=good_at hg.ok he
    obtain ⟨a1,a2,a3,a4,a5,a6⟩:=okE_iff.1 h2
    have hw:∀ w ∈ e.ws,WrOk w:=fun w hw=>⟨keys_mem a4 hw,a6 w hw,(hg.num e (by simp)).2 w hw⟩
    rw [linesL_snoc]
    refine run_writes e.ws 0 ?_ hw a4
    rw [runL_snoc,h1]
    show stepL (p,0) _ = _
    rw [step_head (by omega) (rdE_of rfl ⟨a1,a2,a3,(hg.num e (by simp)).1,by omega,by omega⟩) fun y hy=>?_]
    · rfl
    rw [List.getLast?_eq_getElem?] at hy
    have hl:0 < p.length:=by
      rcases Nat.eq_zero_or_pos p.length with h9 | h9
      · rw [List.eq_nil_of_length_eq_zero h9] at hy;cases hy
      exact h9
    exact h3 y hl (by rw [List.getElem?_append_left (by omega)];exact hy)
theorem lines_no10 {l:List Ep} (h:Good l):∀ x ∈ linesL l,∀ c ∈ x,c ≠ 10:=fun x hx=>by
  obtain ⟨e,he,hx⟩:=List.mem_flatMap.1 hx
  rcases List.mem_cons.1 hx with rfl | hx
  · exact hdT_no10 _ _ _
  obtain ⟨w,hw,rfl⟩:=List.mem_map.1 hx
  obtain ⟨i,hi⟩:=List.mem_iff_getElem?.1 he
  obtain ⟨-,-,-,a4,-,a6⟩:=okE_iff.1 (good_at h.ok hi).1
  exact wrT_no10 ⟨keys_mem a4 hw,a6 w hw,(h.num e he).2 w hw⟩
theorem flat_lin:∀ {ls done:List Key} {x r:Key},(∀ y ∈ ls,∀ c ∈ y,c ≠ 10)→(∀ y ∈ done,∀ c ∈ y,c ≠ 10)→(∀ c ∈ x,c ≠ 10)→ls.flatMap lin = done.flatMap lin++(lin x++r)→∃ more,ls = done++x :: more
  | [],done,x,r,_,_,_,h=>by
    exfalso
    have:=congrArg List.length h
    simp [lin] at this
  | y :: ls,[],x,r,h1,_,h3,h=>by
    rw [List.flatMap_cons,List.flatMap_nil,List.nil_append] at h
    have e:=cutN_lin y (ls.flatMap lin) (h1 y (by simp))
    rw [h,cutN_lin x r h3] at e
    obtain ⟨rfl,-⟩:=Prod.mk.inj e
    exact ⟨ls,rfl⟩
  | y :: ls,d :: done,x,r,h1,h2,h3,h=>by
    rw [List.flatMap_cons,List.flatMap_cons,List.append_assoc] at h
    have e:=cutN_lin y (ls.flatMap lin) (h1 y (by simp))
    rw [h,cutN_lin d _ (h2 d (by simp))] at e
    obtain ⟨rfl,h4⟩:=Prod.mk.inj e
    replace h4:=h4.symm
    obtain ⟨more,rfl⟩:=flat_lin (fun z hz=>h1 z (by simp [hz])) (fun z hz=>h2 z (by simp [hz])) h3 h4
    exact ⟨more,rfl⟩
theorem flat_lin_eq:∀ {ls ms:List Key},(∀ y ∈ ls,∀ c ∈ y,c ≠ 10)→(∀ y ∈ ms,∀ c ∈ y,c ≠ 10)→ls.flatMap lin = ms.flatMap lin→ls = ms
  | [],[],_,_,_=>rfl
  | [],d :: ms,_,_,h=>by
    have:=congrArg List.length h
    simp [lin] at this
  | y :: ls,[],_,_,h=>by
    have:=congrArg List.length h
    simp [lin] at this
  | y :: ls,d :: ms,h1,h2,h=>by
    rw [List.flatMap_cons,List.flatMap_cons] at h
    have e:=cutN_lin y (ls.flatMap lin) (h1 y (by simp))
    rw [h,cutN_lin d _ (h2 d (by simp))] at e
    obtain ⟨e1,e2⟩:=Prod.mk.inj e
    subst e1
    rw [flat_lin_eq (fun z hz=>h1 z (by simp [hz])) (fun z hz=>h2 z (by simp [hz])) e2.symm]
/-! a text's entries -/
open Classical in
noncomputable def parseB (b:Key):List Ep × Int:=if h:∃ l,Good l∧bodyT l = b then (h.choose,0) else ([],4)
theorem bodyT_inj {l m:List Ep} (hl:Good l) (hm:Good m) (h:bodyT l = bodyT m):l = m:=by
  have h1:=flat_lin_eq (lines_no10 hl) (lines_no10 hm) h
  have h2:=run_good l hl
  rw [h1,run_good m hm] at h2
  cases h2
  rfl
theorem parseB_of {l:List Ep} {b:Key} (hl:Good l) (h:bodyT l = b):parseB b = (l,0):=by
  have h1:∃ l,Good l∧bodyT l = b:=⟨l,hl,h⟩
  unfold parseB
  rw [dif_pos h1,bodyT_inj h1.choose_spec.1 hl (h1.choose_spec.2.trans h.symm)]
theorem parseB_no {b:Key} (h:∀ l,Good l→bodyT l ≠ b):parseB b = ([],4):=by
  unfold parseB
  rw [dif_neg (fun h1=>h _ h1.choose_spec.1 h1.choose_spec.2)]
structure Readg (b rest:Key) (o:List Ep × Int) (done:List Key):Prop where
  b:b = done.flatMap lin++rest
  e:ended rest
  n:∀ y ∈ done,∀ c ∈ y,c ≠ 10
  r:runL done = some o
theorem Readg.start {b:Key} (h:ended b):Readg b b ([],0) []:=⟨rfl,h,fun y hy=>(by cases hy),rfl⟩
theorem Readg.next {b rest:Key} {o o':List Ep × Int} {done:List Key} (h:Readg b rest o done) (h0:rest ≠ []) (hs:stepL o (cutN rest).1 = some o'):Readg b (cutN rest).2 o' (done++[(cutN rest).1]):=by
  obtain ⟨h1,h2,h3⟩:=cutN_text rest h.e h0
  refine ⟨?_,h2,fun y hy=>?_,?_⟩
  · rw [List.flatMap_append,List.flatMap_cons,List.flatMap_nil,List.append_nil,List.append_assoc,← h1]
    exact h.b
  · rcases List.mem_append.1 hy with hy | hy
    · exact h.n y hy
    simp only [List.mem_cons,List.not_mem_nil,or_false] at hy
    subst hy
    exact h3
  rw [runL_snoc,h.r]
  exact hs
theorem Readg.bad {b rest:Key} {o:List Ep × Int} {done:List Key} (h:Readg b rest o done) (h0:rest ≠ []) (hs:stepL o (cutN rest).1 = none):parseB b = ([],4):=parseB_no fun l hl hb=>by
  obtain ⟨h1,-,h3⟩:=cutN_text rest h.e h0
  have e:(linesL l).flatMap lin = done.flatMap lin++(lin (cutN rest).1++(cutN rest).2):=by
    rw [← h1,← h.b]
    exact hb
  obtain ⟨more,hm⟩:=flat_lin (lines_no10 hl) h.n h3 e
  have hr:=run_good l hl
  have hn:runL (done++[(cutN rest).1]) = none:=by rw [runL_snoc,h.r];exact hs
  rw [hm,show done++(cutN rest).1 :: more = (done++[(cutN rest).1])++more from by simp,runL_none hn] at hr
  cases hr
theorem Readg.end_ {b:Key} {o:List Ep × Int} {done:List Key} (h:Readg b [] o done):parseB b = if o.2 = 0 then (o.1,0) else ([],4):=by
  have hb:=h.b
  rw [List.append_nil] at hb
  split
  · rename_i h0
    have hp:=run_part done h.r
    rw [h0] at hp
    obtain ⟨h1,h2⟩:=part_good hp
    refine parseB_of h1 ?_
    rw [hb,h2]
    rfl
  rename_i h0
  refine parseB_no fun l hl hl2=>?_
  have h1:=flat_lin_eq (lines_no10 hl) h.n (hl2.trans hb)
  have h2:=run_good l hl
  rw [h1,h.r] at h2
  cases h2
  exact h0 rfl
end Go.Proofs.YtonnladboikmhaaGreatDoor
