/- Numbers as texts, there and back, plainly. -/
import Derived.Test.YtonnladboikmhaaGreatDoorSxT
import Derived.Test.YtonnladboikmhaaGreatDoorSxN
import Derived.Test.YtonnladboikmhaaGreatDoorC0
import Derived.Lib.ItoaNum
import Derived.Lib.AtoiAll
import Derived.Lib.BitFns
import Derived.Lib.TrailingZeros
import Derived.Lib.Bytealg
set_option linter.unusedSimpArgs false
set_option linter.unusedVariables false
namespace Go.Proofs.YtonnladboikmhaaGreatDoor
open Sx
def inf0:Nat:=9218868437227405312
def mag (b:Nat):Nat:=fcan b % 9223372036854775808
def sgb (b:Nat):Bool:=decide (fcan b / 9223372036854775808 % 2 = 1)
def frac (r:Nat):Nat:=r % 4503599627370496
def expo (r:Nat):Nat:=r / 4503599627370496
def m0 (r:Nat):Nat:=if 0 < expo r then frac r + 4503599627370496 else frac r
def e0 (r:Nat):Int:=if 0 < expo r then (expo r:Int) - 1075 else -1074
def tz (m:Nat):Nat:=if h:m ≠ 0∧m % 2 = 0 then tz (m / 2) + 1 else 0
termination_by m
decreasing_by omega
def clsK (b:Nat):Int:=if expo (mag b) = 2047 then 8 else if 0 < expo (mag b) then 7 else if 0 < frac (mag b) then 6 else 5
def clsN (b:Nat):Int:=if expo (mag b) = 2047∧frac (mag b) ≠ 0 then 0 else if sgb b = true then 9 - clsK b else clsK b
def posT (r:Nat):List UInt8:=Lib.decDigits (m0 r / 2 ^ tz (m0 r))++112 :: Lib.itoa (e0 r + tz (m0 r))
def sgT (n:Bool):List UInt8:=if n = true then [45] else []
def numP (b:Nat):List UInt8:=
  if clsN b = 0 then [110,97,110] else sgT (sgb b)++(if clsN b = 1∨clsN b = 8 then [105,110,102] else if clsN b = 4∨clsN b = 5 then [48] else posT (mag b))
def Odd (m:Nat) (e:Int) (r:Nat):Prop:=m % 2 = 1∧m < 9007199254740992∧-1074≤e∧(m.log2:Int) + e≤1023∧r < inf0∧uval r = m * 2 ^ (e + 1074).toNat
def GenN (s:List UInt8) (neg:Bool) (m:Nat) (e:Int) (r:Nat):Prop:=s = sgT neg++(Lib.decDigits m++112 :: Lib.itoa e)∧Odd m e r
theorem tz_even {m:Nat} (h:m ≠ 0) (h2:m % 2 = 0):tz m = tz (m / 2) + 1:=by
  rw [tz,dif_pos ⟨h,h2⟩]
theorem tz_odd {m:Nat} (h:m % 2 = 1):tz m = 0:=by rw [tz,dif_neg (by omega)]
theorem tz_split (m:Nat) (h:m ≠ 0):m / 2 ^ tz m % 2 = 1∧m = m / 2 ^ tz m * 2 ^ tz m:=by
  induction m using Nat.strongRecOn with
  | ind m ih=>
    by_cases h2:m % 2 = 0
    · obtain ⟨i1,i2⟩:=ih (m / 2) (by omega) (by omega)
      have e:m / 2 ^ tz m = m / 2 / 2 ^ tz (m / 2):=by rw [tz_even h h2,Nat.pow_succ,Nat.mul_comm,Nat.div_div_eq_div_mul]
      rw [e]
      refine ⟨i1,?_⟩
      rw [tz_even h h2,Nat.pow_succ,← Nat.mul_assoc,← i2]
      omega
    rw [tz_odd (by omega),Nat.pow_zero,Nat.div_one,Nat.mul_one]
    exact ⟨by omega,rfl⟩
theorem tz_of {o k:Nat} (h:o % 2 = 1):tz (o * 2 ^ k) = k:=by
  induction k with
  | zero=>rw [Nat.pow_zero,Nat.mul_one,tz_odd h]
  | succ k ih=>
    have e:o * 2 ^ (k + 1) = (o * 2 ^ k) * 2:=by rw [Nat.pow_succ,Nat.mul_assoc]
    have hp:0 < o * 2 ^ k:=Nat.mul_pos (by omega) (Nat.two_pow_pos k)
    rw [e,tz_even (by omega) (by omega),Nat.mul_div_cancel _ (by omega),ih]
theorem m0_lt (r:Nat):m0 r < 9007199254740992:=by unfold m0 frac;split <;> omega
theorem m0_ne {r:Nat} (h:r ≠ 0):m0 r ≠ 0:=by unfold m0 frac expo;split <;> omega
theorem tz_le {m:Nat} (h:m ≠ 0):tz m≤m.log2:=by
  obtain ⟨h1,h2⟩:=tz_split m h
  rw [Nat.le_log2 h]
  generalize m / 2 ^ tz m = o at *
  have h3:1≤o:=by omega
  have h4:1 * 2 ^ tz m≤o * 2 ^ tz m:=Nat.mul_le_mul_right _ h3
  omega
theorem m0_log {r:Nat} (h:r ≠ 0):(m0 r).log2≤52:=by
  have h1:(m0 r).log2 < 53:=(Nat.log2_lt (m0_ne h)).2 (m0_lt r)
  omega
theorem uval_m0 (r:Nat):uval r = m0 r * 2 ^ (e0 r + 1074).toNat:=by
  unfold uval m0 e0 expo frac
  by_cases h:r < 2 ^ 52
  · have h1:¬ 0 < r / 4503599627370496:=by omega
    rw [if_pos h,if_neg h1,if_neg h1,show (-1074 + 1074:Int).toNat = 0 from rfl,Nat.pow_zero]
    omega
  have h1:0 < r / 4503599627370496:=by omega
  rw [if_neg h,if_pos h1,if_pos h1,show (((r / 4503599627370496:Nat):Int) - 1075 + 1074).toNat = r / 4503599627370496 - 1 from by omega,Nat.add_comm]
theorem odd_of {r:Nat} (h0:r ≠ 0) (h:r < inf0):Odd (m0 r / 2 ^ tz (m0 r)) (e0 r + tz (m0 r)) r:=by
  have hm:=m0_ne h0
  obtain ⟨h1,h2⟩:=tz_split (m0 r) hm
  have h3:=m0_log h0
  have h4:(m0 r).log2 = (m0 r / 2 ^ tz (m0 r)).log2 + tz (m0 r):=by
    conv=>lhs;rw [h2]
    exact log2_shift (by omega) _
  have h5:m0 r / 2 ^ tz (m0 r)≤m0 r:=Nat.div_le_self _ _
  have h6:=m0_lt r
  have h7:-1074≤e0 r∧e0 r≤971:=by
    unfold e0 expo
    unfold inf0 at h
    split <;> omega
  refine ⟨h1,by omega,by omega,by omega,h,?_⟩
  rw [show (e0 r + (tz (m0 r):Int) + 1074).toNat = tz (m0 r) + (e0 r + 1074).toNat from by omega,Nat.pow_add,← Nat.mul_assoc,← h2]
  exact uval_m0 r
theorem odd_inj {m:Nat} {e:Int} {r r':Nat} (h:Odd m e r) (h':uval r' = m * 2 ^ (e + 1074).toNat):r' = r:=by
  obtain ⟨-,-,-,-,-,h6⟩:=h
  rcases Nat.lt_trichotomy r' r with h1 | h1 | h1
  · have:=uval_lt h1;omega
  · exact h1
  have:=uval_lt h1;omega
theorem fnum_false {b:Nat} (h:inf0 < b % 9223372036854775808):fnum b = false:=by
  have h1:fnum b = false:=by
    rw [fnum_read,read_nan h]
    rfl
  exact h1
theorem fnum_true {b:Nat} (h:b % 9223372036854775808≤inf0):fnum b = true:=by
  have h1:fnum b = true:=by
    rw [fnum_read,read_num h]
    rfl
  exact h1
theorem fcan_lt {b:Nat} (h:b < 18446744073709551616):fcan b < 18446744073709551616:=by unfold fcan fnan;split <;> omega
theorem num_cases {b:Nat} (hb:fcan b = b) (h64:b < 18446744073709551616) :
    (numP b = [110,97,110]∧b = 9221120237041090560)∨(numP b = [105,110,102]∧b = 9218868437227405312)∨(numP b = [45,105,110,102]∧b = 18442240474082181120)∨(numP b = [48]∧b = 0)∨(numP b = [45,48]∧b = 9223372036854775808) ∨
    ∃ neg m e r,GenN (numP b) neg m e r∧b = r + (if neg = true then 9223372036854775808 else 0):=by
  have hm:mag b = b % 9223372036854775808:=by unfold mag;rw [hb]
  have hs:sgb b = decide (b / 9223372036854775808 = 1):=by
    unfold sgb
    rw [hb,Nat.mod_eq_of_lt (by omega)]
  by_cases c0:expo (mag b) = 2047∧frac (mag b) ≠ 0
  · left
    have hc:clsN b = 0:=by unfold clsN;rw [if_pos c0]
    refine ⟨by unfold numP;rw [if_pos hc],?_⟩
    have h1:fnum b = false:=fnum_false (by
      rw [← hm]
      unfold expo frac at c0
      unfold inf0
      omega)
    have h2:fcan b = 9221120237041090560:=fcan_nan h1
    omega
  have hr:mag b≤inf0:=by
    rcases Nat.lt_or_ge inf0 (mag b) with h9 | h9
    · exfalso
      apply c0
      unfold inf0 at h9
      unfold expo frac
      omega
    exact h9
  have hcc:clsN b = if sgb b = true then 9 - clsK b else clsK b:=by unfold clsN;rw [if_neg c0]
  by_cases c1:mag b = inf0
  · have hk:clsK b = 8:=by unfold clsK;rw [if_pos (by rw [c1];rfl)]
    unfold inf0 at c1
    cases hsg:sgb b with
    | false=>
      rw [hsg,if_neg (by decide),hk] at hcc
      right;left
      refine ⟨by unfold numP;rw [hcc,hsg];rfl,?_⟩
      rw [hsg] at hs
      have:=(decide_eq_false_iff_not.1 hs.symm)
      omega
    | true=>
      rw [hsg,if_pos rfl,hk] at hcc
      right;right;left
      refine ⟨by unfold numP;rw [hcc,hsg];rfl,?_⟩
      rw [hsg] at hs
      have:=(decide_eq_true_iff.1 hs.symm)
      omega
  by_cases c2:mag b = 0
  · have hk:clsK b = 5:=by unfold clsK;rw [c2];rfl
    cases hsg:sgb b with
    | false=>
      rw [hsg,if_neg (by decide),hk] at hcc
      right;right;right;left
      refine ⟨by unfold numP;rw [hcc,hsg];rfl,?_⟩
      rw [hsg] at hs
      have:=(decide_eq_false_iff_not.1 hs.symm)
      omega
    | true=>
      rw [hsg,if_pos rfl,hk] at hcc
      right;right;right;right;left
      refine ⟨by unfold numP;rw [hcc,hsg];rfl,?_⟩
      rw [hsg] at hs
      have:=(decide_eq_true_iff.1 hs.symm)
      omega
  right;right;right;right;right
  have hk:clsK b = 7∨clsK b = 6:=by
    unfold clsK
    have:¬ expo (mag b) = 2047:=by
      unfold expo
      unfold inf0 at hr c1
      omega
    rw [if_neg this]
    split
    · exact .inl rfl
    rename_i h9
    rw [if_pos]
    · exact .inr rfl
    unfold expo at h9
    unfold frac
    omega
  have hn:clsN b ≠ 0∧clsN b ≠ 1∧clsN b ≠ 8∧clsN b ≠ 4∧clsN b ≠ 5:=by
    rw [hcc]
    split <;> omega
  refine ⟨sgb b,_,_,mag b,⟨?_,odd_of c2 (by omega)⟩,?_⟩
  · unfold numP
    rw [if_neg hn.1,if_neg (by omega),if_neg (by omega)]
    rfl
  rw [hs,hm]
  split
  · rename_i h9
    have:=(decide_eq_true_iff.1 h9)
    omega
  rename_i h9
  have:¬ b / 9223372036854775808 = 1:=fun h=>h9 (decide_eq_true h)
  omega
/-! digits -/
def dgs (l:List UInt8):Prop:=∀ c ∈ l,48≤c.toNat∧c.toNat≤57
def dval (l:List UInt8):Nat:=l.foldl (fun n c=>n * 10 + (c.toNat - 48)) 0
theorem dg_byte {n:Nat} (h:n < 10):(UInt8.ofNat (48 + n)).toNat = 48 + n:=UInt8.toNat_ofNat_of_lt' (by show _ < 256;omega)
theorem dec_step {u:Nat} (h:¬ u < 10):Lib.decDigits u = Lib.decDigits (u / 10)++[UInt8.ofNat (48 + u % 10)]:=by
  rw [Lib.decDigits,dif_neg h]
theorem dval_snoc (l:List UInt8) (c:UInt8):dval (l++[c]) = dval l * 10 + (c.toNat - 48):=by
  unfold dval
  rw [List.foldl_append]
  rfl
theorem dec_all (u:Nat):dgs (Lib.decDigits u)∧dval (Lib.decDigits u) = u:=by
  induction u using Nat.strongRecOn with
  | ind u ih=>
    by_cases h:u < 10
    · rw [Lib.decDigits_one h]
      refine ⟨fun c hc=>?_,?_⟩
      · simp only [List.mem_cons,List.not_mem_nil,or_false] at hc
        subst hc
        rw [dg_byte h]
        omega
      show 0 * 10 + ((UInt8.ofNat (48 + u)).toNat - 48) = u
      rw [dg_byte h]
      omega
    obtain ⟨i1,i2⟩:=ih (u / 10) (by omega)
    rw [dec_step h]
    refine ⟨fun c hc=>?_,?_⟩
    · rcases List.mem_append.1 hc with h1 | h1
      · exact i1 c h1
      simp only [List.mem_cons,List.not_mem_nil,or_false] at h1
      subst h1
      rw [dg_byte (by omega)]
      omega
    rw [dval_snoc,i2,dg_byte (by omega)]
    omega
theorem dec_ne (u:Nat):Lib.decDigits u ≠ []:=fun h=>by
  have:=Lib.decDigits_length u
  have h1:=Lib.nDigits_pos u
  rw [h] at this
  simp at this
  omega
theorem dec_head {u:Nat} (h:u ≠ 0):∃ c l,Lib.decDigits u = c :: l∧c.toNat ≠ 48:=by
  induction u using Nat.strongRecOn with
  | ind u ih=>
    by_cases h1:u < 10
    · exact ⟨_,_,Lib.decDigits_one h1,by rw [dg_byte h1];omega⟩
    obtain ⟨c,l,h2,h3⟩:=ih (u / 10) (by omega) (by omega)
    exact ⟨c,_,by rw [dec_step h1,h2];rfl,h3⟩
theorem dec_zero:Lib.decDigits 0 = [48]:=Lib.decDigits_one (by decide)
theorem nd_le (b:Nat):∀ u:Nat,u < 10 ^ b→0 < b→Lib.nDigits u≤b:=by
  induction b with
  | zero=>intro u _ h;omega
  | succ b ih=>
    intro u hu _
    by_cases h:u < 10
    · rw [Lib.nDigits_small h];omega
    rw [Lib.nDigits_big h]
    rcases Nat.eq_zero_or_pos b with h0 | h0
    · subst h0;omega
    have:=ih (u / 10) (by rw [Nat.pow_succ] at hu;omega) h0
    omega
theorem itoa_nonneg' (u:Nat):Lib.itoa (u:Int) = Lib.decDigits u:=by unfold Lib.itoa;rw [if_neg (by omega)];simp
theorem itoa_neg' (u:Nat) (h:1≤u):Lib.itoa (-(u:Int)) = 45 :: Lib.decDigits u:=by unfold Lib.itoa;rw [if_pos (by omega)];simp
theorem itoa_len (n:Int) (h0:-9223372036854775808≤n) (h1:n≤9223372036854775807):(Lib.itoa n).length≤20:=by
  by_cases hneg:n < 0
  · obtain ⟨u,rfl⟩:∃ u:Nat,n = -(u:Int):=⟨n.natAbs,by omega⟩
    rw [itoa_neg' u (by omega),List.length_cons,Lib.decDigits_length]
    have h9:Lib.nDigits u≤19:=nd_le 19 u (by omega) (by omega)
    omega
  obtain ⟨u,rfl⟩:∃ u:Nat,n = u:=⟨n.toNat,by omega⟩
  rw [itoa_nonneg',Lib.decDigits_length]
  have:=nd_le 19 u (by omega) (by omega)
  omega
theorem itoa_abs (e:Int):Lib.itoa e = sgT (decide (e < 0))++Lib.decDigits e.natAbs:=by
  unfold Lib.itoa sgT
  by_cases h:e < 0
  · rw [if_pos h,if_pos (by simpa using h)]
    rfl
  rw [if_neg h,if_neg (by simpa using h),show e.natAbs = e.toNat from by omega]
  rfl
theorem posT_len {r:Nat} (h:r < inf0):(posT r).length≤60:=by
  by_cases h0:r = 0
  · subst h0
    decide +kernel
  obtain ⟨-,h2,h3,h4,-⟩:=odd_of h0 h
  unfold posT
  have l1:=itoa_len (e0 r + tz (m0 r)) (by omega) (by omega)
  have l2:=nd_le 16 (m0 r / 2 ^ tz (m0 r)) (by omega) (by omega)
  rw [List.length_append,List.length_cons,Lib.decDigits_length]
  omega
/-! texts of numbers, read -/
def nm (a:List UInt8):Bool:=decide (a ≠ []∧(a[0]? ≠ some 48∨a.length = 1)∧∀ c ∈ a,48≤c.toNat∧c.toNat≤57)
theorem nm_iff {a:List UInt8}:nm a = true ↔ a ≠ []∧(a[0]? ≠ some 48∨a.length = 1)∧dgs a:=decide_eq_true_iff
theorem nm_dgs {a:List UInt8} (h:nm a = true):dgs a:=(nm_iff.1 h).2.2
theorem nm_dec (u:Nat):nm (Lib.decDigits u) = true:=by
  rw [nm_iff]
  refine ⟨dec_ne u,?_,(dec_all u).1⟩
  by_cases h:u = 0
  · subst h
    right
    rw [dec_zero]
    rfl
  left
  obtain ⟨c,l,h1,h2⟩:=dec_head h
  rw [h1]
  intro h3
  simp only [List.getElem?_cons_zero,Option.some.injEq] at h3
  subst h3
  exact h2 rfl
theorem snoc_of {a:List UInt8} (h:a ≠ []):∃ m x,a = m++[x]:=⟨a.dropLast,a.getLast h,(List.dropLast_concat_getLast h).symm⟩
theorem dg_self {c:UInt8} (h:48≤c.toNat):UInt8.ofNat (48 + (c.toNat - 48)) = c:=by
  rw [show 48 + (c.toNat - 48) = c.toNat from by omega,UInt8.ofNat_toNat]
theorem dec_nm:∀ (n:Nat) (a:List UInt8),a.length = n→nm a = true→Lib.decDigits (dval a) = a:=by
  intro n
  induction n with
  | zero=>
    intro a hl h
    exact absurd (List.eq_nil_of_length_eq_zero hl) (nm_iff.1 h).1
  | succ n ih=>
    intro a hl h
    obtain ⟨hne,h0,hd⟩:=nm_iff.1 h
    obtain ⟨m,c,rfl⟩:=snoc_of hne
    have hc:=hd c (by simp)
    rw [dval_snoc]
    cases m with
    | nil=>
      show Lib.decDigits (0 * 10 + (c.toNat - 48)) = [c]
      rw [Nat.zero_mul,Nat.zero_add,Lib.decDigits_one (by omega),dg_self hc.1]
    | cons x m=>
      have hm:nm (x :: m) = true:=by
        rw [nm_iff]
        refine ⟨List.cons_ne_nil _ _,?_,fun d hd2=>hd d (List.mem_append_left _ hd2)⟩
        rcases h0 with h0 | h0
        · exact .inl h0
        simp at h0
      have e:=ih (x :: m) (by simp at hl ⊢;omega) hm
      have hz:dval (x :: m) ≠ 0:=fun h9=>by
        rw [h9,dec_zero] at e
        rcases h0 with h0 | h0
        · rw [← e] at h0
          exact h0 rfl
        simp at h0
      generalize dval (x :: m) = u at *
      rw [dec_step (by omega),show (u * 10 + (c.toNat - 48)) / 10 = u from by omega,show (u * 10 + (c.toNat - 48)) % 10 = c.toNat - 48 from by omega,e,dg_self hc.1]
theorem dec_of {a:List UInt8} (h:nm a = true):Lib.decDigits (dval a) = a:=dec_nm _ a rfl h
theorem dval_lt:∀ (n:Nat) (a:List UInt8),a.length = n→dgs a→dval a < 10 ^ n:=by
  intro n
  induction n with
  | zero=>
    intro a hl h
    rw [List.eq_nil_of_length_eq_zero hl]
    decide
  | succ n ih=>
    intro a hl h
    obtain ⟨m,c,rfl⟩:=snoc_of (a:=a) (by intro h9;subst h9;simp at hl)
    have hc:=h c (by simp)
    have:=ih m (by simp at hl;exact hl) (fun d hd=>h d (List.mem_append_left _ hd))
    rw [dval_snoc,Nat.pow_succ]
    omega
theorem dval_big {a:List UInt8} (h:nm a = true) {k:Nat} (hk:0 < k) (hl:k < a.length):10 ^ k≤dval a:=by
  rcases Nat.lt_or_ge (dval a) (10 ^ k) with h1 | h1
  · have h2:=nd_le k _ h1 hk
    rw [← Lib.decDigits_length,dec_of h] at h2
    omega
  exact h1
theorem dval_zero {a:List UInt8} (h:nm a = true):dval a = 0 ↔ a = [48]:=by
  constructor
  · intro h1
    rw [← dec_of h,h1,dec_zero]
  rintro rfl
  rfl
def unsg (s:List UInt8):Bool × List UInt8:=if s[0]? = some 45 then (true,s.drop 1) else (false,s)
theorem unsg_text (s:List UInt8):s = sgT (unsg s).1++(unsg s).2:=by
  unfold unsg sgT
  split
  · rename_i h
    cases s with
    | nil=>simp at h
    | cons c s=>simp at h;subst h;rfl
  · rfl
theorem unsg_no {s:List UInt8} (h:s[0]? ≠ some 45):unsg s = (false,s):=by unfold unsg;rw [if_neg h]
theorem dec_no45 (u:Nat) (l:List UInt8):(Lib.decDigits u++l)[0]? ≠ some 45:=by
  obtain ⟨h1,-⟩:=dec_all u
  have h2:=dec_ne u
  cases h:Lib.decDigits u with
  | nil=>exact absurd h h2
  | cons c m=>
    rw [h] at h1
    have:=h1 c (by simp)
    intro h9
    simp at h9
    subst h9
    exact absurd this.1 (by decide)
theorem unsg_sg (n:Bool) {s:List UInt8} (h:s[0]? ≠ some 45):unsg (sgT n++s) = (n,s):=by
  cases n
  · exact unsg_no h
  rfl
theorem unsg_itoa (e:Int):unsg (Lib.itoa e) = (decide (e < 0),Lib.decDigits e.natAbs):=by
  rw [itoa_abs,unsg_sg]
  have:=dec_no45 e.natAbs []
  rwa [List.append_nil] at this
def cutp:List UInt8→Option (List UInt8 × List UInt8)
  | []=>none
  | c :: t=>if c = 112 then some ([],t) else match cutp t with
    | none=>none
    | some (a,b)=>some (c :: a,b)
theorem cutp_app (a b:List UInt8) (h:∀ c ∈ a,c ≠ 112):cutp (a++112 :: b) = some (a,b):=by
  induction a with
  | nil=>rfl
  | cons c a ih=>
    rw [List.cons_append,cutp,if_neg (h c (by simp)),ih (fun d hd=>h d (by simp [hd]))]
theorem cutp_no {s:List UInt8} (h:∀ c ∈ s,c ≠ 112):cutp s = none:=by
  induction s with
  | nil=>rfl
  | cons c a ih=>rw [cutp,if_neg (h c (by simp)),ih (fun d hd=>h d (by simp [hd]))]
theorem cutp_some:∀ {s a b:List UInt8},cutp s = some (a,b)→s = a++112 :: b∧∀ c ∈ a,c ≠ 112
  | [],a,b,h=>by cases h
  | c :: t,a,b,h=>by
    rw [cutp] at h
    split at h
    · rename_i h1
      cases h
      subst h1
      exact ⟨rfl,fun d hd=>by cases hd⟩
    rename_i h1
    cases h2:cutp t with
    | none=>rw [h2] at h;cases h
    | some ab=>
      obtain ⟨a',b'⟩:=ab
      rw [h2] at h
      cases h
      obtain ⟨rfl,h3⟩:=cutp_some h2
      refine ⟨rfl,fun d hd=>?_⟩
      rcases List.mem_cons.1 hd with rfl | hd
      · exact h1
      exact h3 d hd
def nop (s:List UInt8) (i:Nat):Prop:=∀ j c,j < i→s[j]? = some c→c ≠ 112
theorem nop_mem {s:List UInt8} {i:Nat} (h:nop s i):∀ c ∈ s.take i,c ≠ 112:=fun c hc=>by
  obtain ⟨j,hj⟩:=List.mem_iff_getElem?.1 hc
  have h1:j < i:=by
    have:=(List.getElem?_eq_some_iff.1 hj).1
    rw [List.length_take] at this
    omega
  rw [List.getElem?_take_of_lt h1] at hj
  exact h j c h1 hj
theorem cutp_at {s:List UInt8} {i:Nat} (h:nop s i) (ho:s[i]? = some 112):cutp s = some (s.take i,s.drop (i + 1)):=by
  obtain ⟨hi,h1⟩:=List.getElem?_eq_some_iff.1 ho
  have e:s = s.take i++112 :: s.drop (i + 1):=by
    conv=>lhs;rw [← List.take_append_drop i s,List.drop_eq_getElem_cons hi,h1]
  conv=>lhs;rw [e]
  exact cutp_app _ _ (nop_mem h)
theorem cutp_end {s:List UInt8} (h:nop s s.length):cutp s = none:=cutp_no fun c hc=>nop_mem h c (by rw [List.take_length];exact hc)
theorem nop_step {s:List UInt8} {i:Nat} {c:UInt8} (h:nop s i) (ho:s[i]? = some c) (hc:c ≠ 112):nop s (i + 1):=fun j d hj hd=>by
  rcases Nat.lt_or_ge j i with h1 | h1
  · exact h j d h1 hd
  obtain rfl:j = i:=by omega
  rw [ho] at hd
  cases hd
  exact hc
def cutF (s:List UInt8):List UInt8 × List UInt8 × Bool:=match cutp s with
  | none=>([],[],false)
  | some (a,b)=>(a,b,true)
def formN (s:List UInt8):Bool:=match cutp (unsg s).2 with
  | none=>false
  | some (a,b)=>nm a && decide (a ≠ [48]) && nm (unsg b).2 && !((unsg b).1 && decide ((unsg b).2 = [48]))
structure Shape (s:List UInt8) (neg:Bool) (a:List UInt8) (dn:Bool) (b:List UInt8):Prop where
  sg:(unsg s).1 = neg
  cut:∃ b',cutp (unsg s).2 = some (a,b')∧unsg b' = (dn,b)
  na:nm a = true
  nz:a ≠ [48]
  nb:nm b = true
  nn:¬ (dn = true∧b = [48])
theorem form_shape {s:List UInt8} (h:formN s = true):∃ neg a dn b,Shape s neg a dn b:=by
  unfold formN at h
  cases h1:cutp (unsg s).2 with
  | none=>rw [h1] at h;cases h
  | some ab=>
    obtain ⟨a,b'⟩:=ab
    rw [h1] at h
    simp only [Bool.and_eq_true,decide_eq_true_eq,Bool.not_eq_true',Bool.and_eq_false_imp] at h
    obtain ⟨⟨⟨h2,h3⟩,h4⟩,h5⟩:=h
    refine ⟨_,a,(unsg b').1,(unsg b').2,rfl,⟨b',h1,rfl⟩,h2,h3,h4,fun h9=>?_⟩
    have:=h5 h9.1
    rw [decide_eq_false_iff_not] at this
    exact this h9.2
theorem shape_form {s a b:List UInt8} {neg dn:Bool} (h:Shape s neg a dn b):formN s = true:=by
  obtain ⟨b',h1,h2⟩:=h.cut
  unfold formN
  rw [h1]
  simp only [h2,h.na,h.nb,Bool.and_eq_true,decide_eq_true_eq,Bool.not_eq_true',Bool.and_eq_false_imp,decide_eq_false_iff_not,true_and,and_true]
  exact ⟨h.nz,fun h9 h8=>h.nn ⟨h9,h8⟩⟩
def ev (dn:Bool) (b:List UInt8):Int:=if dn = true then -(dval b:Int) else dval b
theorem ev_itoa {dn:Bool} {b:List UInt8} (h:nm b = true) (hn:¬ (dn = true∧b = [48])):Lib.itoa (ev dn b) = sgT dn++b:=by
  rw [itoa_abs]
  cases dn with
  | false=>
    show sgT (decide ((dval b:Int) < 0))++Lib.decDigits (dval b:Int).natAbs = _
    rw [decide_eq_false (by omega),Int.natAbs_natCast,dec_of h]
  | true=>
    have h0:dval b ≠ 0:=fun h9=>hn ⟨rfl,(dval_zero h).1 h9⟩
    show sgT (decide (-(dval b:Int) < 0))++Lib.decDigits (-(dval b:Int)).natAbs = _
    rw [decide_eq_true (by omega),Int.natAbs_neg,Int.natAbs_natCast,dec_of h]
theorem shape_text {s a b:List UInt8} {neg dn:Bool} (h:Shape s neg a dn b):s = sgT neg++(Lib.decDigits (dval a)++112 :: Lib.itoa (ev dn b)):=by
  obtain ⟨b',h1,h2⟩:=h.cut
  have e1:=unsg_text s
  have e2:=unsg_text b'
  rw [h2] at e2
  rw [h.sg,(cutp_some h1).1] at e1
  rw [dec_of h.na,ev_itoa h.nb h.nn,← e2]
  exact e1
theorem shape_gen {s:List UInt8} {neg:Bool} {m:Nat} {e:Int} {r:Nat} (h:GenN s neg m e r):Shape s neg (Lib.decDigits m) (decide (e < 0)) (Lib.decDigits e.natAbs):=by
  obtain ⟨rfl,hm,-⟩:=h
  have h0:(Lib.decDigits m++112 :: Lib.itoa e)[0]? ≠ some 45:=dec_no45 _ _
  have h1:=unsg_sg neg h0
  refine ⟨by rw [h1],⟨Lib.itoa e,?_,unsg_itoa e⟩,nm_dec _,fun h9=>?_,nm_dec _,fun h9=>?_⟩
  · rw [h1]
    exact cutp_app _ _ fun c hc h9=>by
      have:=(dec_all m).1 c hc
      subst h9
      exact absurd this.2 (by decide)
  · have:=(dec_all m).2
    rw [h9] at this
    have h8:dval [48] = 0:=rfl
    omega
  have:=(dec_all e.natAbs).2
  rw [h9.2] at this
  have h8:dval [48] = 0:=rfl
  have:=of_decide_eq_true h9.1
  omega
theorem shape_inj {s a b a' b':List UInt8} {neg dn neg' dn':Bool} (h:Shape s neg a dn b) (h':Shape s neg' a' dn' b'):neg = neg'∧a = a'∧dn = dn'∧b = b':=by
  obtain ⟨c,h1,h2⟩:=h.cut
  obtain ⟨c',h3,h4⟩:=h'.cut
  rw [h1] at h3
  cases h3
  rw [h2] at h4
  cases h4
  exact ⟨h.sg.symm.trans h'.sg,rfl,rfl,rfl⟩
theorem gen_shape {s a b:List UInt8} {neg dn neg':Bool} {m:Nat} {e:Int} {r:Nat} (h:Shape s neg a dn b) (g:GenN s neg' m e r):neg = neg'∧m = dval a∧e = ev dn b:=by
  obtain ⟨h1,h2,h3,h4⟩:=shape_inj h (shape_gen g)
  refine ⟨h1,by rw [h2,(dec_all m).2],?_⟩
  unfold ev
  rw [h3,h4,(dec_all _).2]
  by_cases h9:e < 0
  · rw [if_pos (decide_eq_true h9)];omega
  rw [if_neg (by simpa using h9)];omega
def Can (b:Nat):Prop:=fcan b = b∧b < 18446744073709551616
open Classical in
noncomputable def numR (s:List UInt8):Nat × Int:=if h:∃ b,Can b∧numP b = s then (h.choose,0) else if formN s = true then (0,1) else (0,4)
def sgV (neg:Bool):Nat:=if neg = true then 9223372036854775808 else 0
theorem odd_eq {m:Nat} {e:Int} {r r':Nat} (h:Odd m e r) (h':Odd m e r'):r' = r:=odd_inj h h'.2.2.2.2.2
theorem gen_no {s:List UInt8} {neg:Bool} {m:Nat} {e:Int} {r:Nat} (h:GenN s neg m e r):s ≠ [110,97,110]∧s ≠ [105,110,102]∧s ≠ [45,105,110,102]∧s ≠ [48]∧s ≠ [45,48]:=by
  have h1:=shape_form (shape_gen h)
  refine ⟨?_,?_,?_,?_,?_⟩ <;> (rintro rfl;revert h1;decide)
theorem numP_inj {b c:Nat} (hb:Can b) (hc:Can c) (h:numP b = numP c):b = c:=by
  have h1:=num_cases hb.1 hb.2
  have h2:=num_cases hc.1 hc.2
  rw [← h] at h2
  rcases h1 with ⟨e1,v1⟩ | ⟨e1,v1⟩ | ⟨e1,v1⟩ | ⟨e1,v1⟩ | ⟨e1,v1⟩ | ⟨n1,m1,x1,r1,g1,v1⟩ <;> rcases h2 with ⟨e2,v2⟩ | ⟨e2,v2⟩ | ⟨e2,v2⟩ | ⟨e2,v2⟩ | ⟨e2,v2⟩ | ⟨n2,m2,x2,r2,g2,v2⟩
  all_goals first
    | (rw [v1,v2];done)
    | (rw [e1] at e2;exact absurd e2 (by decide))
    | (exact absurd e2 (by have:=gen_no g1;simp [this]))
    | (exact absurd e1 (by have:=gen_no g2;simp [this]))
    | skip
  obtain ⟨q1,q2,q3⟩:=gen_shape (shape_gen g1) g2
  rw [(dec_all m1).2] at q2
  obtain ⟨-,q5,q6⟩:=gen_shape (shape_gen g1) g1
  rw [(dec_all m1).2] at q5
  have q7:x2 = x1:=q3.trans q6.symm
  subst q2 q7 q1
  rw [v1,v2,odd_eq g1.2 g2.2]
theorem numR_of {b:Nat} {s:List UInt8} (hb:Can b) (h:numP b = s):numR s = (b,0):=by
  have h1:∃ b,Can b∧numP b = s:=⟨b,hb,h⟩
  unfold numR
  rw [dif_pos h1,numP_inj h1.choose_spec.1 hb (h1.choose_spec.2.trans h.symm)]
theorem numR_no {s:List UInt8} (h:∀ b,Can b→numP b ≠ s):numR s = if formN s = true then (0,1) else (0,4):=by
  unfold numR
  rw [dif_neg (fun h1=>h _ h1.choose_spec.1 h1.choose_spec.2)]
def special (s:List UInt8):Prop:=s = [110,97,110]∨s = [105,110,102]∨s = [45,105,110,102]∨s = [48]∨s = [45,48]
theorem numP_gen {b:Nat} (hb:Can b) (h:¬ special (numP b)):∃ neg m e r,GenN (numP b) neg m e r∧b = r + sgV neg:=by
  unfold special at h
  rcases num_cases hb.1 hb.2 with ⟨e1,v1⟩ | ⟨e1,v1⟩ | ⟨e1,v1⟩ | ⟨e1,v1⟩ | ⟨e1,v1⟩ | h1
  all_goals first | exact h1 | (exfalso;apply h;simp [e1];done)
theorem numR_form {s:List UInt8} (hs:¬ special s) (h:formN s = false):numR s = (0,4):=by
  rw [numR_no,if_neg (by simp [h])]
  rintro b hb rfl
  obtain ⟨neg,m,e,r,g,-⟩:=numP_gen hb hs
  rw [shape_form (shape_gen g)] at h
  cases h
theorem numR_range {s a b:List UInt8} {neg dn:Bool} (hs:¬ special s) (h:Shape s neg a dn b) (ho:∀ r,¬ Odd (dval a) (ev dn b) r):numR s = (0,1):=by
  rw [numR_no,if_pos (shape_form h)]
  rintro c hc rfl
  obtain ⟨neg',m,e,r,g,-⟩:=numP_gen hc hs
  obtain ⟨-,rfl,rfl⟩:=gen_shape h g
  exact ho r g.2
/-! numbers that are told, and powers of two -/
theorem odd_ne {m:Nat} {e:Int} {r:Nat} (h:Odd m e r):r ≠ 0:=by
  rintro rfl
  obtain ⟨h1,-,-,-,-,h6⟩:=h
  have h7:uval 0 = 0:=rfl
  rw [h7] at h6
  have:=Nat.mul_pos (show 0 < m by omega) (Nat.two_pow_pos (e + 1074).toNat)
  omega
theorem odd_uniq {m m':Nat} {e e':Int} {r:Nat} (h:Odd m e r) (h':Odd m' e' r):m = m'∧e = e':=by
  obtain ⟨a1,-,a3,-,-,a6⟩:=h
  obtain ⟨b1,-,b3,-,-,b6⟩:=h'
  have t1:=tz_of (k:=(e + 1074).toNat) a1
  have t2:=tz_of (k:=(e' + 1074).toNat) b1
  rw [← a6] at t1
  rw [← b6] at t2
  have he:e = e':=by omega
  subst he
  rw [a6] at b6
  exact ⟨Nat.eq_of_mul_eq_mul_right (Nat.two_pow_pos _) b6,rfl⟩
theorem odd_num {m:Nat} {e:Int} {r:Nat} (h:Odd m e r) (neg:Bool):Can (r + sgV neg)∧numP (r + sgV neg) = sgT neg++(Lib.decDigits m++112 :: Lib.itoa e):=by
  have h0:=odd_ne h
  have hr:=h.2.2.2.2.1
  have hi:r < 9218868437227405312:=hr
  have hsg:sgV neg = 0∧neg = false∨sgV neg = 9223372036854775808∧neg = true:=by cases neg <;> simp [sgV]
  have hmod:(r + sgV neg) % 9223372036854775808 = r:=by omega
  have hn:fnum (r + sgV neg) = true:=fnum_true (by rw [hmod];exact Nat.le_of_lt hr)
  have hc:Can (r + sgV neg):=⟨fcan_num hn,by omega⟩
  refine ⟨hc,?_⟩
  obtain ⟨e1,e2⟩:=odd_uniq (odd_of h0 hr) h
  have hm:mag (r + sgV neg) = r:=by unfold mag;rw [hc.1,hmod]
  have hs:sgb (r + sgV neg) = neg:=by
    unfold sgb
    rw [hc.1]
    rcases hsg with ⟨a,rfl⟩ | ⟨a,rfl⟩
    · rw [a];exact decide_eq_false (by omega)
    rw [a];exact decide_eq_true (by omega)
  have hk:clsK (r + sgV neg) = 7∨clsK (r + sgV neg) = 6:=by
    unfold clsK
    rw [hm,if_neg (by unfold expo;omega)]
    split
    · exact .inl rfl
    rename_i h9
    rw [if_pos (by unfold expo at h9;unfold frac;omega)]
    exact .inr rfl
  have hcl:clsN (r + sgV neg) = if neg = true then 9 - clsK (r + sgV neg) else clsK (r + sgV neg):=by
    unfold clsN
    rw [hm,hs,if_neg (by unfold expo;omega)]
  have hne:clsN (r + sgV neg) ≠ 0∧clsN (r + sgV neg) ≠ 1∧clsN (r + sgV neg) ≠ 8∧clsN (r + sgV neg) ≠ 4∧clsN (r + sgV neg) ≠ 5:=by
    rw [hcl]
    split <;> omega
  unfold numP
  rw [if_neg hne.1,if_neg (by omega),if_neg (by omega),hm,hs]
  unfold posT
  rw [e1,e2]
theorem odd_make {m:Nat} {e:Int} (h1:m % 2 = 1) (h2:m < 9007199254740992) (h3:-1074≤e) (h4:(m.log2:Int) + e≤1023):∃ r,Odd m e r:=by
  have h0:m ≠ 0:=by omega
  have hq:m.log2 < 53:=(Nat.log2_lt h0).2 h2
  have l1:=Nat.log2_self_le h0
  have l2:=Nat.lt_log2_self (n:=m)
  unfold Odd inf0
  obtain ⟨k,hk⟩:∃ k:Nat,k = (e + 1074).toNat:=⟨_,rfl⟩
  rw [← hk]
  generalize m.log2 = q at *
  rcases Nat.lt_or_ge (q + k) 52 with c | c
  · have hN:m * 2 ^ k < 2 ^ 52:=by
      have:m * 2 ^ k < 2 ^ (q + 1) * 2 ^ k:=Nat.mul_lt_mul_of_pos_right l2 (Nat.two_pow_pos _)
      rw [← Nat.pow_add] at this
      exact Nat.lt_of_lt_of_le this (Nat.pow_le_pow_right (by omega) (by omega))
    refine ⟨m * 2 ^ k,h1,h2,h3,h4,by omega,?_⟩
    unfold uval
    rw [if_pos hN]
  have e1:2 ^ 52≤m * 2 ^ (52 - q):=by
    have:2 ^ q * 2 ^ (52 - q) = 2 ^ 52:=by rw [← Nat.pow_add];congr 1;omega
    rw [← this];exact Nat.mul_le_mul_right _ l1
  have e2:m * 2 ^ (52 - q) < 2 ^ 53:=by
    have:2 ^ (q + 1) * 2 ^ (52 - q) = 2 ^ 53:=by rw [← Nat.pow_add];congr 1;omega
    rw [← this];exact Nat.mul_lt_mul_of_pos_right l2 (Nat.two_pow_pos _)
  have d1:((q + k - 51) * 2 ^ 52 + (m * 2 ^ (52 - q) - 2 ^ 52)) / 2 ^ 52 = q + k - 51:=by
    rw [Nat.mul_comm,Nat.mul_add_div (Nat.two_pow_pos _),Nat.div_eq_of_lt (by omega)];omega
  have d2:((q + k - 51) * 2 ^ 52 + (m * 2 ^ (52 - q) - 2 ^ 52)) % 2 ^ 52 = m * 2 ^ (52 - q) - 2 ^ 52:=by
    rw [Nat.mul_comm,Nat.mul_add_mod,Nat.mod_eq_of_lt (by omega)]
  have d3:1 * 2 ^ 52≤(q + k - 51) * 2 ^ 52:=Nat.mul_le_mul_right _ (by omega)
  have d4:(q + k - 51) * 2 ^ 52≤2046 * 2 ^ 52:=Nat.mul_le_mul_right _ (by omega)
  refine ⟨(q + k - 51) * 2 ^ 52 + (m * 2 ^ (52 - q) - 2 ^ 52),h1,h2,h3,h4,by omega,?_⟩
  unfold uval
  rw [if_neg (by omega),d1,d2,show 2 ^ 52 + (m * 2 ^ (52 - q) - 2 ^ 52) = m * 2 ^ (52 - q) from by omega,Nat.mul_assoc,← Nat.pow_add,show 52 - q + (q + k - 51 - 1) = k from by omega]
theorem numR_ok {s a b:List UInt8} {neg dn:Bool} {r:Nat} (h:Shape s neg a dn b) (ho:Odd (dval a) (ev dn b) r):numR s = (r + sgV neg,0):=
  numR_of (odd_num ho neg).1 (by rw [(odd_num ho neg).2];exact (shape_text h).symm)
theorem can0:Can 0:=⟨by decide +kernel,by decide⟩
theorem numR_can (s:List UInt8):Can (numR s).1:=by
  unfold numR
  split
  · rename_i h
    exact h.choose_spec.1
  split <;> exact can0
theorem numR_print {b:Nat} (h:Can b):numR (numP b) = (b,0):=numR_of h rfl
theorem numR_back {s:List UInt8} (h:(numR s).2 = 0):numP (numR s).1 = s:=by
  unfold numR at h ⊢
  split
  · rename_i h1
    exact h1.choose_spec.2
  rename_i h1
  rw [dif_neg h1] at h
  split at h <;> cases h
/-! powers of two -/
theorem infR:Ieee.double.infRung = inf0:=rfl
theorem uval_pow (k:Nat):uval ((1023 + k) * 2 ^ 52) = 2 ^ k * U:=by
  have d3:1 * 2 ^ 52≤(1023 + k) * 2 ^ 52:=Nat.mul_le_mul_right _ (by omega)
  unfold uval
  rw [if_neg (by omega),Nat.mul_mod_left,Nat.mul_div_cancel _ (Nat.two_pow_pos _),Nat.add_zero,← Nat.pow_add,show 52 + (1023 + k - 1) = k + 1074 from by omega,Nat.pow_add,U_of rfl]
theorem fofint_rungT (m:Nat):fofint (m:Int) = min (rungT (m * U) 0) inf0:=by
  show Ieee.double.nearest (decide ((m:Int) < 0)) (m:Int).natAbs 0 = _
  rw [decide_eq_false (by omega),Int.natAbs_natCast,nearest_rung false m 0 (-1074) (by omega) (by omega),show (0 - (-1074:Int)).toNat = 1074 from rfl,U_of rfl,show (-1074 - (-1074:Int)).toNat = 0 from rfl,show ∀ r,Ieee.double.word false r = r from fun r=>rfl,infR]
theorem rungT_u (r:Nat):rungT (uval r) 0 = r:=by
  have:=rungT_uval r 0
  rwa [Nat.pow_zero,Nat.mul_one] at this
theorem fofint_pos {m:Nat} (h0:m ≠ 0) (h:m < 9223372036854775808):∃ r,4503599627370496≤r∧r < inf0∧fofint (m:Int) = r∧(m < 9007199254740992→uval r = m * U):=by
  have a1:=rungT_mono (D:=0) (Nat.mul_le_mul_right U (show 2 ^ 0≤m from by omega))
  have a2:=rungT_mono (D:=0) (Nat.mul_le_mul_right U (show m≤2 ^ 63 from by omega))
  rw [← uval_pow,rungT_u] at a1 a2
  have e1:(1023 + 0) * 2 ^ 52 = 4607182418800017408:=by decide
  have e2:(1023 + 63) * 2 ^ 52 = 4890909195324358656:=by decide
  rw [e1] at a1
  rw [e2] at a2
  have e3:=fofint_rungT m
  refine ⟨rungT (m * U) 0,by omega,by unfold inf0;omega,by rw [e3,Nat.min_eq_left (by unfold inf0;omega)],fun h9=>?_⟩
  obtain ⟨r,h1,h2⟩:=uval_int (z:=m) h9
  rw [← h2,rungT_u]
theorem mul_gen {r rn:Nat} (hr:r < inf0) (hn:rn < inf0):Ieee.double.mul r rn = some (min (rungT (uval r * uval rn) 1074) inf0):=by
  obtain ⟨m,p,e,hp,hm⟩:=read_fin false (r:=r) hr
  obtain ⟨m2,p2,e2,hp2,hm2⟩:=read_fin false (r:=rn) hn
  have wr:∀ r,Ieee.double.word false r = r:=fun r=>rfl
  rw [wr] at e e2
  unfold Ieee.Format.mul
  rw [e,e2]
  show some (Ieee.double.nearest false (m * m2) (p + p2)) = _
  rw [nearest_rung false (m * m2) (p + p2) (-2148) (by omega) (by omega),wr,← hm,← hm2]
  have e3:(p + p2 - -2148).toNat = (p + 1074).toNat + (p2 + 1074).toNat:=by omega
  rw [e3,Nat.pow_add,show m * m2 * (2 ^ (p + 1074).toNat * 2 ^ (p2 + 1074).toNat) = m * 2 ^ (p + 1074).toNat * (m2 * 2 ^ (p2 + 1074).toNat) from by rw [Nat.mul_assoc,Nat.mul_assoc,Nat.mul_left_comm m2]]
  rfl
theorem fop_mul {r rn:Nat} (hr:r < inf0) (hn:rn < inf0):fop .mul r rn = min (rungT (uval r * uval rn) 1074) inf0:=by
  unfold fop
  rw [show floatBits .mul .f64 r rn = some (min (rungT (uval r * uval rn) 1074) inf0) from mul_gen hr hn]
  rfl
def wrd (E f:Nat):Nat:=E * 4503599627370496 + f
theorem wrd_lt {E f:Nat} (hE:E≤2046) (hf:f < 4503599627370496):wrd E f < inf0:=by unfold wrd inf0;omega
theorem uval_wrd {E f:Nat} (hE:1≤E) (hf:f < 4503599627370496):uval (wrd E f) = (4503599627370496 + f) * 2 ^ (E - 1):=by
  unfold uval wrd
  have e:(2:Nat) ^ 52 = 4503599627370496:=by decide
  rw [e,if_neg (by omega),show (E * 4503599627370496 + f) % 4503599627370496 = f from by omega,show (E * 4503599627370496 + f) / 4503599627370496 = E from by omega]
def tiny:Nat:=4368491638549381120
theorem tiny_val:uval tiny * 2 ^ 53 = U:=by
  have h:tiny = wrd 970 0:=by decide
  have k:∀ k,k = 970→uval (wrd k 0) * 2 ^ 53 = U:=fun k hk=>by
    rw [uval_wrd (by omega) (by omega),Nat.add_zero,show (4503599627370496:Nat) = 2 ^ 52 from by decide,← Nat.pow_add,← Nat.pow_add,U_of (by omega)]
  rw [h]
  exact k 970 rfl
def onef:Nat:=4607182418800017408
theorem one_val:uval onef = U:=by
  have h:=uval_pow 0
  rw [Nat.pow_zero,Nat.one_mul] at h
  exact h
def ldx (r:Nat) (p:Int):Nat:=
  if p + expo r - 1023 < -1075 then 0 else if 1023 < p + expo r - 1023 then inf0 else
    if p + expo r - 1023 < -1022 then fop .mul tiny (wrd (p + expo r + 53).toNat (frac r)) else fop .mul onef (wrd (p + expo r).toNat (frac r))
theorem frac_lt (r:Nat):frac r < 4503599627370496:=by unfold frac;omega
theorem ldx_le {r:Nat} {p:Int}:ldx r p≤inf0:=by
  have hf:=frac_lt r
  unfold ldx
  split
  · unfold inf0;omega
  split
  · omega
  split
  · rw [fop_mul (by unfold tiny inf0;omega) (wrd_lt (by omega) hf)]
    exact Nat.min_le_right _ _
  rw [fop_mul (by unfold onef inf0;omega) (wrd_lt (by omega) hf)]
  exact Nat.min_le_right _ _
theorem log_wrd (f E:Nat) (hf:f < 4503599627370496):((4503599627370496 + f) * 2 ^ E).log2 = 52 + E:=by
  rw [log2_shift (by omega)]
  congr 1
  rw [Nat.log2_eq_iff (by omega)]
  constructor
  · show 4503599627370496≤_
    omega
  show _ < 9007199254740992
  omega
theorem pw3 {a b c d K:Nat} (hK:K = 1074) (h:a + K = b + (c + d)):2 ^ a * U = 2 ^ b * (2 ^ c * 2 ^ d):=by
  rw [← U_of hK,← Nat.pow_add,← Nat.pow_add,← Nat.pow_add,h]
theorem pw2 {a b c K:Nat} (hK:K = 1074) (h:a + K = b + c):2 ^ a * U = 2 ^ b * 2 ^ c:=by
  rw [← U_of hK,← Nat.pow_add,← Nat.pow_add,h]
theorem rungT_U (r:Nat):∀ k:Nat,k = 1074→rungT (uval r * U) k = r:=fun k hk=>by rw [← U_of hk];exact rungT_uval r k
theorem ldx_odd {r z m:Nat} {p:Int} (hr:4503599627370496≤r) (hi:r < inf0) (hv:uval r = m * U) (h:Odd m p z):ldx r p = z:=by
  obtain ⟨h1,h2,h3,h4,h5,h6⟩:=h
  have hf:=frac_lt r
  have hE:1≤expo r∧expo r≤2046:=by unfold expo;unfold inf0 at hi;omega
  have hw:r = wrd (expo r) (frac r):=by unfold wrd expo frac;omega
  have e1:=uval_wrd hE.1 hf
  rw [← hw,hv] at e1
  have hm0:m ≠ 0:=by omega
  obtain ⟨K,hK⟩:∃ K:Nat,K = 1074:=⟨_,rfl⟩
  have l1:(m * U).log2 = m.log2 + K:=by
    rw [← U_of hK]
    exact log2_shift hm0 K
  have l2:=log_wrd (frac r) (expo r - 1) hf
  rw [e1,l2] at l1
  unfold ldx
  rw [if_neg (by omega),if_neg (by omega)]
  generalize expo r = E at *
  generalize frac r = f at *
  split
  · rename_i h9
    rw [fop_mul (by unfold tiny inf0;omega) (wrd_lt (by omega) hf)]
    have e2:=uval_wrd (E:=(p + E + 53).toNat) (f:=f) (by omega) hf
    have e3:uval tiny * uval (wrd (p + E + 53).toNat f) = uval z * U:=by
      apply Nat.eq_of_mul_eq_mul_right (Nat.two_pow_pos 53)
      rw [Nat.mul_right_comm,tiny_val,e2,h6]
      have t1:(2:Nat) ^ ((p + E + 53).toNat - 1) * U = 2 ^ (E - 1) * (2 ^ (p + 1074).toNat * 2 ^ 53):=pw3 hK (by clear h6 e1 e2 hv;omega)
      calc U * ((4503599627370496 + f) * 2 ^ ((p + E + 53).toNat - 1)) = (4503599627370496 + f) * (2 ^ ((p + E + 53).toNat - 1) * U):=by rw [Nat.mul_comm U,Nat.mul_assoc]
        _ = ((4503599627370496 + f) * 2 ^ (E - 1)) * (2 ^ (p + 1074).toNat * 2 ^ 53):=by rw [t1,← Nat.mul_assoc]
        _ = (m * U) * (2 ^ (p + 1074).toNat * 2 ^ 53):=by rw [← e1]
        _ = m * 2 ^ (p + 1074).toNat * U * 2 ^ 53:=by rw [← Nat.mul_assoc (m * U),Nat.mul_right_comm m U]
    rw [e3,rungT_U z 1074 rfl,Nat.min_eq_left (Nat.le_of_lt h5)]
  rename_i h9
  rw [fop_mul (by unfold onef inf0;omega) (wrd_lt (by omega) hf)]
  have e2:=uval_wrd (E:=(p + E).toNat) (f:=f) (by omega) hf
  have e3:uval onef * uval (wrd (p + E).toNat f) = uval z * U:=by
    apply Nat.eq_of_mul_eq_mul_right U_pos
    rw [one_val,e2,h6]
    have t1:(2:Nat) ^ ((p + E).toNat - 1) * U = 2 ^ (E - 1) * 2 ^ (p + 1074).toNat:=pw2 hK (by clear h6 e1 e2 hv;omega)
    calc U * ((4503599627370496 + f) * 2 ^ ((p + E).toNat - 1)) * U = (4503599627370496 + f) * (2 ^ ((p + E).toNat - 1) * U) * U:=by rw [Nat.mul_comm U,Nat.mul_assoc (4503599627370496 + f)]
      _ = ((4503599627370496 + f) * 2 ^ (E - 1)) * 2 ^ (p + 1074).toNat * U:=by rw [t1,← Nat.mul_assoc]
      _ = (m * U) * 2 ^ (p + 1074).toNat * U:=by rw [← e1]
      _ = m * 2 ^ (p + 1074).toNat * U * U:=by rw [Nat.mul_right_comm m U]
  rw [e3,rungT_U z 1074 rfl,Nat.min_eq_left (Nat.le_of_lt h5)]
theorem can_pos {x:Nat} (h:x≤inf0) (neg:Bool):Can (x + sgV neg):=by
  have hi:x≤9218868437227405312:=h
  have hsg:sgV neg = 0∨sgV neg = 9223372036854775808:=by cases neg <;> simp [sgV]
  refine ⟨fcan_num (fnum_true ?_),by omega⟩
  rw [show (x + sgV neg) % 9223372036854775808 = x from by omega]
  exact h
theorem numR_tell {s:List UInt8} {x:Nat} (hs:¬ special s) (hx:Can x) (hf:formN s = true) (ho:∀ neg m e r,GenN s neg m e r→x = r + sgV neg):numR s = if numP x = s then (x,0) else (0,1):=by
  split
  · rename_i h
    exact numR_of hx h
  rename_i h
  rw [numR_no,if_pos hf]
  rintro b hb rfl
  obtain ⟨neg,m,e,r,g,rfl⟩:=numP_gen hb hs
  exact h (by rw [ho neg m e r g])
theorem pu_snoc:∀ (l:List UInt8) (acc v:Nat) (c:UInt8),Lib.parseUint10 acc l = .ok v→48≤c.toNat∧c.toNat≤57→v * 10 + (c.toNat - 48) < 18446744073709551616→Lib.parseUint10 acc (l++[c]) = .ok (v * 10 + (c.toNat - 48))
  | [],acc,v,c,h,hc,hv=>by
    simp only [Lib.parseUint10] at h
    injection h with h
    subst h
    simp only [List.nil_append,Lib.parseUint10]
    rw [if_pos hc,if_neg (by omega),if_neg (by omega)]
  | d :: l,acc,v,c,h,hc,hv=>by
    simp only [List.cons_append,Lib.parseUint10] at h ⊢
    split at h
    · rename_i hd
      rw [if_pos hd]
      split at h
      · cases h
      rename_i h1
      rw [if_neg h1]
      split at h
      · cases h
      rename_i h2
      rw [if_neg h2]
      exact pu_snoc l _ v c h hc hv
    cases h
theorem digit_of (k:Nat) (h:k < 10):(UInt8.ofNat (48 + k)).toNat = 48 + k:=by
  rw [UInt8.toNat_ofNat'];exact Nat.mod_eq_of_lt (by omega)
theorem pu_dec (u:Nat) (h:u < 18446744073709551616):Lib.parseUint10 0 (Lib.decDigits u) = .ok u:=by
  induction u using Nat.strongRecOn with
  | _ u ih=>
    by_cases h0:u < 10
    · rw [Lib.decDigits_one h0]
      have:=pu_snoc [] 0 0 (UInt8.ofNat (48 + u)) rfl (by rw [digit_of u h0];omega) (by rw [digit_of u h0];omega)
      rw [digit_of u h0] at this
      simpa using this
    rw [Lib.decDigits,dif_neg h0]
    have h1:=ih (u / 10) (by omega) (by omega)
    have hd:=digit_of (u % 10) (by omega)
    have:=pu_snoc _ 0 _ (UInt8.ofNat (48 + u % 10)) h1 (by rw [hd];omega) (by rw [hd];omega)
    rw [hd] at this
    rw [this]
    congr 1
    omega
theorem dec_digit (u:Nat):∀ c ∈ Lib.decDigits u,48≤c.toNat∧c.toNat≤57:=by
  induction u using Nat.strongRecOn with
  | _ u ih=>
    intro c hc
    by_cases h0:u < 10
    · rw [Lib.decDigits_one h0,List.mem_singleton] at hc
      subst hc
      rw [digit_of u h0];omega
    rw [Lib.decDigits,dif_neg h0,List.mem_append,List.mem_singleton] at hc
    rcases hc with hc | hc
    · exact ih (u / 10) (by omega) c hc
    subst hc
    rw [digit_of _ (by omega)];omega
def inInt (n:Int):Prop:=-9223372036854775808≤n∧n≤9223372036854775807
theorem atoi_itoa (n:Int) (h:inInt n):Lib.atoiAll (Lib.itoa n) = .ok n:=by
  obtain ⟨h0,h1⟩:=h
  unfold Lib.itoa
  by_cases hn:n < 0
  · rw [if_pos hn]
    unfold Lib.atoiAll
    dsimp only
    rw [if_pos (by decide)]
    unfold Lib.parseMag
    rw [if_neg (dec_ne _),pu_dec _ (by omega)]
    dsimp only
    rw [if_neg (by simp),if_neg (by omega),if_pos (by decide)]
    congr 1
    omega
  rw [if_neg hn]
  have hd:=dec_digit n.toNat
  have hp:=pu_dec n.toNat (by omega)
  have hne:=dec_ne n.toNat
  cases hl:Lib.decDigits n.toNat with
  | nil=>exact absurd hl hne
  | cons c r=>
    rw [hl] at hd hp
    have hc:=hd c (by simp)
    unfold Lib.atoiAll
    dsimp only
    rw [if_neg (by omega)]
    unfold Lib.parseMag
    rw [if_neg (by simp),hp]
    dsimp only
    rw [if_neg (by omega),if_neg (by omega),if_neg (by omega)]
    congr 1
    omega
/-! bits of floats -/
theorem and_two_pow' (n k:Nat):n &&& 2 ^ k = if n / 2 ^ k % 2 = 1 then 2 ^ k else 0:=by
  apply Nat.eq_of_testBit_eq
  intro i
  rw [Nat.testBit_and,Nat.testBit_two_pow]
  by_cases h:k = i
  · subst h
    rw [decide_eq_true rfl,Bool.and_true,Nat.testBit_eq_decide_div_mod_eq]
    split
    · rename_i h1
      rw [Nat.testBit_two_pow_self]
      exact decide_eq_true h1
    rename_i h1
    rw [Nat.zero_testBit]
    exact decide_eq_false h1
  rw [decide_eq_false h,Bool.and_false]
  split
  · rw [Nat.testBit_two_pow,decide_eq_false h]
  rw [Nat.zero_testBit]
theorem uand_sgn (n:Nat):uand (n:Int) 9223372036854775808 = if n / 9223372036854775808 % 2 = 1 then 9223372036854775808 else 0:=by
  unfold uand
  rw [show (9223372036854775808:Int) = ((2 ^ 63:Nat):Int) from rfl,BitVec.ofInt_natCast,BitVec.ofInt_natCast,BitVec.toNat_and,BitVec.toNat_ofNat,BitVec.toNat_ofNat,Nat.mod_eq_of_lt (show 2 ^ 63 < 2 ^ 64 by decide),and_two_pow' _ 63]
  have e:n % 2 ^ 64 / 2 ^ 63 % 2 = n / 9223372036854775808 % 2:=by omega
  rw [e]
  split
  · rfl
  rfl
theorem or_two_pow' {n k:Nat} (h:n < 2 ^ k):n ||| 2 ^ k = n + 2 ^ k:=by
  have:=Nat.two_pow_add_eq_or_of_lt h 1
  rw [Nat.mul_one] at this
  rw [Nat.or_comm,← this,Nat.add_comm]
theorem ctz_tz {m:Nat} (h0:m ≠ 0) (h:m < 2 ^ 64):Lib.ctz 64 m = tz m:=by
  unfold Lib.ctz
  rw [if_neg h0]
  have key:∀ (f x:Nat),x ≠ 0→x < 2 ^ f→Lib.ctzFrom f x = tz x:=by
    intro f
    induction f with
    | zero=>intro x hx hl;simp at hl;omega
    | succ f ih=>
      intro x hx hl
      unfold Lib.ctzFrom
      by_cases h1:x % 2 = 1
      · rw [if_pos h1,tz_odd h1]
      rw [if_neg h1,ih (x / 2) (by omega) (by rw [Nat.pow_succ] at hl;omega),tz_even hx (by omega),Nat.add_comm]
  exact key 64 m h0 h
theorem log_half {x:Nat} (h:x / 2 ≠ 0):(x / 2).log2 + 1 = x.log2:=by
  have:x ≠ 0:=by omega
  rw [eq_comm,Nat.log2_eq_iff this]
  have h1:=Nat.log2_self_le h
  have h2:=Nat.lt_log2_self (n:=x / 2)
  generalize (x / 2).log2 = q at *
  rw [Nat.pow_succ] at *
  rw [Nat.pow_succ]
  omega
theorem bitLen_log {m:Nat} (h0:m ≠ 0) (h:m < 2 ^ 64):Lib.bitLen m = m.log2 + 1:=by
  have key:∀ (f x:Nat),x ≠ 0→x < 2 ^ f→Lib.bitLenAux f x = x.log2 + 1:=by
    intro f
    induction f with
    | zero=>intro x hx hl;simp at hl;omega
    | succ f ih=>
      intro x hx hl
      unfold Lib.bitLenAux
      rw [if_neg hx]
      by_cases h1:x / 2 = 0
      · rw [h1]
        have:x = 1:=by omega
        subst this
        cases f <;> rfl
      rw [ih (x / 2) h1 (by rw [Nat.pow_succ] at hl;omega),log_half h1,Nat.add_comm]
  exact key 64 m h0 h
theorem sgn_ne {n:Nat} (h:¬ (if n / 9223372036854775808 % 2 = 1 then (9223372036854775808:Int) else 0) = 0):n / 9223372036854775808 % 2 = 1:=by
  by_cases h1:n / 9223372036854775808 % 2 = 1
  · exact h1
  rw [if_neg h1] at h;exact absurd rfl h
theorem sgn_eq {n:Nat} (h:(if n / 9223372036854775808 % 2 = 1 then (9223372036854775808:Int) else 0) = 0):¬ n / 9223372036854775808 % 2 = 1:=fun h1=>by
  rw [if_pos h1] at h
  cases h
theorem uor_52 {n:Nat} (h:n < 4503599627370496):uor (n:Int) 4503599627370496 = ((n + 4503599627370496:Nat):Int):=by
  unfold uor
  rw [show (4503599627370496:Int) = ((2 ^ 52:Nat):Int) from rfl,BitVec.ofInt_natCast,BitVec.ofInt_natCast,BitVec.toNat_or,BitVec.toNat_ofNat,BitVec.toNat_ofNat,Nat.mod_eq_of_lt (by omega:n < 2 ^ 64),Nat.mod_eq_of_lt (by decide:2 ^ 52 < 2 ^ 64),or_two_pow' h]
  exact wrap_u64 (by omega) (by omega)
theorem andn_sgn (n:Nat):n &&& (2 ^ IntKind.u64.bits - 1 - 9223372036854775808) = n % 9223372036854775808:=Nat.and_two_pow_sub_one_eq_mod n 63
theorem cls_fin {b:Nat} (h0:¬ clsN b = 0) (h1:¬ clsN b = 1) (h8:¬ clsN b = 8) (h4:¬ clsN b = 4) (h5:¬ clsN b = 5):mag b ≠ 0∧mag b < inf0:=by
  unfold clsN clsK at *
  have hm:mag b < 9223372036854775808:=by unfold mag;omega
  unfold inf0
  unfold expo frac at *
  generalize mag b = m at *
  have e1:m / 4503599627370496 < 2048:=by omega
  by_cases c1:m / 4503599627370496 = 2047
  · exfalso
    simp only [c1] at *
    by_cases c2:m % 4503599627370496 = 0
    · simp [c2] at *
      cases hs:sgb b <;> simp_all
    simp [c2] at h0
  refine ⟨fun hz=>?_,by omega⟩
  subst hz
  simp at *
  cases hs:sgb b <;> simp_all
theorem e0_bd {r:Nat} (h:r < inf0):-1074≤e0 r∧e0 r≤971:=by
  unfold e0 expo
  unfold inf0 at h
  split <;> omega
theorem tz_bd {r:Nat} (h:r ≠ 0):tz (m0 r)≤52:=Nat.le_trans (tz_le (m0_ne h)) (m0_log h)
theorem dd_len {u:Nat} (h:u < 18446744073709551616):(Lib.decDigits u).length≤20:=by
  rw [Lib.decDigits_length]
  exact nd_le 20 u (by omega) (by omega)
theorem numP_cls {b:Nat} (h0:¬ clsN b = 0) (h1:¬ (clsN b = 1∨clsN b = 8)) (h4:¬ (clsN b = 4∨clsN b = 5)):numP b = sgT (sgb b)++posT (mag b):=by
  unfold numP
  rw [if_neg h0,if_neg h1,if_neg h4]
theorem sgb_t {b:Nat} (h:fcan b / 9223372036854775808 % 2 = 1):sgb b = true:=decide_eq_true h
theorem sgb_f {b:Nat} (h:¬ fcan b / 9223372036854775808 % 2 = 1):sgb b = false:=decide_eq_false h
theorem ret_k {k:IntKind} {x y:Int} (h:x = y):Ending.returned (.int k x) = Ending.returned (.int k y):=by rw [h]
/-! rows of digits, as the code goes through them -/
theorem byte_eq {c:UInt8} {n:Nat} (hn:n < 256) (h:c.toNat = n):c = UInt8.ofNat n:=UInt8.toNat_inj.1 (by rw [h,UInt8.toNat_ofNat_of_lt' (by show n < 256;omega)])
theorem byte_ne {c d:UInt8} {n:Nat} (hd:d.toNat = n) (h:¬ c.toNat = n):c ≠ d:=fun h9=>h (by rw [h9,hd])
theorem nm_zero {s:List UInt8} (h:s[0]? = some 48) (hl:1 < s.length):nm s = false:=by
  cases h1:nm s with
  | false=>rfl
  | true=>
    obtain ⟨-,h2,-⟩:=nm_iff.1 h1
    rcases h2 with h2 | h2
    · exact absurd h h2
    omega
theorem nm_bad {s:List UInt8} {i:Nat} {c:UInt8} (h:s[i]? = some c) (hb:¬ (48≤c.toNat∧c.toNat≤57)):nm s = false:=by
  cases h1:nm s with
  | false=>rfl
  | true=>exact absurd (nm_dgs h1 c (List.mem_of_getElem? h)) hb
def dgu (s:List UInt8) (k:Nat):Prop:=∀ j c,j < k→s[j]? = some c→48≤c.toNat∧c.toNat≤57
theorem dgu_step {s:List UInt8} {k:Nat} {c:UInt8} (h:dgu s k) (ho:s[k]? = some c) (hc:48≤c.toNat∧c.toNat≤57):dgu s (k + 1):=fun j d hj hd=>by
  rcases Nat.lt_or_ge j k with h1 | h1
  · exact h j d h1 hd
  obtain rfl:j = k:=by omega
  rw [ho] at hd
  cases hd
  exact hc
theorem dgu_all {s:List UInt8} (h:dgu s s.length):dgs s:=fun c hc=>by
  obtain ⟨i,hi⟩:=List.mem_iff_getElem?.1 hc
  exact h i c (List.getElem?_eq_some_iff.1 hi).1 hi
theorem nm_good {s:List UInt8} (hne:s ≠ []) (h0:s[0]? ≠ some 48∨¬ 1 < s.length) (h:dgu s s.length):nm s = true:=nm_iff.2 ⟨hne,by
  rcases h0 with h0 | h0
  · exact .inl h0
  right
  have:s.length ≠ 0:=fun h9=>hne (List.eq_nil_of_length_eq_zero h9)
  omega,dgu_all h⟩
theorem dgs_take {s:List UInt8} (h:dgs s) (k:Nat):dgs (s.take k):=fun c hc=>h c (List.mem_of_mem_take hc)
theorem dval_take_lt {s:List UInt8} (h:dgs s) {k:Nat} (hk:k≤17):dval (s.take k) < 100000000000000000:=by
  have h1:=dval_lt _ (s.take k) rfl (dgs_take h k)
  have h2:10 ^ (s.take k).length≤10 ^ 17:=Nat.pow_le_pow_right (by decide) (by rw [List.length_take];omega)
  have h3:(10:Nat) ^ 17 = 100000000000000000:=by decide
  omega
theorem dval_at {s:List UInt8} {k:Nat} {c:UInt8} (h:dgs s) (ho:s[k]? = some c):(dval (s.take (k + 1)):Int) = dval (s.take k) * 10 + ((c.toNat:Int) - 48):=by
  obtain ⟨hk,rfl⟩:=List.getElem?_eq_some_iff.1 ho
  have hc:=h s[k] (List.getElem_mem hk)
  rw [List.take_succ_eq_append_getElem hk,dval_snoc]
  omega
theorem dval_at' {s:List UInt8} {k:Nat} {c:UInt8} (h:dgs s) (ho:s[k]? = some c):(dval (s.take (k + 1)):Int) = 10 * dval (s.take k) + ((c.toNat:Int) - 48):=by
  rw [dval_at h ho,Int.mul_comm]
def dcount:List UInt8→Nat
  | []=>0
  | c :: s=>if 48≤c.toNat∧c.toNat≤57 then dcount s + 1 else 0
def dok (s:List UInt8):Bool:=decide (0 < dcount s∧(s[0]? ≠ some 48∨dcount s = 1))
theorem dcount_at:∀ {s:List UInt8} {k:Nat},dgu s k→k≤s.length→(∀ c,s[k]? = some c→¬ (48≤c.toNat∧c.toNat≤57))→dcount s = k
  | [],k,_,hk,_=>by simp at hk;subst hk;rfl
  | c :: s,0,_,_,h=>by unfold dcount;rw [if_neg (h c rfl)]
  | c :: s,k + 1,h,hk,h2=>by
    unfold dcount
    rw [if_pos (h 0 c (Nat.succ_pos k) rfl),dcount_at (k:=k) (fun j d hj hd=>h (j + 1) d (by omega) (by simpa using hd)) (by simpa using hk) (fun d hd=>h2 d (by simpa using hd))]
theorem dcount_app {a r:List UInt8} (h:dgs a) (hr:∀ c,r[0]? = some c→¬ (48≤c.toNat∧c.toNat≤57)):dcount (a++r) = a.length:=dcount_at (fun j c hj hc=>h c (by
    rw [List.getElem?_append_left hj] at hc
    exact List.mem_of_getElem? hc)) (by rw [List.length_append];omega) fun c hc=>hr c (by rw [List.getElem?_append_right (Nat.le_refl _),Nat.sub_self] at hc;exact hc)
theorem dcount_le:∀ s:List UInt8,dcount s≤s.length
  | []=>Nat.le_refl _
  | c :: s=>by
    unfold dcount
    have:=dcount_le s
    split
    · rw [List.length_cons];omega
    exact Nat.zero_le _
theorem dcount_dgs:∀ s:List UInt8,dgs (s.take (dcount s))
  | []=>fun c hc=>by simp at hc
  | c :: s=>by
    unfold dcount
    split
    · rename_i h
      intro d hd
      rw [List.take_succ_cons] at hd
      rcases List.mem_cons.1 hd with rfl | hd
      · exact h
      exact dcount_dgs s d hd
    intro d hd
    simp at hd
theorem dok_nm {s:List UInt8}:(dok s = true∧dcount s = s.length) ↔ nm s = true:=by
  rw [nm_iff]
  unfold dok
  rw [decide_eq_true_eq]
  constructor
  · rintro ⟨⟨h1,h2⟩,h3⟩
    have h4:=dcount_dgs s
    rw [h3,List.take_length] at h4
    exact ⟨fun h9=>by subst h9;exact absurd h1 (by decide),by rw [← h3];exact h2,h4⟩
  rintro ⟨h1,h2,h3⟩
  have h4:dcount s = s.length:=by
    have:=dcount_app (r:=[]) h3 (fun c hc=>by simp at hc)
    rwa [List.append_nil] at this
  refine ⟨⟨?_,by rw [h4];exact h2⟩,h4⟩
  rw [h4]
  exact Nat.pos_of_ne_zero fun h9=>h1 (List.eq_nil_of_length_eq_zero h9)
/-! what the code finds on its way through a number's text -/
theorem form_no {s t a bb b:List UInt8} {neg ok dn:Bool} (hu:unsg s = (neg,t)) (hc:cutF t = (a,bb,ok)) (hb:unsg bb = (dn,b)) (h:ok = false∨nm a = false∨a = [48]∨nm b = false∨(dn = true∧b = [48])):formN s = false:=by
  unfold formN
  rw [hu]
  dsimp only
  unfold cutF at hc
  cases h1:cutp t with
  | none=>rfl
  | some p=>
    obtain ⟨a',b'⟩:=p
    rw [h1] at hc
    cases hc
    simp only [hb]
    rcases h with h | h | h | h | h
    · cases h
    · rw [h];rfl
    · subst h;simp
    · rw [h];simp
    rw [h.1,h.2];simp
theorem shape_of {s t a bb b:List UInt8} {neg dn:Bool} (hu:unsg s = (neg,t)) (hc:cutF t = (a,bb,true)) (hb:unsg bb = (dn,b)) (h1:nm a = true) (h2:a ≠ [48]) (h3:nm b = true) (h4:¬ (dn = true∧b = [48])):Shape s neg a dn b:=by
  refine ⟨by rw [hu],⟨bb,?_,hb⟩,h1,h2,h3,h4⟩
  rw [hu]
  dsimp only
  unfold cutF at hc
  cases h5:cutp t with
  | none=>rw [h5] at hc;cases hc
  | some p=>
    obtain ⟨a',b'⟩:=p
    rw [h5] at hc
    cases hc
    rfl
theorem range_no1 {a b:List UInt8} {dn:Bool} (ha:nm a = true) (hb:nm b = true) (h:16 < a.length∨5 < b.length∨9007199254740992≤dval a∨dval a % 2 = 0) (r:Nat):¬ Odd (dval a) (ev dn b) r:=fun ho=>by
  obtain ⟨h1,h2,h3,h4,-⟩:=ho
  rcases h with h | h | h | h
  · have:=dval_big ha (k:=16) (by omega) h
    omega
  · have:=dval_big hb (k:=5) (by omega) h
    have hl:(dval a).log2 ≥ 0:=Nat.zero_le _
    have hlb:=(Nat.log2_lt (n:=dval a) (k:=53) (by omega)).2 (by omega)
    unfold ev at h3 h4
    by_cases hd:dn = true
    · rw [if_pos hd] at h3;omega
    rw [if_neg hd] at h4;omega
  · omega
  omega
theorem range_no2 {m:Nat} {e:Int} (h:e < -1074∨1024 < (m.log2:Int) + 1 + e) (r:Nat):¬ Odd m e r:=fun ho=>by
  obtain ⟨-,-,h3,h4,-⟩:=ho
  omega
theorem ev_bd {dn:Bool} {b:List UInt8} (h:dgs b) (hl:b.length≤5):-100000 < ev dn b∧ev dn b < 100000:=by
  have h1:=dval_lt _ b rfl h
  have h2:10 ^ b.length≤10 ^ 5:=Nat.pow_le_pow_right (by decide) hl
  have h3:(10:Nat) ^ 5 = 100000:=by decide
  unfold ev
  split <;> omega
theorem nm_ne0 {a:List UInt8} (h:nm a = true) (h2:a ≠ [48]):dval a ≠ 0:=fun h9=>h2 ((dval_zero h).1 h9)
theorem neg_pos' {z:Nat} (h:z < 9223372036854775808):Op.negFloat .f64 z = z + 9223372036854775808:=by
  show z ^^^ 2 ^ 63 = z + 9223372036854775808
  apply Nat.eq_of_testBit_eq
  intro i
  have e:z + 9223372036854775808 = z ||| 2 ^ 63:=(or_two_pow' (k:=63) h).symm
  rw [e,Nat.testBit_xor,Nat.testBit_or,Nat.testBit_two_pow]
  by_cases h1:63 = i
  · subst h1
    rw [Nat.testBit_lt_two_pow (show z < 2 ^ 63 from h)]
    rfl
  rw [decide_eq_false h1]
  simp
theorem head_nz {a:List UInt8} (h:nm a = true) (h2:a ≠ [48]):a[0]? ≠ some 48:=fun h9=>by
  obtain ⟨h3,h4,-⟩:=nm_iff.1 h
  rcases h4 with h4 | h4
  · exact h4 h9
  match a,h4 with
  | [c],_=>simp at h9;subst h9;exact h2 rfl
theorem xform {s t:List UInt8} {neg:Bool} (hu:unsg s = (neg,t)) (h:formN s = true):∃ a dn b,Shape s neg a dn b∧dok t = true∧t[0]? ≠ some 48∧dcount t = a.length∧a = t.take (dcount t)∧t[dcount t]? = some 112∧unsg (t.drop (dcount t + 1)) = (dn,b):=by
  obtain ⟨neg',a,dn,b,hs⟩:=form_shape h
  obtain ⟨bb,h1,h2⟩:=hs.cut
  have hn:=hs.sg
  rw [hu] at h1 hn
  dsimp only at h1 hn
  subst hn
  obtain ⟨h3,h4⟩:=cutp_some h1
  have hd:dcount t = a.length:=by
    rw [h3]
    exact dcount_app (nm_dgs hs.na) fun c hc=>by
      simp at hc
      subst hc
      decide
  have hne:=(nm_iff.1 hs.na).1
  have hal:0 < a.length:=List.length_pos_iff.2 hne
  have h0:t[0]? = a[0]?:=by rw [h3,List.getElem?_append_left hal]
  have hnz:=head_nz hs.na hs.nz
  refine ⟨a,dn,b,hs,?_,by rw [h0];exact hnz,hd,?_,?_,?_⟩
  · unfold dok
    rw [decide_eq_true_eq,hd,h0]
    exact ⟨hal,.inl hnz⟩
  · rw [hd,h3,List.take_left]
  · rw [hd,h3,List.getElem?_append_right (Nat.le_refl _),Nat.sub_self]
    rfl
  rw [hd,h3,← List.drop_drop,List.drop_left]
  exact h2
theorem xshape {s t:List UInt8} {neg dn:Bool} {b:List UInt8} (hu:unsg s = (neg,t)) (h1:dok t = true) (h2:t[0]? ≠ some 48) (h3:t[dcount t]? = some 112) (hb:unsg (t.drop (dcount t + 1)) = (dn,b)) (h4:nm b = true) (h5:¬ (dn = true∧b = [48])):Shape s neg (t.take (dcount t)) dn b:=by
  have hl:=(List.getElem?_eq_some_iff.1 h3).1
  have hd:=dcount_dgs t
  have h6:0 < dcount t:=by unfold dok at h1;exact (of_decide_eq_true h1).1
  have h0:(t.take (dcount t))[0]? = t[0]?:=List.getElem?_take_of_lt h6
  have hlen:(t.take (dcount t)).length = dcount t:=by rw [List.length_take];omega
  have hc:cutp t = some (t.take (dcount t),t.drop (dcount t + 1)):=cutp_at (fun j c hj hc=>by
    have:=hd c (List.mem_of_getElem? (i:=j) (by rw [List.getElem?_take_of_lt hj];exact hc))
    rintro rfl
    exact absurd this.2 (by decide)) h3
  refine ⟨by rw [hu],⟨_,by rw [hu];exact hc,hb⟩,?_,fun h9=>?_,h4,h5⟩
  · rw [nm_iff]
    exact ⟨fun h9=>by rw [h9] at hlen;simp at hlen;omega,.inl (by rw [h0];exact h2),hd⟩
  rw [h9] at h0
  exact h2 h0.symm
theorem range_no3 {a b:List UInt8} {dn:Bool} (ha:nm a = true) (hb:nm b = true) (h:17 < a.length∨5 < b.length) (r:Nat):¬ Odd (dval a) (ev dn b) r:=range_no1 ha hb (by rcases h with h | h;exact .inl (by omega);exact .inr (.inl h)) r
/-! floats held against bounds -/
theorem fcmp_eq (b c:Nat):Op.floatEq .f64 b c = (fcmp b c == some .eq):=rfl
theorem feq0 {r:Nat} (h0:r ≠ 0) (h:r < inf0):Op.floatEq .f64 r 0 = false:=by
  rw [fcmp_eq,fcmp_pos (Nat.le_of_lt h) (Nat.zero_le _)]
  have:compare r 0 = .gt:=by rw [Nat.compare_eq_gt];omega
  rw [this]
  rfl
theorem flt0 {r:Nat} (h:r < inf0):flt r 0 = false:=by
  unfold flt
  rw [fcmp_pos (Nat.le_of_lt h) (Nat.zero_le _)]
  have:compare r 0 ≠ .lt:=by rw [Ne,Nat.compare_eq_lt];omega
  revert this
  cases compare r 0 <;> simp
theorem flt_norm {r:Nat} (h0:4503599627370496≤r) (h:r < inf0):flt r 4503599627370496 = false:=by
  unfold flt
  rw [fcmp_pos (Nat.le_of_lt h) (by decide)]
  have:compare r 4503599627370496 ≠ .lt:=by rw [Ne,Nat.compare_eq_lt];omega
  revert this
  cases compare r 4503599627370496 <;> simp
theorem fgt_max {r:Nat} (h:r < inf0):fgt r 9218868437227405311 = false:=by
  unfold fgt
  rw [fcmp_pos (Nat.le_of_lt h) (by decide)]
  have:compare r 9218868437227405311 ≠ .gt:=by rw [Ne,Nat.compare_eq_gt];unfold inf0 at h;omega
  revert this
  cases compare r 9218868437227405311 <;> simp
theorem feq_self {r:Nat} (h:r < inf0):Op.floatEq .f64 r r = true:=fnum_true (by
  have:r % 9223372036854775808 = r:=Nat.mod_eq_of_lt (by unfold inf0 at h;omega)
  rw [this]
  exact Nat.le_of_lt h)
theorem andn_exp {r:Nat} (h:r < inf0):r &&& (2 ^ IntKind.u64.bits - 1 - 9218868437227405312) = frac r:=by
  have e:2 ^ IntKind.u64.bits - 1 - 9218868437227405312 = (2 ^ 52 - 1) ||| 2 ^ 63:=by decide
  unfold inf0 at h
  rw [e,Nat.and_or_distrib_left,Nat.and_two_pow_sub_one_eq_mod,and_two_pow' r 63,if_neg (by omega),Nat.or_zero]
  rfl
theorem or_shl {f E:Nat} (h:f < 4503599627370496):f ||| E * 2 ^ 52 = wrd E f:=by
  rw [Nat.or_comm,Nat.mul_comm,← Nat.two_pow_add_eq_or_of_lt (i:=52) h E]
  unfold wrd
  omega
theorem fcan_eq_num {v z:Nat} (h:fcan v = z) (hz:fnum z = true):v = z:=by
  cases hv:fnum v with
  | true=>rw [← h,fcan_num hv]
  | false=>
    rw [fcan_nan hv] at h
    rw [← h,fnan_not] at hz
    cases hz
theorem ldx_num (r:Nat) (p:Int):fnum (ldx r p) = true:=fnum_true (by
  have h:=ldx_le (r:=r) (p:=p)
  have:ldx r p % 9223372036854775808 = ldx r p:=Nat.mod_eq_of_lt (by unfold inf0 at h;omega)
  rw [this]
  exact h)
theorem tmod2 (n:Nat):(n:Int).tmod 2 = ((n % 2:Nat):Int):=rfl
theorem tdiv2 (n:Nat):(n:Int).tdiv 2 = ((n / 2:Nat):Int):=rfl
theorem unsg_fst {s:List UInt8} {c:UInt8} (h:s[0]? = some c):(unsg s).1 = decide ((c.toNat:Int) = 45):=by
  unfold unsg
  rw [h]
  by_cases h1:c.toNat = 45
  · have h2:c = 45:=byte_eq (n:=45) (by decide) h1
    rw [if_pos (congrArg some h2),decide_eq_true (by omega)]
  rw [if_neg (fun h9=>by injection h9 with h9;subst h9;exact h1 rfl),decide_eq_false (by omega)]
theorem unsg_t {s:List UInt8} (h:(unsg s).1 = true):unsg s = (true,s.drop 1):=by
  unfold unsg at h ⊢
  split
  · rfl
  rename_i h1;rw [if_neg h1] at h;cases h
theorem unsg_f {s:List UInt8} (h:(unsg s).1 = false):unsg s = (false,s):=by
  unfold unsg at h ⊢
  split
  · rename_i h1;rw [if_pos h1] at h;cases h
  rfl
theorem unsg_len {s:List UInt8} (h:(unsg s).1 = true):1≤s.length:=by
  unfold unsg at h
  split at h
  · rename_i h1
    have:=(List.getElem?_eq_some_iff.1 h1).1
    omega
  cases h
theorem numR_nan:numR [110,97,110] = (9221120237041090560,0):=numR_of (b:=9221120237041090560) ⟨by decide +kernel,by decide⟩ (by decide +kernel)
theorem numR_inf:numR [105,110,102] = (9218868437227405312,0):=numR_of (b:=9218868437227405312) ⟨by decide +kernel,by decide⟩ (by decide +kernel)
theorem numR_ninf:numR [45,105,110,102] = (18442240474082181120,0):=numR_of (b:=18442240474082181120) ⟨by decide +kernel,by decide⟩ (by decide +kernel)
theorem numR_0:numR [48] = (0,0):=numR_of (b:=0) ⟨by decide +kernel,by decide⟩ (by decide +kernel)
theorem numR_n0:numR [45,48] = (9223372036854775808,0):=numR_of (b:=9223372036854775808) ⟨by decide +kernel,by decide⟩ (by decide +kernel)
theorem no_special {s:List UInt8} (h0:¬ s = [110,97,110]) (h1:¬ s = [105,110,102]) (h2:¬ s = [45,105,110,102]) (h3:¬ s = [48]) (h4:¬ s = [45,48]):¬ special s:=fun h=>by
  rcases h with h | h | h | h | h
  · exact h0 h
  · exact h1 h
  · exact h2 h
  · exact h3 h
  exact h4 h
theorem cutF_len (s:List UInt8):(cutF s).1.length≤s.length∧(cutF s).2.1.length≤s.length:=by
  unfold cutF
  cases h:cutp s with
  | none=>exact ⟨Nat.zero_le _,Nat.zero_le _⟩
  | some p=>
    obtain ⟨x,y⟩:=p
    have h1:=congrArg List.length (cutp_some h).1
    rw [List.length_append,List.length_cons] at h1
    exact ⟨by show x.length≤_;omega,by show y.length≤_;omega⟩
theorem unsg_le {s t:List UInt8} {neg:Bool} (h:unsg s = (neg,t)):t.length≤s.length:=by
  have h1:=congrArg List.length (unsg_text s)
  rw [h,List.length_append] at h1
  have h2:(neg,t).2 = t:=rfl
  rw [h2] at h1
  omega
theorem odd_z {a:List UInt8} {e:Int} (h1:¬ dval a % 2 = 0) (h2:dval a < 9007199254740992) (h3:¬ e < -1074) (h4:¬ 1024 < ((dval a).log2:Int) + 1 + e):∃ z,Odd (dval a) e z:=odd_make (by omega) h2 (by omega) (by omega)
theorem odd_lt {m:Nat} {e:Int} {z:Nat} (h:Odd m e z):z < 9223372036854775808:=by
  have:z < 9218868437227405312:=h.2.2.2.2.1
  omega
theorem xform_no {s t:List UInt8} {neg:Bool} (hu:unsg s = (neg,t)) (h:dok t = false∨t[0]? = some 48∨dcount t = t.length∨∃ c,t[dcount t]? = some c∧c ≠ 112):formN s = false:=by
  cases hf:formN s with
  | false=>rfl
  | true=>
    obtain ⟨a,dn,b,-,h1,h2,-,-,h3,-⟩:=xform hu hf
    rcases h with h | h | h | ⟨c,h,h4⟩
    · rw [h] at h1;cases h1
    · exact absurd h h2
    · rw [h] at h3;simp at h3
    rw [h] at h3;injection h3 with h3;exact absurd h3 h4
theorem xform_no2 {s t b:List UInt8} {neg dn:Bool} (hu:unsg s = (neg,t)) (hb:unsg (t.drop (dcount t + 1)) = (dn,b)) (h:¬ (dok b = true∧dcount b = b.length)∨(dn = true∧b = [48])):formN s = false:=by
  cases hf:formN s with
  | false=>rfl
  | true=>
    obtain ⟨a,dn',b',hs,-,-,-,-,-,h3⟩:=xform hu hf
    rw [hb] at h3
    cases h3
    rcases h with h | h
    · exact absurd (dok_nm.2 hs.nb) h
    exact absurd h hs.nn
theorem dok_pos {s:List UInt8} (h:dok s = true):0 < dcount s∧0 < s.length:=by
  have h1:0 < dcount s:=(of_decide_eq_true h).1
  have:=dcount_le s
  exact ⟨h1,by omega⟩
theorem take_dc_len {s:List UInt8}:(s.take (dcount s)).length = dcount s:=by
  have:=dcount_le s
  rw [List.length_take]
  omega
theorem tz_below {m i:Nat} (h:i < tz m):m / 2 ^ i % 2 = 0:=by
  by_cases h0:m = 0
  · subst h0;rw [Nat.zero_div]
  obtain ⟨-,h2⟩:=tz_split m h0
  have e:m = m / 2 ^ tz m * 2 ^ (tz m - i - 1) * 2 * 2 ^ i:=by
    conv=>lhs;rw [h2]
    rw [Nat.mul_assoc,Nat.mul_assoc,← Nat.pow_succ',← Nat.pow_add]
    congr 2
    omega
  rw [e,Nat.mul_div_cancel _ (Nat.two_pow_pos i)]
  omega
theorem cls_sg {b:Nat} (h:¬ clsN b = 0):(sgb b = true→clsN b≤4)∧(sgb b = false→5≤clsN b):=by
  have hk:5≤clsK b∧clsK b≤8:=by
    unfold clsK
    (repeat' split) <;> omega
  unfold clsN at h ⊢
  split at h
  · exact absurd rfl h
  rename_i h1
  rw [if_neg h1]
  constructor
  · intro hs;rw [if_pos hs];omega
  intro hs;rw [if_neg (by simp [hs])];omega
theorem numP_n {b:Nat} (h:clsN b = 0):numP b = [110,97,110]:=by unfold numP;rw [if_pos h]
theorem numP_1 {b:Nat} (h:clsN b = 1):numP b = [45,105,110,102]:=by
  have hs:sgb b = true:=by
    cases hs:sgb b with
    | true=>rfl
    | false=>have:=(cls_sg (b:=b) (by omega)).2 hs;omega
  unfold numP
  rw [if_neg (by omega),if_pos (.inl h),hs]
  rfl
theorem numP_8 {b:Nat} (h:clsN b = 8):numP b = [105,110,102]:=by
  have hs:sgb b = false:=by
    cases hs:sgb b with
    | false=>rfl
    | true=>have:=(cls_sg (b:=b) (by omega)).1 hs;omega
  unfold numP
  rw [if_neg (by omega),if_pos (.inr h),hs]
  rfl
theorem numP_4 {b:Nat} (h:clsN b = 4):numP b = [45,48]:=by
  have hs:sgb b = true:=by
    cases hs:sgb b with
    | true=>rfl
    | false=>have:=(cls_sg (b:=b) (by omega)).2 hs;omega
  unfold numP
  rw [if_neg (by omega),if_neg (by omega),if_pos (.inl h),hs]
  rfl
theorem numP_5 {b:Nat} (h:clsN b = 5):numP b = [48]:=by
  have hs:sgb b = false:=by
    cases hs:sgb b with
    | false=>rfl
    | true=>have:=(cls_sg (b:=b) (by omega)).1 hs;omega
  unfold numP
  rw [if_neg (by omega),if_neg (by omega),if_pos (.inr h),hs]
  rfl
theorem dv5 {b:List UInt8} (h:dgs b) (hl:b.length≤5):dval b < 100000:=by
  have h1:=dval_lt _ b rfl h
  have h2:10 ^ b.length≤10 ^ 5:=Nat.pow_le_pow_right (by decide) hl
  have h3:(10:Nat) ^ 5 = 100000:=by decide
  omega
theorem wrap64n {n:Nat} (h:n < 9223372036854775808):IntKind.i64.wrap (n:Int) = (n:Int):=Sx.wrap64 ⟨by omega,by omega⟩
theorem nbd {n:Nat} (h:n < 9223372036854775808):-9223372036854775808≤(n:Int)∧(n:Int)≤9223372036854775807:=⟨by omega,by omega⟩
theorem dval_lt17 {a:List UInt8} (h:dgs a) (hl:a.length≤17):dval a < 100000000000000000:=by
  have h1:=dval_take_lt h (k:=a.length) hl
  rwa [List.take_length] at h1
def plainB (c:UInt8):Bool:=decide (32≤c.toNat∧c.toNat≤126∧c.toNat ≠ 34∧c.toNat ≠ 92)
def hexd:List UInt8:=[48,49,50,51,52,53,54,55,56,57,97,98,99,100,101,102]
def esc (c:UInt8):List UInt8:=if plainB c = true then [c] else [92,hexd.getD (c.toNat / 16) 0,hexd.getD (c.toNat % 16) 0]
def quote (s:List UInt8):List UInt8:=34 :: s.flatMap esc++[34]
theorem esc_len (c:UInt8):(esc c).length≤3:=by unfold esc;split <;> simp
theorem flat_len (s:List UInt8):(s.flatMap esc).length≤3 * s.length:=by
  induction s with
  | nil=>simp
  | cons c s ih=>
    have:=esc_len c
    rw [List.flatMap_cons,List.length_append,List.length_cons]
    omega
theorem hex_get (k:Nat) (h:k < 16):hexd[k]? = some (hexd.getD k 0):=by
  rw [List.getD_eq_getElem?_getD]
  cases hh:hexd[k]? with
  | some v=>rfl
  | none=>rw [List.getElem?_eq_none_iff] at hh;have:hexd.length = 16:=rfl;omega
theorem flat_snoc {s:List UInt8} {k:Nat} {c:UInt8} (h:s[k]? = some c):(s.take (k + 1)).flatMap esc = (s.take k).flatMap esc++esc c:=by
  obtain ⟨hk,rfl⟩:=List.getElem?_eq_some_iff.1 h
  rw [List.take_succ_eq_append_getElem hk,List.flatMap_append]
  simp
theorem hex_inj:∀ i < 16,∀ j < 16,hexd.getD i 0 = hexd.getD j 0→i = j:=by decide
theorem hex_ne:∀ i < 16,hexd.getD i 0 ≠ 34∧hexd.getD i 0 ≠ 32:=by decide
theorem esc_plain {c:UInt8} (h:plainB c = true):esc c = [c]:=by unfold esc;rw [if_pos h]
theorem esc_code {c:UInt8} (h:plainB c = false):esc c = [92,hexd.getD (c.toNat / 16) 0,hexd.getD (c.toNat % 16) 0]:=by unfold esc;rw [if_neg (by simp [h])]
theorem plain_ne {c:UInt8} (h:plainB c = true):c ≠ 92∧c ≠ 34:=by
  unfold plainB at h
  rw [decide_eq_true_eq] at h
  refine ⟨fun h9=>?_,fun h9=>?_⟩ <;> (subst h9;revert h;decide)
theorem esc_same {c d:UInt8} {r s:List UInt8} (h:esc c++r = esc d++s):c = d∧r = s:=by
  cases hc:plainB c <;> cases hd:plainB d
  · rw [esc_code hc,esc_code hd] at h
    simp only [List.cons_append,List.nil_append,List.cons.injEq,true_and] at h
    obtain ⟨h1,h2,h3⟩:=h
    have b1:=c.toNat_lt
    have b2:=d.toNat_lt
    have e1:=hex_inj _ (by omega) _ (by omega) h1
    have e2:=hex_inj _ (by omega) _ (by omega) h2
    exact ⟨UInt8.toNat_inj.1 (by omega),h3⟩
  · rw [esc_code hc,esc_plain hd] at h
    simp only [List.cons_append,List.nil_append,List.cons.injEq] at h
    exact absurd h.1.symm (plain_ne hd).1
  · rw [esc_plain hc,esc_code hd] at h
    simp only [List.cons_append,List.nil_append,List.cons.injEq] at h
    exact absurd h.1 (plain_ne hc).1
  rw [esc_plain hc,esc_plain hd] at h
  simpa using h
theorem esc_ne (c:UInt8):∃ x l,esc c = x :: l:=by
  cases hc:plainB c
  · exact ⟨_,_,esc_code hc⟩
  exact ⟨_,_,esc_plain hc⟩
theorem esc_cut {s t r:List UInt8} (h:s.flatMap esc++r = t.flatMap esc):∃ t',t = s++t'∧r = t'.flatMap esc:=by
  induction s generalizing t with
  | nil=>exact ⟨t,rfl,h⟩
  | cons c s ih=>
    cases t with
    | nil=>
      obtain ⟨x,l,hx⟩:=esc_ne c
      rw [List.flatMap_cons,hx] at h
      cases h
    | cons d t=>
      rw [List.flatMap_cons,List.flatMap_cons,List.append_assoc] at h
      obtain ⟨rfl,h2⟩:=esc_same h
      obtain ⟨t',rfl,h3⟩:=ih h2
      exact ⟨t',rfl,h3⟩
theorem esc_inj {s t:List UInt8} (h:s.flatMap esc = t.flatMap esc):s = t:=by
  obtain ⟨t',rfl,h2⟩:=esc_cut (s:=s) (r:=[]) (t:=t) (by rw [List.append_nil];exact h)
  cases t' with
  | nil=>simp
  | cons c t'=>
    obtain ⟨x,l,hx⟩:=esc_ne c
    rw [List.flatMap_cons,hx] at h2
    cases h2
theorem quote_inj {s t:List UInt8} (h:quote s = quote t):s = t:=by
  unfold quote at h
  simp only [List.cons_append,List.cons.injEq,true_and] at h
  exact esc_inj (List.append_cancel_right h)
open Classical in
noncomputable def unq (s:List UInt8):List UInt8 × Int:=if h:∃ t,quote t = s then (h.choose,0) else ([],4)
theorem unq_yes {s t:List UInt8} (h:quote t = s):unq s = (t,0):=by
  have h1:∃ t,quote t = s:=⟨t,h⟩
  unfold unq
  rw [dif_pos h1,quote_inj (h1.choose_spec.trans h.symm)]
theorem unq_no {s:List UInt8} (h:∀ t,quote t ≠ s):unq s = ([],4):=by
  unfold unq
  rw [dif_neg (fun h1=>h _ h1.choose_spec)]
theorem unq_quote (t:List UInt8):unq (quote t) = (t,0):=unq_yes rfl
theorem quote_len (t:List UInt8):t.length + 2≤(quote t).length:=by
  unfold quote
  have h:∀ l:List UInt8,l.length≤(l.flatMap esc).length:=fun l=>by
    induction l with
    | nil=>simp
    | cons c l ih=>
      obtain ⟨x,r,hx⟩:=esc_ne c
      rw [List.flatMap_cons,List.length_append,hx]
      simp only [List.length_cons]
      omega
  have:=h t
  simp only [List.length_cons,List.length_append,List.length_nil]
  omega
theorem unq_len (s:List UInt8):(unq s).1.length≤s.length:=by
  by_cases h:∃ t,quote t = s
  · obtain ⟨t,rfl⟩:=h
    rw [unq_quote]
    have:=quote_len t
    show t.length≤_
    omega
  rw [unq_no (fun t ht=>h ⟨t,ht⟩)]
  exact Nat.zero_le _
def inn (s:List UInt8):List UInt8:=(s.drop 1).take (s.length - 2)
theorem inn_quote (t:List UInt8):inn (quote t) = t.flatMap esc:=by
  unfold inn quote
  simp
theorem quote_of {s:List UInt8} (h1:2≤s.length) (h2:s[0]? = some 34) (h3:s[s.length - 1]? = some 34):34 :: inn s++[34] = s:=by
  obtain ⟨c,l,rfl⟩:∃ c l,s = c :: l:=by
    cases s with
    | nil=>simp at h1
    | cons c l=>exact ⟨c,l,rfl⟩
  simp only [List.getElem?_cons_zero,Option.some.injEq] at h2
  subst h2
  simp only [List.length_cons] at h1 h3
  obtain ⟨m,x,rfl⟩:∃ m x,l = m++[x]:=⟨l.dropLast,l.getLast (by intro h;subst h;simp at h1),(List.dropLast_concat_getLast _).symm⟩
  simp at h3
  subst h3
  unfold inn
  simp
theorem quote_at0 (t:List UInt8):(quote t)[0]? = some 34:=rfl
theorem quote_atl (t:List UInt8):(quote t)[(quote t).length - 1]? = some 34:=by
  unfold quote
  simp
def hexv (c:UInt8):Int:=if 48≤c.toNat∧c.toNat≤57 then (c.toNat:Int) - 48 else if 97≤c.toNat∧c.toNat≤102 then (c.toNat:Int) - 97 + 10 else -1
theorem hexv_hex:∀ k < 16,hexv (hexd.getD k 0) = (k:Int):=by decide
theorem hexv_all:∀ n < 256,hexv (UInt8.ofNat n) = -1∨0≤hexv (UInt8.ofNat n)∧hexv (UInt8.ofNat n) < 16∧hexd.getD (hexv (UInt8.ofNat n)).toNat 0 = UInt8.ofNat n:=by decide +kernel
theorem hexv_of (c:UInt8):hexv c = -1∨0≤hexv c∧hexv c < 16∧hexd.getD (hexv c).toNat 0 = c:=by
  have h:=hexv_all c.toNat c.toNat_lt
  rw [UInt8.ofNat_toNat] at h
  exact h
def hex2 (x y:UInt8):UInt8:=UInt8.ofNat ((hexv x).toNat * 16 + (hexv y).toNat)
theorem hex2_esc {x y:UInt8} (hx:0≤hexv x) (hy:0≤hexv y) (hp:plainB (hex2 x y) = false):esc (hex2 x y) = [92,x,y]:=by
  rw [esc_code hp]
  rcases hexv_of x with h | ⟨-,h1,h2⟩
  · omega
  rcases hexv_of y with h | ⟨-,h3,h4⟩
  · omega
  have e:(hex2 x y).toNat = (hexv x).toNat * 16 + (hexv y).toNat:=by
    unfold hex2
    rw [UInt8.toNat_ofNat_of_lt' (by show _ < 256;omega)]
  rw [e,show ((hexv x).toNat * 16 + (hexv y).toNat) / 16 = (hexv x).toNat from by omega,show ((hexv x).toNat * 16 + (hexv y).toNat) % 16 = (hexv y).toNat from by omega,h2,h4]
theorem hex2_hex (d:UInt8):hex2 (hexd.getD (d.toNat / 16) 0) (hexd.getD (d.toNat % 16) 0) = d:=by
  have b:=d.toNat_lt
  unfold hex2
  rw [hexv_hex _ (by omega),hexv_hex _ (by omega)]
  apply UInt8.toNat_inj.1
  rw [UInt8.toNat_ofNat_of_lt' (by show _ < 256;omega)]
  omega
def Unq (m:List UInt8) (i:Nat) (t:List UInt8):Prop:=i≤m.length∧t.flatMap esc = m.take i
theorem Unq.start (m:List UInt8):Unq m 0 []:=⟨Nat.zero_le _,rfl⟩
theorem Unq.plain {m:List UInt8} {i:Nat} {t:List UInt8} {c:UInt8} (h:Unq m i t) (ho:m[i]? = some c) (hp:plainB c = true):Unq m (i + 1) (t++[c]):=by
  obtain ⟨hi,rfl⟩:=List.getElem?_eq_some_iff.1 ho
  refine ⟨hi,?_⟩
  rw [List.flatMap_append,h.2,List.take_succ_eq_append_getElem hi]
  simp [esc_plain hp]
theorem take3 {m:List UInt8} {i:Nat} {a b c:UInt8} (h0:m[i]? = some a) (h1:m[i + 1]? = some b) (h2:m[i + 2]? = some c):m.take (i + 3) = m.take i++[a,b,c]:=by
  rw [List.take_add_one,List.take_add_one,List.take_add_one,h0,h1,h2]
  simp
theorem Unq.code {m:List UInt8} {i:Nat} {t:List UInt8} {x y:UInt8} (h:Unq m i t) (h0:m[i]? = some 92) (h1:m[i + 1]? = some x) (h2:m[i + 2]? = some y) (hx:0≤hexv x) (hy:0≤hexv y) (hp:plainB (hex2 x y) = false) :
    Unq m (i + 3) (t++[hex2 x y]):=by
  obtain ⟨hi,-⟩:=List.getElem?_eq_some_iff.1 h2
  refine ⟨by omega,?_⟩
  rw [List.flatMap_append,h.2,take3 h0 h1 h2]
  simp [hex2_esc hx hy hp]
theorem Unq.len {m:List UInt8} {i:Nat} {t:List UInt8} (h:Unq m i t):t.length≤m.length:=by
  have h1:=quote_len t
  have h2:(quote t).length = (t.flatMap esc).length + 2:=by unfold quote;simp
  rw [h.2,List.length_take] at h2
  have:=h.1
  omega
theorem Unq.next {s:List UInt8} {i:Nat} {t t':List UInt8} {c:UInt8} (h:Unq (inn s) i t) (ho:(inn s)[i]? = some c) (hq:quote t' = s) :
    plainB c = true∨plainB c = false∧c = 92∧∃ d:UInt8,plainB d = false∧(inn s)[i + 1]? = some (hexd.getD (d.toNat / 16) 0)∧(inn s)[i + 2]? = some (hexd.getD (d.toNat % 16) 0):=by
  subst hq
  rw [inn_quote] at h ho ⊢
  have hi:=(List.getElem?_eq_some_iff.1 ho).1
  obtain ⟨t2,rfl,h2⟩:=esc_cut (s:=t) (t:=t') (r:=(t'.flatMap esc).drop i) (by rw [h.2,List.take_append_drop])
  have e:∀ k,(List.flatMap esc (t++t2))[i + k]? = (t2.flatMap esc)[k]?:=fun k=>by rw [← h2,List.getElem?_drop]
  have e0:=e 0
  rw [Nat.add_zero,ho] at e0
  rw [e 1,e 2]
  cases t2 with
  | nil=>simp at e0
  | cons d t2=>
    cases hd:plainB d
    · rw [List.flatMap_cons,esc_code hd] at e0 ⊢
      simp at e0
      subst e0
      exact .inr ⟨by decide,rfl,d,hd,rfl,rfl⟩
    rw [List.flatMap_cons,esc_plain hd] at e0
    simp at e0
    subst e0
    exact .inl hd
theorem Unq.end_ {s t:List UInt8} (h:Unq (inn s) (inn s).length t) (h1:2≤s.length) (h2:s[0]? = some 34) (h3:s[s.length - 1]? = some 34):unq s = (t,0):=
  unq_yes (by
    unfold quote
    rw [h.2,List.take_length]
    exact quote_of h1 h2 h3)
theorem inn_len {s:List UInt8} (h1:2≤s.length):(inn s).length = s.length - 2:=by
  unfold inn
  rw [List.length_take,List.length_drop]
  omega
def Unx (s:List UInt8) (i:Nat) (out:List UInt8):Prop:=∀ t,quote t = s→∃ k,k≤t.length∧i = 1 + ((t.take k).flatMap esc).length∧out = t.take k
theorem Unx.start (s:List UInt8):Unx s 1 []:=fun t _=>⟨0,Nat.zero_le _,rfl,rfl⟩
theorem Unx.at_ {s:List UInt8} {i:Nat} {out:List UInt8} {c:UInt8} {t:List UInt8} (h:Unx s i out) (hi:i < s.length - 1) (ho:s[i]? = some c) (hq:quote t = s) :
    ∃ k d,t[k]? = some d∧i = 1 + ((t.take k).flatMap esc).length∧out = t.take k∧(plainB d = true∧d = c∨plainB d = false∧c = 92∧i + 3 < s.length∧s[i + 1]? = some (hexd.getD (d.toNat / 16) 0)∧s[i + 2]? = some (hexd.getD (d.toNat % 16) 0)):=by
  obtain ⟨k,hk,hi2,hout⟩:=h t hq
  have hs:s = 34 :: (t.take k).flatMap esc++((t.drop k).flatMap esc++[34]):=by
    rw [← hq]
    unfold quote
    conv=>lhs;rw [← List.take_append_drop k t,List.flatMap_append]
    simp
  have hkl:k < t.length:=by
    rcases Nat.lt_or_ge k t.length with h9 | h9
    · exact h9
    rw [List.drop_of_length_le h9] at hs
    have:s.length = ((t.take k).flatMap esc).length + 2:=by rw [hs];simp only [List.length_append,List.length_cons,List.length_nil,List.flatMap_nil]
    omega
  have ho2:t[k]? = some t[k]:=List.getElem?_eq_getElem hkl
  have hd:t.drop k = t[k] :: t.drop (k + 1):=List.drop_eq_getElem_cons hkl
  have e:∀ j,s[i + j]? = ((t.drop k).flatMap esc++[34])[j]?:=fun j=>by
    rw [hs,List.getElem?_append_right (by rw [List.length_cons];omega)]
    congr 1
    rw [List.length_cons]
    omega
  refine ⟨k,t[k],ho2,hi2,hout,?_⟩
  have e0:=e 0
  rw [Nat.add_zero,ho,hd,List.flatMap_cons] at e0
  cases hp:plainB t[k]
  · rw [esc_code hp] at e0
    simp at e0
    refine .inr ⟨rfl,e0,?_,?_,?_⟩
    · have:s.length = 1 + ((t.take k).flatMap esc).length + ((t.drop k).flatMap esc).length + 1:=by
        rw [hs];simp only [List.length_append,List.length_cons,List.length_nil];omega
      rw [hd,List.flatMap_cons,esc_code hp] at this
      simp only [List.length_append,List.length_cons,List.length_nil] at this
      omega
    · rw [e 1,hd,List.flatMap_cons,esc_code hp];rfl
    rw [e 2,hd,List.flatMap_cons,esc_code hp];rfl
  rw [esc_plain hp] at e0
  simp at e0
  exact .inl ⟨rfl,e0.symm⟩
theorem Unx.byte {s:List UInt8} {i:Nat} {out:List UInt8} {c:UInt8} (h:Unx s i out) (hi:i < s.length - 1) (ho:s[i]? = some c) (hc:c ≠ 92):Unx s (i + 1) (out++[c]):=fun t hq=>by
  obtain ⟨k,d,hd,h2,h3,h4⟩:=h.at_ hi ho hq
  rcases h4 with ⟨hp,rfl⟩ | ⟨-,h9,-⟩
  · obtain ⟨hk,rfl⟩:=List.getElem?_eq_some_iff.1 hd
    refine ⟨k + 1,hk,?_,?_⟩
    · rw [List.take_succ_eq_append_getElem hk,List.flatMap_append,List.length_append,List.flatMap_cons,List.flatMap_nil,esc_plain hp]
      simp only [List.length_append,List.length_cons,List.length_nil]
      omega
    rw [List.take_succ_eq_append_getElem hk,h3]
  exact absurd h9 hc
theorem Unx.code {s:List UInt8} {i:Nat} {out:List UInt8} {x y:UInt8} (h:Unx s i out) (hi:i < s.length - 1) (ho:s[i]? = some 92) (h1:s[i + 1]? = some x) (h2:s[i + 2]? = some y):Unx s (i + 3) (out++[hex2 x y]):=fun t hq=>by
  obtain ⟨k,d,hd,e2,e3,h4⟩:=h.at_ hi ho hq
  rcases h4 with ⟨hp,rfl⟩ | ⟨hp,-,-,h5,h6⟩
  · exact absurd rfl (plain_ne hp).1
  obtain ⟨hk,rfl⟩:=List.getElem?_eq_some_iff.1 hd
  rw [h1] at h5
  rw [h2] at h6
  cases h5
  cases h6
  rw [hex2_hex]
  refine ⟨k + 1,hk,?_,?_⟩
  · rw [List.take_succ_eq_append_getElem hk,List.flatMap_append,List.length_append,List.flatMap_cons,List.flatMap_nil,esc_code hp]
    simp only [List.length_append,List.length_cons,List.length_nil]
    omega
  rw [List.take_succ_eq_append_getElem hk,e3]
theorem Unx.short {s:List UInt8} {i:Nat} {out:List UInt8} (h:Unx s i out) (hi:i < s.length - 1) (ho:s[i]? = some 92) (h9:s.length≤i + 3):unq s = ([],4):=unq_no fun t hq=>by
  obtain ⟨k,d,hd,e2,e3,h4⟩:=h.at_ hi ho hq
  rcases h4 with ⟨hp,rfl⟩ | ⟨hp,-,h5,-⟩
  · exact absurd rfl (plain_ne hp).1
  omega
theorem Unx.bad {s:List UInt8} {i:Nat} {out:List UInt8} {x y:UInt8} (h:Unx s i out) (hi:i < s.length - 1) (ho:s[i]? = some 92) (h1:s[i + 1]? = some x) (h2:s[i + 2]? = some y) (h9:hexv x < 0∨hexv y < 0):unq s = ([],4):=unq_no fun t hq=>by
  obtain ⟨k,d,hd,e2,e3,h4⟩:=h.at_ hi ho hq
  rcases h4 with ⟨hp,rfl⟩ | ⟨hp,-,-,h5,h6⟩
  · exact absurd rfl (plain_ne hp).1
  rw [h1] at h5
  rw [h2] at h6
  cases h5
  cases h6
  have b:=d.toNat_lt
  rw [hexv_hex _ (by omega),hexv_hex _ (by omega)] at h9
  omega
theorem Unx.end_ {s:List UInt8} {i:Nat} {out:List UInt8} (h:Unx s i out) (hi:¬ i < s.length - 1) (h9:quote out ≠ s):unq s = ([],4):=unq_no fun t hq=>by
  obtain ⟨k,hk,h2,h3⟩:=h t hq
  have h4:s.length = (t.flatMap esc).length + 2:=by rw [← hq];unfold quote;simp
  have h5:=quote_len (t.drop k)
  have h6:(quote (t.drop k)).length = ((t.drop k).flatMap esc).length + 2:=by unfold quote;simp
  have h7:(t.flatMap esc).length = ((t.take k).flatMap esc).length + ((t.drop k).flatMap esc).length:=by
    conv=>lhs;rw [← List.take_append_drop k t,List.flatMap_append,List.length_append]
  have h8:(t.drop k).length = t.length - k:=List.length_drop
  obtain rfl:k = t.length:=by omega
  rw [List.take_length] at h3
  exact h9 (by rw [h3];exact hq)
theorem inn_eq (s:List UInt8):(s.take (s.length - 1)).drop 1 = inn s:=by
  unfold inn
  rw [List.drop_take]
  rfl
theorem unq_frame {s:List UInt8} (h:s.length < 2∨s[0]? ≠ some 34∨s[s.length - 1]? ≠ some 34):unq s = ([],4):=unq_no fun t hq=>by
  subst hq
  rcases h with h | h | h
  · have:=quote_len t
    omega
  · exact h (quote_at0 t)
  exact h (quote_atl t)
theorem Unq.bad {s:List UInt8} {i:Nat} {t:List UInt8} {c:UInt8} (h:Unq (inn s) i t) (ho:(inn s)[i]? = some c) (hp:plainB c = false) (hb:c ≠ 92∨(inn s).length < i + 3∨(∃ x,(inn s)[i + 1]? = some x∧hexv x < 0)∨(∃ y,(inn s)[i + 2]? = some y∧hexv y < 0)∨∃ x y,(inn s)[i + 1]? = some x∧(inn s)[i + 2]? = some y∧plainB (hex2 x y) = true):unq s = ([],4):=unq_no fun t' hq=>by
  rcases h.next ho hq with h1 | ⟨-,h2,d,h3,h4,h5⟩
  · rw [hp] at h1;cases h1
  have b:=d.toNat_lt
  rcases hb with hb | hb | ⟨x,hx,hb⟩ | ⟨y,hy,hb⟩ | ⟨x,y,hx,hy,hb⟩
  · exact hb h2
  · have:=(List.getElem?_eq_some_iff.1 h5).1
    omega
  · rw [h4] at hx
    cases hx
    rw [hexv_hex _ (by omega)] at hb
    omega
  · rw [h5] at hy
    cases hy
    rw [hexv_hex _ (by omega)] at hb
    omega
  rw [h4] at hx
  rw [h5] at hy
  cases hx
  cases hy
  rw [hex2_hex,h3] at hb
  cases hb
theorem hexv_lt (c:UInt8):hexv c < 16∧-1≤hexv c:=by
  rcases hexv_of c with h | ⟨h1,h2,-⟩ <;> omega
theorem hex2_n (x y:UInt8) (hx:0≤hexv x) (hy:0≤hexv y):(hex2 x y).toNat = (hexv x).toNat * 16 + (hexv y).toNat:=by
  have h1:=hexv_lt x
  have h2:=hexv_lt y
  unfold hex2
  rw [UInt8.toNat_ofNat_of_lt' (by show _ < 256;omega)]
theorem or_nib {p q:Nat} (h:q < 16):p * 2 ^ 4 ||| q = p * 16 + q:=by
  rw [Nat.mul_comm,← Nat.two_pow_add_eq_or_of_lt (i:=4) h p,Nat.mul_comm]
def hexw (c:UInt8):Int:=if hexv c < 0 then 16 else hexv c
theorem hexw_bd (c:UInt8):0≤hexw c∧hexw c≤16∧(hexw c≤15 ↔ 0≤hexv c)∧(0≤hexv c→hexw c = hexv c):=by
  have:=hexv_lt c
  unfold hexw
  split <;> omega
theorem Unx.le {s:List UInt8} {i:Nat} (hi:i < s.length - 1):i + 1 < s.length:=by omega
theorem hexd_at (k:Nat) (h:k < 16):(hexd.getD k 0).toNat = if k < 10 then 48 + k else 87 + k:=by
  have h2:∀ k < 16,(hexd.getD k 0).toNat = if k < 10 then 48 + k else 87 + k:=by decide
  exact h2 k h
theorem mayV_iff {v:Vl}:mayV v = true ↔ v.k = 0∧v.num = 0∧v.tx = []∨v.k = 1∧v.tx = []∧fcan v.num = v.num∨v.k = 2∧v.num = 0∧v.tx.length≤64:=by
  unfold mayV
  by_cases h0:v.k = 0
  · rw [if_pos h0]
    simp only [Bool.and_eq_true,decide_eq_true_eq]
    constructor
    · rintro ⟨a,b⟩;exact .inl ⟨h0,a,b⟩
    rintro (⟨-,a,b⟩ | ⟨a,-⟩ | ⟨a,-⟩)
    · exact ⟨a,b⟩
    · omega
    omega
  rw [if_neg h0]
  by_cases h1:v.k = 1
  · rw [if_pos h1]
    simp only [Bool.and_eq_true,decide_eq_true_eq]
    constructor
    · rintro ⟨a,b⟩;exact .inr (.inl ⟨h1,a,b.symm⟩)
    rintro (⟨a,-⟩ | ⟨-,a,b⟩ | ⟨a,-⟩)
    · omega
    · exact ⟨a,b.symm⟩
    omega
  rw [if_neg h1]
  by_cases h2:v.k = 2
  · rw [if_pos h2]
    simp only [Bool.and_eq_true,decide_eq_true_eq]
    constructor
    · rintro ⟨a,b⟩;exact .inr (.inr ⟨h2,a,b⟩)
    rintro (⟨a,-⟩ | ⟨a,-⟩ | ⟨-,a,b⟩)
    · omega
    · omega
    exact ⟨a,b⟩
  rw [if_neg h2]
  simp [h0,h1,h2]
/-! values as texts -/
def noneT:List UInt8:=[110,111,110,101]
def zeroV:Vl:=⟨0,0,[]⟩
def printV (v:Vl):List UInt8:=if mayV v = false then [63] else if v.k = 1 then numP v.num else if v.k = 2 then quote v.tx else noneT
noncomputable def parseV (s:List UInt8):Vl × Int:=
  if s[0]? = some 34 then (if (unq s).2 = 0 then (if 64 < (unq s).1.length then (zeroV,2) else (⟨2,0,(unq s).1⟩,0)) else (zeroV,(unq s).2))
  else if s = noneT then (zeroV,0) else if (numR s).2 = 0 then (⟨1,(numR s).1,[]⟩,0) else (zeroV,(numR s).2)
theorem dec_no34 (u:Nat) (l:List UInt8):(Lib.decDigits u++l)[0]? ≠ some 34:=by
  obtain ⟨h1,-⟩:=dec_all u
  have h2:=dec_ne u
  cases h:Lib.decDigits u with
  | nil=>exact absurd h h2
  | cons c m=>
    rw [h] at h1
    have:=h1 c (by simp)
    intro h9
    simp at h9
    subst h9
    exact absurd this.1 (by decide)
theorem numP_head {b:Nat} (h:Can b):(numP b)[0]? ≠ some 34∧numP b ≠ noneT:=by
  rcases num_cases h.1 h.2 with ⟨e,-⟩ | ⟨e,-⟩ | ⟨e,-⟩ | ⟨e,-⟩ | ⟨e,-⟩ | ⟨n,m,x,r,g,-⟩
  · rw [e];decide
  · rw [e];decide
  · rw [e];decide
  · rw [e];decide
  · rw [e];decide
  have h1:=shape_form (shape_gen g)
  constructor
  · rw [g.1]
    cases n
    · exact dec_no34 _ _
    show some (45:UInt8) ≠ some 34
    decide
  intro h9
  rw [h9] at h1
  revert h1
  decide
theorem mayV_num {v:Vl} (h:mayV v = true) (h1:v.k = 1):v.tx = []∧fcan v.num = v.num:=by
  rw [mayV_iff] at h
  rcases h with ⟨h2,-⟩ | ⟨-,h2,h3⟩ | ⟨h2,-⟩
  · omega
  · exact ⟨h2,h3⟩
  omega
theorem mayV_text {v:Vl} (h:mayV v = true) (h1:v.k = 2):v.num = 0∧v.tx.length≤64:=by
  rw [mayV_iff] at h
  rcases h with ⟨h2,-⟩ | ⟨h2,-⟩ | ⟨-,h2,h3⟩
  · omega
  · omega
  exact ⟨h2,h3⟩
theorem mayV_none {v:Vl} (h:mayV v = true) (h1:v.k ≠ 1) (h2:v.k ≠ 2):v = zeroV:=by
  rw [mayV_iff] at h
  rcases h with ⟨a,b,c⟩ | ⟨a,-⟩ | ⟨a,-⟩
  · obtain ⟨k,n,t⟩:=v
    cases a;cases b;cases c
    rfl
  · exact absurd a h1
  exact absurd a h2
theorem parse_print {v:Vl} (h:mayV v = true) (hn:v.num < 18446744073709551616):parseV (printV v) = (v,0):=by
  unfold printV
  rw [if_neg (by simp [h])]
  by_cases h1:v.k = 1
  · obtain ⟨h2,h3⟩:=mayV_num h h1
    have hc:Can v.num:=⟨h3,hn⟩
    obtain ⟨h4,h5⟩:=numP_head hc
    rw [if_pos h1]
    unfold parseV
    rw [if_neg h4,if_neg h5,numR_print hc,if_pos rfl]
    obtain ⟨k,n,t⟩:=v
    cases h1;cases h2
    rfl
  rw [if_neg h1]
  by_cases h2:v.k = 2
  · obtain ⟨h3,h4⟩:=mayV_text h h2
    rw [if_pos h2]
    unfold parseV
    rw [if_pos (quote_at0 _),unq_quote,if_pos rfl,if_neg (by show ¬ 64 < v.tx.length;omega)]
    obtain ⟨k,n,t⟩:=v
    cases h2;cases h3
    rfl
  rw [if_neg h2,mayV_none h h1 h2]
  rfl
theorem mayV_zero:mayV zeroV = true:=by decide
theorem unq_back {s:List UInt8} (h:(unq s).2 = 0):quote (unq s).1 = s:=by
  by_cases h1:∃ t,quote t = s
  · obtain ⟨t,rfl⟩:=h1
    rw [unq_quote]
  rw [unq_no (fun t ht=>h1 ⟨t,ht⟩)] at h
  cases h
theorem parse_may (s:List UInt8):mayV (parseV s).1 = true∧(parseV s).1.num < 18446744073709551616:=by
  have hc:=numR_can s
  have hz:mayV zeroV = true∧zeroV.num < 18446744073709551616:=⟨mayV_zero,by decide⟩
  unfold parseV
  by_cases h1:s[0]? = some 34
  · rw [if_pos h1]
    by_cases h2:(unq s).2 = 0
    · rw [if_pos h2]
      by_cases h3:64 < (unq s).1.length
      · rw [if_pos h3];exact hz
      rw [if_neg h3]
      refine ⟨?_,by show 0 < _;decide⟩
      rw [mayV_iff]
      exact .inr (.inr ⟨rfl,rfl,by show (unq s).1.length≤64;omega⟩)
    rw [if_neg h2];exact hz
  rw [if_neg h1]
  by_cases h2:s = noneT
  · rw [if_pos h2];exact hz
  rw [if_neg h2]
  by_cases h3:(numR s).2 = 0
  · rw [if_pos h3]
    refine ⟨?_,hc.2⟩
    rw [mayV_iff]
    exact .inr (.inl ⟨rfl,rfl,hc.1⟩)
  rw [if_neg h3];exact hz
theorem parse_back {s:List UInt8} (h:(parseV s).2 = 0):printV (parseV s).1 = s:=by
  have hm:=(parse_may s).1
  unfold printV
  rw [if_neg (by simp [hm])]
  clear hm
  unfold parseV at h ⊢
  by_cases h1:s[0]? = some 34
  · rw [if_pos h1] at h ⊢
    by_cases h2:(unq s).2 = 0
    · rw [if_pos h2] at h ⊢
      by_cases h3:64 < (unq s).1.length
      · rw [if_pos h3] at h;cases h
      rw [if_neg h3]
      exact unq_back h2
    rw [if_neg h2] at h
    exact absurd h h2
  rw [if_neg h1] at h ⊢
  by_cases h2:s = noneT
  · rw [if_pos h2,h2]
    rfl
  rw [if_neg h2] at h ⊢
  by_cases h3:(numR s).2 = 0
  · rw [if_pos h3]
    exact numR_back h3
  rw [if_neg h3] at h
  exact absurd h h3
theorem parse_txlen (s:List UInt8):(parseV s).1.tx.length≤64:=by
  have h:=(parse_may s).1
  rw [mayV_iff] at h
  rcases h with ⟨-,-,h⟩ | ⟨-,h,-⟩ | ⟨-,-,h⟩
  · rw [h];decide
  · rw [h];decide
  exact h
end Go.Proofs.YtonnladboikmhaaGreatDoor
