/- Floats of 64 bits: rounding is monotone, and a number of the format stays. -/
import Derived.Test.YtonnladboikmhaaGreatDoorSxR
set_option linter.unusedSimpArgs false
set_option linter.unusedVariables false
namespace Go.Sx
def rhe (n g:Nat):Nat:=n / g + (if g < 2 * (n % g)∨(g = 2 * (n % g)∧n / g % 2 = 1) then 1 else 0)
theorem rhe_mono {n n' g:Nat} (_:0 < g) (h:n≤n'):rhe n g≤rhe n' g:=by
  unfold rhe
  have h1:n / g≤n' / g:=Nat.div_le_div_right h
  rcases Nat.lt_or_ge (n / g) (n' / g) with h2 | h2
  · split <;> split <;> omega
  have e:n / g = n' / g:=by omega
  have h3:=Nat.div_add_mod n g
  have h4:=Nat.div_add_mod n' g
  rw [e] at h3
  have h5:n % g≤n' % g:=by omega
  rw [e]
  split
  · rename_i h6
    rw [if_pos]
    · omega
    omega
  omega
theorem rhe_le {n g k:Nat} (hg:0 < g) (h:n≤g * k):rhe n g≤k:=by
  have h1:rhe n g≤rhe (g * k) g:=rhe_mono hg h
  have h2:rhe (g * k) g = k:=by
    unfold rhe
    rw [Nat.mul_mod_right,Nat.mul_div_cancel_left _ hg,if_neg (by omega)]
    omega
  omega
theorem rhe_ge {n g k:Nat} (hg:0 < g) (h:g * k≤n):k≤rhe n g:=by
  have h1:rhe (g * k) g≤rhe n g:=rhe_mono hg h
  have h2:rhe (g * k) g = k:=by
    unfold rhe
    rw [Nat.mul_mod_right,Nat.mul_div_cancel_left _ hg,if_neg (by omega)]
    omega
  omega
theorem rhe_eq {g k:Nat} (hg:0 < g):rhe (g * k) g = k:=Nat.le_antisymm (rhe_le hg (Nat.le_refl _)) (rhe_ge hg (Nat.le_refl _))
theorem rhe_scale {n g c:Nat} (hc:0 < c):rhe (n * c) (g * c) = rhe n g:=by
  unfold rhe
  rw [Nat.mul_div_mul_right _ _ hc,Nat.mul_mod_mul_right]
  have e1:(g * c < 2 * (n % g * c)) ↔ g < 2 * (n % g):=by
    rw [← Nat.mul_assoc]
    exact Nat.mul_lt_mul_right hc
  have e2:(g * c = 2 * (n % g * c)) ↔ g = 2 * (n % g):=by
    rw [← Nat.mul_assoc]
    exact Nat.mul_right_cancel_iff hc
  simp only [e1,e2]
theorem cut_rhe (s:Bool) (n drop:Nat):Ieee.Toward.even.cut s n drop = rhe n (2 ^ drop):=by
  unfold Ieee.Toward.cut
  dsimp only
  rw [Nat.one_shiftLeft]
  have hb:∀ g:Nat,n / g + (decide (g < 2 * (n % g)) || (g == 2 * (n % g) && n / g % 2 == 1)).toNat = rhe n g:=by
    intro g
    unfold rhe
    congr 1
    by_cases h:g < 2 * (n % g)∨(g = 2 * (n % g)∧n / g % 2 = 1)
    · rw [if_pos h]
      rcases h with h | ⟨h1,h2⟩
      · simp [h]
      rw [← h1];simp [h2]
    rw [if_neg h]
    have h1:¬ g < 2 * (n % g):=fun h9=>h (.inl h9)
    have h2:¬ (g = 2 * (n % g)∧n / g % 2 = 1):=fun h9=>h (.inr h9)
    rw [decide_eq_false h1,Bool.false_or]
    by_cases h3:g = 2 * (n % g)
    · have h4:¬ n / g % 2 = 1:=fun h9=>h2 ⟨h3,h9⟩
      simp [h4]
    simp [h3]
  rw [hb]
  rcases Nat.le_total drop (n.log2 + 2) with h | h
  · rw [Nat.min_eq_left h]
  rw [Nat.min_eq_right h]
  have h0:n < 2 ^ (n.log2 + 1):=Nat.lt_log2_self
  have small:∀ k,n.log2 + 2≤k→rhe n (2 ^ k) = 0:=by
    intro k hk
    have h1:2 ^ (n.log2 + 2)≤2 ^ k:=Nat.pow_le_pow_right (by omega) hk
    have h2:2 ^ (n.log2 + 2) = 2 * 2 ^ (n.log2 + 1):=by rw [Nat.pow_succ,Nat.mul_comm]
    unfold rhe
    rw [Nat.div_eq_of_lt (by omega),Nat.mod_eq_of_lt (by omega),if_neg (by omega)]
  rw [small _ (Nat.le_refl _),small _ h]
def rungT (N D:Nat):Nat:=if N = 0 then 0 else (max (N.log2 - 52) D - D) * 2 ^ 52 + rhe N (2 ^ max (N.log2 - 52) D)
theorem rungT_mono {N N' D:Nat} (h:N≤N'):rungT N D≤rungT N' D:=by
  unfold rungT
  by_cases h0:N = 0
  · rw [if_pos h0];omega
  rw [if_neg h0,if_neg (by omega)]
  have hl:N.log2≤N'.log2:=(Nat.le_log2 (by omega)).2 (Nat.le_trans (Nat.log2_self_le h0) h)
  have hs:max (N.log2 - 52) D≤max (N'.log2 - 52) D:=by omega
  rcases Nat.lt_or_ge (max (N.log2 - 52) D) (max (N'.log2 - 52) D) with h1 | h1
  · have e2:max (N'.log2 - 52) D = N'.log2 - 52:=by omega
    have h52:52≤N'.log2:=by omega
    have k2:2 ^ 52≤rhe N' (2 ^ max (N'.log2 - 52) D):=by
      refine rhe_ge (Nat.two_pow_pos _) ?_
      rw [e2,← Nat.pow_add,show N'.log2 - 52 + 52 = N'.log2 from by omega]
      exact Nat.log2_self_le (by omega)
    have k1:rhe N (2 ^ max (N.log2 - 52) D)≤2 ^ 53:=by
      refine rhe_le (Nat.two_pow_pos _) ?_
      rw [← Nat.pow_add]
      have:=Nat.lt_log2_self (n:=N)
      have h2:2 ^ (N.log2 + 1)≤2 ^ (max (N.log2 - 52) D + 53):=Nat.pow_le_pow_right (by omega) (by omega)
      omega
    have hD:D≤max (N.log2 - 52) D:=Nat.le_max_right _ _
    generalize max (N.log2 - 52) D = a at *
    generalize max (N'.log2 - 52) D = b at *
    have:(a - D + 1) * 2 ^ 52≤(b - D) * 2 ^ 52:=Nat.mul_le_mul_right _ (by omega)
    omega
  have e:max (N.log2 - 52) D = max (N'.log2 - 52) D:=by omega
  rw [e]
  have:=rhe_mono (g:=2 ^ max (N'.log2 - 52) D) (Nat.two_pow_pos _) h
  omega
theorem log2_shift {m:Nat} (h:m ≠ 0) (k:Nat):(m * 2 ^ k).log2 = m.log2 + k:=by
  rw [Nat.log2_eq_iff (by have:=Nat.two_pow_pos k;exact Nat.mul_ne_zero h (by omega))]
  refine ⟨?_,?_⟩
  · rw [Nat.pow_add];exact Nat.mul_le_mul_right _ (Nat.log2_self_le h)
  rw [show m.log2 + k + 1 = (m.log2 + 1) + k from by omega,Nat.pow_add]
  exact Nat.mul_lt_mul_of_pos_right Nat.lt_log2_self (Nat.two_pow_pos k)
theorem lp_eq:Ieee.double.leastPlace = -1074:=by decide
theorem nearest_rung (s:Bool) (m:Nat) (p b:Int) (h1:b≤p) (h2:b≤-1074) :
    Ieee.double.nearest s m p = Ieee.double.word s (min (rungT (m * 2 ^ (p - b).toNat) (-1074 - b).toNat) Ieee.double.infRung):=by
  unfold Ieee.Format.nearest
  dsimp only
  rw [lp_eq]
  split
  · rename_i h;subst h
    rw [Nat.zero_mul]
    rfl
  rename_i hm
  have hN:m * 2 ^ (p - b).toNat ≠ 0:=Nat.mul_ne_zero hm (by have:=Nat.two_pow_pos (p - b).toNat;omega)
  unfold rungT
  rw [if_neg hN,log2_shift hm,cut_rhe]
  have hfb:((Ieee.double.fractionBits:Nat):Int) = 52:=rfl
  have hbi:Ieee.double.binade = 2 ^ 52:=rfl
  rw [hfb,hbi]
  generalize hlast:max (p + (m.log2:Int) - 52) (-1074) = last
  have e1:max (m.log2 + (p - b).toNat - 52) (-1074 - b).toNat = (last - b).toNat:=by omega
  have e2:(last - b).toNat - (-1074 - b).toNat = (last - -1074).toNat:=by omega
  rw [e1,e2]
  congr 3
  rcases Int.le_total last p with h | h
  · have e3:(last - p).toNat = 0:=by omega
    have e4:(p - b).toNat = (p - last).toNat + (last - b).toNat:=by omega
    rw [e3,e4,Nat.pow_add,← Nat.mul_assoc,Nat.shiftLeft_eq]
    have:=rhe_scale (n:=m * 2 ^ (p - last).toNat) (g:=1) (c:=2 ^ (last - b).toNat) (Nat.two_pow_pos _)
    rw [Nat.one_mul] at this
    rw [this,Nat.pow_zero]
  have e3:(p - last).toNat = 0:=by omega
  have e4:(last - b).toNat = (last - p).toNat + (p - b).toNat:=by omega
  rw [e3,e4,Nat.pow_add,Nat.shiftLeft_zero,rhe_scale (Nat.two_pow_pos _)]
def uval (r:Nat):Nat:=if r < 2 ^ 52 then r else (2 ^ 52 + r % 2 ^ 52) * 2 ^ (r / 2 ^ 52 - 1)
theorem rungT_uval (r D:Nat):rungT (uval r * 2 ^ D) D = r:=by
  have hp:=Nat.two_pow_pos D
  by_cases h0:r = 0
  · subst h0;unfold uval;simp [rungT]
  by_cases h:r < 2 ^ 52
  · have hu:uval r = r:=by unfold uval;rw [if_pos h]
    rw [hu]
    unfold rungT
    rw [if_neg (Nat.mul_ne_zero h0 (by omega)),log2_shift h0]
    have hl:r.log2 < 52:=(Nat.log2_lt h0).2 h
    have e:max (r.log2 + D - 52) D = D:=by omega
    rw [e,Nat.sub_self,Nat.zero_mul,Nat.zero_add,Nat.mul_comm,rhe_eq hp]
  have hu:uval r = (2 ^ 52 + r % 2 ^ 52) * 2 ^ (r / 2 ^ 52 - 1):=by unfold uval;rw [if_neg h]
  have hf:r % 2 ^ 52 < 2 ^ 52:=Nat.mod_lt _ (Nat.two_pow_pos _)
  have he:1≤r / 2 ^ 52:=(Nat.le_div_iff_mul_le (Nat.two_pow_pos _)).2 (by omega)
  have hr:=Nat.div_add_mod r (2 ^ 52)
  have hm0:2 ^ 52 + r % 2 ^ 52 ≠ 0:=by omega
  have hl:(2 ^ 52 + r % 2 ^ 52).log2 = 52:=by
    rw [Nat.log2_eq_iff hm0]
    omega
  rw [hu,Nat.mul_assoc,← Nat.pow_add]
  unfold rungT
  rw [if_neg (Nat.mul_ne_zero hm0 (by have:=Nat.two_pow_pos (r / 2 ^ 52 - 1 + D);omega)),log2_shift hm0,hl]
  have e:max (52 + (r / 2 ^ 52 - 1 + D) - 52) D = r / 2 ^ 52 - 1 + D:=by omega
  rw [e,Nat.mul_comm (2 ^ 52 + r % 2 ^ 52),rhe_eq (Nat.two_pow_pos _)]
  have e2:r / 2 ^ 52 - 1 + D - D = r / 2 ^ 52 - 1:=by omega
  rw [e2,Nat.sub_mul,Nat.mul_comm (r / 2 ^ 52)]
  omega
theorem uval_lt {r r':Nat} (h:r < r'):uval r < uval r':=by
  rcases Nat.lt_or_ge (uval r) (uval r') with h1 | h1
  · exact h1
  have:=rungT_mono (D:=0) h1
  have e1:=rungT_uval r' 0
  have e2:=rungT_uval r 0
  rw [Nat.pow_zero,Nat.mul_one] at e1 e2
  omega
theorem uval_le {r r':Nat} (h:r≤r'):uval r≤uval r':=by
  rcases Nat.lt_or_ge r r' with h1 | h1
  · exact Nat.le_of_lt (uval_lt h1)
  have:r = r':=by omega
  rw [this];exact Nat.le_refl _
theorem read_fin (s:Bool) {r:Nat} (h:r < Ieee.double.infRung):∃ (m:Nat) (p:Int),Ieee.double.read (Ieee.double.word s r) = .number s m p∧-1074≤p∧m * 2 ^ (p + 1074).toNat = uval r:=by
  have hi:=Ieee.double.infRung_lt
  have hm:=word_mod s r (by omega)
  have hs:(Ieee.double.word s r / Ieee.double.signWeight % 2 == 1) = s:=by
    unfold Ieee.Format.word
    cases s with
    | true=>rw [if_pos rfl,Nat.add_div_left _ (by decide),Nat.div_eq_of_lt (by omega)];rfl
    | false=>rw [if_neg (by decide),Nat.div_eq_of_lt (by omega)];rfl
  have hb:Ieee.double.binade = 2 ^ 52:=rfl
  unfold Ieee.Format.read
  dsimp only
  rw [hm,hs,lp_eq,hb]
  unfold uval
  split
  · exact ⟨_,_,rfl,by omega,by simp⟩
  rename_i h9
  first | rw [if_pos h] | skip
  refine ⟨_,_,rfl,by omega,?_⟩
  rw [show (-1074 + ((r / 2 ^ 52 - 1:Nat):Int) + 1074).toNat = r / 2 ^ 52 - 1 from by omega]
theorem read_inf (s:Bool):Ieee.double.read (Ieee.double.word s Ieee.double.infRung) = .infinity s:=by cases s <;> decide
theorem signed_cmp (a b:Nat):compare (a:Int) (b:Int) = compare a b:=by
  rcases Nat.lt_trichotomy a b with h | h | h
  · rw [Int.compare_eq_lt.2 (by omega),Nat.compare_eq_lt.2 h]
  · subst h;simp
  rw [Int.compare_eq_gt.2 (by omega),Nat.compare_eq_gt.2 h]
theorem cmp_mono {a b a' b':Nat} (h1:a < b ↔ a' < b') (h2:b < a ↔ b' < a'):compare a b = compare a' b':=by
  rcases Nat.lt_trichotomy a b with h | h | h
  · rw [Nat.compare_eq_lt.2 h,Nat.compare_eq_lt.2 (h1.1 h)]
  · have:a' = b':=by omega
    subst h this;simp
  rw [Nat.compare_eq_gt.2 h,Nat.compare_eq_gt.2 (h2.1 h)]
theorem uval_cmp (r r':Nat):compare (uval r) (uval r') = compare r r':=by
  refine cmp_mono ⟨fun h=>?_,uval_lt⟩ ⟨fun h=>?_,uval_lt⟩
  · rcases Nat.lt_or_ge r r' with h1 | h1
    · exact h1
    have:=uval_le h1;omega
  rcases Nat.lt_or_ge r' r with h1 | h1
  · exact h1
  have:=uval_le h1;omega
theorem fcmp_pos {b c:Nat} (hb:b≤Ieee.double.infRung) (hc:c≤Ieee.double.infRung):fcmp b c = some (compare b c):=by
  have wb:Ieee.double.word false b = b:=rfl
  have wc:Ieee.double.word false c = c:=rfl
  unfold fcmp Ieee.Format.order
  rw [← wb,← wc]
  rcases Nat.lt_or_ge b Ieee.double.infRung with h1 | h1
  · obtain ⟨m,p,e1,hp,hm⟩:=read_fin false h1
    rw [e1]
    rcases Nat.lt_or_ge c Ieee.double.infRung with h2 | h2
    · obtain ⟨n,q,e2,hq,hn⟩:=read_fin false h2
      rw [e2]
      show some (compare (Ieee.signed false m (p - min p q).toNat) (Ieee.signed false n (q - min p q).toNat)) = _
      unfold Ieee.signed
      rw [if_neg (by decide),if_neg (by decide),signed_cmp,Nat.shiftLeft_eq,Nat.shiftLeft_eq]
      congr 1
      rw [wb,wc,← uval_cmp b c,← hm,← hn]
      have hk:0 < 2 ^ (min p q + 1074).toNat:=Nat.two_pow_pos _
      rw [show (p + 1074).toNat = (p - min p q).toNat + (min p q + 1074).toNat from by omega,show (q + 1074).toNat = (q - min p q).toNat + (min p q + 1074).toNat from by omega,Nat.pow_add,Nat.pow_add,← Nat.mul_assoc,← Nat.mul_assoc]
      exact (cmp_mono (Nat.mul_lt_mul_right hk) (Nat.mul_lt_mul_right hk)).symm
    have:c = Ieee.double.infRung:=by omega
    subst this
    rw [read_inf]
    show some Ordering.lt = _
    rw [wb,wc,Nat.compare_eq_lt.2 h1]
  have:b = Ieee.double.infRung:=by omega
  subst this
  rw [read_inf]
  rcases Nat.lt_or_ge c Ieee.double.infRung with h2 | h2
  · obtain ⟨n,q,e2,hq,hn⟩:=read_fin false h2
    rw [e2]
    show some Ordering.gt = _
    rw [wb,wc,Nat.compare_eq_gt.2 h2]
  have:c = Ieee.double.infRung:=by omega
  subst this
  rw [read_inf]
  rfl
end Go.Sx
