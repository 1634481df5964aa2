/- Queries as the words of the chapter. -/
import Derived.Test.YtainemoobhkeiaaGreatDoorX3
set_option linter.unusedSimpArgs false
set_option linter.unusedVariables false
namespace Go.Proofs.YtainemoobhkeiaaGreatDoor
open Sx
/-! the document's words, one by one -/
def lead (x : UInt8) : List UInt8 → Nat
  | [] => 0
  | c :: l => if c = x then 0 else lead x l + 1
theorem lead_le (x : UInt8) : ∀ l : List UInt8, lead x l ≤ l.length
  | [] => Nat.le_refl _
  | c :: l => by
    have := lead_le x l
    rw [lead, List.length_cons]
    split <;> omega
theorem lead_app {x : UInt8} {b : List UInt8} : ∀ {a : List UInt8}, (∀ c ∈ a, c ≠ x) → lead x (a ++ x :: b) = a.length
  | [], _ => by simp [lead]
  | c :: a, h => by
    rw [List.cons_append, lead, if_neg (h c (by simp)), lead_app (fun d hd => h d (by simp [hd])), List.length_cons]
theorem lead_no {x : UInt8} : ∀ {a : List UInt8}, (∀ c ∈ a, c ≠ x) → lead x a = a.length
  | [], _ => rfl
  | c :: a, h => by
    rw [lead, if_neg (h c (by simp)), lead_no (fun d hd => h d (by simp [hd])), List.length_cons]
theorem lead_step {x c : UInt8} {s : List UInt8} {k : Nat} (h : s[k]? = some c) (hc : c ≠ x) : lead x (s.drop k) = lead x (s.drop (k + 1)) + 1 := by
  obtain ⟨h1, h2⟩ := List.getElem?_eq_some_iff.1 h
  rw [List.drop_eq_getElem_cons h1, h2, lead, if_neg hc]
theorem lead_stop {x : UInt8} {s : List UInt8} {k : Nat} (h : s[k]? = some x) : lead x (s.drop k) = 0 := by
  obtain ⟨h1, h2⟩ := List.getElem?_eq_some_iff.1 h
  rw [List.drop_eq_getElem_cons h1, h2, lead, if_pos rfl]
theorem lead_end {x : UInt8} {s : List UInt8} {k : Nat} (h : s.length ≤ k) : lead x (s.drop k) = 0 := by
  rw [List.drop_eq_nil_of_le h]
  rfl
def xw1 (s : List UInt8) : Nat := if s[0]? = some 34 then 1 + lead 34 (s.drop 1) else 0
def xwk (s : List UInt8) : Nat := xw1 s + lead 32 (s.drop (xw1 s))
def xword (s : List UInt8) : List UInt8 × List UInt8 × Bool :=
  if xwk s = 0 then ([], [], false) else if xwk s = s.length then (s, [], true) else (s.take (xwk s), s.drop (xwk s + 1), true)
theorem xw1_le (s : List UInt8) : xw1 s ≤ s.length := by
  unfold xw1
  split
  · rename_i h
    obtain ⟨h1, -⟩ := List.getElem?_eq_some_iff.1 h
    have := lead_le 34 (s.drop 1)
    rw [List.length_drop] at this
    omega
  · exact Nat.zero_le _
theorem xword_none {s : List UInt8} (h : xwk s = 0) : xword s = ([], [], false) := by unfold xword; rw [if_pos h]
theorem xword_all {s : List UInt8} (h0 : ¬ xwk s = 0) (h : xwk s = s.length) : xword s = (s, [], true) := by unfold xword; rw [if_neg h0, if_pos h]
theorem xword_cut {s : List UInt8} (h0 : ¬ xwk s = 0) (h : ¬ xwk s = s.length) : xword s = (s.take (xwk s), s.drop (xwk s + 1), true) := by unfold xword; rw [if_neg h0, if_neg h]
theorem xword_len (s : List UInt8) : (xword s).1.length ≤ s.length ∧ (xword s).2.1.length ≤ s.length := by
  unfold xword
  split
  · exact ⟨Nat.zero_le _, Nat.zero_le _⟩
  split
  · exact ⟨Nat.le_refl _, Nat.zero_le _⟩
  · exact ⟨by rw [List.length_take]; omega, by rw [List.length_drop]; omega⟩
theorem xw1_quote (t r : List UInt8) : xw1 (quote t ++ r) = (t.flatMap esc).length + 1 := by
  unfold xw1
  have h0 : (34 :: (t.flatMap esc ++ 34 :: r))[0]? = some (34 : UInt8) := rfl
  rw [quote_cons, if_pos h0, List.drop_succ_cons, List.drop_zero, lead_app (flat_no34 t)]
  omega
theorem xwk_at {w : List UInt8} (h : wordy w) (r : List UInt8) : xwk (w ++ 32 :: r) = w.length := by
  unfold xwk
  rcases h with ⟨t, rfl⟩ | ⟨h0, h1, h2⟩
  · rw [xw1_quote, drop_quote, quote_flat, lead, if_neg (by decide), lead, if_pos rfl]
  · have e : xw1 (w ++ 32 :: r) = 0 := by
      unfold xw1
      rw [if_neg]
      cases w with
      | nil => exact absurd rfl h0
      | cons c w => exact h1
    rw [e, List.drop_zero, lead_app h2]
    omega
theorem xwk_last {w : List UInt8} (h : wordy w) : xwk w = w.length := by
  unfold xwk
  rcases h with ⟨t, rfl⟩ | ⟨h0, h1, h2⟩
  · have e1 := xw1_quote t []
    have e2 := drop_quote t []
    rw [List.append_nil] at e1 e2
    rw [e1, e2, quote_flat, lead, if_neg (by decide), lead]
  · have e : xw1 w = 0 := by
      unfold xw1
      rw [if_neg h1]
    rw [e, List.drop_zero, lead_no h2]
    omega
theorem wordy_pos {w : List UInt8} (h : wordy w) : 0 < w.length := by
  rcases h with ⟨t, rfl⟩ | ⟨h0, -, -⟩
  · rw [quote_flat]; omega
  · exact List.length_pos_iff.2 h0
theorem xword_at {w : List UInt8} (h : wordy w) (r : List UInt8) : xword (w ++ 32 :: r) = (w, r, true) := by
  have hp := wordy_pos h
  have e := xwk_at h r
  rw [xword_cut (by omega) (by rw [e, List.length_append, List.length_cons]; omega), e, List.take_left, ← List.drop_drop, List.drop_left]
  rfl
theorem xword_last {w : List UInt8} (h : wordy w) : xword w = (w, [], true) := by
  have hp := wordy_pos h
  have e := xwk_last h
  rw [xword_all (by omega) e]
theorem xword_join {w : List UInt8} (h : wordy w) (l : List (List UInt8)) : xword (Lib.join (w :: l) [32]) = (w, Lib.join l [32], true) := by
  cases l with
  | nil => rw [join_one, xword_last h]; rfl
  | cons v l => rw [join_two, xword_at h]
def xws : Nat → List UInt8 → List (List UInt8)
  | 0, _ => []
  | n + 1, s => if (xword s).2.2 = true then (xword s).1 :: xws n (xword s).2.1 else []
theorem xws_no {n : Nat} {s : List UInt8} (h : (xword s).2.2 = false) : xws n s = [] := by
  cases n with
  | zero => rfl
  | succ n => rw [xws, if_neg (by rw [h]; decide)]
theorem xws_yes {n i : Nat} {s : List UInt8} (hi : i < n) (h : (xword s).2.2 = true) : xws (n - i) s = (xword s).1 :: xws (n - (i + 1)) (xword s).2.1 := by
  rw [show n - i = (n - (i + 1)) + 1 from by omega, xws, if_pos h]
theorem xws_len (n : Nat) : ∀ s, (xws n s).length ≤ n := by
  induction n with
  | zero => exact fun s => Nat.le_refl _
  | succ n ih =>
    intro s
    have := ih (xword s).2.1
    rw [xws]
    split
    · rw [List.length_cons]; omega
    · exact Nat.zero_le _
theorem xws_words (n : Nat) : ∀ s, ∀ w ∈ xws n s, w.length ≤ s.length := by
  induction n with
  | zero => exact fun s w hw => by cases hw
  | succ n ih =>
    intro s w hw
    have h1 := xword_len s
    rw [xws] at hw
    split at hw
    · rcases List.mem_cons.1 hw with rfl | h
      · exact h1.1
      · have := ih _ w h
        omega
    · cases hw
theorem xws_join : ∀ (ws : List (List UInt8)) (n : Nat), (∀ w ∈ ws, wordy w) → ws.length ≤ n → xws n (Lib.join ws [32]) = ws
  | [], n, _, _ => xws_no (by rfl)
  | w :: l, n, h, hn => by
    rw [List.length_cons] at hn
    obtain ⟨m, rfl⟩ : ∃ m, n = m + 1 := ⟨n - 1, by omega⟩
    have e := xword_join (h w (by simp)) l
    rw [xws, e, if_pos rfl, xws_join l m (fun v hv => h v (by simp [hv])) (by omega)]
theorem xws_print {q : Query} (h : GoodQ q) : xws 16 (printQ q) = wq q := xws_join _ _ (wq_wordy h) (by have := wq_len q; omega)
theorem wq_count (q : Query) : (wq q).length = if q.back = true then 15 else 14 := by
  unfold wq wq0 wq1
  cases q.back <;> rfl
/-! a number of a few digits -/
def xnumL (n : Int) (l : List UInt8) : Int := l.foldl (fun n c => 10 * n + (c.toNat : Int) - 48) n
def xnum (s : List UInt8) : Int := xnumL 0 (s.take 5)
theorem xnum_bd (l : List UInt8) : ∀ (n : Int) (B : Nat), n.natAbs ≤ B → (xnumL n l).natAbs ≤ (B + 30) * 10 ^ l.length := by
  induction l with
  | nil => exact fun n B h => by show n.natAbs ≤ _; simp; omega
  | cons c l ih =>
    intro n B h
    have hb := c.toNat_lt
    have h1 := ih (10 * n + (c.toNat : Int) - 48) (10 * B + 207) (by omega)
    have h2 : (10 * B + 207 + 30) * 10 ^ l.length ≤ (B + 30) * 10 * 10 ^ l.length := Nat.mul_le_mul_right _ (by omega)
    have h3 : (B + 30) * 10 ^ (c :: l).length = (B + 30) * 10 * 10 ^ l.length := by rw [List.length_cons, Nat.pow_succ, Nat.mul_assoc, Nat.mul_comm (10 ^ l.length) 10]
    rw [h3]
    exact Nat.le_trans h1 h2
theorem xnum_lim {l : List UInt8} (h : l.length ≤ 5) : -3000000 ≤ xnumL 0 l ∧ xnumL 0 l ≤ 3000000 := by
  have h1 := xnum_bd l 0 0 (Nat.le_refl _)
  have h2 : (10 : Nat) ^ l.length ≤ 10 ^ 5 := Nat.pow_le_pow_right (by decide) h
  have h3 : (10 : Nat) ^ 5 = 100000 := rfl
  omega
theorem xnum_take {s : List UInt8} {k : Nat} {c : UInt8} (h : s[k]? = some c) : xnumL 0 (s.take (k + 1)) = 10 * xnumL 0 (s.take k) + (c.toNat : Int) - 48 := by
  rw [List.take_add_one, h]
  unfold xnumL
  rw [List.foldl_append]
  rfl
theorem xnum_end {s : List UInt8} {k : Nat} (h : s.length ≤ k ∨ k = 5) (hk : k ≤ 5) : xnumL 0 (s.take k) = xnum s := by
  unfold xnum
  rcases h with h | rfl
  · rw [List.take_of_length_le h, List.take_of_length_le (by omega)]
  · rfl
theorem xnum_dgs : ∀ (l : List UInt8), dgs l → ∀ n : Nat, xnumL (n : Int) l = ((l.foldl (fun n c => n * 10 + (c.toNat - 48)) n : Nat) : Int)
  | [], _, n => rfl
  | c :: l, h, n => by
    have h1 := h c (by simp)
    have h2 := xnum_dgs l (fun d hd => h d (by simp [hd])) (n * 10 + (c.toNat - 48))
    show xnumL (10 * (n : Int) + (c.toNat : Int) - 48) l = _
    rw [show 10 * (n : Int) + (c.toNat : Int) - 48 = ((n * 10 + (c.toNat - 48) : Nat) : Int) from by omega]
    exact h2
theorem xnum_itoa {n : Int} (h0 : 0 ≤ n) (h1 : n ≤ 9999) : xnum (Lib.itoa n) = n := by
  have e : Lib.itoa n = Lib.decDigits n.natAbs := by
    rw [itoa_abs, show decide (n < 0) = false from decide_eq_false (by omega)]
    rfl
  obtain ⟨d1, d2⟩ := dec_all n.natAbs
  have hl := Lib.decDigits_length n.natAbs
  have hn := nd_le 5 n.natAbs (by have : (10 : Nat) ^ 5 = 100000 := rfl; omega) (by decide)
  unfold xnum
  rw [e, List.take_of_length_le (by omega)]
  have h2 := xnum_dgs _ d1 0
  unfold dval at d2
  rw [d2] at h2
  have h3 : xnumL 0 (Lib.decDigits n.natAbs) = (n.natAbs : Int) := h2
  rw [h3]
  omega
/-! what the words say -/
theorem xq_len {s : List UInt8} (h : (xws 16 s).length ≠ 15 ∧ (xws 16 s).length ≠ 14) : parseQ s = (zeroQ, 4) := parseQ_no fun q hq hs => by
  subst hs
  rw [xws_print hq, wq_count] at h
  cases hb : q.back
  · rw [hb] at h; exact h.2 rfl
  · rw [hb] at h; exact h.1 rfl
structure XWs (s : List UInt8) (b : Bool) (x1 x3 x5 x7 x9 xm xa : List UInt8) : Prop where
  hb : b = decide ((xws 16 s).length = 15)
  h1 : (xws 16 s)[1]? = some x1
  h3 : (xws 16 s)[3]? = some x3
  h5 : (xws 16 s)[5]? = some x5
  h7 : (xws 16 s)[7]? = some x7
  h9 : (xws 16 s)[9]? = some x9
  hm : (xws 16 s)[if b = true then 12 else 11]? = some xm
  ha : (xws 16 s)[if b = true then 14 else 13]? = some xa
theorem XWs.good {s x1 x3 x5 x7 x9 xm xa : List UInt8} {b : Bool} (x : XWs s b x1 x3 x5 x7 x9 xm xa) {q : Query} (hq : GoodQ q) (hs : printQ q = s) :
    unq x1 = (q.fr, 0) ∧ unq x3 = (q.to, 0) ∧ xnum x5 = q.kind ∧ parseV x7 = (q.lo, 0) ∧ parseV x9 = (q.hi, 0) ∧ b = q.back ∧ xnum xm = q.most ∧ unq xa = (q.after, 0) := by
  subst hs
  obtain ⟨i1, i2, i3, i4, i5, i6, i7, i8, i9⟩ := check_zero hq.ok
  obtain ⟨hb, h1, h3, h5, h7, h9, hm, ha⟩ := x
  rw [xws_print hq] at hb h1 h3 h5 h7 h9 hm ha
  have e : b = q.back := by
    rw [hb, wq_count]
    cases q.back <;> rfl
  have g : ∀ {k : Nat} {w v : List UInt8}, (wq q)[k]? = some w → (wq q)[k]? = some v → w = v := fun h h' => by rw [h] at h'; injection h'
  have e1 := g h1 (rfl : (wq q)[1]? = some (quote q.fr))
  have e3 := g h3 (rfl : (wq q)[3]? = some (quote q.to))
  have e5 := g h5 (rfl : (wq q)[5]? = some (Lib.itoa q.kind))
  have e7 := g h7 (rfl : (wq q)[7]? = some (printV q.lo))
  have e9 := g h9 (rfl : (wq q)[9]? = some (printV q.hi))
  have em : xm = Lib.itoa q.most := by
    rw [e] at hm
    cases hb2 : q.back
    · rw [hb2, if_neg (by decide)] at hm
      exact g hm (by unfold wq; rw [hb2]; rfl)
    · rw [hb2, if_pos rfl] at hm
      exact g hm (by unfold wq; rw [hb2]; rfl)
  have ea : xa = quote q.after := by
    rw [e] at ha
    cases hb2 : q.back
    · rw [hb2, if_neg (by decide)] at ha
      exact g ha (by unfold wq; rw [hb2]; rfl)
    · rw [hb2, if_pos rfl] at ha
      exact g ha (by unfold wq; rw [hb2]; rfl)
  rw [e1, e3, e5, e7, e9, em, ea]
  exact ⟨unq_quote _, unq_quote _, xnum_itoa (by omega) (by omega), parse_print i6 hq.lo, parse_print i7 hq.hi, e, xnum_itoa (by omega) (by omega), unq_quote _⟩
noncomputable def xrawQ (b : Bool) (x1 x3 x5 x7 x9 xm xa : List UInt8) : Query := ⟨(unq x1).1, (unq x3).1, xnum x5, (parseV x7).1, (parseV x9).1, b, xnum xm, (unq xa).1⟩
theorem XWs.err {s x1 x3 x5 x7 x9 xm xa : List UInt8} {b : Bool} (x : XWs s b x1 x3 x5 x7 x9 xm xa) (h : (unq x1).2 ≠ 0 ∨ (unq x3).2 ≠ 0 ∨ (parseV x7).2 ≠ 0 ∨ (parseV x9).2 ≠ 0 ∨ (unq xa).2 ≠ 0) : parseQ s = (zeroQ, 4) := parseQ_no fun q hq hs => by
  obtain ⟨a1, a3, -, a7, a9, -, -, aa⟩ := x.good hq hs
  rw [a1, a3, a7, a9, aa] at h
  simp at h
theorem XWs.bad {s x1 x3 x5 x7 x9 xm xa : List UInt8} {b : Bool} (x : XWs s b x1 x3 x5 x7 x9 xm xa) (h : checkQ (xrawQ b x1 x3 x5 x7 x9 xm xa) ≠ 0 ∨ printQ (xrawQ b x1 x3 x5 x7 x9 xm xa) ≠ s) : parseQ s = (zeroQ, 4) := parseQ_no fun q hq hs => by
  obtain ⟨a1, a3, a5, a7, a9, ab, am, aa⟩ := x.good hq hs
  have e : xrawQ b x1 x3 x5 x7 x9 xm xa = q := by
    simp only [xrawQ]
    rw [a1, a3, a5, a7, a9, ab, am, aa]
  rw [e] at h
  rcases h with h | h
  · exact h hq.ok
  · exact h hs
theorem xraw_good {b : Bool} {x1 x3 x5 x7 x9 xm xa : List UInt8} (h : checkQ (xrawQ b x1 x3 x5 x7 x9 xm xa) = 0) : GoodQ (xrawQ b x1 x3 x5 x7 x9 xm xa) :=
  ⟨h, by simp only [xrawQ]; exact (parse_may _).2, by simp only [xrawQ]; exact (parse_may _).2⟩
/-! the five faults -/
def ern (a b c d e : Int) : Nat → Int
  | 0 => a
  | 1 => b
  | 2 => c
  | 3 => d
  | _ => e
theorem ern_at {a b c d e : Int} : ∀ {k : Nat}, k < 5 → ([.int .i64 a, .int .i64 b, .int .i64 c, .int .i64 d, .int .i64 e] : List Value)[k]? = some (.int .i64 (ern a b c d e k))
  | 0, _ => rfl
  | 1, _ => rfl
  | 2, _ => rfl
  | 3, _ => rfl
  | 4, _ => rfl
theorem ern_bad {a b c d e : Int} : ∀ {k : Nat}, k < 5 → ern a b c d e k ≠ 0 → a ≠ 0 ∨ b ≠ 0 ∨ c ≠ 0 ∨ d ≠ 0 ∨ e ≠ 0
  | 0, _, h => .inl h
  | 1, _, h => .inr (.inl h)
  | 2, _, h => .inr (.inr (.inl h))
  | 3, _, h => .inr (.inr (.inr (.inl h)))
  | 4, _, h => .inr (.inr (.inr (.inr h)))
def wcell (s : List UInt8) : List Value := [.string ⟨s.toArray⟩]
theorem wcell_len (s : List UInt8) : (wcell s).length = 1 := rfl
theorem printQ_xt {q : Query} (h : q.back = true) : printQ q = [102, 114, 111, 109, 32] ++ quote q.fr ++ [32, 116, 111, 32] ++ quote q.to ++ [32, 107, 105, 110, 100, 32] ++ Lib.itoa q.kind ++ [32, 108, 111, 32] ++ printV q.lo ++ [32, 104, 105, 32] ++ printV q.hi ++ [32, 98, 97, 99, 107] ++ [32, 109, 111, 115, 116, 32] ++ Lib.itoa q.most ++ [32, 97, 102, 116, 101, 114, 32] ++ quote q.after := by
  rw [printQ_t h]
  simp only [wq0, wq1, kFrom, kTo, kKind, kLo, kHi, kBack, kMost, kAfter, List.cons_append, List.nil_append, join_two, join_one, List.append_assoc]
theorem printQ_xf {q : Query} (h : q.back = false) : printQ q = [102, 114, 111, 109, 32] ++ quote q.fr ++ [32, 116, 111, 32] ++ quote q.to ++ [32, 107, 105, 110, 100, 32] ++ Lib.itoa q.kind ++ [32, 108, 111, 32] ++ printV q.lo ++ [32, 104, 105, 32] ++ printV q.hi ++ [32, 109, 111, 115, 116, 32] ++ Lib.itoa q.most ++ [32, 97, 102, 116, 101, 114, 32] ++ quote q.after := by
  rw [printQ_f h]
  simp only [wq0, wq1, kFrom, kTo, kKind, kLo, kHi, kMost, kAfter, List.cons_append, List.nil_append, join_two, join_one, List.append_assoc]
end Go.Proofs.YtainemoobhkeiaaGreatDoor
