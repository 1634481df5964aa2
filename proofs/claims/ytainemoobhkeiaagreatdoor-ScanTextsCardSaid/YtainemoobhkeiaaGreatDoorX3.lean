/- Queries as texts, there and back, plainly. -/
import Derived.Test.YtainemoobhkeiaaGreatDoorX0
import Derived.Test.YtainemoobhkeiaaGreatDoorN3
import Derived.Lib.Join
set_option linter.unusedSimpArgs false
set_option linter.unusedVariables false
namespace Go.Proofs.YtainemoobhkeiaaGreatDoor
open Sx
/-! a byte looked for -/
theorem idx_app {a b : List UInt8} {x : UInt8} (h : ∀ c ∈ a, c ≠ x) : Lib.indexByte (a ++ x :: b) x = a.length := by
  induction a with
  | nil => simp [Lib.indexByte]
  | cons c a ih =>
    have h1 := ih (fun d hd => h d (by simp [hd]))
    have h2 : (c == x) = false := beq_eq_false_iff_ne.2 (h c (by simp))
    rw [List.cons_append, Lib.indexByte, h2, h1, List.length_cons]
    have h3 : ((a.length : Int) == -1) = false := beq_eq_false_iff_ne.2 (by omega)
    rw [h3]
    simp
theorem idx_no {a : List UInt8} {x : UInt8} (h : ∀ c ∈ a, c ≠ x) : Lib.indexByte a x = -1 := by
  induction a with
  | nil => rfl
  | cons c a ih =>
    have h1 := ih (fun d hd => h d (by simp [hd]))
    have h2 : (c == x) = false := beq_eq_false_iff_ne.2 (h c (by simp))
    rw [Lib.indexByte, h2, h1]
    rfl
theorem idx_bd (a : List UInt8) (x : UInt8) : -1 ≤ Lib.indexByte a x ∧ Lib.indexByte a x < a.length := by
  induction a with
  | nil => simp [Lib.indexByte]
  | cons c a ih =>
    rw [Lib.indexByte, List.length_cons]
    split
    · omega
    · split <;> omega
/-! words -/
def wend (s : List UInt8) : Nat := if s[0]? = some 34 then (Lib.indexByte (s.drop 1) 34 + 1).toNat else 0
def wordF (s : List UInt8) : List UInt8 × List UInt8 :=
  if Lib.indexByte (s.drop (wend s)) 32 < 0 then (s, []) else (s.take (wend s + (Lib.indexByte (s.drop (wend s)) 32).toNat), s.drop (wend s + (Lib.indexByte (s.drop (wend s)) 32).toNat + 1))
theorem wend_y {s : List UInt8} (h : s[0]? = some 34) : (wend s : Int) = 1 + Lib.indexByte (s.drop 1) 34 := by
  have := idx_bd (s.drop 1) 34
  unfold wend
  rw [if_pos h]
  omega
theorem wend_n {s : List UInt8} (h : ¬ s[0]? = some 34) : wend s = 0 := by unfold wend; rw [if_neg h]
theorem word_end {s : List UInt8} (h : Lib.indexByte (s.drop (wend s)) 32 < 0) : wordF s = (s, []) := by unfold wordF; rw [if_pos h]
theorem word_cut {s : List UInt8} (h : ¬ Lib.indexByte (s.drop (wend s)) 32 < 0) : wordF s = (s.take (wend s + (Lib.indexByte (s.drop (wend s)) 32).toNat), s.drop (wend s + (Lib.indexByte (s.drop (wend s)) 32).toNat + 1)) := by unfold wordF; rw [if_neg h]
theorem wend_le (s : List UInt8) : wend s ≤ s.length := by
  unfold wend
  have h := idx_bd (s.drop 1) 34
  rw [List.length_drop] at h
  split <;> omega
theorem word_len (s : List UInt8) : (wordF s).1.length ≤ s.length ∧ (wordF s).2.length ≤ s.length := by
  unfold wordF
  split
  · exact ⟨Nat.le_refl _, Nat.zero_le _⟩
  · refine ⟨?_, ?_⟩
    · rw [List.length_take]; omega
    · rw [List.length_drop]; omega
def wordy (w : List UInt8) : Prop := (∃ t, w = quote t) ∨ (w ≠ [] ∧ w[0]? ≠ some 34 ∧ ∀ c ∈ w, c ≠ 32)
theorem esc_no34 (c : UInt8) : ∀ d ∈ esc c, d ≠ 34 := fun d hd h9 => by
  subst h9
  have b := c.toNat_lt
  cases hp : plainB c
  · rw [esc_code hp] at hd
    simp only [List.mem_cons, List.not_mem_nil, or_false] at hd
    rcases hd with h | h | h
    · exact absurd h (by decide)
    · exact (hex_ne _ (by omega)).1 h.symm
    · exact (hex_ne _ (by omega)).1 h.symm
  · rw [esc_plain hp] at hd
    simp only [List.mem_cons, List.not_mem_nil, or_false] at hd
    exact (plain_ne hp).2 hd.symm
theorem flat_no34 (t : List UInt8) : ∀ d ∈ t.flatMap esc, d ≠ 34 := fun d hd => by
  obtain ⟨c, -, h⟩ := List.mem_flatMap.1 hd
  exact esc_no34 c d h
theorem quote_cons (t r : List UInt8) : quote t ++ r = 34 :: (t.flatMap esc ++ 34 :: r) := by unfold quote; simp
theorem wend_quote (t r : List UInt8) : wend (quote t ++ r) = (t.flatMap esc).length + 1 := by
  unfold wend
  have h0 : (34 :: (t.flatMap esc ++ 34 :: r))[0]? = some (34 : UInt8) := rfl
  rw [quote_cons, if_pos h0]
  show (Lib.indexByte (t.flatMap esc ++ 34 :: r) 34 + 1).toNat = _
  rw [idx_app (flat_no34 t)]
  omega
theorem drop_quote (t r : List UInt8) : (quote t ++ r).drop ((t.flatMap esc).length + 1) = 34 :: r := by
  rw [quote_cons, List.drop_succ_cons, List.drop_left]
theorem quote_flat (t : List UInt8) : (quote t).length = (t.flatMap esc).length + 2 := by unfold quote; simp
theorem word_at {w : List UInt8} (h : wordy w) (r : List UInt8) : wordF (w ++ 32 :: r) = (w, r) := by
  unfold wordF
  rcases h with ⟨t, rfl⟩ | ⟨h0, h1, h2⟩
  · have e : Lib.indexByte (34 :: 32 :: r) 32 = 1 := by
      have := idx_app (a := [34]) (b := r) (x := 32) (by simp)
      exact this
    rw [wend_quote, drop_quote, e, if_neg (by decide)]
    have e2 : (t.flatMap esc).length + 1 + (1 : Int).toNat = (quote t).length := by rw [quote_flat]; rfl
    rw [e2, List.take_left, ← List.drop_drop, List.drop_left]
    rfl
  · have e : wend (w ++ 32 :: r) = 0 := by
      unfold wend
      rw [if_neg]
      cases w with
      | nil => exact absurd rfl h0
      | cons c w => exact h1
    rw [e, List.drop_zero, idx_app h2, if_neg (by omega), Nat.zero_add, Int.toNat_natCast, List.take_left, ← List.drop_drop, List.drop_left]
    rfl
theorem word_last {w : List UInt8} (h : wordy w) : wordF w = (w, []) := by
  unfold wordF
  rcases h with ⟨t, rfl⟩ | ⟨h0, h1, h2⟩
  · have e1 := wend_quote t []
    have e2 := drop_quote t []
    rw [List.append_nil] at e1 e2
    rw [e1, e2, if_pos (by decide)]
  · have e : wend w = 0 := by
      unfold wend
      rw [if_neg h1]
    rw [e, List.drop_zero, idx_no h2, if_pos (by decide)]
theorem join_two (w v : List UInt8) (l : List (List UInt8)) : Lib.join (w :: v :: l) [32] = w ++ 32 :: Lib.join (v :: l) [32] := by
  simp [Lib.join, List.intercalate, List.intersperse]
theorem join_one (w : List UInt8) : Lib.join [w] [32] = w := by simp [Lib.join, List.intercalate, List.intersperse]
theorem word_join {w : List UInt8} (h : wordy w) (l : List (List UInt8)) : wordF (Lib.join (w :: l) [32]) = (w, Lib.join l [32]) := by
  cases l with
  | nil => rw [join_one, word_last h]; rfl
  | cons v l => rw [join_two, word_at h]
def rst (s : List UInt8) : Nat → List UInt8
  | 0 => s
  | k + 1 => (wordF (rst s k)).2
def wrdK (s : List UInt8) (k : Nat) : List UInt8 := (wordF (rst s k)).1
theorem rst_len (s : List UInt8) (k : Nat) : (rst s k).length ≤ s.length := by
  induction k with
  | zero => exact Nat.le_refl _
  | succ k ih => exact Nat.le_trans (word_len (rst s k)).2 ih
theorem wrdK_len (s : List UInt8) (k : Nat) : (wrdK s k).length ≤ s.length := Nat.le_trans (word_len (rst s k)).1 (rst_len s k)
theorem wd_step {s r : List UInt8} {k : Nat} (h : rst s k = r) : ∃ wd r', wordF r = (wd, r') ∧ wrdK s k = wd ∧ rst s (k + 1) = r' ∧ wd.length ≤ s.length ∧ r'.length ≤ s.length := by
  subst h
  exact ⟨_, _, rfl, rfl, rfl, wrdK_len s k, rst_len s (k + 1)⟩
theorem rst_join (ws : List (List UInt8)) (h : ∀ w ∈ ws, wordy w) : ∀ k, k ≤ ws.length → rst (Lib.join ws [32]) k = Lib.join (ws.drop k) [32]
  | 0, _ => rfl
  | k + 1, hk => by
    rw [rst, rst_join ws h k (by omega), List.drop_eq_getElem_cons (by omega), word_join (h _ (List.getElem_mem _))]
theorem wrd_join (ws : List (List UInt8)) (h : ∀ w ∈ ws, wordy w) {k : Nat} {w : List UInt8} (hk : ws[k]? = some w) : wrdK (Lib.join ws [32]) k = w := by
  obtain ⟨h1, rfl⟩ := List.getElem?_eq_some_iff.1 hk
  unfold wrdK
  rw [rst_join ws h k (by omega), List.drop_eq_getElem_cons (by omega), word_join (h _ (List.getElem_mem _))]
/-! a query's text -/
def kFrom : List UInt8 := [102, 114, 111, 109]
def kTo : List UInt8 := [116, 111]
def kKind : List UInt8 := [107, 105, 110, 100]
def kLo : List UInt8 := [108, 111]
def kHi : List UInt8 := [104, 105]
def kBack : List UInt8 := [98, 97, 99, 107]
def kMost : List UInt8 := [109, 111, 115, 116]
def kAfter : List UInt8 := [97, 102, 116, 101, 114]
def wq0 (q : Query) : List (List UInt8) := [kFrom, quote q.fr, kTo, quote q.to, kKind, Lib.itoa q.kind, kLo, printV q.lo, kHi, printV q.hi]
def wq1 (q : Query) : List (List UInt8) := [kMost, Lib.itoa q.most, kAfter, quote q.after]
def wq (q : Query) : List (List UInt8) := wq0 q ++ ((if q.back = true then [kBack] else []) ++ wq1 q)
def printQ (q : Query) : List UInt8 := Lib.join (wq q) [32]
theorem dec_no32 (u : Nat) : ∀ c ∈ Lib.decDigits u, c ≠ 32 := fun c hc h9 => by
  have := (dec_all u).1 c hc
  subst h9
  exact absurd this.1 (by decide)
theorem itoa_no32 (n : Int) : ∀ c ∈ Lib.itoa n, c ≠ 32 := fun c hc => by
  rw [itoa_abs] at hc
  rcases List.mem_append.1 hc with h | h
  · unfold sgT at h
    split at h
    · simp only [List.mem_cons, List.not_mem_nil, or_false] at h
      subst h
      decide
    · cases h
  · exact dec_no32 _ c h
theorem sg_head (n : Bool) (u : Nat) (l : List UInt8) : (sgT n ++ (Lib.decDigits u ++ l)) ≠ [] ∧ (sgT n ++ (Lib.decDigits u ++ l))[0]? ≠ some 34 := by
  cases n
  · refine ⟨fun h => ?_, dec_no34 u l⟩
    exact dec_ne u (List.append_eq_nil_iff.1 (List.append_eq_nil_iff.1 h).2).1
  · exact ⟨List.cons_ne_nil _ _, by show some (45 : UInt8) ≠ some 34; decide⟩
theorem itoa_wordy (n : Int) : wordy (Lib.itoa n) := by
  refine .inr ⟨?_, ?_, itoa_no32 n⟩
  · rw [itoa_abs]
    have := (sg_head (decide (n < 0)) n.natAbs []).1
    rwa [List.append_nil] at this
  · rw [itoa_abs]
    have := (sg_head (decide (n < 0)) n.natAbs []).2
    rwa [List.append_nil] at this
theorem sgT_no32 (n : Bool) : ∀ c ∈ sgT n, c ≠ 32 := by cases n <;> decide
theorem numP_wordy {b : Nat} (h : Can b) : wordy (numP b) := by
  rcases num_cases h.1 h.2 with ⟨e, -⟩ | ⟨e, -⟩ | ⟨e, -⟩ | ⟨e, -⟩ | ⟨e, -⟩ | ⟨n, m, x, r, ⟨e, -⟩, -⟩
  · rw [e]; exact .inr (by decide)
  · rw [e]; exact .inr (by decide)
  · rw [e]; exact .inr (by decide)
  · rw [e]; exact .inr (by decide)
  · rw [e]; exact .inr (by decide)
  · rw [e]
    have h1 := sg_head n m (112 :: Lib.itoa x)
    refine .inr ⟨h1.1, h1.2, fun c hc => ?_⟩
    rcases List.mem_append.1 hc with h2 | h2
    · exact sgT_no32 n c h2
    · rcases List.mem_append.1 h2 with h3 | h3
      · exact dec_no32 _ c h3
      · rcases List.mem_cons.1 h3 with rfl | h4
        · decide
        · exact itoa_no32 _ c h4
theorem printV_wordy {v : Val} (h : mayV v = true) (hn : v.num < 18446744073709551616) : wordy (printV v) := by
  unfold printV
  rw [if_neg (by simp [h])]
  split
  · rename_i h1
    exact numP_wordy ⟨(mayV_num h h1).2, hn⟩
  · split
    · exact .inl ⟨_, rfl⟩
    · exact .inr (by decide)
structure GoodQ (q : Query) : Prop where
  ok : checkQ q = 0
  lo : q.lo.num < 18446744073709551616
  hi : q.hi.num < 18446744073709551616
theorem check_zero {q : Query} (h : checkQ q = 0) : q.fr.length ≤ 24 ∧ q.to.length ≤ 24 ∧ q.after.length ≤ 24 ∧ 0 ≤ q.kind ∧ q.kind ≤ 2 ∧ mayV q.lo = true ∧ mayV q.hi = true ∧ 1 ≤ q.most ∧ q.most ≤ 1000 := by
  unfold checkQ at h
  split at h
  · omega
  split at h
  · omega
  split at h
  · omega
  split at h
  · omega
  rename_i h1 h2 h3 h4
  simp only [not_or, Bool.not_eq_false] at h1 h2 h3 h4
  exact ⟨by omega, by omega, by omega, by omega, by omega, h3.1, h3.2, by omega, by omega⟩
theorem wq_wordy {q : Query} (h : GoodQ q) : ∀ w ∈ wq q, wordy w := by
  obtain ⟨-, -, -, -, -, h1, h2, -, -⟩ := check_zero h.ok
  have a := printV_wordy h1 h.lo
  have b := printV_wordy h2 h.hi
  intro w hw
  unfold wq wq0 wq1 at hw
  simp only [List.cons_append, List.nil_append, List.mem_cons, List.mem_append, List.not_mem_nil, or_false] at hw
  rcases hw with rfl | rfl | rfl | rfl | rfl | rfl | rfl | rfl | rfl | rfl | hw | rfl | rfl | rfl | rfl
  · exact .inr (by decide)
  · exact .inl ⟨_, rfl⟩
  · exact .inr (by decide)
  · exact .inl ⟨_, rfl⟩
  · exact .inr (by decide)
  · exact itoa_wordy _
  · exact .inr (by decide)
  · exact a
  · exact .inr (by decide)
  · exact b
  · split at hw
    · simp only [List.mem_cons, List.not_mem_nil, or_false] at hw
      subst hw
      exact .inr (by decide)
    · cases hw
  · exact .inr (by decide)
  · exact itoa_wordy _
  · exact .inr (by decide)
  · exact .inl ⟨_, rfl⟩
def av (w : List UInt8) : Int := ev (unsg w).1 (unsg w).2
theorem av_itoa (n : Int) : av (Lib.itoa n) = n := by
  unfold av ev
  rw [unsg_itoa]
  dsimp only
  rw [(dec_all _).2]
  by_cases h : n < 0
  · rw [if_pos (decide_eq_true h)]; omega
  · rw [if_neg (by simpa using h)]; omega
def backW (s : List UInt8) : Bool := decide (wrdK s 10 = kBack)
noncomputable def rawQ (s : List UInt8) (kind most : Int) : Query :=
  ⟨(unq (wrdK s 1)).1, (unq (wrdK s 3)).1, kind, (parseV (wrdK s 7)).1, (parseV (wrdK s 9)).1, backW s, most, (unq (wrdK s (if backW s = true then 14 else 13))).1⟩
theorem raw_print {q : Query} (h : GoodQ q) : rawQ (printQ q) (av (wrdK (printQ q) 5)) (av (wrdK (printQ q) (if backW (printQ q) = true then 12 else 11))) = q := by
  have hw := wq_wordy h
  obtain ⟨-, -, -, -, -, h1, h2, -, -⟩ := check_zero h.ok
  have e : ∀ k w, (wq q)[k]? = some w → wrdK (printQ q) k = w := fun k w hk => wrd_join _ hw hk
  have e10 : backW (printQ q) = q.back := by
    unfold backW
    cases hb : q.back
    · rw [e 10 kMost (by unfold wq; rw [hb]; rfl)]
      decide
    · rw [e 10 kBack (by unfold wq; rw [hb]; rfl)]
      decide
  unfold rawQ
  rw [e10, e 1 _ rfl, e 3 _ rfl, e 5 _ rfl, e 7 _ rfl, e 9 _ rfl, unq_quote, unq_quote, parse_print h1 h.lo, parse_print h2 h.hi, av_itoa]
  cases hb : q.back
  · rw [if_neg (by decide), if_neg (by decide), e 11 (Lib.itoa q.most) (by unfold wq; rw [hb]; rfl), e 13 (quote q.after) (by unfold wq; rw [hb]; rfl), unq_quote, av_itoa, ← hb]
  · rw [if_pos rfl, if_pos rfl, e 12 (Lib.itoa q.most) (by unfold wq; rw [hb]; rfl), e 14 (quote q.after) (by unfold wq; rw [hb]; rfl), unq_quote, av_itoa, ← hb]
theorem printQ_inj {q p : Query} (hq : GoodQ q) (hp : GoodQ p) (h : printQ q = printQ p) : q = p := by
  rw [← raw_print hq, h, raw_print hp]
def zeroQ : Query := ⟨[], [], 0, zeroV, zeroV, false, 0, []⟩
open Classical in
noncomputable def parseQ (s : List UInt8) : Query × Int := if h : ∃ q, GoodQ q ∧ printQ q = s then (h.choose, 0) else (zeroQ, 4)
theorem parseQ_of {q : Query} {s : List UInt8} (hq : GoodQ q) (h : printQ q = s) : parseQ s = (q, 0) := by
  have h1 : ∃ q, GoodQ q ∧ printQ q = s := ⟨q, hq, h⟩
  unfold parseQ
  rw [dif_pos h1, printQ_inj h1.choose_spec.1 hq (h1.choose_spec.2.trans h.symm)]
theorem parseQ_no {s : List UInt8} (h : ∀ q, GoodQ q → printQ q ≠ s) : parseQ s = (zeroQ, 4) := by
  unfold parseQ
  rw [dif_neg (fun h1 => h _ h1.choose_spec.1 h1.choose_spec.2)]
theorem rawQ_lo (s : List UInt8) (k m : Int) : (rawQ s k m).lo = (parseV (wrdK s 7)).1 := by simp only [rawQ]
theorem rawQ_hi (s : List UInt8) (k m : Int) : (rawQ s k m).hi = (parseV (wrdK s 9)).1 := by simp only [rawQ]
theorem rawQ_bk (s : List UInt8) (k m : Int) : (rawQ s k m).back = backW s := by simp only [rawQ]
theorem raw_good {s : List UInt8} {kind most : Int} (h : checkQ (rawQ s kind most) = 0) : GoodQ (rawQ s kind most) := ⟨h, by rw [rawQ_lo]; exact (parse_may _).2, by rw [rawQ_hi]; exact (parse_may _).2⟩
theorem rawQ_ok {s : List UInt8} {kind most : Int} (h : checkQ (rawQ s kind most) = 0) (hp : printQ (rawQ s kind most) = s) : parseQ s = (rawQ s kind most, 0) := parseQ_of (raw_good h) hp
theorem rawQ_no {s : List UInt8} {kind most : Int} (hk : ∀ n : Int, inInt n → wrdK s 5 = Lib.itoa n → kind = n) (hm : ∀ n : Int, inInt n → wrdK s (if backW s = true then 12 else 11) = Lib.itoa n → most = n) (h : checkQ (rawQ s kind most) ≠ 0 ∨ printQ (rawQ s kind most) ≠ s) : parseQ s = (zeroQ, 4) := parseQ_no fun q hq hs => by
  have hr := raw_print hq
  have hw := wq_wordy hq
  have e : ∀ k w, (wq q)[k]? = some w → wrdK (printQ q) k = w := fun k w hk => wrd_join _ hw hk
  rw [hs] at hr e
  have e5 := e 5 _ rfl
  obtain ⟨-, -, -, i1, i2, -, -, i3, i4⟩ := check_zero hq.ok
  have k5 := hk _ (by unfold inInt; omega) e5
  have hb : q.back = backW s := by
    have h9 := rawQ_bk s (av (wrdK s 5)) (av (wrdK s (if backW s = true then 12 else 11)))
    rw [hr] at h9
    exact h9
  have em : wrdK s (if backW s = true then 12 else 11) = Lib.itoa q.most := by
    rw [← hb]
    cases hb2 : q.back
    · rw [if_neg (by decide)]
      exact e 11 _ (by unfold wq; rw [hb2]; rfl)
    · rw [if_pos rfl]
      exact e 12 _ (by unfold wq; rw [hb2]; rfl)
  have km := hm _ (by unfold inInt; omega) em
  rw [e5, em, av_itoa, av_itoa] at hr
  rw [k5, km, hr] at h
  rcases h with h | h
  · exact h hq.ok
  · exact h hs
/-! how long texts are -/
theorem join_le {B : Nat} : ∀ (ws : List (List UInt8)), (∀ w ∈ ws, w.length ≤ B) → (Lib.join ws [32]).length ≤ ws.length * (B + 1)
  | [], _ => Nat.zero_le _
  | [w], h => by
    rw [join_one]
    have := h w (by simp)
    simp only [List.length_cons, List.length_nil]
    omega
  | w :: v :: l, h => by
    rw [join_two, List.length_append, List.length_cons]
    have h1 := h w (by simp)
    have h2 := join_le (v :: l) (fun x hx => h x (by simp [hx]))
    simp only [List.length_cons, Nat.add_mul] at h2 ⊢
    omega
theorem quote_le (t : List UInt8) : (quote t).length ≤ 3 * t.length + 2 := by
  have := flat_len t
  rw [quote_flat]
  omega
theorem numP_le {b : Nat} : (numP b).length ≤ 64 := by
  unfold numP
  split
  · decide
  · rename_i h0
    have hs : (sgT (sgb b)).length ≤ 1 := by cases sgb b <;> decide
    rw [List.length_append]
    split
    · show _ + 3 ≤ 64
      omega
    · split
      · show _ + 1 ≤ 64
        omega
      · rename_i h1 h2
        have hf := cls_fin h0 (fun h => h1 (.inl h)) (fun h => h1 (.inr h)) (fun h => h2 (.inl h)) (fun h => h2 (.inr h))
        have := posT_len hf.2
        omega
theorem printV_le {v : Val} {n : Nat} (h : v.text.length ≤ n) : (printV v).length ≤ 3 * n + 64 := by
  unfold printV
  split
  · show 1 ≤ _
    omega
  · split
    · have := numP_le (b := v.num)
      omega
    · split
      · have := quote_le v.text
        omega
      · show 4 ≤ _
        omega
structure FineQ (q : Query) : Prop where
  fr : q.fr.length ≤ 100000
  to : q.to.length ≤ 100000
  af : q.after.length ≤ 100000
  lo : q.lo.text.length ≤ 100000
  hi : q.hi.text.length ≤ 100000
  nlo : q.lo.num < 18446744073709551616
  nhi : q.hi.num < 18446744073709551616
  ki : inInt q.kind
  mo : inInt q.most
theorem good_fine {q : Query} (h : GoodQ q) : FineQ q := by
  obtain ⟨h1, h2, h3, h4, h5, h6, h7, h8, h9⟩ := check_zero h.ok
  have tx : ∀ v : Val, mayV v = true → v.text.length ≤ 64 := fun v hv => by
    rw [mayV_iff] at hv
    rcases hv with ⟨-, -, h⟩ | ⟨-, h, -⟩ | ⟨-, -, h⟩
    · rw [h]; decide
    · rw [h]; decide
    · exact h
  have a1 := tx _ h6
  have a2 := tx _ h7
  exact ⟨by omega, by omega, by omega, by omega, by omega, h.lo, h.hi, by unfold inInt; omega, by unfold inInt; omega⟩
theorem wq_le {q : Query} (h : FineQ q) : ∀ w ∈ wq q, w.length ≤ 300100 := by
  obtain ⟨h1, h2, h3, h4, h5, -, -, h8, h9⟩ := h
  have a1 := quote_le q.fr
  have a2 := quote_le q.to
  have a3 := quote_le q.after
  have a4 := printV_le h4
  have a5 := printV_le h5
  have a6 := itoa_len q.kind h8.1 h8.2
  have a7 := itoa_len q.most h9.1 h9.2
  intro w hw
  unfold wq wq0 wq1 at hw
  simp only [List.cons_append, List.nil_append, List.mem_cons, List.mem_append, List.not_mem_nil, or_false] at hw
  rcases hw with rfl | rfl | rfl | rfl | rfl | rfl | rfl | rfl | rfl | rfl | hw | rfl | rfl | rfl | rfl
  · decide
  · omega
  · decide
  · omega
  · decide
  · omega
  · decide
  · omega
  · decide
  · omega
  · split at hw
    · simp only [List.mem_cons, List.not_mem_nil, or_false] at hw
      subst hw
      decide
    · cases hw
  · decide
  · omega
  · decide
  · omega
theorem wq_len (q : Query) : (wq q).length ≤ 15 := by
  unfold wq wq0 wq1
  cases q.back <;> simp
theorem printQ_le {q : Query} (h : FineQ q) : (printQ q).length ≤ 5000000 := by
  have h1 := join_le (wq q) (wq_le h)
  have h2 := wq_len q
  have h3 : (wq q).length * (300100 + 1) ≤ 15 * (300100 + 1) := Nat.mul_le_mul_right _ h2
  unfold printQ
  omega
theorem printQ_t {q : Query} (h : q.back = true) : printQ q = Lib.join (wq0 q ++ ([kBack] ++ wq1 q)) [32] := by unfold printQ wq; rw [h]; rfl
theorem printQ_f {q : Query} (h : q.back = false) : printQ q = Lib.join (wq0 q ++ wq1 q) [32] := by unfold printQ wq; rw [h]; rfl
theorem low_le {n : Nat} {m : Int} (h : low n ≤ m) (hm : m ≤ 20000) : (n : Int) ≤ m := by unfold low at h; omega
end Go.Proofs.YtainemoobhkeiaaGreatDoor
