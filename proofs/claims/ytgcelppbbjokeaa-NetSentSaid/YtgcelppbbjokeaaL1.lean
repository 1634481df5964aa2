/- The walk over NetMoves. -/
import Derived.Test.YtgcelppbbjokeaaN1
import Derived.Test.YtgcelppbbjokeaaW5
set_option linter.unusedSimpArgs false
set_option linter.unusedVariables false
namespace Go.Proofs.Ytgcelppbbjokeaa
open Sx

theorem few_is (b : Bool) (ad : Option Addr) (n c : Nat) (rs : List ROp) (os : List OpV) (w : World) (h : Ops w ad rs os) (hn : n = rs.length) (hb : fewB os = b) :
    Calls Try.prog 9 #[.slice ad n c] w fun e w' => e = .returned (.bool b) ∧ Ext No w w' := by
  subst hb
  exact few_calls ad n c rs os w h hn
theorem alike_is (b : Bool) (f t f2 t2 : Int) (ad ad2 : Option Addr) (n n2 c c2 : Nat) (l k : List UInt8) (w : World) (h1 : Bs w ad l) (h2 : Bs w ad2 k) (hn : n = l.length) (hn2 : n2 = k.length) (hb : decide ((⟨f, t, l⟩ : Mail) = ⟨f2, t2, k⟩) = b) :
    Calls Try.prog 14 #[.agg #[.int .i64 f, .int .i64 t, .slice ad n c], .agg #[.int .i64 f2, .int .i64 t2, .slice ad2 n2 c2]] w fun e w' => e = .returned (.bool b) ∧ Ext No w w' := by
  subst hb
  exact alike_calls f t f2 t2 ad ad2 n n2 c c2 l k w h1 h2 hn hn2
theorem Ops.ext_no {w w' : World} {ad : Option Addr} {rs : List ROp} {os : List OpV} (h : Ops w ad rs os) (x : Ext No w w') : Ops w' ad rs os :=
  ⟨h.ss.ext_no x, h.all.mono fun r o hr => ⟨hr.kind, hr.a, hr.b, hr.n, hr.bs.ext_no x, hr.nil, hr.small⟩, h.small⟩

theorem mails_take {os : List OpV} {k : Nat} {o : OpV} (h : os[k]? = some o) : (os.take (k + 1)).map OpV.mail = (os.take k).map OpV.mail ++ [o.mail] := by
  obtain ⟨hk, rfl⟩ := List.getElem?_eq_some_iff.1 h
  rw [List.take_succ_eq_append_getElem hk, List.map_append]
  rfl

theorem NetMoves_many (ad : Option Addr) (c : Nat) (rs : List ROp) (os : List OpV) (w : World) (h : Ops w ad rs os) (i k : Int) (hf : fewB os = false) :
    Calls Try.prog 3 #[.slice ad rs.length c, .int .i64 i, .int .i64 k] w fun e w' => e = .returned (.bool true) ∧ Ext No w w' := by
  skip
  refine Sx.calls_into Try.func3 rfl Try.ntmps3 rfl fun a hT => ?_
  replace hT := hT.keep [0, 1, 2] rfl
  have X : Sx.Ext Sx.No w w := Sx.Ext.refl _ _
  refine wp_seq_k fun K1 hK1 => ?_
  -- region 0 (extra.go:9)
  refine Sx.wp_text [(0, .take)] rfl ?_
  refine Sx.st_take hT rfl rfl rfl rfl (Sx.x_assign hT rfl rfl) ?_
  clear hT; intro a hT
  replace hT := hT.keep [6, 0, 1, 2] rfl
  refine Sx.ser_nil ?_
  refine Sx.then_normal (hK1 _ _ ?_)
  clear hK1
  refine wp_seq_k fun K2 hK2 => ?_
  refine wp_seq_k fun K3 hK3 => ?_
  -- region 1 (extra.go:10)
  refine Sx.wp_text [(0, .run), (1, .take)] rfl ?_
  refine Sx.st_call hT rfl rfl rfl rfl rfl Try.can7 rfl (first_calls _) ?_
  rintro _ w1 ⟨rfl, E⟩
  refine ⟨_, rfl, ?_⟩
  clear hT; intro a hT
  replace X := X.step E
  refine Sx.st_take hT rfl rfl rfl rfl (Sx.x_not hT rfl rfl) ?_
  clear hT; intro a hT
  replace hT := hT.keep [23, 6, 0, 1, 2] rfl
  refine Sx.ser_nil ?_
  refine Sx.then_normal (hK3 _ _ ?_)
  clear hK3
  refine Sx.wp_if hT rfl (fun h => by cases h) (fun _ => ?_)
  refine wp_skip ?_
  refine Sx.then_normal (hK2 _ _ ?_)
  clear hK2
  refine wp_seq_k fun K4 hK4 => ?_
  -- region 3 (extra.go:13)
  refine Sx.wp_text [(0, .run), (1, .take), (2, .take), (3, .take), (4, .take), (5, .take)] rfl ?_
  refine Sx.st_call hT rfl rfl rfl rfl rfl Try.can8 rfl (New_yes 4096 _ (by omega)) ?_
  rintro _ w2 ⟨_, rfl, -, -, E⟩
  refine ⟨_, rfl, ?_⟩
  clear hT; intro a hT
  replace X := X.step E
  refine Sx.st_take hT rfl rfl rfl rfl (Sx.x_move hT rfl rfl) ?_
  clear hT; intro a hT
  refine Sx.st_take hT rfl rfl rfl rfl (Sx.x_extract hT rfl rfl rfl) ?_
  clear hT; intro a hT
  refine Sx.st_take hT rfl rfl rfl rfl (Sx.x_extract hT rfl rfl rfl) ?_
  clear hT; intro a hT
  refine Sx.st_take hT rfl rfl rfl rfl (Sx.x_assign hT rfl rfl) ?_
  clear hT; intro a hT
  refine Sx.st_take hT rfl rfl rfl rfl (Sx.x_assign hT rfl rfl) ?_
  clear hT; intro a hT
  replace hT := hT.keep [8, 7, 23, 6, 0, 1, 2] rfl
  refine Sx.ser_nil ?_
  refine Sx.then_normal (hK4 _ _ ?_)
  clear hK4
  refine wp_seq_k fun K5 hK5 => ?_
  -- region 4 (extra.go:14)
  refine Sx.wp_text [(0, .run), (1, .take), (2, .take), (3, .take), (4, .take), (5, .take)] rfl ?_
  refine Sx.st_call hT rfl rfl rfl rfl rfl Try.can8 rfl (New_yes 4096 _ (by omega)) ?_
  rintro _ w3 ⟨_, rfl, -, -, E⟩
  refine ⟨_, rfl, ?_⟩
  clear hT; intro a hT
  replace X := X.step E
  refine Sx.st_take hT rfl rfl rfl rfl (Sx.x_move hT rfl rfl) ?_
  clear hT; intro a hT
  refine Sx.st_take hT rfl rfl rfl rfl (Sx.x_extract hT rfl rfl rfl) ?_
  clear hT; intro a hT
  refine Sx.st_take hT rfl rfl rfl rfl (Sx.x_extract hT rfl rfl rfl) ?_
  clear hT; intro a hT
  refine Sx.st_take hT rfl rfl rfl rfl (Sx.x_assign hT rfl rfl) ?_
  clear hT; intro a hT
  refine Sx.st_take hT rfl rfl rfl rfl (Sx.x_assign hT rfl rfl) ?_
  clear hT; intro a hT
  replace hT := hT.keep [10, 9, 8, 7, 23, 6, 0, 1, 2] rfl
  refine Sx.ser_nil ?_
  refine Sx.then_normal (hK5 _ _ ?_)
  clear hK5
  refine wp_seq_k fun K6 hK6 => ?_
  refine wp_seq_k fun K7 hK7 => ?_
  -- region 5 (extra.go:15)
  refine Sx.wp_text [(0, .take), (1, .run), (2, .take)] rfl ?_
  refine Sx.st_take hT rfl rfl rfl rfl (Sx.x_move hT rfl rfl) ?_
  clear hT; intro a hT
  refine Sx.st_call hT rfl rfl rfl rfl rfl Try.can9 rfl (few_is false ad rs.length c rs os _ (h.ext_no X) rfl hf) ?_
  rintro _ w4 ⟨rfl, E⟩
  refine ⟨_, rfl, ?_⟩
  clear hT; intro a hT
  replace X := X.step E
  refine Sx.st_take hT rfl rfl rfl rfl (Sx.x_not hT rfl rfl) ?_
  clear hT; intro a hT
  replace hT := hT.keep [34, 10, 9, 8, 7, 23, 6, 0, 1, 2] rfl
  refine Sx.ser_nil ?_
  refine Sx.then_normal (hK7 _ _ ?_)
  clear hK7
  refine Sx.wp_if hT rfl (fun _ => ?_) (fun h => by cases h)
  refine wp_seq_k fun K8 hK8 => ?_
  -- region 6 (extra.go:16)
  refine Sx.wp_text [(0, .run), (1, .take)] rfl ?_
  refine Sx.st_call hT rfl rfl rfl rfl rfl Try.can7 rfl (first_calls _) ?_
  rintro _ w5 ⟨rfl, E⟩
  refine ⟨_, rfl, ?_⟩
  clear hT; intro a hT
  replace X := X.step E
  refine Sx.st_take hT rfl rfl rfl rfl (Sx.x_assign hT rfl rfl) ?_
  clear hT; intro a hT
  replace hT := hT.keep [6, 34, 10, 9, 8, 7, 23, 0, 1, 2] rfl
  refine Sx.ser_nil ?_
  refine Sx.then_normal (hK8 _ _ ?_)
  clear hK8
  refine wp_ret ?_
  refine Sx.then_ret ?_
  refine Sx.done1 (fn := Try.f3) hT rfl (.tmp (hT.get 6 _ rfl)) ?_
  exact ⟨rfl, X⟩

theorem NetMoves_few (ad : Option Addr) (c : Nat) (rs : List ROp) (os : List OpV) (w : World) (h : Ops w ad rs os) (i k : Int) (hf : fewB os = true) :
    Calls Try.prog 3 #[.slice ad rs.length c, .int .i64 i, .int .i64 k] w fun e w' => e = .returned (.bool true) ∧ Ext No w w' := by
  obtain ⟨hfew, hsmall⟩ := few_small hf
  have hl := h.all.length
  refine Sx.calls_into Try.func3 rfl Try.ntmps3 rfl fun a hT => ?_
  replace hT := hT.keep [0, 1, 2] rfl
  have X : Sx.Ext Sx.No w w := Sx.Ext.refl _ _
  refine wp_seq_k fun K1 hK1 => ?_
  -- region 0 (extra.go:9)
  refine Sx.wp_text [(0, .take)] rfl ?_
  refine Sx.st_take hT rfl rfl rfl rfl (Sx.x_assign hT rfl rfl) ?_
  clear hT; intro a hT
  replace hT := hT.keep [6, 0, 1, 2] rfl
  refine Sx.ser_nil ?_
  refine Sx.then_normal (hK1 _ _ ?_)
  clear hK1
  refine wp_seq_k fun K2 hK2 => ?_
  refine wp_seq_k fun K3 hK3 => ?_
  -- region 1 (extra.go:10)
  refine Sx.wp_text [(0, .run), (1, .take)] rfl ?_
  refine Sx.st_call hT rfl rfl rfl rfl rfl Try.can7 rfl (first_calls _) ?_
  rintro _ w1 ⟨rfl, E⟩
  refine ⟨_, rfl, ?_⟩
  clear hT; intro a hT
  replace X := X.step E
  refine Sx.st_take hT rfl rfl rfl rfl (Sx.x_not hT rfl rfl) ?_
  clear hT; intro a hT
  replace hT := hT.keep [23, 6, 0, 1, 2] rfl
  refine Sx.ser_nil ?_
  refine Sx.then_normal (hK3 _ _ ?_)
  clear hK3
  refine Sx.wp_if hT rfl (fun h => by cases h) (fun _ => ?_)
  refine wp_skip ?_
  refine Sx.then_normal (hK2 _ _ ?_)
  clear hK2
  refine wp_seq_k fun K4 hK4 => ?_
  -- region 3 (extra.go:13)
  refine Sx.wp_text [(0, .run), (1, .take), (2, .take), (3, .take), (4, .take), (5, .take)] rfl ?_
  refine Sx.st_call hT rfl rfl rfl rfl rfl Try.can8 rfl (New_yes 4096 _ (by omega)) ?_
  have hz1 := X.size
  rintro _ w2 ⟨p, rfl, hb, hnet0, E⟩
  refine ⟨_, rfl, ?_⟩
  clear hT; intro a hT
  replace X := X.step E
  obtain ⟨F1, hn, hF1⟩ : ∃ F : Nat → Prop, Net _ p 4096 [] F ∧ (∀ i, F i → w.heap.size ≤ i) := ⟨_, hnet0, fun i hi => by unfold Sx.One at hi; omega⟩
  clear hnet0
  refine Sx.st_take hT rfl rfl rfl rfl (Sx.x_move hT rfl rfl) ?_
  clear hT; intro a hT
  refine Sx.st_take hT rfl rfl rfl rfl (Sx.x_extract hT rfl rfl rfl) ?_
  clear hT; intro a hT
  refine Sx.st_take hT rfl rfl rfl rfl (Sx.x_extract hT rfl rfl rfl) ?_
  clear hT; intro a hT
  refine Sx.st_take hT rfl rfl rfl rfl (Sx.x_assign hT rfl rfl) ?_
  clear hT; intro a hT
  refine Sx.st_take hT rfl rfl rfl rfl (Sx.x_assign hT rfl rfl) ?_
  clear hT; intro a hT
  replace hT := hT.keep [8, 7, 23, 6, 0, 1, 2] rfl
  refine Sx.ser_nil ?_
  refine Sx.then_normal (hK4 _ _ ?_)
  clear hK4
  refine wp_seq_k fun K5 hK5 => ?_
  -- region 4 (extra.go:14)
  refine Sx.wp_text [(0, .run), (1, .take), (2, .take), (3, .take), (4, .take), (5, .take)] rfl ?_
  refine Sx.st_call hT rfl rfl rfl rfl rfl Try.can8 rfl (New_yes 4096 _ (by omega)) ?_
  have hz1 := X.size
  have hnl := hn.lt
  rintro _ w3 ⟨q, rfl, hb, hnet0, E⟩
  refine ⟨_, rfl, ?_⟩
  clear hT; intro a hT
  replace X := X.step E
  replace hn := hn.ext_no E
  obtain ⟨F2, hq, hF2, hdis⟩ : ∃ F : Nat → Prop, Net _ q 4096 [] F ∧ (∀ i, F i → w.heap.size ≤ i) ∧ (∀ i, F1 i → ¬ F i) := ⟨_, hnet0, fun i hi => by unfold Sx.One at hi; omega, fun i h1 h2 => by unfold Sx.One at h2; have := hnl i h1; omega⟩
  clear hnet0
  refine Sx.st_take hT rfl rfl rfl rfl (Sx.x_move hT rfl rfl) ?_
  clear hT; intro a hT
  refine Sx.st_take hT rfl rfl rfl rfl (Sx.x_extract hT rfl rfl rfl) ?_
  clear hT; intro a hT
  refine Sx.st_take hT rfl rfl rfl rfl (Sx.x_extract hT rfl rfl rfl) ?_
  clear hT; intro a hT
  refine Sx.st_take hT rfl rfl rfl rfl (Sx.x_assign hT rfl rfl) ?_
  clear hT; intro a hT
  refine Sx.st_take hT rfl rfl rfl rfl (Sx.x_assign hT rfl rfl) ?_
  clear hT; intro a hT
  replace hT := hT.keep [10, 9, 8, 7, 23, 6, 0, 1, 2] rfl
  refine Sx.ser_nil ?_
  refine Sx.then_normal (hK5 _ _ ?_)
  clear hK5
  refine wp_seq_k fun K6 hK6 => ?_
  refine wp_seq_k fun K7 hK7 => ?_
  -- region 5 (extra.go:15)
  refine Sx.wp_text [(0, .take), (1, .run), (2, .take)] rfl ?_
  refine Sx.st_take hT rfl rfl rfl rfl (Sx.x_move hT rfl rfl) ?_
  clear hT; intro a hT
  refine Sx.st_call hT rfl rfl rfl rfl rfl Try.can9 rfl (few_is true ad rs.length c rs os _ (h.ext_no X) rfl hf) ?_
  rintro _ w4 ⟨rfl, E⟩
  refine ⟨_, rfl, ?_⟩
  clear hT; intro a hT
  replace X := X.step E
  replace hn := hn.ext_no E
  replace hq := hq.ext_no E
  refine Sx.st_take hT rfl rfl rfl rfl (Sx.x_not hT rfl rfl) ?_
  clear hT; intro a hT
  replace hT := hT.keep [34, 10, 9, 8, 7, 23, 6, 0, 1, 2] rfl
  refine Sx.ser_nil ?_
  refine Sx.then_normal (hK7 _ _ ?_)
  clear hK7
  refine Sx.wp_if hT rfl (fun h => by cases h) (fun _ => ?_)
  refine wp_skip ?_
  refine Sx.then_normal (hK6 _ _ ?_)
  clear hK6
  refine wp_seq_k fun K8 hK8 => ?_
  refine wp_seq_k fun K9 hK9 => ?_
  -- region 7 (extra.go:18)
  refine Sx.wp_text [(0, .take), (1, .take), (2, .take), (3, .take), (4, .take), (5, .take), (6, .take), (7, .take), (8, .take), (9, .take), (10, .take), (11, .take), (12, .take), (13, .take)] rfl ?_
  refine Sx.st_take hT rfl rfl rfl rfl (Sx.x_move hT rfl rfl) ?_
  clear hT; intro a hT
  refine Sx.st_take hT rfl rfl rfl rfl (Sx.x_eqnil_some hT rfl Try.underlying24 rfl rfl) ?_
  clear hT; intro a hT
  refine Sx.st_take hT rfl rfl rfl rfl (Sx.x_move hT rfl rfl) ?_
  clear hT; intro a hT
  refine Sx.st_take hT rfl rfl rfl rfl (Sx.x_move hT rfl rfl) ?_
  clear hT; intro a hT
  refine Sx.st_take hT rfl rfl rfl rfl (Sx.x_eqnil_some hT rfl Try.underlying24 rfl rfl) ?_
  clear hT; intro a hT
  refine Sx.st_take hT rfl rfl rfl rfl (Sx.x_pick_f hT rfl rfl rfl) ?_
  clear hT; intro a hT
  refine Sx.st_take hT rfl rfl rfl rfl (Sx.x_move hT rfl rfl) ?_
  clear hT; intro a hT
  refine Sx.st_take hT rfl rfl rfl rfl (Sx.x_move hT rfl rfl) ?_
  clear hT; intro a hT
  refine Sx.st_take hT rfl rfl rfl rfl ((fun w => Sx.x_ne w hT rfl rfl rfl)) ?_
  clear hT; intro a hT
  refine Sx.st_take hT rfl rfl rfl rfl (Sx.x_pick_f hT rfl rfl rfl) ?_
  clear hT; intro a hT
  refine Sx.st_take hT rfl rfl rfl rfl (Sx.x_move hT rfl rfl) ?_
  clear hT; intro a hT
  -- guard (7, 10)
  refine Sx.Sl.two hT 46 rfl (fun hc10 hT => ?_) (fun hc10 hT => ?_)
  · exfalso
    try simp only [decide_eq_true_eq, decide_eq_false_iff_not, Bool.not_eq_true', Bool.not_eq_false', Bool.not_eq_true, Bool.not_eq_false, Bool.and_eq_true, Bool.or_eq_false_iff, beq_iff_eq, bne_iff_ne, Int.not_lt, Int.not_le, ne_eq] at hc10
    first | omega | simp at hc10
  · try simp only [decide_eq_true_eq, decide_eq_false_iff_not, Bool.not_eq_true', Bool.not_eq_false', Bool.not_eq_true, Bool.not_eq_false, Bool.and_eq_true, Bool.or_eq_false_iff, beq_iff_eq, bne_iff_ne, Int.not_lt, Int.not_le, ne_eq] at hc10
    refine Sx.st_take hT rfl rfl rfl rfl (Sx.x_move hT rfl rfl) ?_
    clear hT; intro a hT
    refine Sx.st_take hT rfl rfl rfl rfl ((fun w => Sx.x_ne w hT rfl rfl rfl)) ?_
    clear hT; intro a hT
    refine Sx.st_take hT rfl rfl rfl rfl (Sx.x_pick_f hT rfl rfl rfl) ?_
    clear hT; intro a hT
    replace hT := hT.keep [49, 34, 10, 9, 8, 7, 23, 6, 0, 1, 2] rfl
    refine Sx.ser_nil ?_
    refine Sx.then_normal (hK9 _ _ ?_)
    clear hK9
    -- cond 2
    refine Sx.wp_if hT rfl (fun hc11 => ?_) (fun hc11 => ?_)
    · exfalso
      try simp only [decide_eq_true_eq, decide_eq_false_iff_not, Bool.not_eq_true', Bool.not_eq_false', Bool.not_eq_true, Bool.not_eq_false, Bool.and_eq_true, Bool.or_eq_false_iff, beq_iff_eq, bne_iff_ne, Int.not_lt, Int.not_le, ne_eq] at hc11
      first | omega | simp at hc11
    · try simp only [decide_eq_true_eq, decide_eq_false_iff_not, Bool.not_eq_true', Bool.not_eq_false', Bool.not_eq_true, Bool.not_eq_false, Bool.and_eq_true, Bool.or_eq_false_iff, beq_iff_eq, bne_iff_ne, Int.not_lt, Int.not_le, ne_eq] at hc11
      refine wp_skip ?_
      refine Sx.then_normal (hK8 _ _ ?_)
      clear hK8
      refine wp_seq_k fun K12 hK12 => ?_
      refine wp_seq_k fun K13 hK13 => ?_
      -- region 9 (extra.go:21)
      refine Sx.wp_text [(0, .take)] rfl ?_
      refine Sx.st_take hT rfl rfl rfl rfl (Sx.x_assign hT rfl rfl) ?_
      clear hT; intro a hT
      replace hT := hT.keep [11, 49, 34, 10, 9, 8, 7, 23, 6, 0, 1, 2] rfl
      refine Sx.ser_nil ?_
      refine Sx.then_normal (hK13 _ _ ?_)
      clear hK13
      refine wp_block ?_
      -- loop 0
      refine Sx.wp_while (G := Nat × (Nat → Prop) × (Nat → Prop)) (fun g a w5 => g.1 ≤ rs.length ∧ Ext No w w5 ∧ Net w5 p 4096 ((os.take g.1).map OpV.mail) g.2.1 ∧ Net w5 q 4096 ((os.take g.1).map OpV.mail) g.2.2 ∧ (∀ i, g.2.1 i → w.heap.size ≤ i) ∧ (∀ i, g.2.2 i → w.heap.size ≤ i) ∧ (∀ i, g.2.1 i → ¬ g.2.2 i) ∧ Sl 180 [(0, .slice ad rs.length c), (1, .int .i64 i), (2, .int .i64 k), (7, .pointer (some ⟨p, 0, none⟩)), (9, .pointer (some ⟨q, 0, none⟩)), (11, .int .i64 g.1)] a) (fun g => rs.length - g.1) (0, F1, F2) ?_ ?_
      · exact ⟨Nat.zero_le _, X, hn, hq, hF1, hF2, hdis, hT.keep [0, 1, 2, 7, 9, 11] rfl⟩
      clear hT X hn hq hF1 hF2 hdis
      rintro ⟨k1, F1, F2⟩ a w5 hI
      obtain ⟨hk1, X, hn, hq, hF1, hF2, hdis, hT⟩ := hI
      dsimp only at hk1 hn hq hF1 hF2 hdis hT
      refine wp_seq_k fun K14 hK14 => ?_
      refine wp_seq_k fun K15 hK15 => ?_
      -- region 10 (extra.go:21)
      refine Sx.wp_text [(0, .take), (1, .take), (2, .take), (3, .take)] rfl ?_
      refine Sx.st_take hT rfl rfl rfl rfl (Sx.x_move hT rfl rfl) ?_
      clear hT; intro a hT
      refine Sx.st_take hT rfl rfl rfl rfl (Sx.x_move hT rfl rfl) ?_
      clear hT; intro a hT
      refine Sx.st_take hT rfl rfl rfl rfl (Sx.x_len_slice hT rfl rfl Try.underlying22 rfl) ?_
      clear hT; intro a hT
      refine Sx.st_take hT rfl rfl rfl rfl ((fun w => Sx.x_lt w hT rfl rfl rfl)) ?_
      clear hT; intro a hT
      replace hT := hT.keep [53, 0, 1, 2, 7, 9, 11] rfl
      refine Sx.ser_nil ?_
      refine Sx.then_normal (hK15 _ _ ?_)
      clear hK15
      -- cond 3
      refine Sx.wp_if hT rfl (fun hc16 => ?_) (fun hc16 => ?_)
      · try simp only [decide_eq_true_eq, decide_eq_false_iff_not, Bool.not_eq_true', Bool.not_eq_false', Bool.not_eq_true, Bool.not_eq_false, Bool.and_eq_true, Bool.or_eq_false_iff, beq_iff_eq, bne_iff_ne, Int.not_lt, Int.not_le, ne_eq] at hc16
        obtain ⟨o, ho⟩ : ∃ o, os[k1]? = some o := ⟨_, List.getElem?_eq_getElem (by omega)⟩
        obtain ⟨r, hr, hor⟩ := h.all.get ho
        refine wp_skip ?_
        refine Sx.then_normal (hK14 _ _ ?_)
        clear hK14
        refine wp_seq_k fun K17 hK17 => ?_
        refine wp_block ?_
        refine wp_seq_k fun K18 hK18 => ?_
        -- region 12 (extra.go:22)
        refine Sx.wp_draws (fun u => Sx.Ext Sx.No u) [(0, .take), (1, .take), (2, .take), (3, .take), (4, .take), (5, .held), (6, .take), (7, .take), (8, .take), (9, .take), (10, .held), (11, .take), (12, .take), (13, .take), (14, .take), (15, .held), (16, .run)] (by kernel_rfl) (by kernel_rfl) (fun u E z => ?_)
        replace X := X.step E
        replace hn := hn.ext_no E
        replace hq := hq.ext_no E
        have hH : Sx.Ext Sx.No u u := Sx.Ext.refl _ _
        have Xu := X
        refine Sx.st_take hT rfl rfl rfl rfl (Sx.x_move hT rfl rfl) ?_
        clear hT; intro a hT
        refine Sx.st_take hT rfl rfl rfl rfl (Sx.x_move hT rfl rfl) ?_
        clear hT; intro a hT
        refine Sx.st_take hT rfl rfl rfl rfl (Sx.x_move hT rfl rfl) ?_
        clear hT; intro a hT
        refine Sx.st_take hT rfl rfl rfl rfl (Sx.x_index hT rfl Try.underlying22 Try.ti32 (by first | exact (h.ss.sv.ext_no X)) rfl rfl rfl (by omega)) ?_
        clear hT; intro a hT
        refine Sx.st_take hT rfl rfl rfl rfl (Sx.x_fieldAddr hT rfl Try.fa32_1 rfl) ?_
        clear hT; intro a hT
        refine Sx.st_held hT rfl rfl rfl rfl hH (fun w' h' => Sx.x_load1 hT rfl Try.fl3 rfl (by first | exact (Ss.cell ROp.len (h.ss.ext_no (Xu.step h')) hr rfl))) ?_
        clear hT; intro a hT
        refine Sx.st_take hT rfl rfl rfl rfl (Sx.x_move hT rfl rfl) ?_
        clear hT; intro a hT
        refine Sx.st_take hT rfl rfl rfl rfl (Sx.x_move hT rfl rfl) ?_
        clear hT; intro a hT
        refine Sx.st_take hT rfl rfl rfl rfl (Sx.x_index hT rfl Try.underlying22 Try.ti32 (by first | exact (h.ss.sv.ext_no X)) rfl rfl rfl (by omega)) ?_
        clear hT; intro a hT
        refine Sx.st_take hT rfl rfl rfl rfl (Sx.x_fieldAddr hT rfl Try.fa32_2 rfl) ?_
        clear hT; intro a hT
        refine Sx.st_held hT rfl rfl rfl rfl hH (fun w' h' => Sx.x_load1 hT rfl Try.fl3 rfl (by first | exact (Ss.cell ROp.len (h.ss.ext_no (Xu.step h')) hr rfl))) ?_
        clear hT; intro a hT
        refine Sx.st_take hT rfl rfl rfl rfl (Sx.x_move hT rfl rfl) ?_
        clear hT; intro a hT
        refine Sx.st_take hT rfl rfl rfl rfl (Sx.x_move hT rfl rfl) ?_
        clear hT; intro a hT
        refine Sx.st_take hT rfl rfl rfl rfl (Sx.x_index hT rfl Try.underlying22 Try.ti32 (by first | exact (h.ss.sv.ext_no X)) rfl rfl rfl (by omega)) ?_
        clear hT; intro a hT
        refine Sx.st_take hT rfl rfl rfl rfl (Sx.x_fieldAddr hT rfl Try.fa32_3 rfl) ?_
        clear hT; intro a hT
        refine Sx.st_held hT rfl rfl rfl rfl hH (fun w' h' => Sx.x_load1 hT rfl Try.fl30 rfl (by first | exact (Ss.cell ROp.len (h.ss.ext_no (Xu.step h')) hr rfl))) ?_
        clear hT; intro a hT
        refine Sx.st_call hT rfl rfl rfl rfl rfl Try.can10 rfl (nSend_ok hn r.a r.b r.ad r.n r.c o.data (by simp; omega) (hor.bs.ext_no X) hor.n hor.nil (by rw [hor.n]; have := hsmall o (List.mem_of_getElem? ho); omega)) ?_
        have hz1 := X.size
        have hol := hq.lt
        rintro _ w6 ⟨rfl, hn2, E⟩
        refine ⟨_, rfl, ?_⟩
        clear hT; intro a hT
        replace X := X.trans E (fun i hi h9 => absurd hi (by have := hF1 i h9; omega))
        replace hq := hq.ext E (fun k h8 h9 => hdis k h9 h8)
        obtain ⟨F1', hn3, hG, hD⟩ : ∃ F : Nat → Prop, Net _ p 4096 ((os.take (k1 + 1)).map OpV.mail) F ∧ (∀ i, F i → w.heap.size ≤ i) ∧ (∀ i, F i → ¬ F2 i) := ⟨_, hn2.cast (by rw [mails_take ho]; simp [OpV.mail, hor.a, hor.b]), fun i hi => hi.elim (hF1 i) (fun h9 => by omega), fun i hi h8 => hi.elim (fun h9 => hdis i h9 h8) (fun h9 => by have := hol i h8; omega)⟩
        clear hn2 hn hdis E
        have hn := hn3
        have hF1' := hG
        have hdis : ∀ i, F1' i → ¬ F2 i := hD
        clear hn3 hG hD
        replace hT := hT.keep [53, 0, 1, 2, 7, 9, 11] rfl
        refine Sx.ser_calm ?_
        refine Sx.then_normal (hK18 _ _ ?_)
        clear hK18
        -- region 13 (extra.go:23)
        refine Sx.wp_draws (fun u => Sx.Ext Sx.No u) [(0, .take), (1, .take), (2, .take), (3, .take), (4, .take), (5, .held), (6, .take), (7, .take), (8, .take), (9, .take), (10, .held), (11, .take), (12, .take), (13, .take), (14, .take), (15, .held), (16, .run)] (by kernel_rfl) (by kernel_rfl) (fun u E z => ?_)
        replace X := X.step E
        replace hn := hn.ext_no E
        replace hq := hq.ext_no E
        have hH : Sx.Ext Sx.No u u := Sx.Ext.refl _ _
        have Xu := X
        refine Sx.st_take hT rfl rfl rfl rfl (Sx.x_move hT rfl rfl) ?_
        clear hT; intro a hT
        refine Sx.st_take hT rfl rfl rfl rfl (Sx.x_move hT rfl rfl) ?_
        clear hT; intro a hT
        refine Sx.st_take hT rfl rfl rfl rfl (Sx.x_move hT rfl rfl) ?_
        clear hT; intro a hT
        refine Sx.st_take hT rfl rfl rfl rfl (Sx.x_index hT rfl Try.underlying22 Try.ti32 (by first | exact (h.ss.sv.ext_no X)) rfl rfl rfl (by omega)) ?_
        clear hT; intro a hT
        refine Sx.st_take hT rfl rfl rfl rfl (Sx.x_fieldAddr hT rfl Try.fa32_1 rfl) ?_
        clear hT; intro a hT
        refine Sx.st_held hT rfl rfl rfl rfl hH (fun w' h' => Sx.x_load1 hT rfl Try.fl3 rfl (by first | exact (Ss.cell ROp.len (h.ss.ext_no (Xu.step h')) hr rfl))) ?_
        clear hT; intro a hT
        refine Sx.st_take hT rfl rfl rfl rfl (Sx.x_move hT rfl rfl) ?_
        clear hT; intro a hT
        refine Sx.st_take hT rfl rfl rfl rfl (Sx.x_move hT rfl rfl) ?_
        clear hT; intro a hT
        refine Sx.st_take hT rfl rfl rfl rfl (Sx.x_index hT rfl Try.underlying22 Try.ti32 (by first | exact (h.ss.sv.ext_no X)) rfl rfl rfl (by omega)) ?_
        clear hT; intro a hT
        refine Sx.st_take hT rfl rfl rfl rfl (Sx.x_fieldAddr hT rfl Try.fa32_2 rfl) ?_
        clear hT; intro a hT
        refine Sx.st_held hT rfl rfl rfl rfl hH (fun w' h' => Sx.x_load1 hT rfl Try.fl3 rfl (by first | exact (Ss.cell ROp.len (h.ss.ext_no (Xu.step h')) hr rfl))) ?_
        clear hT; intro a hT
        refine Sx.st_take hT rfl rfl rfl rfl (Sx.x_move hT rfl rfl) ?_
        clear hT; intro a hT
        refine Sx.st_take hT rfl rfl rfl rfl (Sx.x_move hT rfl rfl) ?_
        clear hT; intro a hT
        refine Sx.st_take hT rfl rfl rfl rfl (Sx.x_index hT rfl Try.underlying22 Try.ti32 (by first | exact (h.ss.sv.ext_no X)) rfl rfl rfl (by omega)) ?_
        clear hT; intro a hT
        refine Sx.st_take hT rfl rfl rfl rfl (Sx.x_fieldAddr hT rfl Try.fa32_3 rfl) ?_
        clear hT; intro a hT
        refine Sx.st_held hT rfl rfl rfl rfl hH (fun w' h' => Sx.x_load1 hT rfl Try.fl30 rfl (by first | exact (Ss.cell ROp.len (h.ss.ext_no (Xu.step h')) hr rfl))) ?_
        clear hT; intro a hT
        refine Sx.st_call hT rfl rfl rfl rfl rfl Try.can10 rfl (nSend_ok hq r.a r.b r.ad r.n r.c o.data (by simp; omega) (hor.bs.ext_no X) hor.n hor.nil (by rw [hor.n]; have := hsmall o (List.mem_of_getElem? ho); omega)) ?_
        have hz1 := X.size
        have hol := hn.lt
        rintro _ w7 ⟨rfl, hn2, E⟩
        refine ⟨_, rfl, ?_⟩
        clear hT; intro a hT
        replace X := X.trans E (fun i hi h9 => absurd hi (by have := hF2 i h9; omega))
        replace hn := hn.ext E (fun k h8 h9 => hdis k h8 h9)
        obtain ⟨F2', hn3, hG, hD⟩ : ∃ F : Nat → Prop, Net _ q 4096 ((os.take (k1 + 1)).map OpV.mail) F ∧ (∀ i, F i → w.heap.size ≤ i) ∧ (∀ i, F i → ¬ F1' i) := ⟨_, hn2.cast (by rw [mails_take ho]; simp [OpV.mail, hor.a, hor.b]), fun i hi => hi.elim (hF2 i) (fun h9 => by omega), fun i hi h8 => hi.elim (fun h9 => hdis i h8 h9) (fun h9 => by have := hol i h8; omega)⟩
        clear hn2 hq hdis E
        have hq := hn3
        have hF2' := hG
        have hdis : ∀ i, F1' i → ¬ F2' i := fun i h8 h9 => hD i h9 h8
        clear hn3 hG hD
        replace hT := hT.keep [53, 0, 1, 2, 7, 9, 11] rfl
        refine Sx.ser_calm ?_
        refine Sx.block_normal ?_
        refine Sx.then_normal (hK17 _ _ ?_)
        clear hK17
        -- region 11 (extra.go:21)
        refine Sx.wp_text [(0, .take), (1, .take), (2, .take)] rfl ?_
        refine Sx.st_take hT rfl rfl rfl rfl (Sx.x_move hT rfl rfl) ?_
        clear hT; intro a hT
        refine Sx.st_take hT rfl rfl rfl rfl ((fun w => Sx.x_add w hT rfl rfl rfl (Sx.wrap64 (by omega)))) ?_
        clear hT; intro a hT
        refine Sx.st_take hT rfl rfl rfl rfl (Sx.x_assign hT rfl rfl) ?_
        clear hT; intro a hT
        replace hT := hT.keep [11, 53, 0, 1, 2, 7, 9] rfl
        refine Sx.ser_nil ?_
        refine Sx.then_normal ?_
        exact ⟨(k1 + 1, F1', F2'), ⟨by show k1 + 1 ≤ _; omega, X, hn, hq, hF1', hF2', hdis, (hT.keep [0, 1, 2, 7, 9, 11] rfl)⟩, by show _ - (k1 + 1) < _ - k1; omega⟩
      · try simp only [decide_eq_true_eq, decide_eq_false_iff_not, Bool.not_eq_true', Bool.not_eq_false', Bool.not_eq_true, Bool.not_eq_false, Bool.and_eq_true, Bool.or_eq_false_iff, beq_iff_eq, bne_iff_ne, Int.not_lt, Int.not_le, ne_eq] at hc16
        replace hn := hn.cast (show _ = os.map OpV.mail from by rw [List.take_of_length_le (by omega)])
        replace hq := hq.cast (show _ = os.map OpV.mail from by rw [List.take_of_length_le (by omega)])
        have hML : (os.map OpV.mail).length ≤ 400 := by simpa using hfew
        generalize os.map OpV.mail = MS at *
        refine wp_exit ?_
        refine Sx.then_exit ?_
        refine Sx.then_exit ?_
        refine Sx.block_exit ?_
        refine Sx.then_normal (hK12 _ _ ?_)
        clear hK12
        refine wp_seq_k fun K19 hK19 => ?_
        by_cases hi : 0 ≤ i ∧ i < MS.length
        · skip
          obtain ⟨k0, rfl⟩ : ∃ k0 : Nat, i = k0 := ⟨i.toNat, by omega⟩
          have hk0 : k0 < MS.length := by omega
          obtain ⟨m, hm⟩ : ∃ m, MS[k0]? = some m := ⟨_, List.getElem?_eq_getElem hk0⟩
          -- region 14 (extra.go:25)
          refine Sx.wp_text [(0, .take), (1, .take), (2, .run), (3, .take), (4, .take), (5, .take), (6, .run), (7, .run), (8, .take)] rfl ?_
          refine Sx.st_take hT rfl rfl rfl rfl (Sx.x_move hT rfl rfl) ?_
          clear hT; intro a hT
          refine Sx.st_take hT rfl rfl rfl rfl (Sx.x_move hT rfl rfl) ?_
          clear hT; intro a hT
          refine Sx.st_call hT rfl rfl rfl rfl rfl Try.can11 rfl (nAt_yes hn (k0 : Int) k0 m rfl hm) ?_
          have hl1 := hn.lt
          have hl2 := hq.lt
          rintro _ w6 ⟨ad1, c1, rfl, hto, E⟩
          refine ⟨_, rfl, ?_⟩
          clear hT; intro a hT
          replace X := X.step E
          replace hn := hn.ext_no E
          replace hq := hq.ext_no E
          have hbx : ∀ q, F1 q → 0 < m.data.length → q < ab ad1 := fun q h9 h0 => by have := hl1 q h9; have := hto.new h0; omega
          refine Sx.st_take hT rfl rfl rfl rfl (Sx.x_move hT rfl rfl) ?_
          clear hT; intro a hT
          refine Sx.st_take hT rfl rfl rfl rfl (Sx.x_extract hT rfl rfl rfl) ?_
          clear hT; intro a hT
          refine Sx.st_take hT rfl rfl rfl rfl (Sx.x_extract hT rfl rfl rfl) ?_
          clear hT; intro a hT
          refine Sx.st_eff hT rfl rfl rfl rfl (Sx.y_alloc hT rfl Try.ti34 rfl _) ?_
          clear hT; rintro _ w7 ⟨b1, rfl, N⟩ a hT
          have hb1 : w.heap.size ≤ b1 := by rw [N.at_]; exact X.size
          have hfn_b1 : ∀ k, F1 k → k < b1 := fun k hk => by have := hn.lt k hk; have := N.at_; omega
          have hfq_b1 : ∀ k, F2 k → k < b1 := fun k hk => by have := hq.lt k hk; have := N.at_; omega
          try (have hd_b1 := fun h0 => Nat.lt_of_lt_of_le (hto.bs.lt h0) (Nat.le_of_eq N.at_.symm))
          replace X := X.step N.ext
          replace hn := hn.ext_no N.ext
          replace hq := hq.ext_no N.ext
          replace hto := hto.ext_no N.ext
          have B1 := N.blk
          clear N
          refine Sx.st_act hT rfl rfl rfl (Sx.y_storeS hT rfl Try.ti34 rfl rfl rfl rfl rfl B1 rfl) ?_
          rintro w8 ⟨NB1, E, z⟩
          replace X := X.fresh E (by omega)
          replace hn := hn.ext E (fun k hk h9 => by unfold Sx.One at h9; have := hfn_b1 k hk; omega)
          replace hq := hq.ext E (fun k hk h9 => by unfold Sx.One at h9; have := hfq_b1 k hk; omega)
          replace hto := hto.ext E (fun h0 h9 => by unfold Sx.One at h9; have := hd_b1 h0; omega)
          replace B1 := NB1; clear NB1 E
          refine Sx.st_take hT rfl rfl rfl rfl (Sx.x_assign hT rfl rfl) ?_
          clear hT; intro a hT
          replace hT := hT.keep [13, 12, 53, 0, 1, 2, 7, 9, 11] rfl
          refine Sx.ser_nil ?_
          refine Sx.then_normal (hK19 _ _ ?_)
          clear hK19
          refine wp_seq_k fun K20 hK20 => ?_
          refine wp_seq_k fun K21 hK21 => ?_
          -- region 15 (extra.go:26)
          refine Sx.wp_text [(0, .take), (1, .take), (2, .take), (3, .run), (4, .take), (5, .take)] rfl ?_
          refine Sx.st_take hT rfl rfl rfl rfl (Sx.x_move hT rfl rfl) ?_
          clear hT; intro a hT
          refine Sx.st_take hT rfl rfl rfl rfl (Sx.x_move hT rfl rfl) ?_
          clear hT; intro a hT
          refine Sx.st_take hT rfl rfl rfl rfl (Sx.x_move hT rfl rfl) ?_
          clear hT; intro a hT
          refine Sx.st_call hT rfl rfl rfl rfl rfl Try.can12 rfl (nMove_yes hn (k0 : Int) k k0 m rfl hm) ?_
          have hz1 := X.size
          have hql := hq.lt
          have hB1l := B1.lt
          rintro _ w9 ⟨rfl, hn2, E⟩
          refine ⟨_, rfl, ?_⟩
          clear hT; intro a hT
          replace X := X.trans E (fun i hi h9 => absurd hi (by have := hF1 i h9; omega))
          replace hq := hq.ext E (fun q h8 h9 => hdis q h9 h8)
          replace B1 := B1.ext E (fun h9 => by have := hfn_b1 _ h9; omega)
          replace hto := hto.ext E (fun h0 h9 => Nat.lt_irrefl _ (hbx _ h9 h0))
          obtain ⟨F3, hn3, hF3, hfx_b1, hdis3⟩ : ∃ F : Nat → Prop, Net _ p 4096 (moved MS k0 (goal k (k0 + (MS.length - (k0 + 1)))) m) F ∧ (∀ i, F i → w.heap.size ≤ i) ∧ (∀ i, F i → i ≠ b1) ∧ (∀ i, F i → ¬ F2 i) := ⟨_, hn2, fun i hi => hi.elim (hF1 i) (fun h9 => by omega), fun i hi => hi.elim (fun h9 => by have := hfn_b1 i h9; omega) (fun h9 => by omega), fun i hi h8 => hi.elim (fun h9 => hdis i h9 h8) (fun h9 => by have := hql i h8; omega)⟩
          clear hn2 hn E
          have hn := hn3
          clear hn3
          obtain ⟨hj, hjn⟩ := goal_eq k (k0 + (MS.length - (k0 + 1)))
          generalize goal k (k0 + (MS.length - (k0 + 1))) = j at *
          have hlen2 := moved_len (j := j) (m := m) hk0
          have hm2 : (moved MS k0 j m)[j]? = some m := moved_get hk0 (by omega)
          have hcnt := moved_cnt (j := j) hm m.dst
          have hbk := moved_back (j := j) hm (by omega)
          generalize hMS2 : moved MS k0 j m = MS2 at *
          refine Sx.st_take hT rfl rfl rfl rfl (Sx.x_move hT rfl rfl) ?_
          clear hT; intro a hT
          refine Sx.st_take hT rfl rfl rfl rfl (Sx.x_neb hT rfl Try.underlying4 rfl rfl) ?_
          clear hT; intro a hT
          replace hT := hT.keep [101, 13, 12, 53, 0, 1, 2, 7, 9, 11] rfl
          refine Sx.ser_nil ?_
          refine Sx.then_normal (hK21 _ _ ?_)
          clear hK21
          -- cond 4
          refine Sx.wp_if hT rfl (fun hc22 => ?_) (fun hc22 => ?_)
          · exfalso
            try simp only [decide_eq_true_eq, decide_eq_false_iff_not, Bool.not_eq_true', Bool.not_eq_false', Bool.not_eq_true, Bool.not_eq_false, Bool.and_eq_true, Bool.or_eq_false_iff, beq_iff_eq, bne_iff_ne, Int.not_lt, Int.not_le, ne_eq] at hc22
            first | omega | simp at hc22
          · try simp only [decide_eq_true_eq, decide_eq_false_iff_not, Bool.not_eq_true', Bool.not_eq_false', Bool.not_eq_true, Bool.not_eq_false, Bool.and_eq_true, Bool.or_eq_false_iff, beq_iff_eq, bne_iff_ne, Int.not_lt, Int.not_le, ne_eq] at hc22
            refine wp_skip ?_
            refine Sx.then_normal (hK20 _ _ ?_)
            clear hK20
            refine wp_seq_k fun K23 hK23 => ?_
            refine wp_seq_k fun K24 hK24 => ?_
            -- region 17 (extra.go:29)
            refine Sx.wp_text [(0, .take), (1, .take)] rfl ?_
            refine Sx.st_take hT rfl rfl rfl rfl (Sx.x_move hT rfl rfl) ?_
            clear hT; intro a hT
            refine Sx.st_take hT rfl rfl rfl rfl (Sx.x_not hT rfl rfl) ?_
            clear hT; intro a hT
            replace hT := hT.keep [103, 101, 13, 12, 53, 0, 1, 2, 7, 9, 11] rfl
            refine Sx.ser_nil ?_
            refine Sx.then_normal (hK24 _ _ ?_)
            clear hK24
            refine Sx.wp_if hT rfl (fun h => by cases h) (fun _ => ?_)
            refine wp_skip ?_
            refine Sx.then_normal (hK23 _ _ ?_)
            clear hK23
            refine wp_seq_k fun K25 hK25 => ?_
            -- region 19 (extra.go:32)
            refine Sx.wp_text [(0, .take), (1, .take), (2, .take), (3, .run), (4, .take), (5, .take), (6, .take)] rfl ?_
            refine Sx.st_take hT rfl rfl rfl rfl (Sx.x_move hT rfl rfl) ?_
            clear hT; intro a hT
            refine Sx.st_take hT rfl rfl rfl rfl (Sx.x_max hT rfl rfl rfl) ?_
            clear hT; intro a hT
            refine Sx.st_take hT rfl rfl rfl rfl (Sx.x_move hT rfl rfl) ?_
            clear hT; intro a hT
            refine Sx.st_call hT rfl rfl rfl rfl rfl Try.can13 rfl (nLen_calls hn) ?_
            rintro _ w10 ⟨rfl, E⟩
            refine ⟨_, rfl, ?_⟩
            clear hT; intro a hT
            replace X := X.step E
            replace B1 := B1.ext_no E
            replace hn := hn.ext_no E
            replace hq := hq.ext_no E
            replace hto := hto.ext_no E
            rw [hlen2] at hT
            refine Sx.st_take hT rfl rfl rfl rfl ((fun w => Sx.x_sub w hT rfl rfl rfl (Sx.wrap64 (by omega)))) ?_
            clear hT; intro a hT
            refine Sx.st_take hT rfl rfl rfl rfl (Sx.x_min hT rfl rfl rfl) ?_
            clear hT; intro a hT
            rw [show min (max k 0) (((MS.length : Nat) : Int) - 1) = ((j : Nat) : Int) from by rw [← hj]; congr 1; omega] at hT
            refine Sx.st_take hT rfl rfl rfl rfl (Sx.x_assign hT rfl rfl) ?_
            clear hT; intro a hT
            replace hT := hT.keep [14, 103, 101, 13, 12, 53, 0, 1, 2, 7, 9, 11] rfl
            refine Sx.ser_nil ?_
            refine Sx.then_normal (hK25 _ _ ?_)
            clear hK25
            refine wp_seq_k fun K26 hK26 => ?_
            -- region 20 (extra.go:33)
            refine Sx.wp_text [(0, .take), (1, .take), (2, .run), (3, .take), (4, .take), (5, .take), (6, .run), (7, .run), (8, .take)] rfl ?_
            refine Sx.st_take hT rfl rfl rfl rfl (Sx.x_move hT rfl rfl) ?_
            clear hT; intro a hT
            refine Sx.st_take hT rfl rfl rfl rfl (Sx.x_move hT rfl rfl) ?_
            clear hT; intro a hT
            refine Sx.st_call hT rfl rfl rfl rfl rfl Try.can11 rfl (nAt_yes hn (j : Int) j m rfl hm2) ?_
            rintro _ w11 ⟨ad2, c2, rfl, hto2, E⟩
            refine ⟨_, rfl, ?_⟩
            clear hT; intro a hT
            replace X := X.step E
            replace B1 := B1.ext_no E
            replace hn := hn.ext_no E
            replace hq := hq.ext_no E
            replace hto := hto.ext_no E
            refine Sx.st_take hT rfl rfl rfl rfl (Sx.x_move hT rfl rfl) ?_
            clear hT; intro a hT
            refine Sx.st_take hT rfl rfl rfl rfl (Sx.x_extract hT rfl rfl rfl) ?_
            clear hT; intro a hT
            refine Sx.st_take hT rfl rfl rfl rfl (Sx.x_extract hT rfl rfl rfl) ?_
            clear hT; intro a hT
            refine Sx.st_eff hT rfl rfl rfl rfl (Sx.y_alloc hT rfl Try.ti34 rfl _) ?_
            clear hT; rintro _ w12 ⟨b2, rfl, N⟩ a hT
            have hb2 : w.heap.size ≤ b2 := by rw [N.at_]; exact X.size
            have lB1_b2 : b1 < b2 := by have h1 := B1.lt; have h2 := N.at_; omega
            have hfn_b2 : ∀ k, F3 k → k < b2 := fun k hk => by have := hn.lt k hk; have := N.at_; omega
            have hfq_b2 : ∀ k, F2 k → k < b2 := fun k hk => by have := hq.lt k hk; have := N.at_; omega
            have hfx_b2 : ∀ k, F3 k → k ≠ b2 := fun k hk => by have := hfn_b2 k hk; omega
            have hd_b2 := fun h0 => Nat.lt_of_lt_of_le (hto.bs.lt h0) (Nat.le_of_eq N.at_.symm)
            have hdd_b2 := fun h0 => Nat.lt_of_lt_of_le (hto2.bs.lt h0) (Nat.le_of_eq N.at_.symm)
            replace X := X.step N.ext
            replace B1 := B1.ext_no N.ext
            replace hn := hn.ext_no N.ext
            replace hq := hq.ext_no N.ext
            replace hto := hto.ext_no N.ext
            replace hto2 := hto2.ext_no N.ext
            have B2 := N.blk
            clear N
            refine Sx.st_act hT rfl rfl rfl (Sx.y_storeS hT rfl Try.ti34 rfl rfl rfl rfl rfl B2 rfl) ?_
            rintro w13 ⟨NB2, E, z⟩
            replace X := X.fresh E (by omega)
            replace B1 := B1.ext E (by unfold Sx.One; omega)
            replace hn := hn.ext E (fun k hk h9 => by unfold Sx.One at h9; have := hfn_b2 k hk; omega)
            replace hq := hq.ext E (fun k hk h9 => by unfold Sx.One at h9; have := hfq_b2 k hk; omega)
            replace hto := hto.ext E (fun h0 h9 => by unfold Sx.One at h9; have := hd_b2 h0; omega)
            replace hto2 := hto2.ext E (fun h0 h9 => by unfold Sx.One at h9; have := hdd_b2 h0; omega)
            replace B2 := NB2; clear NB2 E
            refine Sx.st_take hT rfl rfl rfl rfl (Sx.x_assign hT rfl rfl) ?_
            clear hT; intro a hT
            replace hT := hT.keep [16, 15, 14, 103, 101, 13, 12, 53, 0, 1, 2, 7, 9, 11] rfl
            refine Sx.ser_nil ?_
            refine Sx.then_normal (hK26 _ _ ?_)
            clear hK26
            refine wp_seq_k fun K27 hK27 => ?_
            refine wp_seq_k fun K28 hK28 => ?_
            -- region 21 (extra.go:34)
            refine Sx.wp_draws (fun u => Sx.Ext F3 u) [(0, .take), (1, .take), (2, .take), (3, .held), (4, .held), (5, .keep), (6, .take), (7, .take), (8, .take), (9, .take), (10, .take), (11, .held), (13, .take), (14, .take), (15, .held), (12, .keep), (16, .run), (17, .take), (18, .take), (19, .take), (20, .take), (22, .take), (21, .run), (23, .run), (24, .take), (25, .take), (26, .take), (27, .take), (28, .take), (29, .take), (30, .run), (31, .take), (32, .take)] (by kernel_rfl) (by kernel_rfl) (fun u E z => ?_)
            replace X := X.step E
            replace B1 := B1.ext_no E
            replace B2 := B2.ext_no E
            replace hn := hn.ext_no E
            replace hq := hq.ext_no E
            replace hto := hto.ext_no E
            replace hto2 := hto2.ext_no E
            have hH : Sx.Ext F3 u u := Sx.Ext.refl _ _
            have Xu := X
            have B1u := B1
            have B2u := B2
            refine Sx.st_take hT rfl rfl rfl rfl (Sx.x_move hT rfl rfl) ?_
            clear hT; intro a hT
            refine Sx.st_take hT rfl rfl rfl rfl (Sx.x_not hT rfl rfl) ?_
            clear hT; intro a hT
            refine Sx.st_take hT rfl rfl rfl rfl (Sx.x_move hT rfl rfl) ?_
            clear hT; intro a hT
            refine Sx.st_held hT rfl rfl rfl rfl hH (fun w' h' => Sx.y_loadS hT rfl Try.underlying34 Try.ti34 rfl (by first | exact (B1u.ext h' (fun h9 => hfx_b1 _ h9 rfl)).seg (k := 3) rfl | exact (B2u.ext h' (fun h9 => hfx_b2 _ h9 rfl)).seg (k := 3) rfl) (by rfl)) ?_
            clear hT; intro a hT
            refine Sx.st_held hT rfl rfl rfl rfl hH (fun w' h' => Sx.y_loadS hT rfl Try.underlying34 Try.ti34 rfl (by first | exact (B1u.ext h' (fun h9 => hfx_b1 _ h9 rfl)).seg (k := 3) rfl | exact (B2u.ext h' (fun h9 => hfx_b2 _ h9 rfl)).seg (k := 3) rfl) (by rfl)) ?_
            clear hT; intro a hT
            refine Sx.st_callkeep hT rfl rfl rfl rfl rfl Try.can14 rfl (alike_is true m.src m.dst m.src m.dst ad1 ad2 _ _ c1 c2 m.data m.data _ hto.bs hto2.bs rfl rfl (by simp)) ?_
            rintro _ w14 ⟨rfl, E⟩
            refine ⟨_, rfl, ?_, ?_⟩
            · exact hH.step E
            replace hH := hH.step E
            clear hT; intro a hT
            replace X := X.step E
            replace B1 := B1.ext_no E
            replace B2 := B2.ext_no E
            replace hn := hn.ext_no E
            replace hq := hq.ext_no E
            replace hto := hto.ext_no E
            replace hto2 := hto2.ext_no E
            refine Sx.st_take hT rfl rfl rfl rfl (Sx.x_not hT rfl rfl) ?_
            clear hT; intro a hT
            refine Sx.st_take hT rfl rfl rfl rfl (Sx.x_pick_f hT rfl rfl rfl) ?_
            clear hT; intro a hT
            refine Sx.st_take hT rfl rfl rfl rfl (Sx.x_move hT rfl rfl) ?_
            clear hT; intro a hT
            refine Sx.st_take hT rfl rfl rfl rfl (Sx.x_move hT rfl rfl) ?_
            clear hT; intro a hT
            refine Sx.st_take hT rfl rfl rfl rfl (Sx.x_fieldAddr hT rfl Try.fa34_1 rfl) ?_
            clear hT; intro a hT
            refine Sx.st_held hT rfl rfl rfl rfl hH (fun w' h' => Sx.x_load1 hT rfl Try.fl3 rfl (by first | exact (B1u.ext h' (fun h9 => hfx_b1 _ h9 rfl)).nth rfl | exact (B2u.ext h' (fun h9 => hfx_b2 _ h9 rfl)).nth rfl | exact (Ss.cell ROp.len (h.ss.ext_no (Xu.step h')) hr rfl))) ?_
            clear hT; intro a hT
            refine Sx.st_take hT rfl rfl rfl rfl (Sx.x_move hT rfl rfl) ?_
            clear hT; intro a hT
            refine Sx.st_take hT rfl rfl rfl rfl (Sx.x_fieldAddr hT rfl Try.fa34_1 rfl) ?_
            clear hT; intro a hT
            refine Sx.st_held hT rfl rfl rfl rfl hH (fun w' h' => Sx.x_load1 hT rfl Try.fl3 rfl (by first | exact (B1u.ext h' (fun h9 => hfx_b1 _ h9 rfl)).nth rfl | exact (B2u.ext h' (fun h9 => hfx_b2 _ h9 rfl)).nth rfl | exact (Ss.cell ROp.len (h.ss.ext_no (Xu.step h')) hr rfl))) ?_
            clear hT; intro a hT
            refine Sx.st_callkeep hT rfl rfl rfl rfl rfl Try.can15 rfl (nCount_calls hn m.dst) ?_
            rintro _ w15 ⟨rfl, E⟩
            refine ⟨_, rfl, ?_, ?_⟩
            · exact hH.step E
            replace hH := hH.step E
            clear hT; intro a hT
            replace X := X.step E
            replace B1 := B1.ext_no E
            replace B2 := B2.ext_no E
            replace hn := hn.ext_no E
            replace hq := hq.ext_no E
            replace hto := hto.ext_no E
            replace hto2 := hto2.ext_no E
            rw [hcnt] at hT
            refine Sx.st_call hT rfl rfl rfl rfl rfl Try.can15 rfl (nCount_calls hq m.dst) ?_
            rintro _ w16 ⟨rfl, E⟩
            refine ⟨_, rfl, ?_⟩
            clear hT; intro a hT
            replace X := X.step E
            replace B1 := B1.ext_no E
            replace B2 := B2.ext_no E
            replace hn := hn.ext_no E
            replace hq := hq.ext_no E
            replace hto := hto.ext_no E
            replace hto2 := hto2.ext_no E
            refine Sx.st_take hT rfl rfl rfl rfl ((fun w => Sx.x_ne w hT rfl rfl rfl)) ?_
            clear hT; intro a hT
            refine Sx.st_take hT rfl rfl rfl rfl (Sx.x_pick_f hT rfl rfl rfl) ?_
            clear hT; intro a hT
            refine Sx.st_take hT rfl rfl rfl rfl (Sx.x_move hT rfl rfl) ?_
            clear hT; intro a hT
            -- guard (21, 19)
            refine Sx.Sl.two hT 143 rfl (fun hc29 hT => ?_) (fun hc29 hT => ?_)
            · exfalso
              try simp only [decide_eq_true_eq, decide_eq_false_iff_not, Bool.not_eq_true', Bool.not_eq_false', Bool.not_eq_true, Bool.not_eq_false, Bool.and_eq_true, Bool.or_eq_false_iff, beq_iff_eq, bne_iff_ne, Int.not_lt, Int.not_le, ne_eq] at hc29
              first | omega | simp at hc29
            · try simp only [decide_eq_true_eq, decide_eq_false_iff_not, Bool.not_eq_true', Bool.not_eq_false', Bool.not_eq_true, Bool.not_eq_false, Bool.and_eq_true, Bool.or_eq_false_iff, beq_iff_eq, bne_iff_ne, Int.not_lt, Int.not_le, ne_eq] at hc29
              refine Sx.st_take hT rfl rfl rfl rfl (Sx.x_move hT rfl rfl) ?_
              clear hT; intro a hT
              refine Sx.st_take hT rfl rfl rfl rfl (Sx.x_move hT rfl rfl) ?_
              clear hT; intro a hT
              refine Sx.st_call hT rfl rfl rfl rfl rfl Try.can13 rfl (nLen_calls hn) ?_
              rintro _ w17 ⟨rfl, E⟩
              refine ⟨_, rfl, ?_⟩
              clear hT; intro a hT
              replace X := X.step E
              replace B1 := B1.ext_no E
              replace B2 := B2.ext_no E
              replace hn := hn.ext_no E
              replace hq := hq.ext_no E
              replace hto := hto.ext_no E
              replace hto2 := hto2.ext_no E
              rw [hlen2] at hT
              refine Sx.st_call hT rfl rfl rfl rfl rfl Try.can13 rfl (nLen_calls hq) ?_
              rintro _ w18 ⟨rfl, E⟩
              refine ⟨_, rfl, ?_⟩
              clear hT; intro a hT
              replace X := X.step E
              replace B1 := B1.ext_no E
              replace B2 := B2.ext_no E
              replace hn := hn.ext_no E
              replace hq := hq.ext_no E
              replace hto := hto.ext_no E
              replace hto2 := hto2.ext_no E
              refine Sx.st_take hT rfl rfl rfl rfl ((fun w => Sx.x_ne w hT rfl rfl rfl)) ?_
              clear hT; intro a hT
              refine Sx.st_take hT rfl rfl rfl rfl (Sx.x_pick_f hT rfl rfl rfl) ?_
              clear hT; intro a hT
              refine Sx.st_take hT rfl rfl rfl rfl (Sx.x_move hT rfl rfl) ?_
              clear hT; intro a hT
              -- guard (21, 26)
              refine Sx.Sl.two hT 150 rfl (fun hc30 hT => ?_) (fun hc30 hT => ?_)
              · exfalso
                try simp only [decide_eq_true_eq, decide_eq_false_iff_not, Bool.not_eq_true', Bool.not_eq_false', Bool.not_eq_true, Bool.not_eq_false, Bool.and_eq_true, Bool.or_eq_false_iff, beq_iff_eq, bne_iff_ne, Int.not_lt, Int.not_le, ne_eq] at hc30
                first | omega | simp at hc30
              · try simp only [decide_eq_true_eq, decide_eq_false_iff_not, Bool.not_eq_true', Bool.not_eq_false', Bool.not_eq_true, Bool.not_eq_false, Bool.and_eq_true, Bool.or_eq_false_iff, beq_iff_eq, bne_iff_ne, Int.not_lt, Int.not_le, ne_eq] at hc30
                refine Sx.st_take hT rfl rfl rfl rfl (Sx.x_move hT rfl rfl) ?_
                clear hT; intro a hT
                refine Sx.st_take hT rfl rfl rfl rfl (Sx.x_move hT rfl rfl) ?_
                clear hT; intro a hT
                refine Sx.st_take hT rfl rfl rfl rfl (Sx.x_move hT rfl rfl) ?_
                clear hT; intro a hT
                refine Sx.st_call hT rfl rfl rfl rfl rfl Try.can12 rfl (nMove_yes hn (j : Int) (k0 : Int) j m rfl hm2) ?_
                have hz1 := X.size
                have hql := hq.lt
                rintro _ w19 ⟨rfl, hn2, E⟩
                refine ⟨_, rfl, ?_⟩
                clear hT; intro a hT
                replace X := X.trans E (fun i hi h9 => absurd hi (by have := hF3 i h9; omega))
                replace hq := hq.ext E (fun q h8 h9 => hdis3 q h9 h8)
                clear B1 B2 hto hto2
                obtain ⟨F4, hn3, hF4, hdis4⟩ : ∃ F : Nat → Prop, Net _ p 4096 MS F ∧ (∀ i, F i → w.heap.size ≤ i) ∧ (∀ i, F i → ¬ F2 i) := ⟨_, hn2.cast (by rw [show j + (MS2.length - (j + 1)) = MS.length - 1 from by omega, goal_back (by omega)]; exact hbk), fun i hi => hi.elim (hF3 i) (fun h9 => by omega), fun i hi h8 => hi.elim (fun h9 => hdis3 i h9 h8) (fun h9 => by have := hql i h8; omega)⟩
                clear hn2 hn E
                have hn := hn3
                clear hn3
                refine Sx.st_take hT rfl rfl rfl rfl (Sx.x_not hT rfl rfl) ?_
                clear hT; intro a hT
                refine Sx.st_take hT rfl rfl rfl rfl (Sx.x_pick_f hT rfl rfl rfl) ?_
                clear hT; intro a hT
                replace hT := hT.keep [156, 16, 15, 14, 103, 101, 13, 12, 53, 0, 1, 2, 7, 9, 11] rfl
                refine Sx.ser_calm ?_
                refine Sx.then_normal (hK28 _ _ ?_)
                clear hK28
                refine Sx.wp_if hT rfl (fun h => by cases h) (fun _ => ?_)
                refine wp_skip ?_
                refine Sx.then_normal (hK27 _ _ ?_)
                clear hK27
                refine wp_seq_k fun K31 hK31 => ?_
                refine wp_seq_k fun K32 hK32 => ?_
                -- region 23 (extra.go:37)
                refine Sx.wp_text [(0, .take)] rfl ?_
                refine Sx.st_take hT rfl rfl rfl rfl (Sx.x_assign hT rfl rfl) ?_
                clear hT; intro a hT
                replace hT := hT.keep [17, 156, 16, 15, 14, 103, 101, 13, 12, 53, 0, 1, 2, 7, 9, 11] rfl
                refine Sx.ser_nil ?_
                refine Sx.then_normal (hK32 _ _ ?_)
                clear hK32
                refine wp_block ?_
                -- loop 1
                refine Sx.wp_while (G := Nat) (fun x a w20 => x ≤ MS.length ∧ Ext No w w20 ∧ Net w20 p 4096 MS F4 ∧ Net w20 q 4096 MS F2 ∧ Sl 180 [(7, .pointer (some ⟨p, 0, none⟩)), (9, .pointer (some ⟨q, 0, none⟩)), (17, .int .i64 x)] a) (fun x => MS.length - x) 0 ?_ ?_
                · exact ⟨Nat.zero_le _, X, hn, hq, hT.keep [7, 9, 17] rfl⟩
                clear hT X hn hq
                intro x a w20 hI
                obtain ⟨hx, X, hn, hq, hT⟩ := hI
                refine wp_seq_k fun K33 hK33 => ?_
                refine wp_seq_k fun K34 hK34 => ?_
                -- region 24 (extra.go:37)
                refine Sx.wp_text [(0, .take), (1, .take), (2, .run), (3, .take)] rfl ?_
                refine Sx.st_take hT rfl rfl rfl rfl (Sx.x_move hT rfl rfl) ?_
                clear hT; intro a hT
                refine Sx.st_take hT rfl rfl rfl rfl (Sx.x_move hT rfl rfl) ?_
                clear hT; intro a hT
                refine Sx.st_call hT rfl rfl rfl rfl rfl Try.can13 rfl (nLen_calls hq) ?_
                rintro _ w21 ⟨rfl, E⟩
                refine ⟨_, rfl, ?_⟩
                clear hT; intro a hT
                replace X := X.step E
                replace hn := hn.ext_no E
                replace hq := hq.ext_no E
                refine Sx.st_take hT rfl rfl rfl rfl ((fun w => Sx.x_lt w hT rfl rfl rfl)) ?_
                clear hT; intro a hT
                replace hT := hT.keep [160, 7, 9, 17] rfl
                refine Sx.ser_nil ?_
                refine Sx.then_normal (hK34 _ _ ?_)
                clear hK34
                -- cond 7
                refine Sx.wp_if hT rfl (fun hc35 => ?_) (fun hc35 => ?_)
                · try simp only [decide_eq_true_eq, decide_eq_false_iff_not, Bool.not_eq_true', Bool.not_eq_false', Bool.not_eq_true, Bool.not_eq_false, Bool.and_eq_true, Bool.or_eq_false_iff, beq_iff_eq, bne_iff_ne, Int.not_lt, Int.not_le, ne_eq] at hc35
                  obtain ⟨mm, hmm⟩ : ∃ o, MS[x]? = some o := ⟨_, List.getElem?_eq_getElem (by omega)⟩
                  refine wp_skip ?_
                  refine Sx.then_normal (hK33 _ _ ?_)
                  clear hK33
                  refine wp_seq_k fun K36 hK36 => ?_
                  refine wp_block ?_
                  refine wp_seq_k fun K37 hK37 => ?_
                  -- region 26 (extra.go:38)
                  refine Sx.wp_text [(0, .take), (1, .take), (2, .run), (3, .take), (4, .take), (5, .take), (6, .run), (7, .run), (8, .take)] rfl ?_
                  refine Sx.st_take hT rfl rfl rfl rfl (Sx.x_move hT rfl rfl) ?_
                  clear hT; intro a hT
                  refine Sx.st_take hT rfl rfl rfl rfl (Sx.x_move hT rfl rfl) ?_
                  clear hT; intro a hT
                  refine Sx.st_call hT rfl rfl rfl rfl rfl Try.can11 rfl (nAt_yes hn (x : Int) x mm rfl hmm) ?_
                  rintro _ w22 ⟨ad3, c3, rfl, hto3, E⟩
                  refine ⟨_, rfl, ?_⟩
                  clear hT; intro a hT
                  replace X := X.step E
                  replace hn := hn.ext_no E
                  replace hq := hq.ext_no E
                  refine Sx.st_take hT rfl rfl rfl rfl (Sx.x_move hT rfl rfl) ?_
                  clear hT; intro a hT
                  refine Sx.st_take hT rfl rfl rfl rfl (Sx.x_extract hT rfl rfl rfl) ?_
                  clear hT; intro a hT
                  refine Sx.st_take hT rfl rfl rfl rfl (Sx.x_extract hT rfl rfl rfl) ?_
                  clear hT; intro a hT
                  refine Sx.st_eff hT rfl rfl rfl rfl (Sx.y_alloc hT rfl Try.ti34 rfl _) ?_
                  clear hT; rintro _ w23 ⟨b3, rfl, N⟩ a hT
                  have hb3 : w.heap.size ≤ b3 := by rw [N.at_]; exact X.size
                  have hfn_b3 : ∀ k, F4 k → k < b3 := fun k hk => by have := hn.lt k hk; have := N.at_; omega
                  have hfq_b3 : ∀ k, F2 k → k < b3 := fun k hk => by have := hq.lt k hk; have := N.at_; omega
                  have hda_b3 := fun h0 => Nat.lt_of_lt_of_le (hto3.bs.lt h0) (Nat.le_of_eq N.at_.symm)
                  replace X := X.step N.ext
                  replace hn := hn.ext_no N.ext
                  replace hq := hq.ext_no N.ext
                  replace hto3 := hto3.ext_no N.ext
                  have B3 := N.blk
                  clear N
                  refine Sx.st_act hT rfl rfl rfl (Sx.y_storeS hT rfl Try.ti34 rfl rfl rfl rfl rfl B3 rfl) ?_
                  rintro w24 ⟨NB3, E, z⟩
                  replace X := X.fresh E (by omega)
                  replace hn := hn.ext E (fun k hk h9 => by unfold Sx.One at h9; have := hfn_b3 k hk; omega)
                  replace hq := hq.ext E (fun k hk h9 => by unfold Sx.One at h9; have := hfq_b3 k hk; omega)
                  replace hto3 := hto3.ext E (fun h0 h9 => by unfold Sx.One at h9; have := hda_b3 h0; omega)
                  replace B3 := NB3; clear NB3 E
                  refine Sx.st_take hT rfl rfl rfl rfl (Sx.x_assign hT rfl rfl) ?_
                  clear hT; intro a hT
                  replace hT := hT.keep [18, 160, 7, 9, 17] rfl
                  refine Sx.ser_nil ?_
                  refine Sx.then_normal (hK37 _ _ ?_)
                  clear hK37
                  refine wp_seq_k fun K38 hK38 => ?_
                  -- region 27 (extra.go:39)
                  refine Sx.wp_text [(0, .take), (1, .take), (2, .run), (3, .take), (4, .take), (5, .take), (6, .run), (7, .run), (8, .take)] rfl ?_
                  refine Sx.st_take hT rfl rfl rfl rfl (Sx.x_move hT rfl rfl) ?_
                  clear hT; intro a hT
                  refine Sx.st_take hT rfl rfl rfl rfl (Sx.x_move hT rfl rfl) ?_
                  clear hT; intro a hT
                  refine Sx.st_call hT rfl rfl rfl rfl rfl Try.can11 rfl (nAt_yes hq (x : Int) x mm rfl hmm) ?_
                  rintro _ w25 ⟨ad4, c4, rfl, hto4, E⟩
                  refine ⟨_, rfl, ?_⟩
                  clear hT; intro a hT
                  replace X := X.step E
                  replace B3 := B3.ext_no E
                  replace hn := hn.ext_no E
                  replace hq := hq.ext_no E
                  replace hto3 := hto3.ext_no E
                  refine Sx.st_take hT rfl rfl rfl rfl (Sx.x_move hT rfl rfl) ?_
                  clear hT; intro a hT
                  refine Sx.st_take hT rfl rfl rfl rfl (Sx.x_extract hT rfl rfl rfl) ?_
                  clear hT; intro a hT
                  refine Sx.st_take hT rfl rfl rfl rfl (Sx.x_extract hT rfl rfl rfl) ?_
                  clear hT; intro a hT
                  refine Sx.st_eff hT rfl rfl rfl rfl (Sx.y_alloc hT rfl Try.ti34 rfl _) ?_
                  clear hT; rintro _ w26 ⟨b4, rfl, N⟩ a hT
                  have hb4 : w.heap.size ≤ b4 := by rw [N.at_]; exact X.size
                  have lB3_b4 : b3 < b4 := by have h1 := B3.lt; have h2 := N.at_; omega
                  have hfn_b4 : ∀ k, F4 k → k < b4 := fun k hk => by have := hn.lt k hk; have := N.at_; omega
                  have hfq_b4 : ∀ k, F2 k → k < b4 := fun k hk => by have := hq.lt k hk; have := N.at_; omega
                  have hda_b4 := fun h0 => Nat.lt_of_lt_of_le (hto3.bs.lt h0) (Nat.le_of_eq N.at_.symm)
                  have hdb_b4 := fun h0 => Nat.lt_of_lt_of_le (hto4.bs.lt h0) (Nat.le_of_eq N.at_.symm)
                  replace X := X.step N.ext
                  replace B3 := B3.ext_no N.ext
                  replace hn := hn.ext_no N.ext
                  replace hq := hq.ext_no N.ext
                  replace hto3 := hto3.ext_no N.ext
                  replace hto4 := hto4.ext_no N.ext
                  have B4 := N.blk
                  clear N
                  refine Sx.st_act hT rfl rfl rfl (Sx.y_storeS hT rfl Try.ti34 rfl rfl rfl rfl rfl B4 rfl) ?_
                  rintro w27 ⟨NB4, E, z⟩
                  replace X := X.fresh E (by omega)
                  replace B3 := B3.ext E (by unfold Sx.One; omega)
                  replace hn := hn.ext E (fun k hk h9 => by unfold Sx.One at h9; have := hfn_b4 k hk; omega)
                  replace hq := hq.ext E (fun k hk h9 => by unfold Sx.One at h9; have := hfq_b4 k hk; omega)
                  replace hto3 := hto3.ext E (fun h0 h9 => by unfold Sx.One at h9; have := hda_b4 h0; omega)
                  replace hto4 := hto4.ext E (fun h0 h9 => by unfold Sx.One at h9; have := hdb_b4 h0; omega)
                  replace B4 := NB4; clear NB4 E
                  refine Sx.st_take hT rfl rfl rfl rfl (Sx.x_assign hT rfl rfl) ?_
                  clear hT; intro a hT
                  replace hT := hT.keep [20, 18, 160, 7, 9, 17] rfl
                  refine Sx.ser_nil ?_
                  refine Sx.then_normal (hK38 _ _ ?_)
                  clear hK38
                  refine wp_seq_k fun K39 hK39 => ?_
                  -- region 28 (extra.go:40)
                  refine Sx.wp_text [(0, .run), (1, .run), (2, .run), (3, .take)] rfl ?_
                  refine Sx.st_run hT rfl rfl rfl rfl (Sx.y_loadS hT rfl Try.underlying34 Try.ti34 rfl (by first | exact (B3).seg (k := 3) rfl | exact (B4).seg (k := 3) rfl) (by rfl)) ?_
                  clear hT; intro a hT
                  refine Sx.st_run hT rfl rfl rfl rfl (Sx.y_loadS hT rfl Try.underlying34 Try.ti34 rfl (by first | exact (B3).seg (k := 3) rfl | exact (B4).seg (k := 3) rfl) (by rfl)) ?_
                  clear hT; intro a hT
                  refine Sx.st_call hT rfl rfl rfl rfl rfl Try.can14 rfl (alike_is true mm.src mm.dst mm.src mm.dst ad3 ad4 _ _ c3 c4 mm.data mm.data _ hto3.bs hto4.bs rfl rfl (by simp)) ?_
                  rintro _ w28 ⟨rfl, E⟩
                  refine ⟨_, rfl, ?_⟩
                  clear hT; intro a hT
                  replace X := X.step E
                  replace B3 := B3.ext_no E
                  replace B4 := B4.ext_no E
                  replace hn := hn.ext_no E
                  replace hq := hq.ext_no E
                  replace hto3 := hto3.ext_no E
                  replace hto4 := hto4.ext_no E
                  refine Sx.st_take hT rfl rfl rfl rfl (Sx.x_not hT rfl rfl) ?_
                  clear hT; intro a hT
                  replace hT := hT.keep [178, 20, 18, 160, 7, 9, 17] rfl
                  refine Sx.ser_nil ?_
                  refine Sx.then_normal (hK39 _ _ ?_)
                  clear hK39
                  refine Sx.wp_if hT rfl (fun h => by cases h) (fun _ => ?_)
                  refine wp_skip ?_
                  refine Sx.block_normal ?_
                  refine Sx.then_normal (hK36 _ _ ?_)
                  clear hK36
                  -- region 25 (extra.go:37)
                  refine Sx.wp_text [(0, .take), (1, .take), (2, .take)] rfl ?_
                  refine Sx.st_take hT rfl rfl rfl rfl (Sx.x_move hT rfl rfl) ?_
                  clear hT; intro a hT
                  refine Sx.st_take hT rfl rfl rfl rfl ((fun w => Sx.x_add w hT rfl rfl rfl (Sx.wrap64 (by omega)))) ?_
                  clear hT; intro a hT
                  refine Sx.st_take hT rfl rfl rfl rfl (Sx.x_assign hT rfl rfl) ?_
                  clear hT; intro a hT
                  replace hT := hT.keep [17, 178, 20, 18, 160, 7, 9] rfl
                  refine Sx.ser_nil ?_
                  refine Sx.then_normal ?_
                  exact ⟨x + 1, ⟨by omega, X, hn, hq, hT.keep [7, 9, 17] rfl⟩, by omega⟩
                · try simp only [decide_eq_true_eq, decide_eq_false_iff_not, Bool.not_eq_true', Bool.not_eq_false', Bool.not_eq_true, Bool.not_eq_false, Bool.and_eq_true, Bool.or_eq_false_iff, beq_iff_eq, bne_iff_ne, Int.not_lt, Int.not_le, ne_eq] at hc35
                  refine wp_exit ?_
                  refine Sx.then_exit ?_
                  refine Sx.then_exit ?_
                  refine Sx.block_exit ?_
                  refine Sx.then_normal (hK31 _ _ ?_)
                  clear hK31
                  refine wp_seq_k fun K40 hK40 => ?_
                  -- region 30 (extra.go:44)
                  refine Sx.wp_text [(0, .run), (1, .take)] rfl ?_
                  refine Sx.st_call hT rfl rfl rfl rfl rfl Try.can7 rfl (first_calls _) ?_
                  rintro _ w22 ⟨rfl, E⟩
                  refine ⟨_, rfl, ?_⟩
                  clear hT; intro a hT
                  replace X := X.step E
                  replace hn := hn.ext_no E
                  replace hq := hq.ext_no E
                  refine Sx.st_take hT rfl rfl rfl rfl (Sx.x_assign hT rfl rfl) ?_
                  clear hT; intro a hT
                  replace hT := hT.keep [6, 160, 7, 9, 17] rfl
                  refine Sx.ser_nil ?_
                  refine Sx.then_normal (hK40 _ _ ?_)
                  clear hK40
                  refine wp_ret ?_
                  refine Sx.done1 (fn := Try.f3) hT rfl (.tmp (hT.get 6 _ rfl)) ?_
                  exact ⟨rfl, X⟩
        · skip
          -- region 14 (extra.go:25)
          refine Sx.wp_text [(0, .take), (1, .take), (2, .run), (3, .take), (4, .take), (5, .take), (6, .run), (7, .run), (8, .take)] rfl ?_
          refine Sx.st_take hT rfl rfl rfl rfl (Sx.x_move hT rfl rfl) ?_
          clear hT; intro a hT
          refine Sx.st_take hT rfl rfl rfl rfl (Sx.x_move hT rfl rfl) ?_
          clear hT; intro a hT
          refine Sx.st_call hT rfl rfl rfl rfl rfl Try.can11 rfl (nAt_no hn i hi) ?_
          rintro _ w6 ⟨rfl, E⟩
          refine ⟨_, rfl, ?_⟩
          clear hT; intro a hT
          replace X := X.step E
          replace hn := hn.ext_no E
          replace hq := hq.ext_no E
          refine Sx.st_take hT rfl rfl rfl rfl (Sx.x_move hT rfl rfl) ?_
          clear hT; intro a hT
          refine Sx.st_take hT rfl rfl rfl rfl (Sx.x_extract hT rfl rfl rfl) ?_
          clear hT; intro a hT
          refine Sx.st_take hT rfl rfl rfl rfl (Sx.x_extract hT rfl rfl rfl) ?_
          clear hT; intro a hT
          refine Sx.st_eff hT rfl rfl rfl rfl (Sx.y_alloc hT rfl Try.ti34 rfl _) ?_
          clear hT; rintro _ w7 ⟨b1, rfl, N⟩ a hT
          have hb1 : w.heap.size ≤ b1 := by rw [N.at_]; exact X.size
          have hfn_b1 : ∀ k, F1 k → k < b1 := fun k hk => by have := hn.lt k hk; have := N.at_; omega
          have hfq_b1 : ∀ k, F2 k → k < b1 := fun k hk => by have := hq.lt k hk; have := N.at_; omega
          try (have hd_b1 := fun h0 => Nat.lt_of_lt_of_le (hto.bs.lt h0) (Nat.le_of_eq N.at_.symm))
          replace X := X.step N.ext
          replace hn := hn.ext_no N.ext
          replace hq := hq.ext_no N.ext
          have B1 := N.blk
          clear N
          refine Sx.st_act hT rfl rfl rfl (Sx.y_storeS hT rfl Try.ti34 rfl rfl rfl rfl rfl B1 rfl) ?_
          rintro w8 ⟨NB1, E, z⟩
          replace X := X.fresh E (by omega)
          replace hn := hn.ext E (fun k hk h9 => by unfold Sx.One at h9; have := hfn_b1 k hk; omega)
          replace hq := hq.ext E (fun k hk h9 => by unfold Sx.One at h9; have := hfq_b1 k hk; omega)
          replace B1 := NB1; clear NB1 E
          refine Sx.st_take hT rfl rfl rfl rfl (Sx.x_assign hT rfl rfl) ?_
          clear hT; intro a hT
          replace hT := hT.keep [13, 12, 53, 0, 1, 2, 7, 9, 11] rfl
          refine Sx.ser_nil ?_
          refine Sx.then_normal (hK19 _ _ ?_)
          clear hK19
          refine wp_seq_k fun K41 hK41 => ?_
          refine wp_seq_k fun K42 hK42 => ?_
          -- region 15 (extra.go:26)
          refine Sx.wp_text [(0, .take), (1, .take), (2, .take), (3, .run), (4, .take), (5, .take)] rfl ?_
          refine Sx.st_take hT rfl rfl rfl rfl (Sx.x_move hT rfl rfl) ?_
          clear hT; intro a hT
          refine Sx.st_take hT rfl rfl rfl rfl (Sx.x_move hT rfl rfl) ?_
          clear hT; intro a hT
          refine Sx.st_take hT rfl rfl rfl rfl (Sx.x_move hT rfl rfl) ?_
          clear hT; intro a hT
          refine Sx.st_call hT rfl rfl rfl rfl rfl Try.can12 rfl (nMove_no hn i k hi) ?_
          rintro _ w9 ⟨rfl, E⟩
          refine ⟨_, rfl, ?_⟩
          clear hT; intro a hT
          replace X := X.step E
          replace B1 := B1.ext_no E
          replace hn := hn.ext_no E
          replace hq := hq.ext_no E
          refine Sx.st_take hT rfl rfl rfl rfl (Sx.x_move hT rfl rfl) ?_
          clear hT; intro a hT
          refine Sx.st_take hT rfl rfl rfl rfl (Sx.x_neb hT rfl Try.underlying4 rfl rfl) ?_
          clear hT; intro a hT
          replace hT := hT.keep [101, 13, 12, 53, 0, 1, 2, 7, 9, 11] rfl
          refine Sx.ser_nil ?_
          refine Sx.then_normal (hK42 _ _ ?_)
          clear hK42
          -- cond 4
          refine Sx.wp_if hT rfl (fun hc43 => ?_) (fun hc43 => ?_)
          · exfalso
            try simp only [decide_eq_true_eq, decide_eq_false_iff_not, Bool.not_eq_true', Bool.not_eq_false', Bool.not_eq_true, Bool.not_eq_false, Bool.and_eq_true, Bool.or_eq_false_iff, beq_iff_eq, bne_iff_ne, Int.not_lt, Int.not_le, ne_eq] at hc43
            first | omega | simp at hc43
          · try simp only [decide_eq_true_eq, decide_eq_false_iff_not, Bool.not_eq_true', Bool.not_eq_false', Bool.not_eq_true, Bool.not_eq_false, Bool.and_eq_true, Bool.or_eq_false_iff, beq_iff_eq, bne_iff_ne, Int.not_lt, Int.not_le, ne_eq] at hc43
            refine wp_skip ?_
            refine Sx.then_normal (hK41 _ _ ?_)
            clear hK41
            refine wp_seq_k fun K44 hK44 => ?_
            refine wp_seq_k fun K45 hK45 => ?_
            -- region 17 (extra.go:29)
            refine Sx.wp_text [(0, .take), (1, .take)] rfl ?_
            refine Sx.st_take hT rfl rfl rfl rfl (Sx.x_move hT rfl rfl) ?_
            clear hT; intro a hT
            refine Sx.st_take hT rfl rfl rfl rfl (Sx.x_not hT rfl rfl) ?_
            clear hT; intro a hT
            replace hT := hT.keep [103, 101, 13, 12, 53, 0, 1, 2, 7, 9, 11] rfl
            refine Sx.ser_nil ?_
            refine Sx.then_normal (hK45 _ _ ?_)
            clear hK45
            refine Sx.wp_if hT rfl (fun _ => ?_) (fun h => by cases h)
            refine wp_seq_k fun K46 hK46 => ?_
            -- region 18 (extra.go:30)
            refine Sx.wp_text [(0, .run), (1, .take), (2, .take), (3, .run), (4, .take), (5, .run), (6, .take), (7, .take), (8, .take)] rfl ?_
            refine Sx.st_call hT rfl rfl rfl rfl rfl Try.can7 rfl (first_calls _) ?_
            rintro _ w10 ⟨rfl, E⟩
            refine ⟨_, rfl, ?_⟩
            clear hT; intro a hT
            replace X := X.step E
            replace B1 := B1.ext_no E
            replace hn := hn.ext_no E
            replace hq := hq.ext_no E
            refine Sx.st_take hT rfl rfl rfl rfl (Sx.x_move hT rfl rfl) ?_
            clear hT; intro a hT
            refine Sx.st_take hT rfl rfl rfl rfl (Sx.x_move hT rfl rfl) ?_
            clear hT; intro a hT
            refine Sx.st_call hT rfl rfl rfl rfl rfl Try.can13 rfl (nLen_calls hn) ?_
            rintro _ w11 ⟨rfl, E⟩
            refine ⟨_, rfl, ?_⟩
            clear hT; intro a hT
            replace X := X.step E
            replace B1 := B1.ext_no E
            replace hn := hn.ext_no E
            replace hq := hq.ext_no E
            refine Sx.st_take hT rfl rfl rfl rfl (Sx.x_move hT rfl rfl) ?_
            clear hT; intro a hT
            refine Sx.st_call hT rfl rfl rfl rfl rfl Try.can13 rfl (nLen_calls hq) ?_
            rintro _ w12 ⟨rfl, E⟩
            refine ⟨_, rfl, ?_⟩
            clear hT; intro a hT
            replace X := X.step E
            replace B1 := B1.ext_no E
            replace hn := hn.ext_no E
            replace hq := hq.ext_no E
            refine Sx.st_take hT rfl rfl rfl rfl ((fun w => Sx.x_eq w hT rfl rfl rfl)) ?_
            clear hT; intro a hT
            refine Sx.st_take hT rfl rfl rfl rfl (Sx.x_pick_t hT rfl rfl rfl) ?_
            clear hT; intro a hT
            refine Sx.st_take hT rfl rfl rfl rfl (Sx.x_assign hT rfl rfl) ?_
            clear hT; intro a hT
            replace hT := hT.keep [6, 103, 101, 13, 12, 53, 0, 1, 2, 7, 9, 11] rfl
            refine Sx.ser_nil ?_
            refine Sx.then_normal (hK46 _ _ ?_)
            clear hK46
            refine wp_ret ?_
            refine Sx.then_ret ?_
            refine Sx.done1 (fn := Try.f3) hT rfl (.tmp (hT.get 6 _ rfl)) ?_
            exact ⟨congrArg (fun b => Ending.returned (.bool b)) (by simp), X⟩

end Go.Proofs.Ytgcelppbbjokeaa
