/- The writes that make one list of pairs of another one, plainly. -/
import Derived.Test.YtpggijfpkgglmaaA7
set_option linter.unusedSimpArgs false
set_option linter.unusedVariables false
namespace Go.Proofs.Ytpggijfpkgglmaa
open Sx

/-! numbers that stand alike are alike -/
theorem rk_inj {v u : BitVec 64} (h : (if v.getLsbD 63 = false then v ||| BitVec.twoPow 64 63 else ~~~ v) = (if u.getLsbD 63 = false then u ||| BitVec.twoPow 64 63 else ~~~ u)) : v = u := by
  have hb : ∀ i, (if v.getLsbD 63 = false then v ||| BitVec.twoPow 64 63 else ~~~ v).getLsbD i = (if u.getLsbD 63 = false then u ||| BitVec.twoPow 64 63 else ~~~ u).getLsbD i := fun i => by rw [h]
  by_cases hv : v.getLsbD 63 = false
  · by_cases hu : u.getLsbD 63 = false
    · refine BitVec.eq_of_getLsbD_eq fun i hi => ?_
      by_cases h3 : i = 63
      · rw [h3, hv, hu]
      · have h4 := hb i
        rw [if_pos hv, if_pos hu, BitVec.getLsbD_or, BitVec.getLsbD_or, BitVec.getLsbD_twoPow] at h4
        simpa [Ne.symm h3] using h4
    · exfalso
      have h4 := hb 63
      rw [if_pos hv, if_neg hu, BitVec.getLsbD_or, BitVec.getLsbD_twoPow, BitVec.getLsbD_not] at h4
      simp [hv] at h4
      exact hu h4
  · by_cases hu : u.getLsbD 63 = false
    · exfalso
      have h4 := hb 63
      rw [if_neg hv, if_pos hu, BitVec.getLsbD_or, BitVec.getLsbD_twoPow, BitVec.getLsbD_not] at h4
      simp [hu] at h4
      exact hv h4
    · rw [if_neg hv, if_neg hu] at h
      have h5 := congrArg (fun x => ~~~ x) h
      simpa using h5
theorem bvw (v : BitVec 64) : IntKind.u64.wrap (v.toNat : Int) = (v.toNat : Int) := Sx.wrap_u64 (Int.natCast_nonneg _) (by have := v.isLt; omega)
theorem rank_bv (b : Nat) : rank b = (((if (BitVec.ofNat 64 (fcan b)).getLsbD 63 = false then BitVec.ofNat 64 (fcan b) ||| BitVec.twoPow 64 63 else ~~~ BitVec.ofNat 64 (fcan b)).toNat : Nat) : Int) := by
  have e1 : BitVec.ofInt 64 sgn = BitVec.twoPow 64 63 := by decide
  have e2 : BitVec.ofInt 64 18446744073709551615 = BitVec.allOnes 64 := by decide
  have e3 : BitVec.ofInt 64 ((fcan b : Nat) : Int) = BitVec.ofNat 64 (fcan b) := BitVec.ofInt_natCast ..
  unfold rank uand uor uxor
  rw [e1, e2, e3, bvw, bvw, bvw]
  have e4 : BitVec.allOnes 64 ^^^ BitVec.ofNat 64 (fcan b) = ~~~ BitVec.ofNat 64 (fcan b) := by rw [BitVec.xor_comm, BitVec.xor_allOnes]
  rw [e4]
  have e5 : ((((BitVec.ofNat 64 (fcan b) &&& BitVec.twoPow 64 63).toNat : Nat) : Int) = 0) = ((BitVec.ofNat 64 (fcan b)).getLsbD 63 = false) := by
    rw [BitVec.and_twoPow]
    by_cases h : (BitVec.ofNat 64 (fcan b)).getLsbD 63 = false
    · rw [h]
      simp
    · rw [Bool.not_eq_false] at h
      rw [h]
      simp
  simp only [e5]
  split <;> rfl
theorem rank_inj {b c : Nat} (h : rank b = rank c) (hb : fcan b < 2 ^ 64) (hc : fcan c < 2 ^ 64) : fcan b = fcan c := by
  rw [rank_bv, rank_bv] at h
  have h1 := rk_inj (BitVec.eq_of_toNat_eq (Int.ofNat.inj h))
  have h2 := congrArg BitVec.toNat h1
  rw [BitVec.toNat_ofNat, BitVec.toNat_ofNat, Nat.mod_eq_of_lt hb, Nat.mod_eq_of_lt hc] at h2
  exact h2
theorem same_eq {x y : Vl} (h : sameV x y = true) (hx : x.num < 2 ^ 64) (hy : y.num < 2 ^ 64) : x = y := by
  unfold sameV at h
  simp only [Bool.and_eq_true, decide_eq_true_eq] at h
  obtain ⟨⟨mx, my⟩, hc⟩ := h
  unfold cmpD at hc
  rw [if_neg (by rw [mx, my]; decide)] at hc
  by_cases h3 : x.k < y.k
  · rw [if_pos h3] at hc; cases hc
  by_cases h4 : y.k < x.k
  · rw [if_neg h3, if_pos h4] at hc; cases hc
  have hk : x.k = y.k := by omega
  rw [if_neg h3, if_neg h4] at hc
  obtain ⟨k1, n1, t1⟩ := x
  obtain ⟨k2, n2, t2⟩ := y
  dsimp only at *
  subst hk
  unfold mayV at mx my
  dsimp only at mx my
  by_cases h0 : k1 = 0
  · rw [if_pos h0] at mx my
    simp only [Bool.and_eq_true, decide_eq_true_eq] at mx my
    rw [mx.1, mx.2, my.1, my.2]
  rw [if_neg h0] at mx my
  by_cases h1 : k1 = 1
  · rw [if_pos h1] at mx my hc
    simp only [Bool.and_eq_true, decide_eq_true_eq] at mx my
    have h9 : rank n1 = rank n2 := (ord_tri _ _).2.1.1 hc
    have h8 := rank_inj h9 (by rw [← mx.2]; exact hx) (by rw [← my.2]; exact hy)
    rw [← mx.2, ← my.2] at h8
    rw [h8, mx.1, my.1]
  rw [if_neg h1] at mx my hc
  by_cases h2 : k1 = 2
  · rw [if_pos h2] at mx my
    simp only [Bool.and_eq_true, decide_eq_true_eq] at mx my
    by_cases h5 : slt t1 t2
    · rw [if_pos h5] at hc; cases hc
    by_cases h6 : slt t2 t1
    · rw [if_neg h5, if_pos h6] at hc; cases hc
    rcases slt_tot t1 t2 with h7 | h7 | h7
    · exact absurd h7 h5
    · rw [h7, mx.1, my.1]
    · exact absurd h7 h6
  · rw [if_neg h2] at mx
    cases mx
/-! the writes that make b of a -/
def chgF : List Wt → List Wt → List Wt
  | [], [] => []
  | x :: a, [] => ⟨x.key, vz⟩ :: chgF a []
  | [], y :: b => y :: chgF [] b
  | x :: a, y :: b =>
    if slt x.key y.key then ⟨x.key, vz⟩ :: chgF a (y :: b)
    else if slt y.key x.key then y :: chgF (x :: a) b
    else if sameV x.v y.v = true then chgF a b else y :: chgF a b
  termination_by a b => a.length + b.length
theorem chg_len : ∀ a b : List Wt, (chgF a b).length ≤ a.length + b.length
  | [], [] => by unfold chgF; exact Nat.le_refl _
  | x :: a, [] => by
    unfold chgF
    have := chg_len a []
    simp only [List.length_cons, List.length_nil] at *
    omega
  | [], y :: b => by
    unfold chgF
    have := chg_len [] b
    simp only [List.length_cons, List.length_nil] at *
    omega
  | x :: a, y :: b => by
    unfold chgF
    have h1 := chg_len a (y :: b)
    have h2 := chg_len (x :: a) b
    have h3 := chg_len a b
    split
    · simp only [List.length_cons] at *; omega
    · split
      · simp only [List.length_cons] at *; omega
      · split
        · simp only [List.length_cons] at *; omega
        · simp only [List.length_cons] at *; omega
  termination_by a b => a.length + b.length
theorem chg_key : ∀ (a b : List Wt) (z : Wt), z ∈ chgF a b → (∃ x ∈ a, x.key = z.key) ∨ (∃ y ∈ b, y.key = z.key)
  | [], [], z, h => by unfold chgF at h; cases h
  | x :: a, [], z, h => by
    unfold chgF at h
    rcases List.mem_cons.1 h with rfl | h
    · exact .inl ⟨x, List.mem_cons_self, rfl⟩
    · rcases chg_key a [] z h with ⟨q, hq, he⟩ | ⟨q, hq, -⟩
      · exact .inl ⟨q, List.mem_cons_of_mem _ hq, he⟩
      · cases hq
  | [], y :: b, z, h => by
    unfold chgF at h
    rcases List.mem_cons.1 h with rfl | h
    · exact .inr ⟨z, List.mem_cons_self, rfl⟩
    · rcases chg_key [] b z h with ⟨q, hq, -⟩ | ⟨q, hq, he⟩
      · cases hq
      · exact .inr ⟨q, List.mem_cons_of_mem _ hq, he⟩
  | x :: a, y :: b, z, h => by
    have up : ∀ {c d : List Wt}, (∃ q ∈ c, q.key = z.key) ∨ (∃ q ∈ d, q.key = z.key) → (∀ q ∈ c, q ∈ x :: a) → (∀ q ∈ d, q ∈ y :: b) → (∃ q ∈ x :: a, q.key = z.key) ∨ (∃ q ∈ y :: b, q.key = z.key) := by
      rintro c d (⟨q, hq, he⟩ | ⟨q, hq, he⟩) h1 h2
      · exact .inl ⟨q, h1 q hq, he⟩
      · exact .inr ⟨q, h2 q hq, he⟩
    unfold chgF at h
    split at h
    · rcases List.mem_cons.1 h with rfl | h
      · exact .inl ⟨x, List.mem_cons_self, rfl⟩
      · exact up (chg_key a (y :: b) z h) (fun q hq => List.mem_cons_of_mem _ hq) (fun q hq => hq)
    · split at h
      · rcases List.mem_cons.1 h with rfl | h
        · exact .inr ⟨z, List.mem_cons_self, rfl⟩
        · exact up (chg_key (x :: a) b z h) (fun q hq => hq) (fun q hq => List.mem_cons_of_mem _ hq)
      · split at h
        · exact up (chg_key a b z h) (fun q hq => List.mem_cons_of_mem _ hq) (fun q hq => List.mem_cons_of_mem _ hq)
        · rcases List.mem_cons.1 h with rfl | h
          · exact .inr ⟨z, List.mem_cons_self, rfl⟩
          · exact up (chg_key a b z h) (fun q hq => List.mem_cons_of_mem _ hq) (fun q hq => List.mem_cons_of_mem _ hq)
  termination_by a b => a.length + b.length
def Abv (k : Key) (L : List Wt) : Prop := ∀ z ∈ L, slt k z.key
theorem abv_none {k : Key} {L : List Wt} (h : Abv k L) : gtK slit Wt.key L k = none := sO.get_of_none fun y hy => (sO.ne (h y hy)).symm
theorem abv_chg {k : Key} {a b : List Wt} (ha : Abv k a) (hb : Abv k b) : Abv k (chgF a b) := fun z hz => by
  rcases chg_key a b z hz with ⟨q, hq, he⟩ | ⟨q, hq, he⟩
  · rw [← he]; exact ha q hq
  · rw [← he]; exact hb q hq
theorem abv_lt {k k2 : Key} {L : List Wt} (h : slt k k2) (hL : Abv k2 L) : Abv k L := fun z hz => slt_tr h (hL z hz)
theorem abv_cons {k : Key} {x : Wt} {L : List Wt} (h : slt k x.key) (hL : Abv x.key L) : Abv k (x :: L) := fun z hz => by
  rcases List.mem_cons.1 hz with rfl | hz
  · exact h
  · exact slt_tr h (hL z hz)
/-- what a key becomes -/
def becomes (p q : Option Wt) : Option Wt := match p, q with
  | none, none => none
  | some x, none => some ⟨x.key, vz⟩
  | none, some y => some y
  | some x, some y => if sameV x.v y.v = true then none else some y
theorem chg_srt_get : ∀ (a b : List Wt), SrtK slt Wt.key a → SrtK slt Wt.key b → SrtK slt Wt.key (chgF a b) ∧ ∀ k, gtK slit Wt.key (chgF a b) k = becomes (gtK slit Wt.key a k) (gtK slit Wt.key b k)
  | [], [], _, _ => by unfold chgF; exact ⟨List.Pairwise.nil, fun k => rfl⟩
  | x :: a, [], ha, hb => by
    have hc := List.pairwise_cons.1 ha
    obtain ⟨ih1, ih2⟩ := chg_srt_get a [] hc.2 hb
    unfold chgF
    refine ⟨List.pairwise_cons.2 ⟨abv_chg hc.1 (fun z hz => by cases hz), ih1⟩, fun k => ?_⟩
    rw [sO.get_cons, sO.get_cons]
    by_cases hk : x.key = k
    · rw [if_pos hk, if_pos hk]; rfl
    · rw [if_neg hk, if_neg hk, ih2]
  | [], y :: b, ha, hb => by
    have hc := List.pairwise_cons.1 hb
    obtain ⟨ih1, ih2⟩ := chg_srt_get [] b ha hc.2
    unfold chgF
    refine ⟨List.pairwise_cons.2 ⟨abv_chg (fun z hz => by cases hz) hc.1, ih1⟩, fun k => ?_⟩
    rw [sO.get_cons, sO.get_cons]
    by_cases hk : y.key = k
    · rw [if_pos hk, if_pos hk]; rfl
    · rw [if_neg hk, if_neg hk, ih2]
  | x :: a, y :: b, ha, hb => by
    have hca := List.pairwise_cons.1 ha
    have hcb := List.pairwise_cons.1 hb
    unfold chgF
    by_cases h1 : slt x.key y.key
    · rw [if_pos h1]
      obtain ⟨ih1, ih2⟩ := chg_srt_get a (y :: b) hca.2 hb
      have hyb : Abv x.key (y :: b) := abv_cons h1 hcb.1
      refine ⟨List.pairwise_cons.2 ⟨abv_chg hca.1 hyb, ih1⟩, fun k => ?_⟩
      rw [sO.get_cons (L := chgF a (y :: b)), sO.get_cons (L := a)]
      by_cases hk : x.key = k
      · rw [if_pos hk, if_pos hk, ← hk, abv_none hyb]; rfl
      · rw [if_neg hk, if_neg hk, ih2]
    · rw [if_neg h1]
      by_cases h2 : slt y.key x.key
      · rw [if_pos h2]
        obtain ⟨ih1, ih2⟩ := chg_srt_get (x :: a) b ha hcb.2
        have hxa : Abv y.key (x :: a) := abv_cons h2 hca.1
        refine ⟨List.pairwise_cons.2 ⟨abv_chg hxa hcb.1, ih1⟩, fun k => ?_⟩
        rw [sO.get_cons (L := chgF (x :: a) b), sO.get_cons (L := b)]
        by_cases hk : y.key = k
        · rw [if_pos hk, if_pos hk, ← hk, abv_none hxa]; rfl
        · rw [if_neg hk, if_neg hk, ih2]
      · rw [if_neg h2]
        obtain ⟨ih1, ih2⟩ := chg_srt_get a b hca.2 hcb.2
        have he : x.key = y.key := by
          rcases slt_tot x.key y.key with h | h | h
          · exact absurd h h1
          · exact h
          · exact absurd h h2
        have ha' : Abv x.key (chgF a b) := abv_chg hca.1 (by rw [he]; exact hcb.1)
        by_cases h3 : sameV x.v y.v = true
        · rw [if_pos h3]
          refine ⟨ih1, fun k => ?_⟩
          rw [sO.get_cons (L := a), sO.get_cons (L := b)]
          by_cases hk : x.key = k
          · rw [if_pos hk, if_pos (by rw [← he]; exact hk), ← hk, abv_none ha']
            show none = if sameV x.v y.v = true then none else some y
            rw [if_pos h3]
          · rw [if_neg hk, if_neg (by rw [← he]; exact hk), ih2]
        · rw [if_neg h3]
          refine ⟨List.pairwise_cons.2 ⟨by rw [← he]; exact ha', ih1⟩, fun k => ?_⟩
          rw [sO.get_cons (L := chgF a b), sO.get_cons (L := a), sO.get_cons (L := b)]
          by_cases hk : x.key = k
          · have hk2 : y.key = k := by rw [← he]; exact hk
            simp only [if_pos hk, if_pos hk2]
            show some y = if sameV x.v y.v = true then none else some y
            rw [if_neg h3]
          · have hk2 : ¬ y.key = k := by rw [← he]; exact hk
            simp only [if_neg hk, if_neg hk2]
            exact ih2 k
  termination_by a b => a.length + b.length
theorem gtv_get {L : List Wt} {k : Key} {x : Wt} (h : gtK slit Wt.key L k = some x) : gtv L k = x.v := by unfold gtv; rw [h]; rfl
theorem gtv_no {L : List Wt} {k : Key} (h : gtK slit Wt.key L k = none) : gtv L k = vz := by unfold gtv; rw [h]; rfl
structure FullP (L : List Wt) : Prop where
  srt : SrtK slt Wt.key L
  may : ∀ x ∈ L, mayV x.v = true ∧ x.v.k ≠ 0
  num : ∀ x ∈ L, x.v.num < 2 ^ 64
theorem same_kinds {x y : Vl} (h : sameV x y = true) : x.k = y.k := by
  unfold sameV at h
  simp only [Bool.and_eq_true, decide_eq_true_eq] at h
  obtain ⟨⟨mx, my⟩, hc⟩ := h
  unfold cmpD at hc
  rw [if_neg (by rw [mx, my]; decide)] at hc
  by_cases h3 : x.k < y.k
  · rw [if_pos h3] at hc; cases hc
  by_cases h4 : y.k < x.k
  · rw [if_neg h3, if_pos h4] at hc; cases hc
  omega
/-- a change changes -/
theorem chg_new {a b : List Wt} (ha : FullP a) (hb : FullP b) {w : Wt} (hw : w ∈ chgF a b) : sameV (gtv a w.key) w.v = false := by
  obtain ⟨hs, hg⟩ := chg_srt_get a b ha.srt hb.srt
  have h1 := sO.get_mem hs hw
  rw [hg] at h1
  cases h2 : gtK slit Wt.key a w.key with
  | none =>
    rw [gtv_no h2]
    rw [h2] at h1
    cases h3 : gtK slit Wt.key b w.key with
    | none => rw [h3] at h1; cases h1
    | some y =>
      rw [h3] at h1
      have h4 : y = w := Option.some.inj h1
      subst h4
      cases h9 : sameV vz y.v with
      | false => rfl
      | true => exact absurd (same_kinds h9).symm (hb.may y (sO.get_some h3).1).2
  | some x =>
    rw [gtv_get h2]
    rw [h2] at h1
    cases h3 : gtK slit Wt.key b w.key with
    | none =>
      rw [h3] at h1
      have h4 : (⟨x.key, vz⟩ : Wt) = w := Option.some.inj h1
      subst h4
      cases h9 : sameV x.v vz with
      | false => rfl
      | true => exact absurd (same_kinds h9) (ha.may x (sO.get_some h2).1).2
    | some y =>
      rw [h3] at h1
      have h4 : (if sameV x.v y.v = true then none else some y) = some w := h1
      by_cases h5 : sameV x.v y.v = true
      · rw [if_pos h5] at h4; cases h4
      · rw [if_neg h5] at h4
        cases h4
        simpa using h5
/-- writes of rising keys, one behind the other -/
theorem fold_get : ∀ {W L : List Wt} (k : Key), SrtK slt Wt.key W → gtK slit Wt.key (W.foldl putV L) k = match gtK slit Wt.key W k with | none => gtK slit Wt.key L k | some w => if w.v.k = 0 then none else some w
  | [], L, k, _ => rfl
  | x :: W, L, k, h => by
    have hc := List.pairwise_cons.1 h
    rw [List.foldl_cons, fold_get k hc.2, sO.get_cons]
    have hp : gtK slit Wt.key (putV L x) k = if x.key = k then (if x.v.k = 0 then none else some x) else gtK slit Wt.key L k := by
      unfold putV
      by_cases hk : x.v.k = 0
      · rw [if_pos hk, sO.get_del]
        by_cases he : x.key = k
        · rw [if_pos he, if_pos he.symm, if_pos hk]
        · rw [if_neg he, if_neg (Ne.symm he)]
      · rw [if_neg hk, sO.get_put]
        by_cases he : x.key = k
        · rw [if_pos he, if_pos he, if_neg hk]
        · rw [if_neg he, if_neg he]
    by_cases he : x.key = k
    · rw [if_pos he, ← he, abv_none hc.1]
      dsimp only
      rw [he, hp, if_pos he]
    · rw [if_neg he]
      cases gtK slit Wt.key W k with
      | none => dsimp only; rw [hp, if_neg he]
      | some w => rfl
theorem fold_srt : ∀ {W L : List Wt}, SrtK slt Wt.key L → SrtK slt Wt.key (W.foldl putV L)
  | [], _, h => h
  | x :: W, _, h => fold_srt (W := W) (putV_srt x h)
theorem chg_makes {a b : List Wt} (ha : FullP a) (hb : FullP b) : (chgF a b).foldl putV a = b := by
  obtain ⟨hs, hg⟩ := chg_srt_get a b ha.srt hb.srt
  refine sO.ext (fold_srt ha.srt) hb.srt fun k => ?_
  rw [fold_get k hs, hg]
  cases h2 : gtK slit Wt.key a k with
  | none =>
    cases h3 : gtK slit Wt.key b k with
    | none => rfl
    | some y =>
      show (if y.v.k = 0 then none else some y) = some y
      rw [if_neg (hb.may y (sO.get_some h3).1).2]
  | some x =>
    cases h3 : gtK slit Wt.key b k with
    | none => rfl
    | some y =>
      show (match (if sameV x.v y.v = true then none else some y) with | none => some x | some w => if w.v.k = 0 then none else some w) = some y
      by_cases h5 : sameV x.v y.v = true
      · rw [if_pos h5]
        have h6 := same_eq h5 (ha.num x (sO.get_some h2).1) (hb.num y (sO.get_some h3).1)
        have h7 : x = y := by
          obtain ⟨k1, v1⟩ := x
          obtain ⟨k2, v2⟩ := y
          have e1 : k1 = k := (sO.get_some h2).2
          have e2 : k2 = k := (sO.get_some h3).2
          dsimp only at h6
          rw [e1, e2, h6]
        rw [h7]
      · rw [if_neg h5]
        dsimp only
        rw [if_neg (hb.may y (sO.get_some h3).1).2]
theorem chg_self {a : List Wt} (ha : FullP a) : chgF a a = [] := by
  obtain ⟨hs, hg⟩ := chg_srt_get a a ha.srt ha.srt
  refine List.eq_nil_iff_forall_not_mem.2 fun w hw => ?_
  have h1 := sO.get_mem hs hw
  rw [hg] at h1
  cases h2 : gtK slit Wt.key a w.key with
  | none => rw [h2] at h1; cases h1
  | some x =>
    rw [h2] at h1
    have h4 : (if sameV x.v x.v = true then none else some x) = some w := h1
    rw [if_pos (sameV_self (ha.may x (sO.get_some h2).1).1)] at h4
    cases h4
theorem foldV_len : ∀ (W L : List Wt), (W.foldl putV L).length ≤ L.length + W.length
  | [], L => Nat.le_refl _
  | x :: W, L => by
    have h1 := foldV_len W (putV L x)
    have h2 := putV_len L x
    rw [List.foldl_cons, List.length_cons]
    omega

end Go.Proofs.Ytpggijfpkgglmaa
