/- What is learnt, in whatever order, plainly. -/
import Derived.Test.YtakohabmcgponaaW8
set_option linter.unusedSimpArgs false
set_option linter.unusedVariables false
namespace Go.Proofs.Ytakohabmcgponaa
open Sx

/-! what a directory holds, id by id -/
theorem gt_ins {r : Rg} {L : List Rg} (hn : ∀ y ∈ L, y.id ≠ r.id) (i : Int) : gt (insT Rg.key r L) i = if r.id = i then some r else gt L i := by
  unfold gt getT
  induction L with
  | nil =>
    simp only [insT, List.find?_cons, List.find?_nil]
    by_cases h : r.id = i
    · rw [if_pos h]; simp [Rg.key, Lit.sameKey, h]
    · rw [if_neg h]; simp [Rg.key, Lit.sameKey, h]
  | cons y t ih =>
    have ih := ih fun z hz => hn z (List.mem_cons_of_mem _ hz)
    have hy := hn y List.mem_cons_self
    unfold insT
    split
    · simp only [List.find?_cons]
      by_cases h : r.id = i
      · rw [if_pos h]; simp [Rg.key, Lit.sameKey, h]
      · rw [if_neg h]; simp [Rg.key, Lit.sameKey, h]
    · simp only [List.find?_cons]
      by_cases h : y.id = i
      · have : ¬ r.id = i := fun h2 => hy (by omega)
        rw [if_neg this]
        simp [Rg.key, Lit.sameKey, h]
      · have e : y.key.sameKey (.int .i64 i) = false := by simp [Rg.key, Lit.sameKey, h]
        rw [e]
        exact ih
theorem gt_fil {r : Rg} {L : List Rg} {i : Int} (h : r.id ≠ i) : gt (L.filter fun y => !y.key.sameKey r.key) i = gt L i := by
  unfold gt getT
  induction L with
  | nil => rfl
  | cons y t ih =>
    rw [List.filter_cons]
    by_cases hy : y.id = r.id
    · have e : (!y.key.sameKey r.key) = false := by rw [same_iff, decide_eq_true hy]; rfl
      rw [e]
      simp only [Bool.false_eq_true, if_false]
      rw [ih, List.find?_cons_of_neg]
      simp [Rg.key, Lit.sameKey]; omega
    · have e : (!y.key.sameKey r.key) = true := by rw [same_iff, decide_eq_false hy]; rfl
      rw [e]
      simp only [if_true, List.find?_cons]
      cases y.key.sameKey (.int .i64 i)
      · exact ih
      · rfl
theorem gt_pt (r : Rg) (L : List Rg) (i : Int) : gt (pt r L) i = if r.id = i then some r else gt L i := by
  unfold pt putT
  rw [gt_ins (fun y hy => by
    have := (List.mem_filter.1 hy).2
    rw [same_iff] at this
    simpa using this)]
  by_cases h : r.id = i
  · rw [if_pos h, if_pos h]
  · rw [if_neg h, if_neg h, gt_fil h]
/-- the later of two -/
def jn (o : Option Rg) (r : Rg) : Option Rg := match o with
  | some q => if r.epoch ≤ q.epoch then o else some r
  | none => some r
/-- one range, at an id -/
def up (i : Int) (o : Option Rg) (r : Rg) : Option Rg := if mayR r = true ∧ r.id = i then jn o r else o
theorem jn_some (q r : Rg) : jn (some q) r = if r.epoch ≤ q.epoch then some q else some r := rfl
theorem jn_comm {a b : Rg} (he : a.epoch ≠ b.epoch) (o : Option Rg) : jn (jn o a) b = jn (jn o b) a := by
  cases o with
  | none =>
    show jn (some a) b = jn (some b) a
    rw [jn_some, jn_some]
    by_cases h : b.epoch ≤ a.epoch
    · rw [if_pos h, if_neg (by omega)]
    · rw [if_neg h, if_pos (by omega)]
  | some q =>
    rw [jn_some, jn_some]
    by_cases h1 : a.epoch ≤ q.epoch <;> by_cases h2 : b.epoch ≤ q.epoch
    · rw [if_pos h1, if_pos h2, jn_some, jn_some, if_pos h1, if_pos h2]
    · rw [if_pos h1, if_neg h2, jn_some, jn_some, if_neg h2, if_pos (by omega)]
    · rw [if_neg h1, if_pos h2, jn_some, jn_some, if_pos (by omega), if_neg h1]
    · rw [if_neg h1, if_neg h2, jn_some, jn_some]
      by_cases h : b.epoch ≤ a.epoch
      · rw [if_pos h, if_neg (by omega)]
      · rw [if_neg h, if_pos (by omega)]
theorem gt_learn1 (s : List Rg × Nat) (r : Rg) (i : Int) : gt (learn1 s r).1 i = up i (gt s.1 i) r := by
  unfold learn1 up jn
  by_cases hm : mayR r = true
  · rw [if_pos hm]
    by_cases hi : r.id = i
    · rw [if_pos ⟨hm, hi⟩, ← hi]
      cases hg : gt s.1 r.id with
      | none => dsimp only; rw [gt_pt, if_pos rfl]
      | some q =>
        dsimp only
        split
        · rw [hg]
        · dsimp only; rw [gt_pt, if_pos rfl]
    · rw [if_neg (fun h => hi h.2)]
      split
      · split
        · rfl
        · dsimp only; rw [gt_pt, if_neg hi]
      · dsimp only; rw [gt_pt, if_neg hi]
  · rw [if_neg hm, if_neg (fun h => hm h.1)]
theorem gt_fold (i : Int) : ∀ (l : List Rg) (s : List Rg × Nat), gt (l.foldl learn1 s).1 i = l.foldl (up i) (gt s.1 i)
  | [], s => rfl
  | r :: l, s => by rw [List.foldl_cons, List.foldl_cons, gt_fold i l, gt_learn1]
theorem gt_ge {i : Int} {o : Option Rg} {r q : Rg} (h : up i o r = some q) (hm : mayR r = true) (hi : r.id = i) : r.epoch ≤ q.epoch := by
  unfold up jn at h
  rw [if_pos ⟨hm, hi⟩] at h
  split at h
  · split at h
    · cases h; assumption
    · cases h; exact Int.le_refl _
  · cases h; exact Int.le_refl _
theorem up_mono {i : Int} {o : Option Rg} {r q : Rg} (h : o = some q) : ∃ p, up i o r = some p ∧ q.epoch ≤ p.epoch := by
  subst h
  unfold up jn
  split
  · dsimp only
    split
    · exact ⟨q, rfl, Int.le_refl _⟩
    · exact ⟨r, rfl, by omega⟩
  · exact ⟨q, rfl, Int.le_refl _⟩
theorem up_comm {i : Int} {a b : Rg} (h : a.id = b.id → a.epoch = b.epoch → a = b) (o : Option Rg) : up i (up i o a) b = up i (up i o b) a := by
  unfold up
  by_cases ha : mayR a = true ∧ a.id = i
  · by_cases hb : mayR b = true ∧ b.id = i
    · rw [if_pos ha, if_pos ha, if_pos hb, if_pos hb]
      by_cases he : a.epoch = b.epoch
      · have := h (by omega) he
        subst this
        rfl
      · exact jn_comm he o
    · rw [if_neg hb, if_neg hb]
  · rw [if_neg ha, if_neg ha]
/-- two directories in their order that hold the same at each id are one -/
theorem srt_ext : ∀ {L M : List Rg}, Srt L → Srt M → (∀ i, gt L i = gt M i) → L = M
  | L, M, hL, hM, h => by
    have mem : ∀ {A B : List Rg}, Srt A → Srt B → (∀ i, gt A i = gt B i) → ∀ r ∈ A, r ∈ B := fun {A B} hA hB hAB r hr => by
      obtain ⟨k, hk⟩ := List.mem_iff_getElem?.1 hr
      have h1 := gt_srt hA hk
      rw [hAB] at h1
      exact List.mem_of_find?_eq_some h1
    have nd : ∀ {A : List Rg}, Srt A → A.Nodup := fun {A} hA => hA.imp fun {a b} hab => fun e => by subst e; omega
    have hp : L.Perm M := (List.perm_ext_iff_of_nodup (nd hL) (nd hM)).2 fun r => ⟨mem hL hM h r, mem hM hL (fun i => (h i).symm) r⟩
    exact hp.eq_of_pairwise (fun a b _ _ h1 h2 => by omega) hL hM
theorem learn_turned {L l : List Rg} (hL : Srt L) (h : ∀ a ∈ l, ∀ b ∈ l, a.id = b.id → a.epoch = b.epoch → a = b) : (learnR L l).1 = (learnR L l.reverse).1 := by
  refine srt_ext (learn_srt l hL) (learn_srt _ hL) fun i => ?_
  unfold learnR
  rw [gt_fold, gt_fold]
  exact (List.reverse_perm l).symm.foldl_eq' (fun x hx y hy z => up_comm (h x hx y hy) z) _
theorem fold_mono {i : Int} : ∀ (l : List Rg) {o : Option Rg} {q : Rg}, o = some q → ∃ p, l.foldl (up i) o = some p ∧ q.epoch ≤ p.epoch
  | [], o, q, h => ⟨q, h, Int.le_refl _⟩
  | r :: l, o, q, h => by
    obtain ⟨p, h1, h2⟩ := up_mono (i := i) (r := r) h
    obtain ⟨p2, h3, h4⟩ := fold_mono l h1
    exact ⟨p2, h3, Int.le_trans h2 h4⟩
theorem fold_ge {i : Int} : ∀ (l : List Rg) (o : Option Rg) {r : Rg}, r ∈ l → mayR r = true → r.id = i → ∃ q, l.foldl (up i) o = some q ∧ r.epoch ≤ q.epoch
  | [], _, r, h, _, _ => by simp at h
  | x :: l, o, r, h, hm, hi => by
    rw [List.foldl_cons]
    rcases List.mem_cons.1 h with rfl | h
    · have : ∃ q, up i o r = some q := by
        unfold up jn
        rw [if_pos ⟨hm, hi⟩]
        split
        · split
          · exact ⟨_, rfl⟩
          · exact ⟨_, rfl⟩
        · exact ⟨_, rfl⟩
      obtain ⟨q, hq⟩ := this
      obtain ⟨p, h1, h2⟩ := fold_mono l hq
      exact ⟨p, h1, Int.le_trans (gt_ge hq hm hi) h2⟩
    · exact fold_ge l _ h hm hi
theorem learn_idle {L : List Rg} {c : Nat} : ∀ {l : List Rg}, (∀ r ∈ l, mayR r = true → ∃ q, gt L r.id = some q ∧ r.epoch ≤ q.epoch) → l.foldl learn1 (L, c) = (L, c)
  | [], _ => rfl
  | r :: l, h => by
    have e : learn1 (L, c) r = (L, c) := by
      unfold learn1
      split
      · rename_i hm
        obtain ⟨q, hq, hle⟩ := h r List.mem_cons_self hm
        dsimp only
        rw [hq]
        dsimp only
        rw [if_pos hle]
      · rfl
    rw [List.foldl_cons, e]
    exact learn_idle fun x hx => h x (List.mem_cons_of_mem _ hx)
theorem learn_again (L l : List Rg) : learnR (learnR L l).1 l = ((learnR L l).1, 0) := by
  unfold learnR
  refine learn_idle fun r hr hm => ?_
  rw [gt_fold]
  exact fold_ge l _ hr hm rfl
theorem learn_count : ∀ (l : List Rg) (s : List Rg × Nat), (l.foldl learn1 s).2 ≤ s.2 + l.length
  | [], s => Nat.le_refl _
  | r :: l, s => by
    have h1 := learn_count l (learn1 s r)
    have h2 : (learn1 s r).2 ≤ s.2 + 1 := by
      unfold learn1
      split
      · split
        · split <;> simp
        · simp
      · simp
    rw [List.foldl_cons, List.length_cons]
    omega
theorem even_ok {m : Nat} (h1 : 1 ≤ m) (h2 : m ≤ 12) : checkF (evenF m m) = 0 := by
  have h : ∀ m : Fin 13, 1 ≤ m.val → checkF (evenF m.val m.val) = 0 := by decide +kernel
  exact h ⟨m, by omega⟩ h1
theorem even_len (m k : Nat) : (evenF m k).length = k := by unfold evenF; simp
theorem even_wf {m : Nat} (h1 : 1 ≤ m) (h2 : m ≤ 12) : ∀ r ∈ evenF m m, r.wf := by
  have h : ∀ m : Fin 13, 1 ≤ m.val → ∀ r ∈ evenF m.val m.val, r.wf := by unfold Rg.wf; decide +kernel
  exact h ⟨m, by omega⟩ h1

end Go.Proofs.Ytakohabmcgponaa
