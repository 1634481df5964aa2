/- A store that is loaded, plainly. -/
import Derived.Test.YtpnfpndhdnmhkaaGreatK1
set_option linter.unusedSimpArgs false
set_option linter.unusedVariables false
namespace Go.Proofs.YtpnfpndhdnmhkaaGreat
open Sx
/-! a store that is loaded -/
def verOk : Stp → List Vr → Bool
  | _, [] => true
  | a, v :: r => mayS v.s && decide (ltS a v.s) && mayV v.v && verOk v.s r
def lastS (a : Stp) (l : List Vr) : Stp := l.foldl (fun _ v => v.s) a
theorem ver_snoc (v : Vr) : ∀ (l : List Vr) (a : Stp), verOk a (l ++ [v]) = (verOk a l && (mayS v.s && decide (ltS (lastS a l) v.s) && mayV v.v))
  | [], a => by show (_ && _ && _ && true) = (true && _); rw [Bool.and_true, Bool.true_and]; rfl
  | x :: l, a => by
    show (mayS x.s && decide (ltS a x.s) && mayV x.v && verOk x.s (l ++ [v])) = (mayS x.s && decide (ltS a x.s) && mayV x.v && verOk x.s l && _)
    rw [ver_snoc v l x.s, Bool.and_assoc (_ && _ && _)]
    rfl
theorem lastS_snoc (a : Stp) (l : List Vr) (v : Vr) : lastS a (l ++ [v]) = v.s := by unfold lastS; rw [List.foldl_append]; rfl
theorem ver_pre : ∀ {l m : List Vr} {a : Stp}, verOk a (l ++ m) = true → verOk a l = true
  | [], _, _, _ => rfl
  | x :: l, m, a, h => by
    have h : (mayS x.s && decide (ltS a x.s) && mayV x.v && verOk x.s (l ++ m)) = true := h
    rw [Bool.and_eq_true] at h
    show (_ && verOk x.s l) = true
    rw [h.1, ver_pre h.2]
    rfl
def histB (h : Hy) (a : Key) : Bool := keyB h.key && decide (slt a h.key) && decide (h.vs ≠ []) && verOk sz0 h.vs
def hsOk : Key → List Hy → Bool
  | _, [] => true
  | a, h :: r => histB h a && hsOk h.key r
def lastK (a : Key) (l : List Hy) : Key := l.foldl (fun _ h => h.key) a
theorem hs_snoc (h : Hy) : ∀ (l : List Hy) (a : Key), hsOk a (l ++ [h]) = (hsOk a l && histB h (lastK a l))
  | [], a => by show (_ && true) = (true && _); rw [Bool.and_true, Bool.true_and]; rfl
  | x :: l, a => by
    show (histB x a && hsOk x.key (l ++ [h])) = (histB x a && hsOk x.key l && _)
    rw [hs_snoc h l x.key, Bool.and_assoc]
    rfl
theorem hs_pre : ∀ {l m : List Hy} {a : Key}, hsOk a (l ++ m) = true → hsOk a l = true
  | [], _, _, _ => rfl
  | x :: l, m, a, h => by
    have h : (histB x a && hsOk x.key (l ++ m)) = true := h
    rw [Bool.and_eq_true] at h
    show (_ && hsOk x.key l) = true
    rw [h.1, hs_pre h.2]
    rfl
theorem lastK_snoc (a : Key) (l : List Hy) (h : Hy) : lastK a (l ++ [h]) = h.key := by unfold lastK; rw [List.foldl_append]; rfl
theorem hs_rise : ∀ {l : List Hy} {a : Key}, hsOk a l = true → SrtK slt Hy.key l ∧ (∀ x ∈ l, slt a x.key) ∧ ∀ x ∈ l, slt x.key (lastK a l) ∨ x.key = lastK a l
  | [], a, _ => ⟨List.Pairwise.nil, (fun x h => by cases h), fun x h => by cases h⟩
  | x :: l, a, h => by
    have h : (histB x a && hsOk x.key l) = true := h
    rw [Bool.and_eq_true] at h
    obtain ⟨h1, h2, h3⟩ := hs_rise h.2
    have hb := h.1
    unfold histB at hb
    simp only [Bool.and_eq_true, decide_eq_true_eq] at hb
    have hax := hb.1.1.2
    refine ⟨List.pairwise_cons.2 ⟨h2, h1⟩, fun y hy => ?_, fun y hy => ?_⟩
    · rcases List.mem_cons.1 hy with rfl | hy
      · exact hax
      · exact slt_tr hax (h2 y hy)
    · show slt y.key (lastK x.key l) ∨ y.key = lastK x.key l
      rcases List.mem_cons.1 hy with rfl | hy
      · cases l with
        | nil => exact .inr rfl
        | cons z l =>
          left
          rcases h3 z List.mem_cons_self with h4 | h4
          · exact slt_tr (h2 z List.mem_cons_self) h4
          · rw [← h4]; exact h2 z List.mem_cons_self
      · exact h3 y hy
theorem pt_end {α : Type} {κ : α → Key} {L : List α} {x : α} (hs : SrtK slt κ L) (h : ∀ y ∈ L, slt (κ y) (κ x)) : ptK slit κ x L = L ++ [x] := by
  refine sO.ext_mem (sO.put_srt _ hs) (List.pairwise_append.2 ⟨hs, List.pairwise_singleton _ _, fun a ha b hb => ?_⟩) fun r => ?_
  · rw [List.mem_singleton] at hb; rw [hb]; exact h a ha
  · rw [sO.put_mem, List.mem_append, List.mem_singleton]
    constructor
    · rintro (e | ⟨hr, -⟩)
      · exact .inr e
      · exact .inl hr
    · rintro (hr | e)
      · exact .inr ⟨hr, fun e => sO.irr _ (by have := h r hr; rw [e] at this; exact this)⟩
      · exact .inl e
def stepE (M : Ms) (x : Pp) : Int :=
  if pmay x.t x.s x.rs x.ws ≠ 0 then pmay x.t x.s x.rs x.ws
  else if (findF M.P x.t).isSome = true then 9
  else if lockF M.P x = true then 18
  else if oldF M.H x = true then 20 else 0
def stepM (M : Ms) (x : Pp) : Ms := ⟨M.H, ptK slit kbp x M.P, M.low⟩
def loadE (M : Ms) : List Pp → Int
  | [] => 0
  | x :: r => if stepE M x = 0 then loadE (stepM M x) r else stepE M x
def loadM (M : Ms) (l : List Pp) : Ms := l.foldl stepM M
def ldE (hs : List Hy) (ps : List Pp) : Int := if hsOk [] hs = true then loadE ⟨hs, [], sz0⟩ ps else 4
def ldM (hs : List Hy) (ps : List Pp) : Ms := loadM ⟨hs, [], sz0⟩ ps
theorem load_at {x : Pp} : ∀ {l : List Pp} {M : Ms} {k : Nat}, loadE M (l.take k) = 0 → l[k]? = some x → stepE (loadM M (l.take k)) x ≠ 0 → loadE M l = stepE (loadM M (l.take k)) x
  | [], M, k, _, h, _ => by simp at h
  | y :: l, M, 0, _, h, h2 => by
    simp at h
    subst h
    show (if stepE M y = 0 then _ else stepE M y) = _
    rw [if_neg (show ¬ stepE M y = 0 from h2)]
    rfl
  | y :: l, M, k + 1, h1, h, h2 => by
    have h1 : (if stepE M y = 0 then loadE (stepM M y) (l.take k) else stepE M y) = 0 := h1
    by_cases h0 : stepE M y = 0
    · rw [if_pos h0] at h1
      show (if stepE M y = 0 then loadE (stepM M y) l else stepE M y) = _
      rw [if_pos h0]
      exact load_at (M := stepM M y) h1 (by simpa using h) h2
    · rw [if_neg h0] at h1
      exact absurd h1 h0
theorem load_snoc {x : Pp} : ∀ {l : List Pp} {M : Ms}, loadE M l = 0 → stepE (loadM M l) x = 0 → loadE M (l ++ [x]) = 0
  | [], M, _, h => by
    show (if stepE M x = 0 then (0 : Int) else stepE M x) = 0
    rw [if_pos (show stepE M x = 0 from h)]
  | y :: l, M, h1, h => by
    have h1 : (if stepE M y = 0 then loadE (stepM M y) l else stepE M y) = 0 := h1
    by_cases h0 : stepE M y = 0
    · rw [if_pos h0] at h1
      show (if stepE M y = 0 then loadE (stepM M y) (l ++ [x]) else stepE M y) = 0
      rw [if_pos h0]
      exact load_snoc (M := stepM M y) h1 h
    · rw [if_neg h0] at h1
      exact absurd h1 h0
theorem loadM_snoc (M : Ms) (l : List Pp) (x : Pp) : loadM M (l ++ [x]) = stepM (loadM M l) x := by unfold loadM; rw [List.foldl_append]; rfl
theorem ver_bad {vs : List Vr} {k : Nat} {o : Vr} (ho : vs[k]? = some o) (h : verOk sz0 (vs.take k) = true) (hb : (mayS o.s && decide (ltS (lastS sz0 (vs.take k)) o.s) && mayV o.v) = false) : verOk sz0 vs = false := by
  cases h9 : verOk sz0 vs with
  | false => rfl
  | true =>
    rw [← List.take_append_drop (k + 1) vs] at h9
    have h8 := ver_pre h9
    rw [take_app ho, ver_snoc, hb, Bool.and_false] at h8
    cases h8
theorem hs_bad {hs : List Hy} {k : Nat} {o : Hy} (ho : hs[k]? = some o) (_ : hsOk [] (hs.take k) = true) (hb : histB o (lastK [] (hs.take k)) = false) : hsOk [] hs = false := by
  cases h9 : hsOk [] hs with
  | false => rfl
  | true =>
    rw [← List.take_append_drop (k + 1) hs] at h9
    have h8 := hs_pre h9
    rw [take_app ho, hs_snoc, hb, Bool.and_false] at h8
    cases h8
theorem rise_of {H1 l : List Hs} {k : Nat} {o : Hs} {ahead : Key} (h1 : H1.map Hs.p = (l.take k).map Hs.p) (h2 : hsOk [] ((l.map Hs.p).take k) = true) (h3 : ahead = lastK [] ((l.map Hs.p).take k)) (h4 : histB o.p ahead = true) : ∀ z ∈ H1, slt z.key o.key := fun z hz => by
  obtain ⟨-, -, h5⟩ := hs_rise h2
  have h6 : z.p ∈ (l.map Hs.p).take k := by rw [← List.map_take, ← h1]; exact List.mem_map_of_mem hz
  unfold histB at h4
  simp only [Bool.and_eq_true, decide_eq_true_eq] at h4
  have h7 := h4.1.1.2
  rcases h5 z.p h6 with h8 | h8
  · rw [← h3] at h8; exact slt_tr h8 h7
  · rw [← h3] at h8
    show slt z.p.key o.p.key
    rw [h8]; exact h7
end Go.Proofs.YtpnfpndhdnmhkaaGreat
