/- A stable order, plainly. -/
import Derived.Test.YtpggijfpkgglmaaC5
set_option linter.unusedSimpArgs false
set_option linter.unusedVariables false
namespace Go.Proofs.Ytpggijfpkgglmaa
open Sx

/-! a stable order, plainly: elements put in one by one, each behind all that it is not ahead of -/
section
variable {α : Type} (lt : α → α → Bool)
def insS (x : α) (l : List α) : List α := l.takeWhile (fun y => !lt x y) ++ x :: l.dropWhile (fun y => !lt x y)
def mergeS (A B : List α) : List α := B.foldl (fun l x => insS lt x l) A
def ordS (l : List α) : List α := mergeS lt [] l
def SrtS (l : List α) : Prop := l.Pairwise fun x y => lt y x = false
/-- an order, but for those that are alike -/
structure Ord : Prop where
  irr : ∀ x, lt x x = false
  tr : ∀ {x y z}, lt x y = true → lt y z = true → lt x z = true
  neg : ∀ {x y z}, lt x y = false → lt y z = false → lt x z = false
variable {lt}
theorem insS_at {x : α} : ∀ {P Q : List α}, (∀ y ∈ P, lt x y = false) → (∀ y, Q[0]? = some y → lt x y = true) → insS lt x (P ++ Q) = P ++ x :: Q
  | [], [], _, _ => rfl
  | [], q :: Q, _, h => by
    have := h q rfl
    unfold insS
    simp [this]
  | p :: P, Q, h1, h2 => by
    have h3 := h1 p List.mem_cons_self
    have ih := insS_at (P := P) (Q := Q) (fun y hy => h1 y (List.mem_cons_of_mem _ hy)) h2
    unfold insS at ih ⊢
    simp only [List.cons_append, List.takeWhile_cons, List.dropWhile_cons, h3, Bool.not_false, if_true]
    rw [ih]
theorem insS_perm (x : α) (l : List α) : (insS lt x l).Perm (x :: l) := by
  unfold insS
  refine List.perm_middle.trans ?_
  rw [List.takeWhile_append_dropWhile]
theorem mergeS_perm : ∀ {B A : List α}, (mergeS lt A B).Perm (A ++ B)
  | [], A => by rw [List.append_nil]; exact List.Perm.refl _
  | b :: B, A => by
    show (mergeS lt (insS lt b A) B).Perm _
    refine (mergeS_perm (B := B)).trans ?_
    refine ((insS_perm b A).append_right B).trans ?_
    exact List.perm_middle.symm
/-- put in ahead of a tail that it is ahead of -/
theorem insS_left {x : α} {P Q : List α} (h : ∀ y ∈ Q, lt x y = true) : insS lt x (P ++ Q) = insS lt x P ++ Q := by
  induction P with
  | nil =>
    rw [List.nil_append]
    have := insS_at (lt := lt) (x := x) (P := []) (Q := Q) (by simp) (fun y hy => h y (List.mem_of_getElem? hy))
    rw [List.nil_append] at this
    rw [this]
    rfl
  | cons p P ih =>
    unfold insS at ih ⊢
    simp only [List.cons_append, List.takeWhile_cons, List.dropWhile_cons]
    cases h9 : lt x p
    · simp only [Bool.not_false, if_true, List.cons_append, List.append_assoc] at ih ⊢
      rw [ih]
    · simp
/-- put in behind a beginning that it is not ahead of -/
theorem insS_right {x : α} {P Q : List α} (h : ∀ y ∈ P, lt x y = false) : insS lt x (P ++ Q) = P ++ insS lt x Q := by
  induction P with
  | nil => rfl
  | cons p P ih =>
    have h3 := h p List.mem_cons_self
    have ih := ih fun y hy => h y (List.mem_cons_of_mem _ hy)
    unfold insS at ih ⊢
    simp only [List.cons_append, List.takeWhile_cons, List.dropWhile_cons, h3, Bool.not_false, if_true]
    rw [ih]
theorem mergeS_left : ∀ {B P Q : List α}, (∀ x ∈ B, ∀ y ∈ Q, lt x y = true) → mergeS lt (P ++ Q) B = mergeS lt P B ++ Q
  | [], P, Q, _ => rfl
  | b :: B, P, Q, h => by
    show mergeS lt (insS lt b (P ++ Q)) B = mergeS lt (insS lt b P) B ++ Q
    rw [insS_left (h b List.mem_cons_self), mergeS_left fun x hx => h x (List.mem_cons_of_mem _ hx)]
theorem mergeS_right : ∀ {B P Q : List α}, (∀ x ∈ B, ∀ y ∈ P, lt x y = false) → mergeS lt (P ++ Q) B = P ++ mergeS lt Q B
  | [], P, Q, _ => rfl
  | b :: B, P, Q, h => by
    show mergeS lt (insS lt b (P ++ Q)) B = P ++ mergeS lt (insS lt b Q) B
    rw [insS_right (h b List.mem_cons_self), mergeS_right fun x hx => h x (List.mem_cons_of_mem _ hx)]
theorem mergeS_app (A B C : List α) : mergeS lt A (B ++ C) = mergeS lt (mergeS lt A B) C := by unfold mergeS; rw [List.foldl_append]
/-- two rows merged in two halves -/
theorem mergeS_split {A1 A2 B1 B2 : List α} (h1 : ∀ y ∈ B1, ∀ x ∈ A2, lt y x = true) (h2 : ∀ y ∈ B2, ∀ x ∈ A1, lt y x = false) (h3 : ∀ y ∈ B2, ∀ x ∈ B1, lt y x = false) :
    mergeS lt (A1 ++ A2) (B1 ++ B2) = mergeS lt A1 B1 ++ mergeS lt A2 B2 := by
  rw [mergeS_app, mergeS_left h1, mergeS_right]
  intro y hy x hx
  rcases List.mem_append.1 ((mergeS_perm (lt := lt)).mem_iff.1 hx) with hx | hx
  · exact h2 y hy x hx
  · exact h3 y hy x hx
theorem mergeS_nil {B : List α} (h : SrtS lt B) : mergeS lt [] B = B := by
  have key : ∀ {B A : List α}, (∀ x ∈ B, ∀ y ∈ A, lt x y = false) → SrtS lt B → mergeS lt A B = A ++ B := by
    intro B
    induction B with
    | nil => intro A _ _; rw [List.append_nil]; rfl
    | cons b B ih =>
      intro A h1 h2
      have hc := List.pairwise_cons.1 h2
      show mergeS lt (insS lt b A) B = _
      have e : insS lt b A = A ++ [b] := by
        have := insS_at (lt := lt) (x := b) (P := A) (Q := []) (h1 b List.mem_cons_self) (by simp)
        rwa [List.append_nil] at this
      rw [e, ih (fun x hx y hy => ?_) hc.2, List.append_assoc]
      · rfl
      · rcases List.mem_append.1 hy with hy | hy
        · exact h1 x (List.mem_cons_of_mem _ hx) y hy
        · rw [List.mem_singleton] at hy; rw [hy]; exact hc.1 x hx
  exact key (by simp) h
theorem mergeS_one {x : α} {B1 B2 : List α} (h : SrtS lt (B1 ++ B2)) (h1 : ∀ y ∈ B1, lt y x = true) (h2 : ∀ y ∈ B2, lt y x = false) : mergeS lt [x] (B1 ++ B2) = B1 ++ x :: B2 := by
  obtain ⟨s1, s2, s3⟩ := List.pairwise_append.1 h
  have e := mergeS_split (lt := lt) (A1 := []) (A2 := [x]) (B1 := B1) (B2 := B2) (fun y hy z hz => by rw [List.mem_singleton] at hz; rw [hz]; exact h1 y hy) (by simp) (fun y hy z hz => s3 z hz y hy)
  rw [List.nil_append] at e
  rw [e, mergeS_nil s1]
  have e2 := mergeS_right (lt := lt) (B := B2) (P := [x]) (Q := []) (fun y hy z hz => by rw [List.mem_singleton] at hz; rw [hz]; exact h2 y hy)
  rw [List.append_nil] at e2
  rw [e2, mergeS_nil s2]
  rfl
theorem Ord.as (o : Ord lt) {x y : α} (h : lt x y = true) : lt y x = false := by
  cases h2 : lt y x
  · rfl
  · have := o.tr h h2; rw [o.irr] at this; cases this
/-- ahead of one that is not ahead of a third: ahead of the third, or so alike -/
theorem Ord.mix (o : Ord lt) {x y z : α} (h : lt x y = true) (h2 : lt z y = false) : lt x z = true := by
  cases h3 : lt x z
  · have := o.neg h3 h2; rw [h] at this; cases this
  · rfl
theorem Ord.mix2 (o : Ord lt) {x y z : α} (h : lt y x = false) (h2 : lt y z = true) : lt x z = true := by
  cases h3 : lt x z
  · have := o.neg h h3; rw [h2] at this; cases this
  · rfl
theorem insS_srt (o : Ord lt) {x : α} : ∀ {l : List α}, SrtS lt l → SrtS lt (insS lt x l)
  | [], _ => List.pairwise_singleton _ _
  | y :: l, h => by
    have hc := List.pairwise_cons.1 h
    cases h9 : lt x y
    · have e : insS lt x (y :: l) = y :: insS lt x l := by unfold insS; simp [h9]
      rw [e]
      refine List.pairwise_cons.2 ⟨fun z hz => ?_, insS_srt o hc.2⟩
      rcases List.mem_cons.1 ((insS_perm x l).mem_iff.1 hz) with rfl | hz
      · exact h9
      · exact hc.1 z hz
    · have e : insS lt x (y :: l) = x :: y :: l := by unfold insS; simp [h9]
      rw [e]
      refine List.pairwise_cons.2 ⟨fun z hz => ?_, h⟩
      rcases List.mem_cons.1 hz with rfl | hz
      · exact o.as h9
      · exact o.neg (hc.1 z hz) (o.as h9)
theorem mergeS_srt (o : Ord lt) : ∀ {B A : List α}, SrtS lt A → SrtS lt (mergeS lt A B)
  | [], _, h => h
  | b :: B, A, h => mergeS_srt o (B := B) (insS_srt o h)
/-- those that are not alike may be put in either way round -/
theorem insS_comm (o : Ord lt) {x y : α} {l : List α} (hl : SrtS lt l) (h : lt y x = true) : insS lt x (insS lt y l) = insS lt y (insS lt x l) := by
  induction l with
  | nil => unfold insS; simp [h, o.as h]
  | cons z l ih =>
    have hc := List.pairwise_cons.1 hl
    have ih := ih hc.2
    have one : ∀ {u : α} {m : List α}, lt u z = false → insS lt u (z :: m) = z :: insS lt u m := fun {u m} h9 => by unfold insS; simp [h9]
    have two : ∀ {u v : α} {m : List α}, lt u v = true → insS lt u (v :: m) = u :: v :: m := fun {u v m} h9 => by unfold insS; simp [h9]
    have three : ∀ {u v : α} {m : List α}, lt u v = false → insS lt u (v :: m) = v :: insS lt u m := fun {u v m} h9 => by unfold insS; simp [h9]
    cases h1 : lt y z
    · rw [one h1]
      have h2 : lt x z = false := o.neg (o.as h) h1
      rw [one h2, one h2, one h1, ih]
    · rw [two h1, three (o.as h)]
      cases h2 : lt x z
      · rw [one h2, two h1]
      · rw [two h2, two h]
theorem mergeS_move (o : Ord lt) {x : α} : ∀ {C A : List α}, SrtS lt A → (∀ z ∈ C, lt x z = true) → mergeS lt A (C ++ [x]) = mergeS lt (insS lt x A) C
  | [], _, _, _ => rfl
  | z :: C, A, h, hz => by
    show mergeS lt (insS lt z A) (C ++ [x]) = mergeS lt (insS lt z (insS lt x A)) C
    rw [mergeS_move o (C := C) (insS_srt o h) (fun y hy => hz y (List.mem_cons_of_mem _ hy)), insS_comm o h (hz z List.mem_cons_self)]
/-- the order in which they are put in does not matter, as long as those alike stay so -/
theorem mergeS_ins (o : Ord lt) {x : α} : ∀ {B A : List α}, SrtS lt A → SrtS lt B → mergeS lt A (insS lt x B) = mergeS lt A (B ++ [x])
  | [], A, _, _ => rfl
  | y :: B, A, h, hB => by
    have hc := List.pairwise_cons.1 hB
    cases h9 : lt x y
    · have e : insS lt x (y :: B) = y :: insS lt x B := by unfold insS; simp [h9]
      rw [e]
      exact mergeS_ins o (B := B) (A := insS lt y A) (insS_srt o h) hc.2
    · have e : insS lt x (y :: B) = x :: y :: B := by unfold insS; simp [h9]
      rw [e, mergeS_move o h fun z hz => ?_]
      · rfl
      · rcases List.mem_cons.1 hz with rfl | hz
        · exact h9
        · exact o.mix h9 (hc.1 z hz)
theorem mergeS_ord (o : Ord lt) {A : List α} (h : SrtS lt A) (l : List α) : mergeS lt A (ordS lt l) = mergeS lt A l := by
  have key : ∀ r : List α, mergeS lt A (ordS lt r.reverse) = mergeS lt A r.reverse := by
    intro r
    induction r with
    | nil => rfl
    | cons x r ih =>
      have e : ordS lt (r.reverse ++ [x]) = insS lt x (ordS lt r.reverse) := by unfold ordS; rw [mergeS_app]; rfl
      have hs : SrtS lt (ordS lt r.reverse) := mergeS_srt o List.Pairwise.nil
      rw [List.reverse_cons, e, mergeS_ins o h hs, mergeS_app, ih, ← mergeS_app]
  have := key l.reverse
  rwa [List.reverse_reverse] at this
theorem ordS_app (o : Ord lt) (l m : List α) : ordS lt (l ++ m) = mergeS lt (ordS lt l) (ordS lt m) := by
  rw [mergeS_ord o (A := ordS lt l) (mergeS_srt o List.Pairwise.nil)]
  unfold ordS
  rw [mergeS_app]
theorem ordS_srt (o : Ord lt) (l : List α) : SrtS lt (ordS lt l) := mergeS_srt o List.Pairwise.nil
theorem ordS_perm (l : List α) : (ordS lt l).Perm l := mergeS_perm
/-! rows turned about -/
/-- two stretches of a row exchanged, one pair of places after another -/
def swN (L : List α) (a b : Nat) : Nat → List α
  | 0 => L
  | i + 1 => match (swN L a b i)[a + i]?, (swN L a b i)[b + i]? with
    | some x, some y => ((swN L a b i).set (a + i) y).set (b + i) x
    | _, _ => swN L a b i
theorem swN_len (L : List α) (a b : Nat) : ∀ i, (swN L a b i).length = L.length
  | 0 => rfl
  | i + 1 => by
    unfold swN
    split
    · rw [List.length_set, List.length_set, swN_len L a b i]
    · exact swN_len L a b i
theorem swN_step {L : List α} {a b i : Nat} {x y : α} (hx : (swN L a b i)[a + i]? = some x) (hy : (swN L a b i)[b + i]? = some y) : swN L a b (i + 1) = ((swN L a b i).set (a + i) y).set (b + i) x := by
  show (match (swN L a b i)[a + i]?, (swN L a b i)[b + i]? with | some x, some y => ((swN L a b i).set (a + i) y).set (b + i) x | _, _ => swN L a b i) = _
  rw [hx, hy]
theorem set_mid {P Q : List α} {x y : α} {k : Nat} (h : k = P.length) : (P ++ x :: Q).set k y = P ++ y :: Q := by
  subst h
  rw [List.set_append_right _ _ (Nat.le_refl _), Nat.sub_self]
  rfl
theorem get_mid {P Q : List α} {x : α} {k : Nat} (h : k = P.length) : (P ++ x :: Q)[k]? = some x := by
  subst h
  rw [List.getElem?_append_right (Nat.le_refl _), Nat.sub_self]
  rfl
theorem swN_all {P M Q : List α} : ∀ {X Y X' Y' : List α}, X.length = Y.length → X'.length = X.length → Y'.length = X.length → ∀ {i : Nat} {L : List α}, i = X'.length →
    swN L P.length (P.length + X.length + M.length) 0 = L → L = P ++ X ++ M ++ Y ++ Q → swN L P.length (P.length + X.length + M.length) X.length = P ++ Y ++ M ++ X ++ Q := by
  intro X Y X' Y' hXY _ _ i L _ _ hL
  have key : ∀ k, k ≤ X.length → swN L P.length (P.length + X.length + M.length) k = P ++ (Y.take k ++ X.drop k) ++ M ++ (X.take k ++ Y.drop k) ++ Q := by
    intro k
    induction k with
    | zero => intro _; simp only [List.take_zero, List.drop_zero, List.nil_append]; exact hL
    | succ k ih =>
      intro hk
      have ih := ih (by omega)
      have ex : X.drop k = X[k] :: X.drop (k + 1) := List.drop_eq_getElem_cons (by omega)
      have ey : Y.drop k = Y[k]'(by omega) :: Y.drop (k + 1) := List.drop_eq_getElem_cons (by omega)
      have l1 : (Y.take k).length = k := by rw [List.length_take]; omega
      have l2 : (X.take k).length = k := by rw [List.length_take]; omega
      have l3 : (X.drop (k + 1)).length = X.length - (k + 1) := List.length_drop
      have f1 : swN L P.length (P.length + X.length + M.length) k = (P ++ Y.take k) ++ X[k] :: (X.drop (k + 1) ++ M ++ (X.take k ++ Y.drop k) ++ Q) := by rw [ih, ex]; simp only [List.append_assoc, List.cons_append]
      have f2 : swN L P.length (P.length + X.length + M.length) k = (P ++ (Y.take k ++ X.drop k) ++ M ++ X.take k) ++ (Y[k]'(by omega)) :: (Y.drop (k + 1) ++ Q) := by rw [ih, ey]; simp only [List.append_assoc, List.cons_append]
      have g1 : (swN L P.length (P.length + X.length + M.length) k)[P.length + k]? = some X[k] := by rw [f1]; exact get_mid (by rw [List.length_append, l1])
      have g2 : (swN L P.length (P.length + X.length + M.length) k)[P.length + X.length + M.length + k]? = some (Y[k]'(by omega)) := by
        rw [f2]
        refine get_mid ?_
        simp only [List.length_append, l1, l2, List.length_drop]
        omega
      rw [swN_step g1 g2, f1, set_mid (by rw [List.length_append, l1])]
      have f3 : (P ++ Y.take k) ++ (Y[k]'(by omega)) :: (X.drop (k + 1) ++ M ++ (X.take k ++ Y.drop k) ++ Q) = (P ++ Y.take k ++ (Y[k]'(by omega)) :: X.drop (k + 1) ++ M ++ X.take k) ++ (Y[k]'(by omega)) :: (Y.drop (k + 1) ++ Q) := by rw [ey]; simp only [List.append_assoc, List.cons_append]
      rw [f3, set_mid]
      · have t1 : Y.take (k + 1) = Y.take k ++ [Y[k]'(by omega)] := by rw [List.take_succ_eq_append_getElem]
        have t2 : X.take (k + 1) = X.take k ++ [X[k]] := by rw [List.take_succ_eq_append_getElem]
        rw [t1, t2]
        simp only [List.append_assoc, List.cons_append, List.nil_append, List.singleton_append]
      · simp only [List.length_append, List.length_cons, l1, l2, l3]
        omega
  have := key X.length (Nat.le_refl _)
  rw [this, List.take_of_length_le (by omega), List.drop_eq_nil_of_le (Nat.le_refl _), List.append_nil, List.take_of_length_le (Nat.le_refl _), List.drop_eq_nil_of_le (by omega), List.append_nil]
theorem swN_eq {P X M Y Q : List α} (h : X.length = Y.length) : swN (P ++ X ++ M ++ Y ++ Q) P.length (P.length + X.length + M.length) X.length = P ++ Y ++ M ++ X ++ Q :=
  swN_all (X' := X) (Y' := X) h rfl rfl (i := X.length) rfl rfl rfl
theorem swN_rot1 {P A B Q : List α} {i j m : Nat} (hA : A.length = i) (hB : B.length = j) (hm : P.length + i = m) (h : j < i) : swN (P ++ A ++ B ++ Q) (m - i) m j = P ++ B ++ A.drop j ++ A.take j ++ Q := by
  have e := swN_eq (P := P) (X := A.take j) (M := A.drop j) (Y := B) (Q := Q) (by rw [List.length_take]; omega)
  rw [List.length_take, List.length_drop, Nat.min_eq_left (by omega), show P.length + j + (A.length - j) = m from by omega, show P ++ A.take j ++ A.drop j ++ B ++ Q = P ++ A ++ B ++ Q from by rw [List.append_assoc P, List.take_append_drop]] at e
  rw [show m - i = P.length from by omega]
  exact e
theorem swN_rot2 {P A B Q : List α} {i j m : Nat} (hA : A.length = i) (hB : B.length = j) (hm : P.length + i = m) (h : i < j) : swN (P ++ A ++ B ++ Q) (m - i) (m + j - i) i = P ++ B.drop (j - i) ++ B.take (j - i) ++ (A ++ Q) := by
  have e := swN_eq (P := P) (X := A) (M := B.take (j - i)) (Y := B.drop (j - i)) (Q := Q) (by rw [List.length_drop]; omega)
  rw [List.length_take, Nat.min_eq_left (by omega), hA, show P.length + i + (j - i) = m + j - i from by omega, show P ++ A ++ B.take (j - i) ++ B.drop (j - i) ++ Q = P ++ A ++ B ++ Q from by rw [List.append_assoc (P ++ A), List.take_append_drop]] at e
  rw [show m - i = P.length from by omega, e, List.append_assoc _ A]
theorem swN_rot3 {P A B Q : List α} {i m : Nat} (hA : A.length = i) (hB : B.length = i) (hm : P.length + i = m) : swN (P ++ A ++ B ++ Q) (m - i) m i = P ++ B ++ A ++ Q := by
  have e := swN_eq (P := P) (X := A) (M := []) (Y := B) (Q := Q) (by omega)
  simp only [List.append_nil, List.length_nil, Nat.add_zero, hA] at e
  rw [show m - i = P.length from by omega, ← hm]
  exact e
theorem ordS_snoc {X : List α} {k : Nat} {x : α} (h : X[k]? = some x) : ordS lt (X.take (k + 1)) = insS lt x (ordS lt (X.take k)) := by
  unfold ordS; rw [take_app h, mergeS_app]; rfl
/-- where it comes to stand -/
theorem insS_stop (o : Ord lt) {x : α} {S1 S2 : List α} (hs : SrtS lt (S1 ++ S2)) (h1 : S1 = [] ∨ ∃ A z, S1 = A ++ [z] ∧ lt x z = false) (h2 : ∀ y ∈ S2, lt x y = true) : insS lt x (S1 ++ S2) = S1 ++ x :: S2 := by
  refine insS_at (fun y hy => ?_) (fun y hy => h2 y (List.mem_of_getElem? hy))
  rcases h1 with h1 | ⟨A, z, rfl, hz⟩
  · rw [h1] at hy; simp at hy
  · rcases List.mem_append.1 hy with hy | hy
    · have h3 := (List.pairwise_append.1 (List.pairwise_append.1 hs).1).2.2 y hy z (by simp)
      exact o.neg hz h3
    · rw [List.mem_singleton] at hy; rw [hy]; exact hz
theorem SrtS.get {l : List α} (h : SrtS lt l) (o : Ord lt) {i j : Nat} {x y : α} (hij : i ≤ j) (hx : l[i]? = some x) (hy : l[j]? = some y) : lt y x = false := by
  rcases Nat.lt_or_ge i j with h1 | h1
  · obtain ⟨g1, rfl⟩ := List.getElem?_eq_some_iff.1 hx
    obtain ⟨g2, rfl⟩ := List.getElem?_eq_some_iff.1 hy
    exact List.pairwise_iff_getElem.1 h i j g1 g2 h1
  · obtain rfl : i = j := by omega
    rw [hx] at hy
    cases hy
    exact o.irr x
theorem SrtS.take {l : List α} (h : SrtS lt l) (k : Nat) : SrtS lt (l.take k) := by unfold SrtS; exact List.Pairwise.take h
theorem SrtS.drop {l : List α} (h : SrtS lt l) (k : Nat) : SrtS lt (l.drop k) := by unfold SrtS; exact List.Pairwise.drop h
/-- one ahead of a row, put in its place among it -/
theorem one_first (o : Ord lt) {x : α} {Y : List α} {p : Nat} (hs : SrtS lt Y) (h1 : ∀ (t : Nat) y, t < p → Y[t]? = some y → lt y x = true) (h2 : ∀ (t : Nat) y, p ≤ t → Y[t]? = some y → lt y x = false) : mergeS lt [x] Y = Y.take p ++ x :: Y.drop p := by
  have e := mergeS_one (lt := lt) (x := x) (B1 := Y.take p) (B2 := Y.drop p) (by rw [List.take_append_drop]; exact hs) (fun y hy => by
    obtain ⟨t, ht⟩ := List.mem_iff_getElem?.1 hy
    rw [List.getElem?_take] at ht
    split at ht
    · rename_i htp; exact h1 t y htp ht
    · cases ht) (fun y hy => by
    obtain ⟨t, ht⟩ := List.mem_iff_getElem?.1 hy
    rw [List.getElem?_drop] at ht
    exact h2 (p + t) y (Nat.le_add_right _ _) ht)
  rwa [List.take_append_drop] at e
/-- one behind a row, put in its place among it -/
theorem one_last {y : α} {X : List α} {p : Nat} (h1 : ∀ (t : Nat) x, t < p → X[t]? = some x → lt y x = false) (h2 : ∀ (t : Nat) x, p ≤ t → X[t]? = some x → lt y x = true) : mergeS lt X [y] = X.take p ++ y :: X.drop p := by
  have e := insS_at (lt := lt) (x := y) (P := X.take p) (Q := X.drop p) (fun x hx => by
    obtain ⟨t, ht⟩ := List.mem_iff_getElem?.1 hx
    rw [List.getElem?_take] at ht
    split at ht
    · rename_i htp; exact h1 t x htp ht
    · cases ht) (fun x hx => by
    rw [List.getElem?_drop] at hx
    exact h2 (p + 0) x (Nat.le_add_right _ _) hx)
  rw [List.take_append_drop] at e
  exact e
/-- the halves that symMerge goes on with -/
theorem sym_split (o : Ord lt) {X Y : List α} {a m b mid s lo hi : Nat} (hm : m = a + X.length) (hb : b = m + Y.length) (hlo : a ≤ lo) (hlo2 : mid + m ≤ b + lo) (hlo3 : lo = a ∨ lo = mid + m - b) (hhi : hi = min mid m) (h1 : lo ≤ s) (h2 : s ≤ hi) (hsx : SrtS lt X) (hsy : SrtS lt Y)
    (hl : ∀ (c : Nat) x y, lo ≤ c → c < s → X[c - a]? = some x → Y[mid - 1 - c]? = some y → lt y x = false) (hr : ∀ (c : Nat) x y, s ≤ c → c < hi → X[c - a]? = some x → Y[mid - 1 - c]? = some y → lt y x = true) :
    mergeS lt X Y = mergeS lt (X.take (s - a)) (Y.take (mid - s)) ++ mergeS lt (X.drop (s - a)) (Y.drop (mid - s)) := by
  have e := mergeS_split (lt := lt) (A1 := X.take (s - a)) (A2 := X.drop (s - a)) (B1 := Y.take (mid - s)) (B2 := Y.drop (mid - s)) (fun y hy x hx => by
    obtain ⟨t, ht⟩ := List.mem_iff_getElem?.1 hy
    rw [List.getElem?_take] at ht
    split at ht
    · rename_i htp
      obtain ⟨v, hv⟩ := List.mem_iff_getElem?.1 hx
      rw [List.getElem?_drop] at hv
      have hvl := (List.getElem?_eq_some_iff.1 hv).1
      have htl := (List.getElem?_eq_some_iff.1 ht).1
      obtain ⟨x0, hx0⟩ : ∃ z, X[s - a]? = some z := ⟨_, List.getElem?_eq_getElem (by omega)⟩
      obtain ⟨y0, hy0⟩ : ∃ z, Y[mid - 1 - s]? = some z := ⟨_, List.getElem?_eq_getElem (by omega)⟩
      have h9 := hr s x0 y0 (Nat.le_refl _) (by omega) hx0 hy0
      have h8 := hsy.get o (show t ≤ mid - 1 - s by omega) ht hy0
      have h7 := hsx.get o (show s - a ≤ s - a + v by omega) hx0 hv
      exact o.mix (o.mix2 h8 h9) h7
    · cases ht) (fun y hy x hx => by
    obtain ⟨t, ht⟩ := List.mem_iff_getElem?.1 hx
    rw [List.getElem?_take] at ht
    split at ht
    · rename_i htp
      obtain ⟨v, hv⟩ := List.mem_iff_getElem?.1 hy
      rw [List.getElem?_drop] at hv
      have hvl := (List.getElem?_eq_some_iff.1 hv).1
      have htl := (List.getElem?_eq_some_iff.1 ht).1
      obtain ⟨x0, hx0⟩ : ∃ z, X[s - 1 - a]? = some z := ⟨_, List.getElem?_eq_getElem (by omega)⟩
      obtain ⟨y0, hy0⟩ : ∃ z, Y[mid - s]? = some z := ⟨_, List.getElem?_eq_getElem (by omega)⟩
      have h9 := hl (s - 1) x0 y0 (by omega) (by omega) hx0 (by rw [show mid - 1 - (s - 1) = mid - s from by omega]; exact hy0)
      have h8 := hsy.get o (show mid - s ≤ mid - s + v by omega) hy0 hv
      have h7 := hsx.get o (show t ≤ s - 1 - a by omega) ht hx0
      exact o.neg h8 (o.neg h9 h7)
    · cases ht) (fun y hy x hx => by
    have h9 : SrtS lt (Y.take (mid - s) ++ Y.drop (mid - s)) := by rw [List.take_append_drop]; exact hsy
    exact (List.pairwise_append.1 h9).2.2 x hx y hy)
  rwa [List.take_append_drop, List.take_append_drop] at e
end

end Go.Proofs.Ytpggijfpkgglmaa
