/- Tables by their keys, whatever the keys are: looking up, putting, taking away, in the keys' order. -/
import Derived.Test.YtainemoobhkeiaaDoorSxX
set_option linter.unusedSimpArgs false
set_option linter.unusedVariables false
namespace Go.Sx

/-- keys that are told as literals, and stand in an order -/
structure KO {K : Type} [DecidableEq K] (lit : K → Lit) (lt : K → K → Prop) : Prop where
  same : ∀ i j, (lit i).sameKey (lit j) = decide (i = j)
  bef : ∀ i j, (lit i).before (lit j) = true ↔ lt i j
  irr : ∀ i, ¬ lt i i
  tr : ∀ i j k, lt i j → lt j k → lt i k
  tot : ∀ i j, lt i j ∨ i = j ∨ lt j i
theorem intKO : KO (fun i : Int => Lit.int .i64 i) (fun a b => a < b) :=
  ⟨fun i j => by simp [Lit.sameKey], fun i j => by simp [Lit.before], fun i => Int.lt_irrefl i, fun i j k h1 h2 => Int.lt_trans h1 h2, fun i j => by omega⟩

section
variable {K : Type} {α : Type}
def gtK (lit : K → Lit) (κ : α → K) (L : List α) (i : K) : Option α := getT (fun x => lit (κ x)) L (lit i)
def ptK (lit : K → Lit) (κ : α → K) (x : α) (L : List α) : List α := putT (fun x => lit (κ x)) x L
def SrtK (lt : K → K → Prop) (κ : α → K) (L : List α) : Prop := L.Pairwise fun a b => lt (κ a) (κ b)
end
section
variable {K : Type} [DecidableEq K] {lit : K → Lit} {lt : K → K → Prop} {α : Type} {κ : α → K}
def dlK (κ : α → K) (i : K) (L : List α) : List α := L.filter fun y => !decide (κ y = i)
variable {L M : List α} {x y : α} {i j : K}
theorem dlK_mem : y ∈ dlK κ i L ↔ y ∈ L ∧ κ y ≠ i := by
  unfold dlK
  rw [List.mem_filter]
  simp
theorem dlK_srt (h : SrtK lt κ L) : SrtK lt κ (dlK κ i L) := h.filter _
variable (O : KO lit lt)
include O
theorem KO.ne {i j : K} (h : lt i j) : i ≠ j := fun e => O.irr j (e ▸ h)
theorem KO.del (L : List α) (i : K) : (L.filter fun y => !(lit (κ y)).sameKey (lit i)) = dlK κ i L := by
  unfold dlK
  congr 1
  funext y
  rw [O.same]
theorem KO.get_some (h : gtK lit κ L i = some x) : x ∈ L ∧ κ x = i := by
  refine ⟨List.mem_of_find?_eq_some h, ?_⟩
  have := List.find?_some h
  rw [O.same] at this
  exact of_decide_eq_true this
theorem KO.get_cons : gtK lit κ (y :: L) i = if κ y = i then some y else gtK lit κ L i := by
  unfold gtK getT
  rw [List.find?_cons]
  rw [O.same]
  by_cases h : κ y = i
  · rw [decide_eq_true h, if_pos h]
  · rw [decide_eq_false h, if_neg h]
theorem KO.get_none (h : gtK lit κ L i = none) : ∀ y ∈ L, κ y ≠ i := fun y hy e => by
  have := List.find?_eq_none.1 h y hy
  rw [O.same, decide_eq_true e] at this
  exact this rfl
theorem KO.get_of_none (h : ∀ y ∈ L, κ y ≠ i) : gtK lit κ L i = none := by
  refine List.find?_eq_none.2 fun y hy => ?_
  rw [O.same, decide_eq_false (h y hy)]
  decide
theorem KO.get_mem (h : SrtK lt κ L) (hx : x ∈ L) : gtK lit κ L (κ x) = some x := by
  induction L with
  | nil => simp at hx
  | cons y t ih =>
    have hc := List.pairwise_cons.1 h
    rw [O.get_cons]
    rcases List.mem_cons.1 hx with rfl | hx
    · rw [if_pos rfl]
    · rw [if_neg (O.ne (hc.1 x hx)), ih hc.2 hx]
theorem KO.get_at (h : SrtK lt κ L) {k : Nat} (hx : L[k]? = some x) : gtK lit κ L (κ x) = some x := O.get_mem h (List.mem_of_getElem? hx)
omit O in
theorem ins_permK (kl : α → Lit) (x : α) : ∀ L : List α, (insT kl x L).Perm (x :: L)
  | [] => List.Perm.refl _
  | y :: r => by
    unfold insT
    split
    · exact List.Perm.refl _
    · exact (List.Perm.cons y (ins_permK kl x r)).trans (List.Perm.swap _ _ _)
theorem KO.put_perm (x : α) (L : List α) : (ptK lit κ x L).Perm (x :: dlK κ (κ x) L) := by
  have := ins_permK (fun x => lit (κ x)) x (L.filter fun y => !(lit (κ y)).sameKey (lit (κ x)))
  rw [O.del] at this
  unfold ptK putT
  rw [O.del]
  exact this
theorem KO.put_mem : y ∈ ptK lit κ x L ↔ y = x ∨ (y ∈ L ∧ κ y ≠ κ x) := by
  rw [(O.put_perm x L).mem_iff, List.mem_cons]
  unfold dlK
  rw [List.mem_filter]
  simp
theorem KO.ins_srt (x : α) : ∀ {L : List α}, SrtK lt κ L → (∀ y ∈ L, κ y ≠ κ x) → SrtK lt κ (insT (fun x => lit (κ x)) x L)
  | [], _, _ => by simp [insT, SrtK]
  | y :: t, h, hn => by
    have hc := List.pairwise_cons.1 h
    unfold insT
    split
    · rename_i hb
      have hb := (O.bef _ _).1 hb
      refine List.pairwise_cons.2 ⟨fun z hz => ?_, h⟩
      rcases List.mem_cons.1 hz with rfl | hz
      · exact hb
      · exact O.tr _ _ _ hb (hc.1 z hz)
    · rename_i hb
      have hb : ¬ lt (κ x) (κ y) := fun h9 => hb ((O.bef _ _).2 h9)
      have hne := hn y List.mem_cons_self
      have hyx : lt (κ y) (κ x) := by
        rcases O.tot (κ x) (κ y) with h1 | h1 | h1
        · exact absurd h1 hb
        · exact absurd h1.symm hne
        · exact h1
      refine List.pairwise_cons.2 ⟨fun z hz => ?_, KO.ins_srt x hc.2 fun z hz => hn z (List.mem_cons_of_mem _ hz)⟩
      rcases List.mem_cons.1 ((ins_permK _ x t).mem_iff.1 hz) with rfl | hz
      · exact hyx
      · exact hc.1 z hz
theorem KO.put_srt (x : α) (h : SrtK lt κ L) : SrtK lt κ (ptK lit κ x L) := by
  unfold ptK putT
  rw [O.del]
  exact O.ins_srt x (dlK_srt h) fun y hy => (dlK_mem.1 hy).2
theorem KO.get_ins (hn : ∀ y ∈ L, κ y ≠ κ x) (i : K) : gtK lit κ (insT (fun x => lit (κ x)) x L) i = if κ x = i then some x else gtK lit κ L i := by
  induction L with
  | nil => unfold insT; rw [O.get_cons]
  | cons y t ih =>
    have ih := ih fun z hz => hn z (List.mem_cons_of_mem _ hz)
    have hy := hn y List.mem_cons_self
    unfold insT
    split
    · rw [O.get_cons]
    · rw [O.get_cons, ih, O.get_cons]
      by_cases h : κ y = i
      · rw [if_pos h, if_neg (fun h2 => hy (h.trans h2.symm)), if_pos h]
      · rw [if_neg h, if_neg h]
theorem KO.get_del (i j : K) : gtK lit κ (dlK κ j L) i = if i = j then none else gtK lit κ L i := by
  by_cases h : i = j
  · rw [if_pos h]
    exact O.get_of_none fun y hy => by rw [h]; exact (dlK_mem.1 hy).2
  · rw [if_neg h]
    induction L with
    | nil => rfl
    | cons y t ih =>
      by_cases hy : κ y = j
      · have e : dlK κ j (y :: t) = dlK κ j t := by unfold dlK; rw [List.filter_cons_of_neg]; simp [hy]
        rw [e, ih, O.get_cons, if_neg (fun h2 => h (h2.symm.trans hy))]
      · have e : dlK κ j (y :: t) = y :: dlK κ j t := by unfold dlK; rw [List.filter_cons_of_pos]; simp [hy]
        rw [e, O.get_cons, O.get_cons, ih]
theorem KO.get_put (x : α) (i : K) : gtK lit κ (ptK lit κ x L) i = if κ x = i then some x else gtK lit κ L i := by
  unfold ptK putT
  rw [O.del, O.get_ins (fun y hy => (dlK_mem.1 hy).2), O.get_del]
  by_cases h : κ x = i
  · rw [if_pos h, if_pos h]
  · rw [if_neg h, if_neg h, if_neg (fun h2 => h h2.symm)]
theorem KO.nodup (h : SrtK lt κ L) : L.Nodup := h.imp fun {a b} hab => fun e => by subst e; exact O.irr _ hab
/-- two tables in their order that hold the same at each key are one -/
theorem KO.ext (hL : SrtK lt κ L) (hM : SrtK lt κ M) (h : ∀ i, gtK lit κ L i = gtK lit κ M i) : L = M := by
  have mem : ∀ {A B : List α}, SrtK lt κ A → SrtK lt κ B → (∀ i, gtK lit κ A i = gtK lit κ B i) → ∀ r ∈ A, r ∈ B := fun {A B} hA hB hAB r hr => by
    have h1 := O.get_mem hA hr
    rw [hAB] at h1
    exact (O.get_some h1).1
  have hp : L.Perm M := (List.perm_ext_iff_of_nodup (O.nodup hL) (O.nodup hM)).2 fun r => ⟨mem hL hM h r, mem hM hL (fun i => (h i).symm) r⟩
  exact hp.eq_of_pairwise (fun a b _ _ h1 h2 => absurd (O.tr _ _ _ h1 h2) (O.irr _)) hL hM
theorem KO.ext_mem (hL : SrtK lt κ L) (hM : SrtK lt κ M) (h : ∀ r, r ∈ L ↔ r ∈ M) : L = M := by
  have hp : L.Perm M := (List.perm_ext_iff_of_nodup (O.nodup hL) (O.nodup hM)).2 h
  exact hp.eq_of_pairwise (fun a b _ _ h1 h2 => absurd (O.tr _ _ _ h1 h2) (O.irr _)) hL hM
theorem KO.del_none (h : gtK lit κ L i = none) : dlK κ i L = L := by
  unfold dlK
  rw [List.filter_eq_self]
  intro y hy
  have := O.get_none h y hy
  simp [this]
theorem KO.del_perm (hL : SrtK lt κ L) (h : gtK lit κ L i = some x) : L.Perm (x :: dlK κ i L) := by
  have h1 := O.get_some h
  refine (List.perm_ext_iff_of_nodup (O.nodup hL) ?_).2 fun y => ?_
  · refine List.nodup_cons.2 ⟨fun h2 => (dlK_mem.1 h2).2 h1.2, O.nodup (dlK_srt hL)⟩
  · rw [List.mem_cons, dlK_mem]
    constructor
    · intro hy
      by_cases e : κ y = i
      · left
        have := O.get_mem hL hy
        rw [e, h] at this
        exact (Option.some.inj this).symm
      · exact .inr ⟨hy, e⟩
    · rintro (rfl | h2)
      · exact h1.1
      · exact h2.1
theorem KO.put_len (x : α) : (ptK lit κ x L).length ≤ L.length + 1 := by
  rw [(O.put_perm x L).length_eq, List.length_cons]
  have := List.length_filter_le (fun y => !decide (κ y = κ x)) L
  unfold dlK
  omega
end

/-! over a map's data -/
section
variable {K : Type} {lit : K → Lit} {α : Type} {κ : α → K} {en : α → Value} {L : List α} {x : α} {i : K}
theorem lookK_yes (h : gtK lit κ L i = some x) (z : Value) : atV (tab (fun x => lit (κ x)) en L) (lit i) z = en x ∧ Maps.has (tab (fun x => lit (κ x)) en L) (lit i) = true := by
  rw [atV_tab, has_tab]
  unfold gtK at h
  rw [h]
  exact ⟨rfl, rfl⟩
theorem lookK_no (h : gtK lit κ L i = none) (z : Value) : atV (tab (fun x => lit (κ x)) en L) (lit i) z = z ∧ Maps.has (tab (fun x => lit (κ x)) en L) (lit i) = false := by
  rw [atV_tab, has_tab]
  unfold gtK at h
  rw [h]
  exact ⟨rfl, rfl⟩
theorem lookK (i : K) (z : Value) : atV (tab (fun x => lit (κ x)) en L) (lit i) z = ((gtK lit κ L i).map en).getD z := atV_tab _ _ _
theorem hasK (i : K) : Maps.has (tab (fun x => lit (κ x)) en L) (lit i) = (gtK lit κ L i).isSome := has_tab _ _
theorem putK (x : α) : (tab (fun x => lit (κ x)) en L).put (lit (κ x)) (.held (en x)) = tab (fun x => lit (κ x)) en (ptK lit κ x L) := put_tab x L
end
section
variable {K : Type} [DecidableEq K] {lit : K → Lit} {lt : K → K → Prop} {α : Type} {κ : α → K} {en : α → Value} {L : List α}
theorem delK (O : KO lit lt) (i : K) : (tab (fun x => lit (κ x)) en L).del (lit i) = tab (fun x => lit (κ x)) en (dlK κ i L) := by
  rw [del_tab, O.del]
end

/-! a slice that a table's entry holds -/
section
variable {K : Type} [DecidableEq K] {lit : K → Lit} {lt : K → K → Prop} {α : Type} {κ : α → K} {e : TypeId} {sz : Nat} {f : α → Rw} {w w0 : World} {S : Nat → Prop} {L : List α} {l l' : List Chunk} {i : K} {d : α}
theorem Fam.look (O : KO lit lt) (h : Fam e sz f w L) (hd : f d = ⟨none, 0, 0, []⟩) : Row w e sz (f ((gtK lit κ L i).getD d)).ad (f ((gtK lit κ L i).getD d)).n (f ((gtK lit κ L i).getD d)).c (f ((gtK lit κ L i).getD d)).xs := by
  cases hg : gtK lit κ L i with
  | none => rw [Option.getD_none, hd]; exact Row.nil _ _ _
  | some x => exact h.row x (O.get_some hg).1
/-- the slice at a key, or a nil one, by itself -/
theorem Hp.famLook (O : KO lit lt) (hs : SrtK lt κ L) (H : Hp w0 S w l) (j : Nat) (hj : cget l j = some (cF e sz f L)) (i : K) (d : α) (hd : f d = ⟨none, 0, 0, []⟩) (hl : cset l j (cF e sz f (dlK κ i L)) = some l') :
    Hp w0 S w (cR e sz (f ((gtK lit κ L i).getD d)).ad (f ((gtK lit κ L i).getD d)).n (f ((gtK lit κ L i).getD d)).c (f ((gtK lit κ L i).getD d)).xs :: l') := by
  cases hg : gtK lit κ L i with
  | none =>
    rw [Option.getD_none, hd]
    have H2 : Hp w0 S w l' := by
      rw [O.del_none hg] at hl
      have h1 := cset_eq hl
      rw [cget_eq] at hj
      have h2 : l.set j (cF e sz f L) = l := by
        apply List.ext_getElem?
        intro k
        rw [List.getElem?_set]
        split
        · rename_i h3; subst h3; rw [hj]; split
          · rfl
          · rename_i h4; rw [List.getElem?_eq_none (by omega)] at hj; cases hj
        · rfl
      rw [h1, h2]
      exact H
    exact H2.nilR e sz
  | some x => exact H.famTake j hj (O.del_perm hs hg) hl
end
end Go.Sx
