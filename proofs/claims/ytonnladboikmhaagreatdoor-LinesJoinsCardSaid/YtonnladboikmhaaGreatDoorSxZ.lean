/- Tables by their keys, whatever the keys are: looking up, putting, taking away, in the keys' order. -/
import Derived.Test.YtonnladboikmhaaGreatDoorSxX
set_option linter.unusedSimpArgs false
set_option linter.unusedVariables false
namespace Go.Sx
structure KO {K:Type} [DecidableEq K] (lit:K→Lit) (lt:K→K→Prop):Prop where
  same:∀ i j,(lit i).sameKey (lit j) = decide (i = j)
  bef:∀ i j,(lit i).before (lit j) = true ↔ lt i j
  irr:∀ i,¬ lt i i
  tr:∀ i j k,lt i j→lt j k→lt i k
  tot:∀ i j,lt i j∨i = j∨lt j i
section
variable {K:Type} {α:Type}
def gtK (lit:K→Lit) (κ:α→K) (L:List α) (i:K):Option α:=getT (fun x=>lit (κ x)) L (lit i)
def SrtK (lt:K→K→Prop) (κ:α→K) (L:List α):Prop:=L.Pairwise fun a b=>lt (κ a) (κ b)
end
section
variable {K:Type} [DecidableEq K] {lit:K→Lit} {lt:K→K→Prop} {α:Type} {κ:α→K}
variable {L M:List α} {x y:α} {i j:K}
variable (O:KO lit lt)
include O
theorem KO.ne {i j:K} (h:lt i j):i ≠ j:=fun e=>O.irr j (e ▸ h)
theorem KO.get_some (h:gtK lit κ L i = some x):x ∈ L∧κ x = i:=by
  refine ⟨List.mem_of_find?_eq_some h,?_⟩
  have:=List.find?_some h
  rw [O.same] at this
  exact of_decide_eq_true this
theorem KO.get_cons:gtK lit κ (y :: L) i = if κ y = i then some y else gtK lit κ L i:=by
  unfold gtK getT
  rw [List.find?_cons]
  rw [O.same]
  by_cases h:κ y = i
  · rw [decide_eq_true h,if_pos h]
  rw [decide_eq_false h,if_neg h]
theorem KO.get_mem (h:SrtK lt κ L) (hx:x ∈ L):gtK lit κ L (κ x) = some x:=by
  induction L with
  | nil=>simp at hx
  | cons y t ih=>
    have hc:=List.pairwise_cons.1 h
    rw [O.get_cons]
    rcases List.mem_cons.1 hx with rfl | hx
    · rw [if_pos rfl]
    rw [if_neg (O.ne (hc.1 x hx)),ih hc.2 hx]
theorem KO.nodup (h:SrtK lt κ L):L.Nodup:=h.imp fun {a b} hab=>fun e=>by subst e;exact O.irr _ hab
theorem KO.ext (hL:SrtK lt κ L) (hM:SrtK lt κ M) (h:∀ i,gtK lit κ L i = gtK lit κ M i):L = M:=by
  have mem:∀ {A B:List α},SrtK lt κ A→SrtK lt κ B→(∀ i,gtK lit κ A i = gtK lit κ B i)→∀ r ∈ A,r ∈ B:=fun {A B} hA hB hAB r hr=>by
    have h1:=O.get_mem hA hr
    rw [hAB] at h1
    exact (O.get_some h1).1
  have hp:L.Perm M:=(List.perm_ext_iff_of_nodup (O.nodup hL) (O.nodup hM)).2 fun r=>⟨mem hL hM h r,mem hM hL (fun i=>(h i).symm) r⟩
  exact hp.eq_of_pairwise (fun a b _ _ h1 h2=>absurd (O.tr _ _ _ h1 h2) (O.irr _)) hL hM
end
/-! over a map's data -/
section
variable {K:Type} {lit:K→Lit} {α:Type} {κ:α→K} {en:α→Value} {L:List α} {x:α} {i:K}
end
section
variable {K:Type} [DecidableEq K] {lit:K→Lit} {lt:K→K→Prop} {α:Type} {κ:α→K} {en:α→Value} {L:List α}
end
/-! a slice that a table's entry holds -/
section
variable {K:Type} [DecidableEq K] {lit:K→Lit} {lt:K→K→Prop} {α:Type} {κ:α→K} {e:TypeId} {sz:Nat} {f:α→Rw} {w w0:World} {S:Nat→Prop} {L:List α} {l l':List Chunk} {i:K} {d:α}
theorem Fam.look (O:KO lit lt) (h:Fam e sz f w L) (hd:f d = ⟨none,0,0,[]⟩):Row w e sz (f ((gtK lit κ L i).getD d)).ad (f ((gtK lit κ L i).getD d)).n (f ((gtK lit κ L i).getD d)).c (f ((gtK lit κ L i).getD d)).xs:=by
  cases hg:gtK lit κ L i with
  | none=>rw [Option.getD_none,hd];exact Row.nil _ _ _
  | some x=>exact h.row x (O.get_some hg).1
end
end Go.Sx
