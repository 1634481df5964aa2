/- Ranges in their order, plainly. -/
import Derived.Test.YtakohabmcgponaaN0
set_option linter.unusedSimpArgs false
set_option linter.unusedVariables false
namespace Go.Proofs.Ytakohabmcgponaa
open Sx

def Srt (L : List Rg) : Prop := L.Pairwise fun a b => a.id < b.id
theorem ins_mem {r z : Rg} : ∀ {L : List Rg}, z ∈ insT Rg.key r L → z = r ∨ z ∈ L
  | [], h => by simp [insT] at h; exact .inl h
  | y :: t, h => by
    unfold insT at h
    split at h
    · rcases List.mem_cons.1 h with h | h
      · exact .inl h
      · exact .inr h
    · rcases List.mem_cons.1 h with h | h
      · exact .inr (by rw [h]; exact List.mem_cons_self)
      · rcases ins_mem h with h | h
        · exact .inl h
        · exact .inr (List.mem_cons_of_mem _ h)
theorem ins_srt (r : Rg) : ∀ {L : List Rg}, Srt L → (∀ y ∈ L, y.id ≠ r.id) → Srt (insT Rg.key r L)
  | [], _, _ => by simp [insT, Srt]
  | y :: t, h, hn => by
    have hc := List.pairwise_cons.1 h
    unfold insT
    split
    · rename_i hb
      have hb : r.id < y.id := by simpa [Rg.key, Lit.before] using hb
      refine List.pairwise_cons.2 ⟨fun z hz => ?_, h⟩
      rcases List.mem_cons.1 hz with rfl | hz
      · exact hb
      · exact Int.lt_trans hb (hc.1 z hz)
    · rename_i hb
      have hb : ¬ r.id < y.id := by simpa [Rg.key, Lit.before] using hb
      have hne := hn y List.mem_cons_self
      refine List.pairwise_cons.2 ⟨fun z hz => ?_, ins_srt r hc.2 fun z hz => hn z (List.mem_cons_of_mem _ hz)⟩
      rcases ins_mem hz with rfl | hz
      · omega
      · exact hc.1 z hz
theorem same_iff (a b : Rg) : a.key.sameKey b.key = decide (a.id = b.id) := by simp [Rg.key, Lit.sameKey]
theorem pt_srt (r : Rg) {L : List Rg} (h : Srt L) : Srt (pt r L) := by
  refine ins_srt r (h.filter _) fun y hy => ?_
  have := (List.mem_filter.1 hy).2
  rw [same_iff] at this
  simpa using this
theorem learn1_srt (r : Rg) {s : List Rg × Nat} (h : Srt s.1) : Srt (learn1 s r).1 := by
  unfold learn1
  split
  · split
    · split
      · exact h
      · exact pt_srt r h
    · exact pt_srt r h
  · exact h
theorem fold_srt : ∀ {l : List Rg} {s : List Rg × Nat}, Srt s.1 → Srt (l.foldl learn1 s).1
  | [], s, h => h
  | r :: l, s, h => fold_srt (l := l) (learn1_srt r h)
theorem learn_srt (l : List Rg) {L : List Rg} (h : Srt L) : Srt (learnR L l).1 := fold_srt h
theorem gt_srt {L : List Rg} (h : Srt L) {k : Nat} {o : Rg} (ho : L[k]? = some o) : gt L o.id = some o := by
  unfold gt getT
  induction L generalizing k with
  | nil => simp at ho
  | cons y t ih =>
    have hc := List.pairwise_cons.1 h
    cases k with
    | zero =>
      simp at ho
      subst ho
      simp [Rg.key, Lit.sameKey]
    | succ k =>
      have ho : t[k]? = some o := by simpa using ho
      have := hc.1 o (List.mem_of_getElem? ho)
      rw [List.find?_cons_of_neg]
      · exact ih hc.2 ho
      · simp [Rg.key, Lit.sameKey]; omega
theorem ids_srt {L : List Rg} (h : Srt L) {ss : List Int} (hp : ss.Perm (L.map Rg.id)) : ss.mergeSort (fun x y => decide (x ≤ y)) = L.map Rg.id := by
  rw [mergeSort_of_perm_i hp]
  refine List.mergeSort_of_pairwise ?_
  refine List.pairwise_map.2 (h.imp fun {a b} hab => ?_)
  simp only [decide_eq_true_eq]
  omega
theorem ints_tb (L : List Rg) : intKeys (tb L) = L.map Rg.id := by
  rw [ints_tab]; rfl

end Go.Proofs.Ytakohabmcgponaa
