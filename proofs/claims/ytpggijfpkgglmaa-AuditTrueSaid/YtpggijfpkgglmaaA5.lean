/- The stable order is the document's. -/
import Derived.Test.YtpggijfpkgglmaaA4
import Derived.Test.YtpggijfpkgglmaaC7
set_option linter.unusedSimpArgs false
set_option linter.unusedVariables false
namespace Go.Proofs.Ytpggijfpkgglmaa
open Sx

theorem ltE_iff (x y : En) : ltE x y = true ↔ ltS x.s y.s := by
  unfold ltE
  rw [decide_eq_true_iff, cmp_lt]
theorem place_ins (x : En) : ∀ l : List En, placeG En.s x l = insS ltE x l
  | [] => rfl
  | y :: l => by
    have ih := place_ins x l
    have e : leadS En.s x.s (y :: l) = if ltS x.s y.s then 0 else leadS En.s x.s l + 1 := rfl
    unfold placeG insS at ih ⊢
    rw [e]
    by_cases h : ltS x.s y.s
    · have h2 : ltE x y = true := (ltE_iff x y).2 h
      simp [h, h2]
    · have h2 : ltE x y = false := by
        cases h9 : ltE x y
        · rfl
        · exact absurd ((ltE_iff x y).1 h9) h
      simp only [if_neg h, List.take_succ_cons, List.drop_succ_cons, List.takeWhile_cons, List.dropWhile_cons, h2, Bool.not_false, if_true, List.cons_append]
      rw [ih]
theorem ord_ordS (l : List En) : ordL En.s l = ordS ltE l := by
  unfold ordL ordS mergeS
  congr 1
  funext L x
  exact place_ins x L
theorem sorted_map {M0 L : List En} (h : M0.map En.p = L.map En.p) : (ordS ltE M0).map En.p = ordL Ep.s (L.map En.p) := by
  rw [← ord_ordS, ord_map (κ := En.s) (κ' := Ep.s) (f := En.p) (fun x => rfl), h]

end Go.Proofs.Ytpggijfpkgglmaa
