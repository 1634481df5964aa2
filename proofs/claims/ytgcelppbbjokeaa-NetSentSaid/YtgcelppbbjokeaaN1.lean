/- Plain lists: a mail moved, and moved back. -/
import Derived.Test.YtgcelppbbjokeaaW4
set_option linter.unusedSimpArgs false
set_option linter.unusedVariables false
namespace Go.Proofs.Ytgcelppbbjokeaa
open Sx
/-- the list with its k-th mail moved to the j-th place -/
def moved (ms : List Mail) (k j : Nat) (m : Mail) : List Mail := (ms.take k ++ ms.drop (k + 1)).take j ++ [m] ++ (ms.take k ++ ms.drop (k + 1)).drop j
theorem out_len {ms : List Mail} {k : Nat} (hk : k < ms.length) : (ms.take k ++ ms.drop (k + 1)).length = ms.length - 1 := by simp; omega
theorem moved_len {ms : List Mail} {k j : Nat} {m : Mail} (hk : k < ms.length) : (moved ms k j m).length = ms.length := by
  have := out_len hk
  unfold moved
  simp only [List.length_append, List.length_take, List.length_drop, List.length_singleton] at *
  omega
theorem back_in {ms : List Mail} {k : Nat} {m : Mail} (hm : ms[k]? = some m) : (ms.take k ++ ms.drop (k + 1)).take k ++ [m] ++ (ms.take k ++ ms.drop (k + 1)).drop k = ms := by
  obtain ⟨hk, rfl⟩ := List.getElem?_eq_some_iff.1 hm
  have hl : (ms.take k).length = k := by simp; omega
  rw [List.take_left' hl, List.drop_left' hl, List.append_assoc, List.singleton_append, ← List.drop_eq_getElem_cons hk, List.take_append_drop]
theorem moved_get {ms : List Mail} {k j : Nat} {m : Mail} (hk : k < ms.length) (hj : j ≤ ms.length - 1) : (moved ms k j m)[j]? = some m := by
  have hl := out_len hk
  have h1 : ((ms.take k ++ ms.drop (k + 1)).take j).length = j := by rw [List.length_take, hl]; omega
  unfold moved
  rw [List.append_assoc, List.getElem?_append_right (by omega), h1, Nat.sub_self]
  rfl
theorem moved_out {ms : List Mail} {k j : Nat} {m : Mail} (hk : k < ms.length) (hj : j ≤ ms.length - 1) : (moved ms k j m).take j ++ (moved ms k j m).drop (j + 1) = ms.take k ++ ms.drop (k + 1) := by
  have hl := out_len hk
  unfold moved
  generalize ms.take k ++ ms.drop (k + 1) = out at *
  have h1 : (out.take j).length = j := by rw [List.length_take, hl]; omega
  have h2 : (out.take j ++ [m]).length = j + 1 := by rw [List.length_append, h1]; rfl
  rw [List.append_assoc, List.take_left' h1, ← List.append_assoc, List.drop_left' h2, List.take_append_drop]
theorem cnt_app (a b : List Mail) (to : Int) : cnt (a ++ b) to = cnt a to + cnt b to := by simp [cnt, List.filter_append]
theorem moved_cnt {ms : List Mail} {k j : Nat} {m : Mail} (hm : ms[k]? = some m) (to : Int) : cnt (moved ms k j m) to = cnt ms to := by
  have h := back_in hm
  conv => rhs; rw [← h]
  unfold moved
  generalize ms.take k ++ ms.drop (k + 1) = out
  have h1 := cnt_app (out.take j) (out.drop j) to
  have h2 := cnt_app (out.take k) (out.drop k) to
  rw [List.take_append_drop] at h1 h2
  simp only [cnt_app]
  omega
/-- moved back -/
theorem moved_back {ms : List Mail} {k j : Nat} {m : Mail} (hm : ms[k]? = some m) (hj : j ≤ ms.length - 1) : moved (moved ms k j m) j k m = ms := by
  have hk := mails_lt hm
  have h := moved_out (m := m) hk hj
  generalize moved ms k j m = ms2 at *
  unfold moved
  rw [h]
  exact back_in hm
theorem goal_back {k n : Nat} (h : k ≤ n) : goal (k : Int) n = k := by unfold goal; omega

end Go.Proofs.Ytgcelppbbjokeaa
