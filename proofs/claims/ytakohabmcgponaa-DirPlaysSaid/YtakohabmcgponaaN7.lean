/- Groups counted, plainly. -/
import Derived.Test.YtakohabmcgponaaN6
set_option linter.unusedSimpArgs false
set_option linter.unusedVariables false
namespace Go.Proofs.Ytakohabmcgponaa
open Sx

/-! what texts weigh -/
def few2F (a b c : Nat) : Nat := if c < b ∨ c < a then c + 1 else a + b
def wtF (m : Nat) : List (List UInt8) → Nat → Nat
  | [], n => n
  | k :: r, n => if n ≤ m then wtF m r (few2F n (1 + k.length) m) else n
theorem wt_stop {m n : Nat} (h : ¬ n ≤ m) : ∀ l : List (List UInt8), wtF m l n = n
  | [] => rfl
  | k :: r => by unfold wtF; rw [if_neg h]
theorem wt_step {m n k : Nat} {l : List (List UInt8)} {o : List UInt8} (h : l[k]? = some o) (hn : n ≤ m) : wtF m (l.drop k) n = wtF m (l.drop (k + 1)) (few2F n (1 + o.length) m) := by
  obtain ⟨hk, rfl⟩ := List.getElem?_eq_some_iff.1 h
  rw [List.drop_eq_getElem_cons hk]
  conv => lhs; unfold wtF
  rw [if_pos hn]
theorem wt_facts {m : Nat} : ∀ (l : List (List UInt8)) (n : Nat), wtF m l n ≤ m → n + l.length ≤ m ∧ ∀ k ∈ l, k.length ≤ m
  | [], n, h => ⟨by simpa [wtF] using h, by simp⟩
  | k :: r, n, h => by
    unfold wtF at h
    split at h
    · have h1 := wt_facts r _ h
      have h2 : few2F n (1 + k.length) m = n + (1 + k.length) := by
        unfold few2F at h1 ⊢
        split
        · rename_i h3
          rw [if_pos h3] at h1
          omega
        · rfl
      rw [h2] at h1
      refine ⟨by rw [List.length_cons]; omega, fun x hx => ?_⟩
      rcases List.mem_cons.1 hx with rfl | hx
      · omega
      · exact h1.2 x hx
    · omega
/-! each key once -/
def u1 (acc : List (List UInt8)) (k : List UInt8) : List (List UInt8) := if k ∈ acc then acc else acc ++ [k]
def uniq (l : List (List UInt8)) : List (List UInt8) := l.foldl u1 []
theorem uniq_app (l : List (List UInt8)) (k : List UInt8) : uniq (l ++ [k]) = u1 (uniq l) k := by
  unfold uniq; rw [List.foldl_append]; rfl
theorem u_mem (k : List UInt8) : ∀ (l acc : List (List UInt8)), k ∈ l.foldl u1 acc ↔ k ∈ acc ∨ k ∈ l
  | [], acc => by simp
  | x :: l, acc => by
    rw [List.foldl_cons, u_mem k l]
    unfold u1
    split
    · rename_i h
      rw [List.mem_cons]
      constructor
      · rintro (h1 | h1)
        · exact .inl h1
        · exact .inr (.inr h1)
      · rintro (h1 | rfl | h1)
        · exact .inl h1
        · exact .inl h
        · exact .inr h1
    · simp only [List.mem_append, List.mem_cons, List.not_mem_nil, or_false, or_assoc]
theorem uniq_mem {k : List UInt8} {l : List (List UInt8)} : k ∈ uniq l ↔ k ∈ l := by unfold uniq; rw [u_mem]; simp
theorem fil_u (D : List Rg) (i : Int) : ∀ (l A : List (List UInt8)), l.foldl (fil1 D i) (A.filter fun k => decide (rid D k = some i)) = (l.foldl u1 A).filter fun k => decide (rid D k = some i)
  | [], A => rfl
  | x :: l, A => by
    rw [List.foldl_cons, List.foldl_cons, ← fil_u D i l]
    congr 1
    unfold fil1 u1
    by_cases hr : rid D x = some i
    · by_cases hx : x ∈ A
      · rw [if_pos hx, if_neg]
        rintro ⟨-, h⟩
        exact h (List.mem_filter.2 ⟨hx, by simpa using hr⟩)
      · rw [if_neg hx, if_pos ⟨hr, fun h => hx (List.mem_filter.1 h).1⟩, List.filter_append, List.filter_cons_of_pos (by simpa using hr)]
        rfl
    · rw [if_neg (fun h => hr h.1)]
      split
      · rfl
      · rw [List.filter_append, List.filter_cons_of_neg (by simpa using hr)]
        simp
theorem fil_uniq (D : List Rg) (i : Int) (l : List (List UInt8)) : fil D i l = (uniq l).filter fun k => decide (rid D k = some i) := fil_u D i l []
def oneI (D : List Rg) (k : List UInt8) (E : List Rg) : Nat := (E.map fun r => if rid D k = some r.id then 1 else 0).sum
theorem one_no {D : List Rg} {k : List UInt8} {i : Int} (h : rid D k = some i) : ∀ {E : List Rg}, (∀ r ∈ E, r.id ≠ i) → oneI D k E = 0
  | [], _ => rfl
  | r :: E, hn => by
    have h1 := hn r List.mem_cons_self
    have h2 := one_no h fun x hx => hn x (List.mem_cons_of_mem r hx)
    unfold oneI at h2 ⊢
    rw [List.map_cons, List.sum_cons, h2, if_neg (fun h9 => h1 (by rw [h] at h9; exact (Option.some.inj h9).symm))]
theorem one_yes {D : List Rg} {k : List UInt8} {q : Rg} (h : rid D k = some q.id) : ∀ {E : List Rg}, Srt E → q ∈ E → oneI D k E = 1
  | [], _, hq => by simp at hq
  | r :: E, hs, hq => by
    have hc := List.pairwise_cons.1 hs
    show ((r :: E).map fun r => if rid D k = some r.id then 1 else 0).sum = 1
    rw [List.map_cons, List.sum_cons]
    rcases List.mem_cons.1 hq with rfl | hq
    · have h2 : oneI D k E = 0 := one_no h fun x hx => by have := hc.1 x hx; omega
      unfold oneI at h2
      rw [if_pos h, h2]
    · have h2 := one_yes h hc.2 hq
      unfold oneI at h2
      have := hc.1 q hq
      rw [if_neg (fun h9 => by rw [h] at h9; have := Option.some.inj h9; omega), h2]
theorem cnt_all {D E : List Rg} (hE : Srt E) : ∀ (U : List (List UInt8)), (∀ k ∈ U, ∃ q ∈ E, rid D k = some q.id) → (E.map fun r => (U.filter fun k => decide (rid D k = some r.id)).length).sum = U.length
  | [], _ => by
    have h : ∀ E : List Rg, (E.map fun r => (([] : List (List UInt8)).filter fun k => decide (rid D k = some r.id)).length).sum = 0 := fun E => by
      induction E with
      | nil => rfl
      | cons r E ih => rw [List.map_cons, List.sum_cons, ih]; rfl
    exact h E
  | k :: U, hU => by
    have ih := cnt_all hE U fun x hx => hU x (List.mem_cons_of_mem _ hx)
    obtain ⟨q, hq, hr⟩ := hU k List.mem_cons_self
    have h1 := one_yes hr hE hq
    have hsplit : ∀ F : List Rg, (F.map fun r => ((k :: U).filter fun k => decide (rid D k = some r.id)).length).sum = (F.map fun r => (U.filter fun k => decide (rid D k = some r.id)).length).sum + oneI D k F := fun F => by
      induction F with
      | nil => rfl
      | cons r F ihF =>
        unfold oneI at ihF ⊢
        rw [List.map_cons, List.sum_cons, ihF, List.map_cons, List.sum_cons, List.map_cons, List.sum_cons, List.filter_cons]
        by_cases hk : rid D k = some r.id
        · rw [if_pos (by simpa using hk), if_pos hk, List.length_cons]; omega
        · rw [if_neg (by simpa using hk), if_neg hk]; omega
    rw [hsplit, ih, h1, List.length_cons]
theorem met_sum {D : List Rg} {l : List (List UInt8)} (hD : Srt D) (hok : ∀ (t : Nat) q, t < l.length → l[t]? = some q → (routeL D q).isSome = true) : ((specG D l).map fun p => p.2.length).sum = (uniq l).length := by
  have h1 : ∀ E : List Rg, ((E.filterMap fun r => if fil D r.id l = [] then none else some (r, fil D r.id l)).map fun p => p.2.length).sum = (E.map fun r => ((uniq l).filter fun k => decide (rid D k = some r.id)).length).sum := fun E => by
    induction E with
    | nil => rfl
    | cons r E ih =>
      rw [List.filterMap_cons, List.map_cons, List.sum_cons, ← fil_uniq]
      split
      · rename_i h
        split at h
        · rename_i h2
          rw [ih, h2]
          simp
        · cases h
      · rename_i p h
        split at h
        · cases h
        · cases h
          rw [List.map_cons, List.sum_cons, ih]
  unfold specG
  rw [h1, cnt_all hD]
  intro k hk
  obtain ⟨t, ht⟩ := List.mem_iff_getElem?.1 (uniq_mem.1 hk)
  have := hok t k (List.getElem?_eq_some_iff.1 ht).1 ht
  obtain ⟨r, hr⟩ := Option.isSome_iff_exists.1 this
  exact ⟨r, gt_mem (routeL_gt hr).1, by unfold rid; rw [hr]; rfl⟩
theorem err_iff {D : List Rg} {l : List (List UInt8)} : errG D l = 0 ↔ ∀ (t : Nat) q, t < l.length → l[t]? = some q → (routeL D q).isSome = true := by
  refine ⟨fun h t q ht hq => ?_, err_no⟩
  unfold errG at h
  cases hf : l.find? fun k => (routeL D k).isNone with
  | none =>
    have := List.find?_eq_none.1 hf q (List.mem_of_getElem? hq)
    cases hr : routeL D q with
    | none => rw [hr] at this; simp at this
    | some r => rfl
  | some k =>
    rw [hf] at h
    dsimp only at h
    split at h <;> omega
/-- what the groups say of one of them -/
theorem spec_at {D : List Rg} {l : List (List UInt8)} {L : List Gr} (hL : L.map Gr.pure = specG D l) {q : Nat} {g : Gr} (hg : L[q]? = some g) : g.ks ≠ [] ∧ g.ks = fil D g.rg.id l ∧ g.rg ∈ D := by
  have h1 : (g.rg, g.ks) ∈ specG D l := by rw [← hL]; exact List.mem_map.2 ⟨g, List.mem_of_getElem? hg, rfl⟩
  unfold specG at h1
  obtain ⟨r, hr, h2⟩ := List.mem_filterMap.1 h1
  split at h2
  · cases h2
  · rename_i h3
    have h4 := Option.some.inj h2
    have e1 : r = g.rg := congrArg (fun p => p.1) h4
    have e2 : fil D r.id l = g.ks := congrArg (fun p => p.2) h4
    subst e1
    exact ⟨by rw [← e2]; exact h3, e2.symm, hr⟩
theorem spec_rise {D : List Rg} {l : List (List UInt8)} {L : List Gr} (hD : Srt D) (hL : L.map Gr.pure = specG D l) {q p : Nat} {g g1 : Gr} (hpq : p < q) (hg : L[q]? = some g) (hg1 : L[p]? = some g1) : g1.rg.id < g.rg.id := by
  have hs : (specG D l).Pairwise fun a b => a.1.id < b.1.id := by
    unfold specG
    refine List.pairwise_filterMap.2 (hD.imp fun {a b} hab p hp q hq => ?_)
    split at hp
    · cases hp
    · split at hq
      · cases hq
      · cases hp; cases hq; exact hab
  rw [← hL] at hs
  have hs := List.pairwise_map.1 hs
  obtain ⟨h1, rfl⟩ := List.getElem?_eq_some_iff.1 hg
  obtain ⟨h2, rfl⟩ := List.getElem?_eq_some_iff.1 hg1
  exact List.pairwise_iff_getElem.1 hs p q h2 h1 hpq
theorem spec_route {D : List Rg} {l : List (List UInt8)} {L : List Gr} (hD : Srt D) (hL : L.map Gr.pure = specG D l) {q : Nat} {g : Gr} (hg : L[q]? = some g) {k : List UInt8} (hk : k ∈ g.ks) : routeL D k = some g.rg := by
  obtain ⟨-, h1, h2⟩ := spec_at hL hg
  rw [h1] at hk
  have h3 := (fil_mem.1 hk).2
  unfold rid at h3
  cases hr : routeL D k with
  | none => rw [hr] at h3; cases h3
  | some r =>
    rw [hr] at h3
    have h4 : r.id = g.rg.id := Option.some.inj h3
    have h5 := (routeL_gt hr).1
    obtain ⟨n, hn⟩ := List.mem_iff_getElem?.1 h2
    have h6 := gt_srt hD hn
    rw [h4, h6] at h5
    exact h5.symm
theorem spec_nodup {D : List Rg} {l : List (List UInt8)} {L : List Gr} (hL : L.map Gr.pure = specG D l) {q : Nat} {g : Gr} (hg : L[q]? = some g) {i j : Nat} {a b : List UInt8} (hij : i < j) (ha : g.ks[i]? = some a) (hb : g.ks[j]? = some b) : a ≠ b := by
  obtain ⟨-, h1, -⟩ := spec_at hL hg
  have hn := fil_nodup D g.rg.id l
  rw [← h1] at hn
  obtain ⟨h2, rfl⟩ := List.getElem?_eq_some_iff.1 ha
  obtain ⟨h3, rfl⟩ := List.getElem?_eq_some_iff.1 hb
  exact List.pairwise_iff_getElem.1 hn i j h2 h3 hij
theorem met_spec {D : List Rg} {l : List (List UInt8)} {L : List Gr} (hL : L.map Gr.pure = specG D l) : (L.map fun g => g.ks.length).sum = ((specG D l).map fun p => p.2.length).sum := by
  rw [← hL, List.map_map]; rfl
theorem met_snoc {L : List Gr} {q : Nat} {g : Gr} (hg : L[q]? = some g) : ((L.take (q + 1)).map fun g => g.ks.length).sum = ((L.take q).map fun g => g.ks.length).sum + g.ks.length := by
  rw [take_app hg, List.map_append, List.sum_append]; simp
theorem fam_r {w : World} {L : List Gr} (h : Fam 9 1 Gr.rw w L) {q : Nat} {g : Gr} (hg : L[q]? = some g) : Ss w g.ad kc 1 g.ks := Row.ssn (xs := g.ks) (enc := kc) (h.get hg) rfl
theorem mem_take {l : List (List UInt8)} {n : Nat} {k o : List UInt8} (ho : l[n]? = some o) : decide (k ∈ l.take (n + 1)) = (decide (k ∈ l.take n) || decide (o = k)) := by
  rw [take_app ho, Bool.eq_iff_iff]
  simp only [List.mem_append, List.mem_singleton, decide_eq_true_eq, Bool.or_eq_true]
  exact ⟨fun h => h.imp id Eq.symm, fun h => h.imp id Eq.symm⟩
theorem u_len : ∀ (l acc : List (List UInt8)), (l.foldl u1 acc).length ≤ acc.length + l.length
  | [], acc => Nat.le_refl _
  | x :: l, acc => by
    have h1 := u_len l (u1 acc x)
    have h2 : (u1 acc x).length ≤ acc.length + 1 := by unfold u1; split <;> simp
    rw [List.foldl_cons, List.length_cons]
    omega
theorem uniq_len (l : List (List UInt8)) : (uniq l).length ≤ l.length := by
  have := u_len l []
  unfold uniq
  simpa using this
theorem met_le {D : List Rg} {l : List (List UInt8)} {L : List Gr} (hD : Srt D) (hL : L.map Gr.pure = specG D l) (hok : ∀ (t : Nat) q, t < l.length → l[t]? = some q → (routeL D q).isSome = true) {q : Nat} {g : Gr} (hg : L[q]? = some g) : ((L.take q).map fun g => g.ks.length).sum + g.ks.length ≤ l.length := by
  rw [← met_snoc hg]
  have h1 := met_spec hL
  rw [met_sum hD hok] at h1
  have h2 := uniq_len l
  have h3 : (L.map fun g => g.ks.length).sum = ((L.take (q + 1)).map fun g => g.ks.length).sum + ((L.drop (q + 1)).map fun g => g.ks.length).sum := by
    rw [← List.sum_append, ← List.map_append, List.take_append_drop]
  omega

end Go.Proofs.Ytakohabmcgponaa
