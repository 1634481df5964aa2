/- Walks: DirAgain. -/
import Derived.Test.YtakohabmcgponaaW8
import Derived.Test.YtakohabmcgponaaN4
set_option linter.unusedSimpArgs false
set_option linter.unusedVariables false
namespace Go.Proofs.Ytakohabmcgponaa
open Sx
theorem Try.can4 : Sx.Can Try.prog 4 := ⟨_, Try.func4, by kernel_rfl, rfl⟩
theorem Even2_calls (m : Nat) (h1 : 1 ≤ m) (h2 : m ≤ 12) (w : World) : Calls Try.prog 9 #[.int .i64 (m : Int)] w fun e w' => ∃ ad' c', e = .returned (.tuple #[.slice ad' (evenF m m).length c', .int .i64 0]) ∧ Hp w No w' [cR 37 4 ad' (evenF m m).length c' ((evenF m m).flatMap Rg.cells)] := by
  rw [even_len]
  exact Even_yes m h1 h2 w
theorem learn_len : ∀ (l : List Rg) (s : List Rg × Nat), (l.foldl learn1 s).1.length ≤ s.1.length + l.length
  | [], s => Nat.le_refl _
  | r :: l, s => by
    have h1 := learn_len l (learn1 s r)
    have h2 : (learn1 s r).1.length ≤ s.1.length + 1 := by
      have := pt_len r s.1
      unfold learn1
      split
      · split
        · split <;> simp <;> omega
        · simpa using this
      · simp
    rw [List.foldl_cons, List.length_cons]
    omega
theorem learn_wf : ∀ {l : List Rg} {s : List Rg × Nat}, (∀ r ∈ s.1, r.wf) → (∀ r ∈ l, r.wf) → ∀ r ∈ (l.foldl learn1 s).1, r.wf
  | [], s, h, _ => h
  | x :: l, s, h, hl => by
    refine learn_wf (l := l) ?_ fun r hr => hl r (List.mem_cons_of_mem _ hr)
    have hp : ∀ r ∈ pt x s.1, r.wf := fun r hr => by
      rcases ins_mem hr with rfl | hr
      · exact hl _ List.mem_cons_self
      · exact h r (List.mem_filter.1 hr).1
    unfold learn1
    split
    · split
      · split
        · exact h
        · exact hp
      · exact hp
    · exact h
/-- what an even split is, learnt -/
def E0 (m : Nat) : List Rg := (learnR [] (evenF m m)).1
theorem E0_len {m : Nat} (h2 : m ≤ 12) : (E0 m).length ≤ 12 := by
  have := learn_len (evenF m m) ([], 0)
  rw [even_len] at this
  unfold E0 learnR
  simp at this
  omega
theorem E0_srt (m : Nat) : Srt (E0 m) := learn_srt _ List.Pairwise.nil
theorem E0_wf {m : Nat} (h1 : 1 ≤ m) (h2 : m ≤ 12) : ∀ r ∈ E0 m, r.wf := learn_wf (by simp) (even_wf h1 h2)
def NoTwo (l : List Rg) (k : Nat) : Prop := ∀ (i j : Nat) (a b : Rg), i < j → j < k → l[i]? = some a → l[j]? = some b → ¬ (a.id = b.id ∧ a.epoch = b.epoch)
theorem notwo_end {l : List Rg} (h : NoTwo l l.length) : ∀ a ∈ l, ∀ b ∈ l, a.id = b.id → a.epoch = b.epoch → a = b := fun a ha b hb h1 h2 => by
  obtain ⟨i, hi⟩ := List.mem_iff_getElem?.1 ha
  obtain ⟨j, hj⟩ := List.mem_iff_getElem?.1 hb
  have li := (List.getElem?_eq_some_iff.1 hi).1
  have lj := (List.getElem?_eq_some_iff.1 hj).1
  rcases Nat.lt_trichotomy i j with h3 | h3 | h3
  · exact absurd ⟨h1, h2⟩ (h i j a b h3 lj hi hj)
  · subst h3; rw [hi] at hj; exact Option.some.inj hj
  · exact absurd ⟨h1.symm, h2.symm⟩ (h j i b a h3 li hj hi)
theorem nt_in {l : List Rg} {j : Nat} {o2 o3 : Rg} (h : ∀ (i : Nat) (q : Rg), i < j → l[i]? = some q → ¬ (q.id = o3.id ∧ q.epoch = o3.epoch)) (ho : l[j]? = some o2) (hn : ¬ (o2.id = o3.id ∧ o2.epoch = o3.epoch)) : ∀ (i : Nat) (q : Rg), i < j + 1 → l[i]? = some q → ¬ (q.id = o3.id ∧ q.epoch = o3.epoch) := fun i q h1 h2 => by
  rcases Nat.lt_or_ge i j with h3 | h3
  · exact h i q h3 h2
  · obtain rfl : i = j := by omega
    rw [ho] at h2; cases h2; exact hn
theorem nt_out {l : List Rg} {k : Nat} {o3 : Rg} (h : NoTwo l k) (ho : l[k]? = some o3) (h2 : ∀ (i : Nat) (q : Rg), i < k → l[i]? = some q → ¬ (q.id = o3.id ∧ q.epoch = o3.epoch)) : NoTwo l (k + 1) := fun i j a b h1 h3 h4 h5 => by
  rcases Nat.lt_or_ge j k with h6 | h6
  · exact h i j a b h1 h6 h4 h5
  · obtain rfl : j = k := by omega
    rw [ho] at h5; cases h5; exact h2 i a h1 h4
theorem tk_cells2 {l : List Rg} {k : Nat} {o : Rg} (h : l[k]? = some o) : (l.take k).flatMap Rg.cells ++ o.cells = (l.take (k + 1)).flatMap Rg.cells := tk_cells h
theorem rev_get {l : List Rg} {k : Nat} {o : Rg} (h : l[l.length - 1 - k]? = some o) (hk : k < l.length) : l.reverse[k]? = some o := by
  rw [List.getElem?_reverse hk]; exact h

set_option maxHeartbeats 800000 in
theorem Again_yes (m : Nat) (h1 : 1 ≤ m) (h2 : m ≤ 12) {ad : Option Addr} {c : Nat} (l : List Rg) {w : World} (hs : Ss w ad Rg.cells 4 l) (hl : l.length ≤ 9223372036854775807) (hw : ∀ r ∈ l, r.wf) : Calls Try.prog 4 #[.int .i64 (m : Int), .slice ad l.length c] w fun e w' => e = .returned (.bool true) ∧ Ext No w w' := by
  have R : Ro w No _ := Ro.of fun w' x => hs.ext_no x
  refine Sx.calls_into Try.func4 rfl Try.ntmps4 rfl fun a hT => ?_
  replace hT := hT.keep [0, 1] rfl
  have H : Sx.Hp w (Sx.No) w [] := Sx.Hp.start _ _
  refine wp_seq_k fun K1 hK1 => ?_
  -- region 0 (extra.go:11)
  refine Sx.wp_text [(0, .take)] rfl ?_
  refine Sx.st_take hT rfl rfl rfl rfl (Sx.x_assign hT rfl rfl) ?_
  clear hT; intro a hT
  replace hT := hT.keep [4, 0, 1] rfl
  refine Sx.ser_nil ?_
  refine Sx.then_normal (hK1 _ _ ?_)
  clear hK1
  refine wp_seq_k fun K2 hK2 => ?_
  refine wp_seq_k fun K3 hK3 => ?_
  -- region 1 (extra.go:12)
  refine Sx.wp_text [(0, .run), (1, .take)] rfl ?_
  refine Sx.st_call hT rfl rfl rfl rfl rfl Try.can7 rfl (first_calls _) ?_
  rintro _ w1 ⟨rfl, E⟩
  refine ⟨_, rfl, ?_⟩
  clear hT; intro a hT
  replace H := H.pure E; clear E
  refine Sx.st_take hT rfl rfl rfl rfl (Sx.x_not hT rfl rfl) ?_
  clear hT; intro a hT
  replace hT := hT.keep [16, 4, 0, 1] rfl
  refine Sx.ser_nil ?_
  refine Sx.then_normal (hK3 _ _ ?_)
  clear hK3
  refine Sx.wp_if hT rfl (fun h => by cases h) (fun _ => ?_)
  refine wp_skip ?_
  refine Sx.then_normal (hK2 _ _ ?_)
  clear hK2
  refine wp_seq_k fun K4 hK4 => ?_
  -- region 3 (extra.go:15)
  refine Sx.wp_text [(0, .take), (1, .run), (2, .take), (3, .take), (4, .take), (5, .take), (6, .take)] rfl ?_
  refine Sx.st_take hT rfl rfl rfl rfl (Sx.x_move hT rfl rfl) ?_
  clear hT; intro a hT
  refine Sx.st_call hT rfl rfl rfl rfl rfl Try.can9 rfl (Even2_calls m h1 h2 _) ?_
  rintro _ w2 ⟨ad3, c3, rfl, K⟩
  refine ⟨_, rfl, ?_⟩
  clear hT; intro a hT
  replace H := H.more K rfl; clear K
  refine Sx.st_take hT rfl rfl rfl rfl (Sx.x_move hT rfl rfl) ?_
  clear hT; intro a hT
  refine Sx.st_take hT rfl rfl rfl rfl (Sx.x_extractL hT rfl rfl rfl) ?_
  clear hT; intro a hT
  refine Sx.st_take hT rfl rfl rfl rfl (Sx.x_extractL hT rfl rfl rfl) ?_
  clear hT; intro a hT
  refine Sx.st_take hT rfl rfl rfl rfl (Sx.x_assign hT rfl rfl) ?_
  clear hT; intro a hT
  refine Sx.st_take hT rfl rfl rfl rfl (Sx.x_assign hT rfl rfl) ?_
  clear hT; intro a hT
  replace hT := hT.keep [6, 5, 16, 4, 0, 1] rfl
  refine Sx.ser_nil ?_
  refine Sx.then_normal (hK4 _ _ ?_)
  clear hK4
  refine wp_seq_k fun K5 hK5 => ?_
  refine wp_seq_k fun K6 hK6 => ?_
  -- region 4 (extra.go:16)
  refine Sx.wp_text [(0, .take), (1, .take), (2, .take), (3, .take), (4, .take), (5, .take), (6, .take)] rfl ?_
  refine Sx.st_take hT rfl rfl rfl rfl (Sx.x_move hT rfl rfl) ?_
  clear hT; intro a hT
  refine Sx.st_take hT rfl rfl rfl rfl ((fun w => Sx.x_ne w hT rfl rfl rfl)) ?_
  clear hT; intro a hT
  refine Sx.st_take hT rfl rfl rfl rfl (Sx.x_move hT rfl rfl) ?_
  clear hT; intro a hT
  -- guard (4, 2)
  refine Sx.Sl.two hT 24 rfl (fun hc7 hT => ?_) (fun hc7 hT => ?_)
  · exfalso
    try simp only [decide_eq_true_eq, decide_eq_false_iff_not, Bool.not_eq_true', Bool.not_eq_false', Bool.not_eq_true, Bool.not_eq_false, Bool.and_eq_true, Bool.or_eq_false_iff, beq_iff_eq, bne_iff_ne, Int.not_lt, Int.not_le, ne_eq] at hc7
    first | (simp at hc7; done) | (simp at hc7; omega) | omega
  · try simp only [decide_eq_true_eq, decide_eq_false_iff_not, Bool.not_eq_true', Bool.not_eq_false', Bool.not_eq_true, Bool.not_eq_false, Bool.and_eq_true, Bool.or_eq_false_iff, beq_iff_eq, bne_iff_ne, Int.not_lt, Int.not_le, ne_eq] at hc7
    refine Sx.st_take hT rfl rfl rfl rfl (Sx.x_move hT rfl rfl) ?_
    clear hT; intro a hT
    refine Sx.st_take hT rfl rfl rfl rfl (Sx.x_len_slice hT rfl rfl Try.underlying28 rfl) ?_
    clear hT; intro a hT
    refine Sx.st_take hT rfl rfl rfl rfl ((fun w => Sx.x_gt w hT rfl rfl rfl)) ?_
    clear hT; intro a hT
    refine Sx.st_take hT rfl rfl rfl rfl (Sx.x_pick_f hT rfl rfl rfl) ?_
    clear hT; intro a hT
    replace hT := hT.keep [28, 6, 5, 16, 4, 0, 1] rfl
    refine Sx.ser_nil ?_
    refine Sx.then_normal (hK6 _ _ ?_)
    clear hK6
    -- cond 1
    refine Sx.wp_if hT rfl (fun hc8 => ?_) (fun hc8 => ?_)
    · try simp only [decide_eq_true_eq, decide_eq_false_iff_not, Bool.not_eq_true', Bool.not_eq_false', Bool.not_eq_true, Bool.not_eq_false, Bool.and_eq_true, Bool.or_eq_false_iff, beq_iff_eq, bne_iff_ne, Int.not_lt, Int.not_le, ne_eq] at hc8
      refine wp_seq_k fun K9 hK9 => ?_
      -- region 5 (extra.go:17)
      refine Sx.wp_text [(0, .run), (1, .take)] rfl ?_
      refine Sx.st_call hT rfl rfl rfl rfl rfl Try.can7 rfl (first_calls _) ?_
      rintro _ w3 ⟨rfl, E⟩
      refine ⟨_, rfl, ?_⟩
      clear hT; intro a hT
      replace H := H.pure E; clear E
      refine Sx.st_take hT rfl rfl rfl rfl (Sx.x_assign hT rfl rfl) ?_
      clear hT; intro a hT
      replace hT := hT.keep [4, 28, 6, 5, 16, 0, 1] rfl
      refine Sx.ser_nil ?_
      refine Sx.then_normal (hK9 _ _ ?_)
      clear hK9
      refine wp_ret ?_
      refine Sx.then_ret ?_
      refine Sx.done1 (fn := Try.f4) hT rfl (.tmp (hT.get 4 _ rfl)) ?_
      exact ⟨ret_b (by simp), H.ext⟩
    · try simp only [decide_eq_true_eq, decide_eq_false_iff_not, Bool.not_eq_true', Bool.not_eq_false', Bool.not_eq_true, Bool.not_eq_false, Bool.and_eq_true, Bool.or_eq_false_iff, beq_iff_eq, bne_iff_ne, Int.not_lt, Int.not_le, ne_eq] at hc8
      have hl2 : l.length ≤ 100 := by omega
      have hcn := learn_count l (E0 m, 0)
      have hAl : (learnR (E0 m) l).1.length ≤ 1000000 := by
        have h8 := learn_len l (E0 m, 0)
        have h9 := E0_len h2
        unfold learnR
        dsimp only at h8
        omega
      have hBl : (learnR (E0 m) l.reverse).1.length ≤ 1000000 := by
        have h8 := learn_len l.reverse (E0 m, 0)
        have h9 := E0_len h2
        unfold learnR
        dsimp only at h8
        rw [List.length_reverse] at h8
        omega
      have hcn2 : (learnR (E0 m) l).2 ≤ l.length := by
        unfold learnR
        dsimp only at hcn
        omega
      refine wp_skip ?_
      refine Sx.then_normal (hK5 _ _ ?_)
      clear hK5
      refine wp_seq_k fun K10 hK10 => ?_
      -- region 6 (extra.go:19)
      refine Sx.wp_text [(0, .take), (1, .run), (2, .take), (3, .take), (4, .take), (5, .take), (6, .take)] rfl ?_
      refine Sx.st_take hT rfl rfl rfl rfl (Sx.x_move hT rfl rfl) ?_
      clear hT; intro a hT
      refine Sx.st_call hT rfl rfl rfl rfl rfl Try.can10 rfl (New_yes (evenF m m) ((H.row 0 rfl).ssn rfl) (by rw [even_len]; omega) ((H.row 0 rfl).le.1) (even_wf h1 h2) (even_ok h1 h2)) ?_
      rintro _ w4 ⟨pa, ma, rfl, K⟩
      refine ⟨_, rfl, ?_⟩
      clear hT; intro a hT
      replace H := H.more K rfl; clear K
      rw [show (learnR [] (evenF m m)).1 = E0 m from rfl] at H
      refine Sx.st_take hT rfl rfl rfl rfl (Sx.x_move hT rfl rfl) ?_
      clear hT; intro a hT
      refine Sx.st_take hT rfl rfl rfl rfl (Sx.x_extractL hT rfl rfl rfl) ?_
      clear hT; intro a hT
      refine Sx.st_take hT rfl rfl rfl rfl (Sx.x_extractL hT rfl rfl rfl) ?_
      clear hT; intro a hT
      refine Sx.st_take hT rfl rfl rfl rfl (Sx.x_assign hT rfl rfl) ?_
      clear hT; intro a hT
      refine Sx.st_take hT rfl rfl rfl rfl (Sx.x_assign hT rfl rfl) ?_
      clear hT; intro a hT
      replace hT := hT.keep [8, 7, 28, 6, 5, 16, 4, 0, 1] rfl
      refine Sx.ser_nil ?_
      refine Sx.then_normal (hK10 _ _ ?_)
      clear hK10
      refine wp_seq_k fun K11 hK11 => ?_
      -- region 7 (extra.go:20)
      refine Sx.wp_text [(0, .take), (1, .run), (2, .take), (3, .take), (4, .take), (5, .take), (6, .take)] rfl ?_
      refine Sx.st_take hT rfl rfl rfl rfl (Sx.x_move hT rfl rfl) ?_
      clear hT; intro a hT
      refine Sx.st_call hT rfl rfl rfl rfl rfl Try.can10 rfl (New_yes (evenF m m) ((H.row 2 rfl).ssn rfl) (by rw [even_len]; omega) ((H.row 2 rfl).le.1) (even_wf h1 h2) (even_ok h1 h2)) ?_
      rintro _ w5 ⟨pb, mb, rfl, K⟩
      refine ⟨_, rfl, ?_⟩
      clear hT; intro a hT
      replace H := H.more K rfl; clear K
      rw [show (learnR [] (evenF m m)).1 = E0 m from rfl] at H
      refine Sx.st_take hT rfl rfl rfl rfl (Sx.x_move hT rfl rfl) ?_
      clear hT; intro a hT
      refine Sx.st_take hT rfl rfl rfl rfl (Sx.x_extractL hT rfl rfl rfl) ?_
      clear hT; intro a hT
      refine Sx.st_take hT rfl rfl rfl rfl (Sx.x_extractL hT rfl rfl rfl) ?_
      clear hT; intro a hT
      refine Sx.st_take hT rfl rfl rfl rfl (Sx.x_assign hT rfl rfl) ?_
      clear hT; intro a hT
      refine Sx.st_take hT rfl rfl rfl rfl (Sx.x_assign hT rfl rfl) ?_
      clear hT; intro a hT
      replace hT := hT.keep [10, 9, 8, 7, 28, 6, 5, 16, 4, 0, 1] rfl
      refine Sx.ser_nil ?_
      refine Sx.then_normal (hK11 _ _ ?_)
      clear hK11
      refine wp_seq_k fun K12 hK12 => ?_
      refine wp_seq_k fun K13 hK13 => ?_
      -- region 8 (extra.go:21)
      refine Sx.wp_text [(0, .take), (1, .take), (2, .take), (3, .take), (4, .take), (5, .take), (6, .take), (7, .take), (8, .take), (9, .take), (10, .take), (11, .take), (12, .take), (13, .take)] rfl ?_
      refine Sx.st_take hT rfl rfl rfl rfl (Sx.x_move hT rfl rfl) ?_
      clear hT; intro a hT
      refine Sx.st_take hT rfl rfl rfl rfl (Sx.x_eqnil_some hT rfl Try.underlying32 rfl rfl) ?_
      clear hT; intro a hT
      refine Sx.st_take hT rfl rfl rfl rfl (Sx.x_move hT rfl rfl) ?_
      clear hT; intro a hT
      refine Sx.st_take hT rfl rfl rfl rfl (Sx.x_move hT rfl rfl) ?_
      clear hT; intro a hT
      refine Sx.st_take hT rfl rfl rfl rfl (Sx.x_eqnil_some hT rfl Try.underlying32 rfl rfl) ?_
      clear hT; intro a hT
      refine Sx.st_take hT rfl rfl rfl rfl (Sx.x_pick_f hT rfl rfl rfl) ?_
      clear hT; intro a hT
      refine Sx.st_take hT rfl rfl rfl rfl (Sx.x_move hT rfl rfl) ?_
      clear hT; intro a hT
      refine Sx.st_take hT rfl rfl rfl rfl (Sx.x_move hT rfl rfl) ?_
      clear hT; intro a hT
      refine Sx.st_take hT rfl rfl rfl rfl ((fun w => Sx.x_ne w hT rfl rfl rfl)) ?_
      clear hT; intro a hT
      refine Sx.st_take hT rfl rfl rfl rfl (Sx.x_pick_f hT rfl rfl rfl) ?_
      clear hT; intro a hT
      refine Sx.st_take hT rfl rfl rfl rfl (Sx.x_move hT rfl rfl) ?_
      clear hT; intro a hT
      -- guard (8, 10)
      refine Sx.Sl.two hT 50 rfl (fun hc14 hT => ?_) (fun hc14 hT => ?_)
      · exfalso
        try simp only [decide_eq_true_eq, decide_eq_false_iff_not, Bool.not_eq_true', Bool.not_eq_false', Bool.not_eq_true, Bool.not_eq_false, Bool.and_eq_true, Bool.or_eq_false_iff, beq_iff_eq, bne_iff_ne, Int.not_lt, Int.not_le, ne_eq] at hc14
        first | (simp at hc14; done) | (simp at hc14; omega) | omega
      · try simp only [decide_eq_true_eq, decide_eq_false_iff_not, Bool.not_eq_true', Bool.not_eq_false', Bool.not_eq_true, Bool.not_eq_false, Bool.and_eq_true, Bool.or_eq_false_iff, beq_iff_eq, bne_iff_ne, Int.not_lt, Int.not_le, ne_eq] at hc14
        refine Sx.st_take hT rfl rfl rfl rfl (Sx.x_move hT rfl rfl) ?_
        clear hT; intro a hT
        refine Sx.st_take hT rfl rfl rfl rfl ((fun w => Sx.x_ne w hT rfl rfl rfl)) ?_
        clear hT; intro a hT
        refine Sx.st_take hT rfl rfl rfl rfl (Sx.x_pick_f hT rfl rfl rfl) ?_
        clear hT; intro a hT
        replace hT := hT.keep [53, 10, 9, 8, 7, 28, 6, 5, 16, 4, 0, 1] rfl
        refine Sx.ser_nil ?_
        refine Sx.then_normal (hK13 _ _ ?_)
        clear hK13
        -- cond 2
        refine Sx.wp_if hT rfl (fun hc15 => ?_) (fun hc15 => ?_)
        · exfalso
          try simp only [decide_eq_true_eq, decide_eq_false_iff_not, Bool.not_eq_true', Bool.not_eq_false', Bool.not_eq_true, Bool.not_eq_false, Bool.and_eq_true, Bool.or_eq_false_iff, beq_iff_eq, bne_iff_ne, Int.not_lt, Int.not_le, ne_eq] at hc15
          first | (simp at hc15; done) | (simp at hc15; omega) | omega
        · try simp only [decide_eq_true_eq, decide_eq_false_iff_not, Bool.not_eq_true', Bool.not_eq_false', Bool.not_eq_true, Bool.not_eq_false, Bool.and_eq_true, Bool.or_eq_false_iff, beq_iff_eq, bne_iff_ne, Int.not_lt, Int.not_le, ne_eq] at hc15
          refine wp_skip ?_
          refine Sx.then_normal (hK12 _ _ ?_)
          clear hK12
          refine wp_seq_k fun K16 hK16 => ?_
          -- region 10 (extra.go:24)
          refine Sx.wp_text [(0, .take), (1, .take), (2, .run), (3, .take)] rfl ?_
          refine Sx.st_take hT rfl rfl rfl rfl (Sx.x_move hT rfl rfl) ?_
          clear hT; intro a hT
          refine Sx.st_take hT rfl rfl rfl rfl (Sx.x_move hT rfl rfl) ?_
          clear hT; intro a hT
          refine Sx.st_call hT rfl rfl rfl rfl rfl Try.can12 rfl (Learn_calls l (H.pre [2, 3] rfl rfl) (H.ro R [2, 3] rfl) (by omega) (by have := E0_len h2; omega) hw) ?_
          rintro _ w6 ⟨rfl, K⟩
          refine ⟨_, rfl, ?_⟩
          clear hT; intro a hT
          replace H := H.back [2, 3] [0, 1, 4] rfl rfl rfl K rfl; clear K
          refine Sx.st_take hT rfl rfl rfl rfl (Sx.x_assign hT rfl rfl) ?_
          clear hT; intro a hT
          replace hT := hT.keep [11, 53, 10, 9, 8, 7, 28, 6, 5, 16, 4, 0, 1] rfl
          refine Sx.ser_nil ?_
          refine Sx.then_normal (hK16 _ _ ?_)
          clear hK16
          refine wp_seq_k fun K17 hK17 => ?_
          refine wp_seq_k fun K18 hK18 => ?_
          -- region 11 (extra.go:25)
          refine Sx.wp_text [(0, .take), (1, .take), (2, .take), (3, .take), (4, .take), (5, .take), (6, .take), (7, .take), (8, .take), (9, .take), (10, .take), (11, .run), (12, .take), (13, .take)] rfl ?_
          refine Sx.st_take hT rfl rfl rfl rfl (Sx.x_move hT rfl rfl) ?_
          clear hT; intro a hT
          refine Sx.st_take hT rfl rfl rfl rfl ((fun w => Sx.x_lt w hT rfl rfl rfl)) ?_
          clear hT; intro a hT
          refine Sx.st_take hT rfl rfl rfl rfl (Sx.x_move hT rfl rfl) ?_
          clear hT; intro a hT
          -- guard (11, 2)
          refine Sx.Sl.two hT 59 rfl (fun hc19 hT => ?_) (fun hc19 hT => ?_)
          · exfalso
            try simp only [decide_eq_true_eq, decide_eq_false_iff_not, Bool.not_eq_true', Bool.not_eq_false', Bool.not_eq_true, Bool.not_eq_false, Bool.and_eq_true, Bool.or_eq_false_iff, beq_iff_eq, bne_iff_ne, Int.not_lt, Int.not_le, ne_eq] at hc19
            first | (simp at hc19; done) | (simp at hc19; omega) | omega
          · try simp only [decide_eq_true_eq, decide_eq_false_iff_not, Bool.not_eq_true', Bool.not_eq_false', Bool.not_eq_true, Bool.not_eq_false, Bool.and_eq_true, Bool.or_eq_false_iff, beq_iff_eq, bne_iff_ne, Int.not_lt, Int.not_le, ne_eq] at hc19
            refine Sx.st_take hT rfl rfl rfl rfl (Sx.x_move hT rfl rfl) ?_
            clear hT; intro a hT
            refine Sx.st_take hT rfl rfl rfl rfl (Sx.x_move hT rfl rfl) ?_
            clear hT; intro a hT
            refine Sx.st_take hT rfl rfl rfl rfl (Sx.x_len_slice hT rfl rfl Try.underlying28 rfl) ?_
            clear hT; intro a hT
            refine Sx.st_take hT rfl rfl rfl rfl ((fun w => Sx.x_gt w hT rfl rfl rfl)) ?_
            clear hT; intro a hT
            refine Sx.st_take hT rfl rfl rfl rfl (Sx.x_pick_f hT rfl rfl rfl) ?_
            clear hT; intro a hT
            refine Sx.st_take hT rfl rfl rfl rfl (Sx.x_move hT rfl rfl) ?_
            clear hT; intro a hT
            -- guard (11, 8)
            refine Sx.Sl.two hT 65 rfl (fun hc20 hT => ?_) (fun hc20 hT => ?_)
            · exfalso
              try simp only [decide_eq_true_eq, decide_eq_false_iff_not, Bool.not_eq_true', Bool.not_eq_false', Bool.not_eq_true, Bool.not_eq_false, Bool.and_eq_true, Bool.or_eq_false_iff, beq_iff_eq, bne_iff_ne, Int.not_lt, Int.not_le, ne_eq] at hc20
              first | (simp at hc20; done) | (simp at hc20; omega) | omega
            · try simp only [decide_eq_true_eq, decide_eq_false_iff_not, Bool.not_eq_true', Bool.not_eq_false', Bool.not_eq_true, Bool.not_eq_false, Bool.and_eq_true, Bool.or_eq_false_iff, beq_iff_eq, bne_iff_ne, Int.not_lt, Int.not_le, ne_eq] at hc20
              refine Sx.st_take hT rfl rfl rfl rfl (Sx.x_move hT rfl rfl) ?_
              clear hT; intro a hT
              refine Sx.st_take hT rfl rfl rfl rfl (Sx.x_move hT rfl rfl) ?_
              clear hT; intro a hT
              refine Sx.st_call hT rfl rfl rfl rfl rfl Try.can12 rfl (Learn_calls l (H.pre [0, 1] rfl rfl) (H.ro R [0, 1] rfl) (by omega) hAl hw) ?_
              rintro _ w7 ⟨rfl, K⟩
              refine ⟨_, rfl, ?_⟩
              clear hT; intro a hT
              replace H := H.back [0, 1] [2, 3, 4] rfl rfl rfl K rfl; clear K
              rw [show (learnR (learnR (E0 m) l).1 l).1 = (learnR (E0 m) l).1 from by rw [learn_again]] at H
              rw [show (learnR (learnR (E0 m) l).1 l).2 = 0 from by rw [learn_again]] at hT
              refine Sx.st_take hT rfl rfl rfl rfl ((fun w => Sx.x_ne w hT rfl rfl rfl)) ?_
              clear hT; intro a hT
              refine Sx.st_take hT rfl rfl rfl rfl (Sx.x_pick_f hT rfl rfl rfl) ?_
              clear hT; intro a hT
              replace hT := hT.keep [70, 11, 53, 10, 9, 8, 7, 28, 6, 5, 16, 4, 0, 1] rfl
              refine Sx.ser_nil ?_
              refine Sx.then_normal (hK18 _ _ ?_)
              clear hK18
              -- cond 3
              refine Sx.wp_if hT rfl (fun hc21 => ?_) (fun hc21 => ?_)
              · exfalso
                try simp only [decide_eq_true_eq, decide_eq_false_iff_not, Bool.not_eq_true', Bool.not_eq_false', Bool.not_eq_true, Bool.not_eq_false, Bool.and_eq_true, Bool.or_eq_false_iff, beq_iff_eq, bne_iff_ne, Int.not_lt, Int.not_le, ne_eq] at hc21
                first | (simp at hc21; done) | (simp at hc21; omega) | omega
              · try simp only [decide_eq_true_eq, decide_eq_false_iff_not, Bool.not_eq_true', Bool.not_eq_false', Bool.not_eq_true, Bool.not_eq_false, Bool.and_eq_true, Bool.or_eq_false_iff, beq_iff_eq, bne_iff_ne, Int.not_lt, Int.not_le, ne_eq] at hc21
                refine wp_skip ?_
                refine Sx.then_normal (hK17 _ _ ?_)
                clear hK17
                refine wp_seq_k fun K22 hK22 => ?_
                -- region 13 (extra.go:28)
                refine Sx.wp_text [(0, .take)] rfl ?_
                refine Sx.st_take hT rfl rfl rfl rfl (Sx.x_assign hT rfl rfl) ?_
                clear hT; intro a hT
                replace hT := hT.keep [12, 70, 11, 53, 10, 9, 8, 7, 28, 6, 5, 16, 4, 0, 1] rfl
                refine Sx.ser_nil ?_
                refine Sx.then_normal (hK22 _ _ ?_)
                clear hK22
                refine wp_seq_k fun K23 hK23 => ?_
                refine wp_seq_k fun K24 hK24 => ?_
                -- region 14 (extra.go:29)
                refine Sx.wp_text [(0, .take)] rfl ?_
                refine Sx.st_take hT rfl rfl rfl rfl (Sx.x_assign hT rfl rfl) ?_
                clear hT; intro a hT
                replace hT := hT.keep [13, 12, 70, 11, 53, 10, 9, 8, 7, 28, 6, 5, 16, 4, 0, 1] rfl
                refine Sx.ser_nil ?_
                refine Sx.then_normal (hK24 _ _ ?_)
                clear hK24
                refine wp_block ?_
                replace H := H.nilR 37 4
                -- loop 0
                refine Sx.wp_loopH (G := Nat × Option Addr × Nat) (fun ⟨k, ad2, c2⟩ => [(13, .int .i64 (k : Int)), (12, .slice ad2 k c2)]) (fun ⟨k, ad2, c2⟩ => [cR 37 4 ad2 k c2 ((l.reverse.take k).flatMap Rg.cells)]) (fun ⟨k, ad2, c2⟩ => k ≤ l.length ∧ NoTwo l k) (fun ⟨k, ad2, c2⟩ => l.length - k) (0, none, 0) (hT.keep [13, 12, 70, 11, 53, 10, 9, 8, 7, 28, 6, 5, 16, 0, 1] rfl) (H.keep [0, 1, 2, 3, 4, 5] rfl rfl) (⟨Nat.zero_le _, fun i j a b h h9 => by omega⟩) ?_
                clear hT H
                rintro ⟨k, ad2, c2⟩ a w8 hJ hT H
                replace hT := hT.keep [13, 12, 70, 11, 53, 10, 9, 8, 7, 28, 6, 5, 16, 0, 1] rfl
                replace H := H.keep [0, 1, 2, 3, 4, 5] rfl rfl
                obtain ⟨hk, hnt⟩ := hJ
                refine wp_seq_k fun K25 hK25 => ?_
                refine wp_seq_k fun K26 hK26 => ?_
                -- region 15 (extra.go:29)
                refine Sx.wp_text [(0, .take), (1, .take), (2, .take), (3, .take)] rfl ?_
                refine Sx.st_take hT rfl rfl rfl rfl (Sx.x_move hT rfl rfl) ?_
                clear hT; intro a hT
                refine Sx.st_take hT rfl rfl rfl rfl (Sx.x_move hT rfl rfl) ?_
                clear hT; intro a hT
                refine Sx.st_take hT rfl rfl rfl rfl (Sx.x_len_slice hT rfl rfl Try.underlying28 rfl) ?_
                clear hT; intro a hT
                refine Sx.st_take hT rfl rfl rfl rfl ((fun w => Sx.x_lt w hT rfl rfl rfl)) ?_
                clear hT; intro a hT
                replace hT := hT.keep [74, 13, 12, 70, 11, 53, 10, 9, 8, 7, 28, 6, 5, 16, 0, 1] rfl
                refine Sx.ser_nil ?_
                refine Sx.then_normal (hK26 _ _ ?_)
                clear hK26
                -- cond 4
                refine Sx.wp_if hT rfl (fun hc27 => ?_) (fun hc27 => ?_)
                · try simp only [decide_eq_true_eq, decide_eq_false_iff_not, Bool.not_eq_true', Bool.not_eq_false', Bool.not_eq_true, Bool.not_eq_false, Bool.and_eq_true, Bool.or_eq_false_iff, beq_iff_eq, bne_iff_ne, Int.not_lt, Int.not_le, ne_eq] at hc27
                  obtain ⟨o, ho⟩ : ∃ o, l[l.length - 1 - k]? = some o := ⟨_, List.getElem?_eq_getElem (by omega)⟩
                  have hor := rev_get ho (by omega)
                  obtain ⟨o3, ho3⟩ : ∃ o, l[k]? = some o := ⟨_, List.getElem?_eq_getElem (by omega)⟩
                  refine wp_skip ?_
                  refine Sx.then_normal (hK25 _ _ ?_)
                  clear hK25
                  refine wp_seq_k fun K28 hK28 => ?_
                  refine wp_block ?_
                  refine wp_seq_k fun K29 hK29 => ?_
                  -- region 17 (extra.go:30)
                  refine Sx.wp_text [(0, .take), (1, .take), (2, .take), (3, .take), (4, .take), (5, .take), (6, .take), (7, .take), (8, .run), (9, .run), (10, .run), (11, .take)] rfl ?_
                  refine Sx.st_take hT rfl rfl rfl rfl (Sx.x_move hT rfl rfl) ?_
                  clear hT; intro a hT
                  refine Sx.st_take hT rfl rfl rfl rfl (Sx.x_move hT rfl rfl) ?_
                  clear hT; intro a hT
                  refine Sx.st_take hT rfl rfl rfl rfl (Sx.x_move hT rfl rfl) ?_
                  clear hT; intro a hT
                  refine Sx.st_take hT rfl rfl rfl rfl (Sx.x_len_slice hT rfl rfl Try.underlying28 rfl) ?_
                  clear hT; intro a hT
                  refine Sx.st_take hT rfl rfl rfl rfl ((fun w => Sx.x_sub w hT rfl rfl rfl (Sx.wrap64 (by omega)))) ?_
                  clear hT; intro a hT
                  refine Sx.st_take hT rfl rfl rfl rfl (Sx.x_move hT rfl rfl) ?_
                  clear hT; intro a hT
                  refine Sx.st_take hT rfl rfl rfl rfl ((fun w => Sx.x_sub w hT rfl rfl rfl (Sx.wrap64 (by omega)))) ?_
                  clear hT; intro a hT
                  refine Sx.st_take hT rfl rfl rfl rfl (Sx.x_index (k := l.length - 1 - k) hT rfl Try.underlying28 Try.ti37 (R.at H.ext).sv rfl rfl (by first | rfl | omega) (by omega)) ?_
                  clear hT; intro a hT
                  refine Sx.st_run hT rfl rfl rfl rfl (Sx.y_loadS hT rfl Try.underlying37 Try.ti37 rfl ((R.at H.ext).cs Rg.len ho) (by rfl)) ?_
                  clear hT; intro a hT
                  refine Sx.st_eff hT rfl rfl rfl rfl (Sx.y_slice1 hT rfl Try.underlying28 Try.ti37 rfl rfl rfl rfl rfl rfl _) ?_
                  clear hT; rintro _ w9 ⟨b1, rfl, N⟩ a hT
                  replace H := H.new N; clear N
                  refine Sx.st_eff hT rfl rfl rfl rfl (Sx.x_append hT rfl rfl Try.underlying28 Try.ti37 rfl (by decide) rfl rfl (H.row 1 rfl) ((H.blk 0 rfl).sv1 rfl) (Rg.one o) (fun h => by cases h) (by unfold maxLen; omega) (by omega)) ?_
                  rintro _ w10 ⟨ad10, c10, rfl, hr, E, hown, -⟩
                  clear hT; intro a hT
                  replace H := H.setR 1 rfl hr E hown rfl; clear hr E hown
                  refine Sx.st_take hT rfl rfl rfl rfl (Sx.x_assign hT rfl rfl) ?_
                  clear hT; intro a hT
                  replace hT := hT.keep [12, 74, 13, 70, 11, 53, 10, 9, 8, 7, 28, 6, 5, 16, 0, 1] rfl
                  refine Sx.ser_nil ?_
                  refine Sx.then_normal (hK29 _ _ ?_)
                  clear hK29
                  refine wp_seq_k fun K30 hK30 => ?_
                  -- region 18 (extra.go:31)
                  refine Sx.wp_text [(0, .take)] rfl ?_
                  refine Sx.st_take hT rfl rfl rfl rfl (Sx.x_assign hT rfl rfl) ?_
                  clear hT; intro a hT
                  replace hT := hT.keep [14, 12, 74, 13, 70, 11, 53, 10, 9, 8, 7, 28, 6, 5, 16, 0, 1] rfl
                  refine Sx.ser_nil ?_
                  refine Sx.then_normal (hK30 _ _ ?_)
                  clear hK30
                  refine wp_block ?_
                  rw [tk_cells2 hor] at H
                  -- loop 1
                  refine Sx.wp_loopH (G := Nat) (fun j => [(14, .int .i64 (j : Int))]) (fun j => []) (fun j => j ≤ k ∧ ∀ (i : Nat) (q : Rg), i < j → l[i]? = some q → ¬ (q.id = o3.id ∧ q.epoch = o3.epoch)) (fun j => k - j) 0 (hT.keep [14, 12, 74, 13, 70, 11, 53, 10, 9, 8, 7, 28, 6, 5, 16, 0, 1] rfl) (H.keep [0, 1, 2, 3, 4, 5, 6] rfl rfl) (⟨Nat.zero_le _, fun i q h => by omega⟩) ?_
                  clear hT H
                  rintro j a w11 hJ hT H
                  replace hT := hT.keep [14, 12, 74, 13, 70, 11, 53, 10, 9, 8, 7, 28, 6, 5, 16, 0, 1] rfl
                  replace H := H.keep [0, 1, 2, 3, 4, 5, 6] rfl rfl
                  obtain ⟨hj, hnj⟩ := hJ
                  refine wp_seq_k fun K31 hK31 => ?_
                  refine wp_seq_k fun K32 hK32 => ?_
                  -- region 19 (extra.go:31)
                  refine Sx.wp_text [(0, .take), (1, .take), (2, .take)] rfl ?_
                  refine Sx.st_take hT rfl rfl rfl rfl (Sx.x_move hT rfl rfl) ?_
                  clear hT; intro a hT
                  refine Sx.st_take hT rfl rfl rfl rfl (Sx.x_move hT rfl rfl) ?_
                  clear hT; intro a hT
                  refine Sx.st_take hT rfl rfl rfl rfl ((fun w => Sx.x_lt w hT rfl rfl rfl)) ?_
                  clear hT; intro a hT
                  replace hT := hT.keep [90, 14, 12, 74, 13, 70, 11, 53, 10, 9, 8, 7, 28, 6, 5, 16, 0, 1] rfl
                  refine Sx.ser_nil ?_
                  refine Sx.then_normal (hK32 _ _ ?_)
                  clear hK32
                  -- cond 5
                  refine Sx.wp_if hT rfl (fun hc33 => ?_) (fun hc33 => ?_)
                  · try simp only [decide_eq_true_eq, decide_eq_false_iff_not, Bool.not_eq_true', Bool.not_eq_false', Bool.not_eq_true, Bool.not_eq_false, Bool.and_eq_true, Bool.or_eq_false_iff, beq_iff_eq, bne_iff_ne, Int.not_lt, Int.not_le, ne_eq] at hc33
                    obtain ⟨o2, ho2⟩ : ∃ o, l[j]? = some o := ⟨_, List.getElem?_eq_getElem (by omega)⟩
                    refine wp_skip ?_
                    refine Sx.then_normal (hK31 _ _ ?_)
                    clear hK31
                    refine wp_seq_k fun K34 hK34 => ?_
                    refine wp_block ?_
                    refine wp_seq_k fun K35 hK35 => ?_
                    -- region 21 (extra.go:32)
                    refine Sx.wp_draws (fun u => Sx.Ext (Sx.No) u) [(0, .take), (1, .take), (2, .take), (3, .take), (4, .held), (5, .take), (6, .take), (7, .take), (8, .take), (9, .held), (10, .take), (11, .take), (12, .take), (13, .take), (14, .take), (15, .take), (16, .held), (17, .take), (18, .take), (19, .take), (20, .take), (21, .held), (22, .take), (23, .take)] (by kernel_rfl) (by kernel_rfl) (fun u E _ => ?_)
                    replace H := H.pure E; clear E
                    have hH : Sx.Ext (Sx.No) u u := Sx.Ext.refl _ _
                    have Hu := H
                    refine Sx.st_take hT rfl rfl rfl rfl (Sx.x_move hT rfl rfl) ?_
                    clear hT; intro a hT
                    refine Sx.st_take hT rfl rfl rfl rfl (Sx.x_move hT rfl rfl) ?_
                    clear hT; intro a hT
                    refine Sx.st_take hT rfl rfl rfl rfl (Sx.x_index (k := j) hT rfl Try.underlying28 Try.ti37 (R.at H.ext).sv rfl rfl (by first | rfl | omega) (by omega)) ?_
                    clear hT; intro a hT
                    refine Sx.st_take hT rfl rfl rfl rfl (Sx.x_fieldAddr hT rfl Try.fa37_0 rfl) ?_
                    clear hT; intro a hT
                    refine Sx.st_held hT rfl rfl rfl rfl hH (fun w' h' => Sx.x_load1 hT rfl Try.fl3 rfl (by first | exact ((Hu.heldB 0 rfl h' Sx.off_No).nth rfl) | exact ((R.at (Hu.ext.step h')).cell (j := 0) Rg.len ho2 rfl) | exact ((R.at (Hu.ext.step h')).cell (j := 0) Rg.len ho3 rfl) | exact ((R.at (Hu.ext.step h')).cell (j := 1) Rg.len ho2 rfl) | exact ((R.at (Hu.ext.step h')).cell (j := 1) Rg.len ho3 rfl))) ?_
                    clear hT; intro a hT
                    refine Sx.st_take hT rfl rfl rfl rfl (Sx.x_move hT rfl rfl) ?_
                    clear hT; intro a hT
                    refine Sx.st_take hT rfl rfl rfl rfl (Sx.x_move hT rfl rfl) ?_
                    clear hT; intro a hT
                    refine Sx.st_take hT rfl rfl rfl rfl (Sx.x_index (k := k) hT rfl Try.underlying28 Try.ti37 (R.at H.ext).sv rfl rfl (by first | rfl | omega) (by omega)) ?_
                    clear hT; intro a hT
                    refine Sx.st_take hT rfl rfl rfl rfl (Sx.x_fieldAddr hT rfl Try.fa37_0 rfl) ?_
                    clear hT; intro a hT
                    refine Sx.st_held hT rfl rfl rfl rfl hH (fun w' h' => Sx.x_load1 hT rfl Try.fl3 rfl (by first | exact ((Hu.heldB 0 rfl h' Sx.off_No).nth rfl) | exact ((R.at (Hu.ext.step h')).cell (j := 0) Rg.len ho2 rfl) | exact ((R.at (Hu.ext.step h')).cell (j := 0) Rg.len ho3 rfl) | exact ((R.at (Hu.ext.step h')).cell (j := 1) Rg.len ho2 rfl) | exact ((R.at (Hu.ext.step h')).cell (j := 1) Rg.len ho3 rfl))) ?_
                    clear hT; intro a hT
                    refine Sx.st_take hT rfl rfl rfl rfl ((fun w => Sx.x_eq w hT rfl rfl rfl)) ?_
                    clear hT; intro a hT
                    refine Sx.st_take hT rfl rfl rfl rfl (Sx.x_move hT rfl rfl) ?_
                    clear hT; intro a hT
                    -- guard (21, 11)
                    refine Sx.Sl.two hT 104 rfl (fun hc36 hT => ?_) (fun hc36 hT => ?_)
                    · try simp only [decide_eq_true_eq, decide_eq_false_iff_not, Bool.not_eq_true', Bool.not_eq_false', Bool.not_eq_true, Bool.not_eq_false, Bool.and_eq_true, Bool.or_eq_false_iff, beq_iff_eq, bne_iff_ne, Int.not_lt, Int.not_le, ne_eq] at hc36
                      refine Sx.st_take hT rfl rfl rfl rfl (Sx.x_move hT rfl rfl) ?_
                      clear hT; intro a hT
                      refine Sx.st_take hT rfl rfl rfl rfl (Sx.x_move hT rfl rfl) ?_
                      clear hT; intro a hT
                      refine Sx.st_take hT rfl rfl rfl rfl (Sx.x_index (k := j) hT rfl Try.underlying28 Try.ti37 (R.at H.ext).sv rfl rfl (by first | rfl | omega) (by omega)) ?_
                      clear hT; intro a hT
                      refine Sx.st_take hT rfl rfl rfl rfl (Sx.x_fieldAddr hT rfl Try.fa37_1 rfl) ?_
                      clear hT; intro a hT
                      refine Sx.st_held hT rfl rfl rfl rfl hH (fun w' h' => Sx.x_load1 hT rfl Try.fl3 rfl (by first | exact ((Hu.heldB 0 rfl h' Sx.off_No).nth rfl) | exact ((R.at (Hu.ext.step h')).cell (j := 0) Rg.len ho2 rfl) | exact ((R.at (Hu.ext.step h')).cell (j := 0) Rg.len ho3 rfl) | exact ((R.at (Hu.ext.step h')).cell (j := 1) Rg.len ho2 rfl) | exact ((R.at (Hu.ext.step h')).cell (j := 1) Rg.len ho3 rfl))) ?_
                      clear hT; intro a hT
                      refine Sx.st_take hT rfl rfl rfl rfl (Sx.x_move hT rfl rfl) ?_
                      clear hT; intro a hT
                      refine Sx.st_take hT rfl rfl rfl rfl (Sx.x_move hT rfl rfl) ?_
                      clear hT; intro a hT
                      refine Sx.st_take hT rfl rfl rfl rfl (Sx.x_index (k := k) hT rfl Try.underlying28 Try.ti37 (R.at H.ext).sv rfl rfl (by first | rfl | omega) (by omega)) ?_
                      clear hT; intro a hT
                      refine Sx.st_take hT rfl rfl rfl rfl (Sx.x_fieldAddr hT rfl Try.fa37_1 rfl) ?_
                      clear hT; intro a hT
                      refine Sx.st_held hT rfl rfl rfl rfl hH (fun w' h' => Sx.x_load1 hT rfl Try.fl3 rfl (by first | exact ((Hu.heldB 0 rfl h' Sx.off_No).nth rfl) | exact ((R.at (Hu.ext.step h')).cell (j := 0) Rg.len ho2 rfl) | exact ((R.at (Hu.ext.step h')).cell (j := 0) Rg.len ho3 rfl) | exact ((R.at (Hu.ext.step h')).cell (j := 1) Rg.len ho2 rfl) | exact ((R.at (Hu.ext.step h')).cell (j := 1) Rg.len ho3 rfl))) ?_
                      clear hT; intro a hT
                      refine Sx.st_take hT rfl rfl rfl rfl ((fun w => Sx.x_eq w hT rfl rfl rfl)) ?_
                      clear hT; intro a hT
                      refine Sx.st_take hT rfl rfl rfl rfl (Sx.x_pick_t hT rfl rfl rfl) ?_
                      clear hT; intro a hT
                      replace hT := hT.keep [116, 90, 14, 12, 74, 13, 70, 11, 53, 10, 9, 8, 7, 28, 6, 5, 16, 0, 1] rfl
                      clear Hu hH
                      refine Sx.ser_calm ?_
                      refine Sx.then_normal (hK35 _ _ ?_)
                      clear hK35
                      -- cond 6
                      refine Sx.wp_if hT rfl (fun hc37 => ?_) (fun hc37 => ?_)
                      · try simp only [decide_eq_true_eq, decide_eq_false_iff_not, Bool.not_eq_true', Bool.not_eq_false', Bool.not_eq_true, Bool.not_eq_false, Bool.and_eq_true, Bool.or_eq_false_iff, beq_iff_eq, bne_iff_ne, Int.not_lt, Int.not_le, ne_eq] at hc37
                        refine wp_seq_k fun K38 hK38 => ?_
                        -- region 22 (extra.go:33)
                        refine Sx.wp_text [(0, .run), (1, .take)] rfl ?_
                        refine Sx.st_call hT rfl rfl rfl rfl rfl Try.can7 rfl (first_calls _) ?_
                        rintro _ w12 ⟨rfl, E⟩
                        refine ⟨_, rfl, ?_⟩
                        clear hT; intro a hT
                        replace H := H.pure E; clear E
                        refine Sx.st_take hT rfl rfl rfl rfl (Sx.x_assign hT rfl rfl) ?_
                        clear hT; intro a hT
                        replace hT := hT.keep [4, 116, 90, 14, 12, 74, 13, 70, 11, 53, 10, 9, 8, 7, 28, 6, 5, 16, 0, 1] rfl
                        refine Sx.ser_nil ?_
                        refine Sx.then_normal (hK38 _ _ ?_)
                        clear hK38
                        refine wp_ret ?_
                        refine Sx.block_ret ?_
                        refine Sx.then_ret ?_
                        refine Sx.then_ret ?_
                        refine Sx.block_ret ?_
                        refine Sx.block_ret ?_
                        refine Sx.then_ret ?_
                        refine Sx.then_ret ?_
                        refine Sx.block_ret ?_
                        refine Sx.then_ret ?_
                        refine Sx.done1 (fn := Try.f4) hT rfl (.tmp (hT.get 4 _ rfl)) ?_
                        exact ⟨ret_b (by simp), H.ext⟩
                      · try simp only [decide_eq_true_eq, decide_eq_false_iff_not, Bool.not_eq_true', Bool.not_eq_false', Bool.not_eq_true, Bool.not_eq_false, Bool.and_eq_true, Bool.or_eq_false_iff, beq_iff_eq, bne_iff_ne, Int.not_lt, Int.not_le, ne_eq] at hc37
                        have hne : ¬ (o2.id = o3.id ∧ o2.epoch = o3.epoch) := fun h9 => hc37 h9.2
                        refine wp_skip ?_
                        refine Sx.block_normal ?_
                        refine Sx.then_normal (hK34 _ _ ?_)
                        clear hK34
                        -- region 20 (extra.go:31)
                        refine Sx.wp_text [(0, .take), (1, .take), (2, .take)] rfl ?_
                        refine Sx.st_take hT rfl rfl rfl rfl (Sx.x_move hT rfl rfl) ?_
                        clear hT; intro a hT
                        refine Sx.st_take hT rfl rfl rfl rfl ((fun w => Sx.x_add w hT rfl rfl rfl (Sx.wrap64 (by omega)))) ?_
                        clear hT; intro a hT
                        refine Sx.st_take hT rfl rfl rfl rfl (Sx.x_assign hT rfl rfl) ?_
                        clear hT; intro a hT
                        replace hT := hT.keep [14, 116, 90, 12, 74, 13, 70, 11, 53, 10, 9, 8, 7, 28, 6, 5, 16, 0, 1] rfl
                        refine Sx.ser_nil ?_
                        refine Sx.then_normal ?_
                        exact ⟨j + 1, ⟨by omega, nt_in hnj ho2 hne⟩, (hT.keep [14, 12, 74, 13, 70, 11, 53, 10, 9, 8, 7, 28, 6, 5, 16, 0, 1] rfl), (H.keep [0, 1, 2, 3, 4, 5, 6] rfl rfl), by omega⟩
                    · try simp only [decide_eq_true_eq, decide_eq_false_iff_not, Bool.not_eq_true', Bool.not_eq_false', Bool.not_eq_true, Bool.not_eq_false, Bool.and_eq_true, Bool.or_eq_false_iff, beq_iff_eq, bne_iff_ne, Int.not_lt, Int.not_le, ne_eq] at hc36
                      have hne : ¬ (o2.id = o3.id ∧ o2.epoch = o3.epoch) := fun h9 => hc36 h9.1
                      refine Sx.st_skip hT rfl rfl rfl rfl ?_
                      clear hT; intro a hT
                      refine Sx.st_skip hT rfl rfl rfl rfl ?_
                      clear hT; intro a hT
                      refine Sx.st_skip hT rfl rfl rfl rfl ?_
                      clear hT; intro a hT
                      refine Sx.st_skip hT rfl rfl rfl rfl ?_
                      clear hT; intro a hT
                      refine Sx.st_heldskip hT rfl rfl rfl rfl hH ?_
                      clear hT; intro a hT
                      refine Sx.st_skip hT rfl rfl rfl rfl ?_
                      clear hT; intro a hT
                      refine Sx.st_skip hT rfl rfl rfl rfl ?_
                      clear hT; intro a hT
                      refine Sx.st_skip hT rfl rfl rfl rfl ?_
                      clear hT; intro a hT
                      refine Sx.st_skip hT rfl rfl rfl rfl ?_
                      clear hT; intro a hT
                      refine Sx.st_heldskip hT rfl rfl rfl rfl hH ?_
                      clear hT; intro a hT
                      refine Sx.st_skip hT rfl rfl rfl rfl ?_
                      clear hT; intro a hT
                      refine Sx.st_take hT rfl rfl rfl rfl (Sx.x_pick_f hT rfl rfl rfl) ?_
                      clear hT; intro a hT
                      replace hT := hT.keep [116, 90, 14, 12, 74, 13, 70, 11, 53, 10, 9, 8, 7, 28, 6, 5, 16, 0, 1] rfl
                      clear Hu hH
                      refine Sx.ser_calm ?_
                      refine Sx.then_normal (hK35 _ _ ?_)
                      clear hK35
                      refine Sx.wp_if hT rfl (fun h => by cases h) (fun _ => ?_)
                      skip
                      refine wp_skip ?_
                      refine Sx.block_normal ?_
                      refine Sx.then_normal (hK34 _ _ ?_)
                      clear hK34
                      -- region 20 (extra.go:31)
                      refine Sx.wp_text [(0, .take), (1, .take), (2, .take)] rfl ?_
                      refine Sx.st_take hT rfl rfl rfl rfl (Sx.x_move hT rfl rfl) ?_
                      clear hT; intro a hT
                      refine Sx.st_take hT rfl rfl rfl rfl ((fun w => Sx.x_add w hT rfl rfl rfl (Sx.wrap64 (by omega)))) ?_
                      clear hT; intro a hT
                      refine Sx.st_take hT rfl rfl rfl rfl (Sx.x_assign hT rfl rfl) ?_
                      clear hT; intro a hT
                      replace hT := hT.keep [14, 116, 90, 12, 74, 13, 70, 11, 53, 10, 9, 8, 7, 28, 6, 5, 16, 0, 1] rfl
                      refine Sx.ser_nil ?_
                      refine Sx.then_normal ?_
                      exact ⟨j + 1, ⟨by omega, nt_in hnj ho2 hne⟩, (hT.keep [14, 12, 74, 13, 70, 11, 53, 10, 9, 8, 7, 28, 6, 5, 16, 0, 1] rfl), (H.keep [0, 1, 2, 3, 4, 5, 6] rfl rfl), by omega⟩
                  · try simp only [decide_eq_true_eq, decide_eq_false_iff_not, Bool.not_eq_true', Bool.not_eq_false', Bool.not_eq_true, Bool.not_eq_false, Bool.and_eq_true, Bool.or_eq_false_iff, beq_iff_eq, bne_iff_ne, Int.not_lt, Int.not_le, ne_eq] at hc33
                    have hjk : j = k := by omega
                    rw [hjk] at hnj
                    refine wp_exit ?_
                    refine Sx.then_exit ?_
                    refine Sx.then_exit ?_
                    refine Sx.block_exit ?_
                    refine Sx.block_normal ?_
                    refine Sx.then_normal (hK28 _ _ ?_)
                    clear hK28
                    -- region 16 (extra.go:29)
                    refine Sx.wp_text [(0, .take), (1, .take), (2, .take)] rfl ?_
                    refine Sx.st_take hT rfl rfl rfl rfl (Sx.x_move hT rfl rfl) ?_
                    clear hT; intro a hT
                    refine Sx.st_take hT rfl rfl rfl rfl ((fun w => Sx.x_add w hT rfl rfl rfl (Sx.wrap64 (by omega)))) ?_
                    clear hT; intro a hT
                    refine Sx.st_take hT rfl rfl rfl rfl (Sx.x_assign hT rfl rfl) ?_
                    clear hT; intro a hT
                    replace hT := hT.keep [13, 90, 14, 12, 74, 70, 11, 53, 10, 9, 8, 7, 28, 6, 5, 16, 0, 1] rfl
                    refine Sx.ser_nil ?_
                    refine Sx.then_normal ?_
                    exact ⟨(k + 1, ad10, c10), ⟨by show k + 1 ≤ _; omega, nt_out hnt ho3 hnj⟩, (hT.keep [13, 12, 70, 11, 53, 10, 9, 8, 7, 28, 6, 5, 16, 0, 1] rfl), (H.keep [1, 2, 3, 4, 5, 6] rfl rfl), by show _ - (k + 1) < _ - k; omega⟩
                · try simp only [decide_eq_true_eq, decide_eq_false_iff_not, Bool.not_eq_true', Bool.not_eq_false', Bool.not_eq_true, Bool.not_eq_false, Bool.and_eq_true, Bool.or_eq_false_iff, beq_iff_eq, bne_iff_ne, Int.not_lt, Int.not_le, ne_eq] at hc27
                  have hkl : k = l.length := by omega
                  rw [hkl] at hnt
                  have hrl : k = l.reverse.length := by rw [List.length_reverse]; omega
                  rw [show l.reverse.take k = l.reverse from List.take_of_length_le (by omega)] at H
                  rw [hrl] at hT
                  refine wp_exit ?_
                  refine Sx.then_exit ?_
                  refine Sx.then_exit ?_
                  refine Sx.block_exit ?_
                  refine Sx.then_normal (hK23 _ _ ?_)
                  clear hK23
                  refine wp_seq_k fun K39 hK39 => ?_
                  -- region 23 (extra.go:37)
                  refine Sx.wp_text [(0, .take), (1, .take), (2, .run)] rfl ?_
                  refine Sx.st_take hT rfl rfl rfl rfl (Sx.x_move hT rfl rfl) ?_
                  clear hT; intro a hT
                  refine Sx.st_take hT rfl rfl rfl rfl (Sx.x_move hT rfl rfl) ?_
                  clear hT; intro a hT
                  refine Sx.st_call hT rfl rfl rfl rfl rfl Try.can12 rfl (Learn_calls l.reverse (H.pre [3, 4] rfl rfl) ((H.lend 0 rfl [3, 4] rfl rfl).mono fun u h => h.ssn hrl) (by rw [List.length_reverse]; omega) (by have := E0_len h2; omega) (fun r hr => hw r (List.mem_reverse.1 hr))) ?_
                  rintro _ w13 ⟨rfl, K⟩
                  refine ⟨_, rfl, ?_⟩
                  clear hT; intro a hT
                  replace H := H.back [3, 4] [0, 1, 2, 5] rfl rfl rfl K rfl; clear K
                  replace hT := hT.keep [74, 13, 12, 70, 11, 53, 10, 9, 8, 7, 28, 6, 5, 16, 0, 1] rfl
                  refine Sx.ser_nil ?_
                  refine Sx.then_normal (hK39 _ _ ?_)
                  clear hK39
                  refine wp_seq_k fun K40 hK40 => ?_
                  -- region 24 (extra.go:38)
                  refine Sx.wp_text [(0, .run), (1, .take), (2, .take), (3, .run), (4, .take), (5, .run), (6, .run), (7, .take), (8, .take)] rfl ?_
                  refine Sx.st_call hT rfl rfl rfl rfl rfl Try.can7 rfl (first_calls _) ?_
                  rintro _ w14 ⟨rfl, E⟩
                  refine ⟨_, rfl, ?_⟩
                  clear hT; intro a hT
                  replace H := H.pure E; clear E
                  refine Sx.st_take hT rfl rfl rfl rfl (Sx.x_move hT rfl rfl) ?_
                  clear hT; intro a hT
                  refine Sx.st_take hT rfl rfl rfl rfl (Sx.x_move hT rfl rfl) ?_
                  clear hT; intro a hT
                  refine Sx.st_call hT rfl rfl rfl rfl rfl Try.can17 rfl (List_calls (H.blk 3 rfl) (H.mp 4 rfl) (learn_srt _ (E0_srt m)) hAl (learn_wf (E0_wf h1 h2) hw)) ?_
                  rintro _ w15 ⟨ada, ca, rfl, K⟩
                  refine ⟨_, rfl, ?_⟩
                  clear hT; intro a hT
                  replace H := H.more K rfl; clear K
                  refine Sx.st_take hT rfl rfl rfl rfl (Sx.x_move hT rfl rfl) ?_
                  clear hT; intro a hT
                  refine Sx.st_call hT rfl rfl rfl rfl rfl Try.can17 rfl (List_calls (H.blk 1 rfl) (H.mp 2 rfl) (learn_srt _ (E0_srt m)) hBl (learn_wf (E0_wf h1 h2) (fun r hr => hw r (List.mem_reverse.1 hr)))) ?_
                  rintro _ w16 ⟨adb, cb, rfl, K⟩
                  refine ⟨_, rfl, ?_⟩
                  clear hT; intro a hT
                  replace H := H.more K rfl; clear K
                  refine Sx.st_call hT rfl rfl rfl rfl rfl Try.can20 rfl (Ranges_calls _ _ ((H.row 1 rfl).ssn rfl) ((H.row 0 rfl).ssn rfl) (by omega)) ?_
                  rintro _ w17 ⟨rfl, E⟩
                  refine ⟨_, rfl, ?_⟩
                  clear hT; intro a hT
                  replace H := H.pure E; clear E
                  rw [← learn_turned (E0_srt m) (notwo_end hnt)] at hT
                  refine Sx.st_take hT rfl rfl rfl rfl (Sx.x_pick_t hT rfl rfl rfl) ?_
                  clear hT; intro a hT
                  refine Sx.st_take hT rfl rfl rfl rfl (Sx.x_assign hT rfl rfl) ?_
                  clear hT; intro a hT
                  replace hT := hT.keep [4, 74, 13, 12, 70, 11, 53, 10, 9, 8, 7, 28, 6, 5, 16, 0, 1] rfl
                  refine Sx.ser_nil ?_
                  refine Sx.then_normal (hK40 _ _ ?_)
                  clear hK40
                  refine wp_ret ?_
                  refine Sx.done1 (fn := Try.f4) hT rfl (.tmp (hT.get 4 _ rfl)) ?_
                  exact ⟨ret_b (by simp), H.ext⟩

theorem Again_no (n : Int) (hn : n < 1 ∨ 12 < n) {ad : Option Addr} {c : Nat} (l : List Rg) (w : World) : Calls Try.prog 4 #[.int .i64 n, .slice ad l.length c] w fun e w' => e = .returned (.bool true) ∧ Ext No w w' := by
  refine Sx.calls_into Try.func4 rfl Try.ntmps4 rfl fun a hT => ?_
  replace hT := hT.keep [0, 1] rfl
  have H : Sx.Hp w (Sx.No) w [] := Sx.Hp.start _ _
  refine wp_seq_k fun K1 hK1 => ?_
  -- region 0 (extra.go:11)
  refine Sx.wp_text [(0, .take)] rfl ?_
  refine Sx.st_take hT rfl rfl rfl rfl (Sx.x_assign hT rfl rfl) ?_
  clear hT; intro a hT
  replace hT := hT.keep [4, 0, 1] rfl
  refine Sx.ser_nil ?_
  refine Sx.then_normal (hK1 _ _ ?_)
  clear hK1
  refine wp_seq_k fun K2 hK2 => ?_
  refine wp_seq_k fun K3 hK3 => ?_
  -- region 1 (extra.go:12)
  refine Sx.wp_text [(0, .run), (1, .take)] rfl ?_
  refine Sx.st_call hT rfl rfl rfl rfl rfl Try.can7 rfl (first_calls _) ?_
  rintro _ w1 ⟨rfl, E⟩
  refine ⟨_, rfl, ?_⟩
  clear hT; intro a hT
  replace H := H.pure E; clear E
  refine Sx.st_take hT rfl rfl rfl rfl (Sx.x_not hT rfl rfl) ?_
  clear hT; intro a hT
  replace hT := hT.keep [16, 4, 0, 1] rfl
  refine Sx.ser_nil ?_
  refine Sx.then_normal (hK3 _ _ ?_)
  clear hK3
  refine Sx.wp_if hT rfl (fun h => by cases h) (fun _ => ?_)
  refine wp_skip ?_
  refine Sx.then_normal (hK2 _ _ ?_)
  clear hK2
  refine wp_seq_k fun K4 hK4 => ?_
  -- region 3 (extra.go:15)
  refine Sx.wp_text [(0, .take), (1, .run), (2, .take), (3, .take), (4, .take), (5, .take), (6, .take)] rfl ?_
  refine Sx.st_take hT rfl rfl rfl rfl (Sx.x_move hT rfl rfl) ?_
  clear hT; intro a hT
  refine Sx.st_call hT rfl rfl rfl rfl rfl Try.can9 rfl (Even_no n hn _) ?_
  rintro _ w2 ⟨rfl, E⟩
  refine ⟨_, rfl, ?_⟩
  clear hT; intro a hT
  replace H := H.pure E; clear E
  refine Sx.st_take hT rfl rfl rfl rfl (Sx.x_move hT rfl rfl) ?_
  clear hT; intro a hT
  refine Sx.st_take hT rfl rfl rfl rfl (Sx.x_extractL hT rfl rfl rfl) ?_
  clear hT; intro a hT
  refine Sx.st_take hT rfl rfl rfl rfl (Sx.x_extractL hT rfl rfl rfl) ?_
  clear hT; intro a hT
  refine Sx.st_take hT rfl rfl rfl rfl (Sx.x_assign hT rfl rfl) ?_
  clear hT; intro a hT
  refine Sx.st_take hT rfl rfl rfl rfl (Sx.x_assign hT rfl rfl) ?_
  clear hT; intro a hT
  replace hT := hT.keep [6, 5, 16, 4, 0, 1] rfl
  refine Sx.ser_nil ?_
  refine Sx.then_normal (hK4 _ _ ?_)
  clear hK4
  refine wp_seq_k fun K5 hK5 => ?_
  refine wp_seq_k fun K6 hK6 => ?_
  -- region 4 (extra.go:16)
  refine Sx.wp_text [(0, .take), (1, .take), (2, .take), (3, .take), (4, .take), (5, .take), (6, .take)] rfl ?_
  refine Sx.st_take hT rfl rfl rfl rfl (Sx.x_move hT rfl rfl) ?_
  clear hT; intro a hT
  refine Sx.st_take hT rfl rfl rfl rfl ((fun w => Sx.x_ne w hT rfl rfl rfl)) ?_
  clear hT; intro a hT
  refine Sx.st_take hT rfl rfl rfl rfl (Sx.x_move hT rfl rfl) ?_
  clear hT; intro a hT
  -- guard (4, 2)
  refine Sx.Sl.two hT 24 rfl (fun hc7 hT => ?_) (fun hc7 hT => ?_)
  · try simp only [decide_eq_true_eq, decide_eq_false_iff_not, Bool.not_eq_true', Bool.not_eq_false', Bool.not_eq_true, Bool.not_eq_false, Bool.and_eq_true, Bool.or_eq_false_iff, beq_iff_eq, bne_iff_ne, Int.not_lt, Int.not_le, ne_eq] at hc7
    refine Sx.st_skip hT rfl rfl rfl rfl ?_
    clear hT; intro a hT
    refine Sx.st_skip hT rfl rfl rfl rfl ?_
    clear hT; intro a hT
    refine Sx.st_skip hT rfl rfl rfl rfl ?_
    clear hT; intro a hT
    refine Sx.st_take hT rfl rfl rfl rfl (Sx.x_pick_t hT rfl rfl rfl) ?_
    clear hT; intro a hT
    replace hT := hT.keep [28, 6, 5, 16, 4, 0, 1] rfl
    refine Sx.ser_nil ?_
    refine Sx.then_normal (hK6 _ _ ?_)
    clear hK6
    refine Sx.wp_if hT rfl (fun _ => ?_) (fun h => by cases h)
    refine wp_seq_k fun K8 hK8 => ?_
    -- region 5 (extra.go:17)
    refine Sx.wp_text [(0, .run), (1, .take)] rfl ?_
    refine Sx.st_call hT rfl rfl rfl rfl rfl Try.can7 rfl (first_calls _) ?_
    rintro _ w3 ⟨rfl, E⟩
    refine ⟨_, rfl, ?_⟩
    clear hT; intro a hT
    replace H := H.pure E; clear E
    refine Sx.st_take hT rfl rfl rfl rfl (Sx.x_assign hT rfl rfl) ?_
    clear hT; intro a hT
    replace hT := hT.keep [4, 28, 6, 5, 16, 0, 1] rfl
    refine Sx.ser_nil ?_
    refine Sx.then_normal (hK8 _ _ ?_)
    clear hK8
    refine wp_ret ?_
    refine Sx.then_ret ?_
    refine Sx.done1 (fn := Try.f4) hT rfl (.tmp (hT.get 4 _ rfl)) ?_
    exact ⟨rfl, H.ext⟩
  · exfalso
    try simp only [decide_eq_true_eq, decide_eq_false_iff_not, Bool.not_eq_true', Bool.not_eq_false', Bool.not_eq_true, Bool.not_eq_false, Bool.and_eq_true, Bool.or_eq_false_iff, beq_iff_eq, bne_iff_ne, Int.not_lt, Int.not_le, ne_eq] at hc7
    simp at hc7

end Go.Proofs.Ytakohabmcgponaa
