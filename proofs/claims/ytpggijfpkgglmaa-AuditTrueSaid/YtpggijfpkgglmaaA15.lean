/- Walks: AuditOrders. -/
import Derived.Test.YtpggijfpkgglmaaA13
set_option linter.unusedSimpArgs false
set_option linter.unusedVariables false
namespace Go.Proofs.Ytpggijfpkgglmaa
open Sx
theorem Try.can3 : Sx.Can Try.prog 3 := ⟨_, Try.func3, by kernel_rfl, rfl⟩
def spW : Wt := ⟨[115, 112, 111, 105, 108, 116], vz⟩
theorem drop_perm {α : Type} {L : List α} {i : Nat} {o : α} (h : L[i]? = some o) : (L.drop i).Perm (o :: L.drop (i + 1)) := by
  obtain ⟨hi, rfl⟩ := List.getElem?_eq_some_iff.1 h
  rw [List.drop_eq_getElem_cons hi]
theorem few_len {l : List En} (h : sumN (fun x => wwF 20000 x.ws 0) l ≤ 20000) : sumN wl l ≤ 20000 ∧ ∀ x ∈ l, x.ws.length ≤ 20000 := by
  have key : ∀ {m : Nat} (l : List Wt) (n : Nat), wwF m l n ≤ m → n + l.length ≤ wwF m l n := by
    intro m l
    induction l with
    | nil => intro n _; unfold wwF; exact Nat.le_refl _
    | cons x r ih =>
      intro n h
      unfold wwF at h ⊢
      split at h
      · rename_i hn
        rw [if_pos hn]
        have h1 := ih _ h
        have h3 : few2F (few2F n (1 + x.key.length) m) x.v.tx.length m ≤ m := by omega
        have h4 := few2_le h3
        have h6 := few2_le (show few2F n (1 + x.key.length) m ≤ m by omega)
        rw [List.length_cons]
        omega
      · omega
  have h1 : ∀ x ∈ l, wl x ≤ wwF 20000 x.ws 0 := fun x hx => by
    have h2 : wwF 20000 x.ws 0 ≤ 20000 := Nat.le_trans (sumN_mem (f := fun x : En => wwF 20000 x.ws 0) hx) h
    have h3 := key x.ws 0 h2
    unfold wl
    omega
  have h2 : sumN wl l ≤ 20000 := Nat.le_trans (sumN_le h1) h
  exact ⟨h2, fun x hx => Nat.le_trans (sumN_mem (f := wl) hx) h2⟩
theorem map_ws {M l : List En} (h : M.map En.p = l.map En.p) : M.length = l.length ∧ sumN wl M = sumN wl l ∧ ∀ x ∈ M, ∃ y ∈ l, x.ws = y.ws := by
  refine ⟨by have := congrArg List.length h; simpa using this, by rw [← sum_map, ← sum_map, h], fun x hx => ?_⟩
  have h1 : x.p ∈ l.map En.p := by rw [← h]; exact List.mem_map_of_mem hx
  obtain ⟨y, hy, he⟩ := List.mem_map.1 h1
  exact ⟨y, hy, by have : y.p.ws = x.p.ws := by rw [he]
                   exact this.symm⟩
theorem ord_ws {M l : List En} {b : Prop} [Decidable b] (h : M.map En.p = if b then ordL Ep.s (l.map En.p) else []) : ∀ x ∈ M, ∃ y ∈ l, x.ws = y.ws := fun x hx => by
  by_cases hb : b
  · rw [if_pos hb] at h
    exact (ord_sum h).2.2 x hx
  · rw [if_neg hb] at h
    cases List.map_eq_nil_iff.1 h
    cases hx
theorem ord_len {M l : List En} {b : Prop} [Decidable b] (h : M.map En.p = if b then ordL Ep.s (l.map En.p) else []) : M.length ≤ l.length := by
  by_cases hb : b
  · rw [if_pos hb] at h
    rw [(ord_sum h).2.1]
    omega
  · rw [if_neg hb] at h
    cases List.map_eq_nil_iff.1 h
    exact Nat.zero_le _

set_option maxHeartbeats 1000000 in
theorem Orders_all {ad : Option Addr} {c : Nat} (l : List En) (s9 : Stp) {w : World} (hs : Ss w ad En.cells 7 l) (hw : ∀ x ∈ l, Ss w x.ad Wt.cells 4 x.ws ∧ (∀ y ∈ x.ws, y.wf) ∧ x.ws.length ≤ 9223372036854775806 ∧ (x.ad = none → x.ws.length = 0 ∧ x.c = 0)) (hc : l.length ≤ c) (hl : l.length ≤ 9223372036854775806) : Calls Try.prog 3 #[.slice ad l.length c, .agg #[.int .i64 s9.w, .int .i64 s9.l, .int .i64 s9.n]] w fun e w' => e = .returned (.bool true) ∧ Ext No w w' := by
  have R : Ro w No _ := Ro.of fun w' x => hs.ext_no x
  have RM : Ro w No (fun u => ∀ x ∈ l, Ss u x.ad Wt.cells 4 x.ws) := Ro.of fun w' y x hx => ((hw x hx).1).ext_no y
  refine Sx.calls_into Try.func3 rfl Try.ntmps3 rfl fun a hT => ?_
  replace hT := hT.keep [0, 1] rfl
  have H : Sx.Hp w (Sx.No) w [] := Sx.Hp.start _ _
  refine wp_seq_k fun K1 hK1 => ?_
  refine Sx.wp_text [(0, .run), (1, .take)] rfl ?_
  refine Sx.st_eff hT rfl rfl rfl rfl (Sx.y_box hT rfl rfl rfl _) ?_
  clear hT; rintro _ w1 ⟨b1, rfl, N⟩ a hT
  replace H := H.new N; clear N
  refine Sx.st_take hT rfl rfl rfl rfl (Sx.x_assign hT rfl rfl) ?_
  clear hT; intro a hT
  replace hT := hT.keep [4, 3, 0, 1] rfl
  refine Sx.ser_nil ?_
  refine Sx.then_normal (hK1 _ _ ?_)
  clear hK1
  refine wp_seq_k fun K2 hK2 => ?_
  refine wp_seq_k fun K3 hK3 => ?_
  refine Sx.wp_text [(0, .run), (1, .take)] rfl ?_
  refine Sx.st_call hT rfl rfl rfl rfl rfl Try.can8 rfl (first_calls _) ?_
  rintro _ w2 ⟨rfl, E⟩
  refine ⟨_, rfl, ?_⟩
  clear hT; intro a hT
  replace H := H.pure E; clear E
  refine Sx.st_take hT rfl rfl rfl rfl (Sx.x_not hT rfl rfl) ?_
  clear hT; intro a hT
  replace hT := hT.keep [13, 4, 3, 0, 1] rfl
  refine Sx.ser_nil ?_
  refine Sx.then_normal (hK3 _ _ ?_)
  clear hK3
  refine Sx.wp_if hT rfl (fun h => by cases h) (fun _ => ?_)
  refine wp_skip ?_
  refine Sx.then_normal (hK2 _ _ ?_)
  clear hK2
  refine wp_seq_k fun K4 hK4 => ?_
  refine wp_seq_k fun K5 hK5 => ?_
  refine Sx.wp_text [(0, .take), (1, .run), (2, .take)] rfl ?_
  refine Sx.st_take hT rfl rfl rfl rfl (Sx.x_move hT rfl rfl) ?_
  clear hT; intro a hT
  refine Sx.st_call hT rfl rfl rfl rfl rfl Try.can9 rfl (few_calls l (R.at H.ext) (fun x hx => ⟨(RM.at H.ext) x hx, (hw x hx).2.1, (hw x hx).2.2.1⟩) hl) ?_
  rintro _ w3 ⟨b9, rfl, hb9, E⟩
  refine ⟨_, rfl, ?_⟩
  clear hT; intro a hT
  replace H := H.pure E; clear E
  refine Sx.st_take hT rfl rfl rfl rfl (Sx.x_not hT rfl rfl) ?_
  clear hT; intro a hT
  replace hT := hT.keep [16, 13, 4, 3, 0, 1] rfl
  refine Sx.ser_nil ?_
  refine Sx.then_normal (hK5 _ _ ?_)
  clear hK5
  refine Sx.wp_if hT rfl (fun hc6 => ?_) (fun hc6 => ?_)
  · try simp only [Sx.bq] at hc6
    refine wp_seq_k fun K7 hK7 => ?_
    refine Sx.wp_text [(0, .run), (1, .take)] rfl ?_
    refine Sx.st_call hT rfl rfl rfl rfl rfl Try.can8 rfl (first_calls _) ?_
    rintro _ w4 ⟨rfl, E⟩
    refine ⟨_, rfl, ?_⟩
    clear hT; intro a hT
    replace H := H.pure E; clear E
    refine Sx.st_take hT rfl rfl rfl rfl (Sx.x_assign hT rfl rfl) ?_
    clear hT; intro a hT
    replace hT := hT.keep [4, 16, 13, 3, 0, 1] rfl
    refine Sx.ser_nil ?_
    refine Sx.then_normal (hK7 _ _ ?_)
    clear hK7
    refine wp_ret ?_
    refine Sx.then_ret ?_
    refine Sx.done1 (fn := Try.f3) hT rfl (.tmp (hT.get 4 _ rfl)) ?_
    exact ⟨ret_b (by simp), H.ext⟩
  · try simp only [Sx.bq] at hc6
    obtain ⟨hl1, hsum0⟩ := hb9 (by simpa using hc6)
    obtain ⟨hsum, hws⟩ := few_len hsum0
    refine wp_skip ?_
    refine Sx.then_normal (hK4 _ _ ?_)
    clear hK4
    refine wp_seq_k fun K8 hK8 => ?_
    refine Sx.wp_text [(0, .take), (1, .run), (2, .take)] rfl ?_
    refine Sx.st_take hT rfl rfl rfl rfl (Sx.x_move hT rfl rfl) ?_
    clear hT; intro a hT
    refine Sx.st_call hT rfl rfl rfl rfl rfl Try.can10 rfl (copied_calls l (R.at H.ext) (fun x hx => ⟨(RM.at H.ext) x hx, (by have := hws x hx; omega)⟩) (by omega)) ?_
    rintro _ w5 ⟨adm, cm, M, rfl, K, hMp⟩
    refine ⟨_, rfl, ?_⟩
    clear hT; intro a hT
    replace H := H.more K rfl; clear K
    obtain ⟨hMl, hMs, hMx⟩ := map_ws hMp
    have hMw : ∀ x ∈ M, x.ws.length ≤ 1000000 := fun x hx => by obtain ⟨y, hy, he⟩ := hMx x hx; have := hws y hy; rw [he]; omega
    refine Sx.st_take hT rfl rfl rfl rfl (Sx.x_assign hT rfl rfl) ?_
    clear hT; intro a hT
    replace hT := hT.keep [5, 16, 13, 4, 3, 0, 1] rfl
    refine Sx.ser_nil ?_
    refine Sx.then_normal (hK8 _ _ ?_)
    clear hK8
    refine wp_seq_k fun K9 hK9 => ?_
    refine Sx.wp_text [(0, .take), (1, .run), (2, .take), (3, .take), (4, .take), (5, .take), (6, .take)] rfl ?_
    refine Sx.st_take hT rfl rfl rfl rfl (Sx.x_move hT rfl rfl) ?_
    clear hT; intro a hT
    refine Sx.st_call hT rfl rfl rfl rfl rfl Try.can11 rfl (OrderA_calls M ((H.row 0 rfl).ssn rfl) (fam_en (H.fam 1 rfl) hMw) (by omega) (H.row 0 rfl).le.1) ?_
    rintro _ w6 ⟨ada, ca, L1, rfl, K, hA⟩
    refine ⟨_, rfl, ?_⟩
    clear hT; intro a hT
    replace H := H.more K rfl; clear K
    rw [hMp] at hA hT
    have hw1 : ∀ x ∈ L1, x.ws.length ≤ 1000000 := fun x hx => by obtain ⟨y, hy, he⟩ := ord_ws hA x hx; have := hws y hy; rw [he]; omega
    have hl1a := ord_len hA
    refine Sx.st_take hT rfl rfl rfl rfl (Sx.x_move hT rfl rfl) ?_
    clear hT; intro a hT
    refine Sx.st_take hT rfl rfl rfl rfl (Sx.x_extractL hT rfl rfl rfl) ?_
    clear hT; intro a hT
    refine Sx.st_take hT rfl rfl rfl rfl (Sx.x_extractL hT rfl rfl rfl) ?_
    clear hT; intro a hT
    refine Sx.st_take hT rfl rfl rfl rfl (Sx.x_assign hT rfl rfl) ?_
    clear hT; intro a hT
    refine Sx.st_take hT rfl rfl rfl rfl (Sx.x_assign hT rfl rfl) ?_
    clear hT; intro a hT
    replace hT := hT.keep [7, 6, 5, 16, 13, 4, 3, 0, 1] rfl
    refine Sx.ser_nil ?_
    refine Sx.then_normal (hK9 _ _ ?_)
    clear hK9
    refine wp_seq_k fun K10 hK10 => ?_
    refine Sx.wp_text [(0, .take), (1, .run), (2, .take), (3, .take), (4, .take), (5, .take), (6, .take)] rfl ?_
    refine Sx.st_take hT rfl rfl rfl rfl (Sx.x_move hT rfl rfl) ?_
    clear hT; intro a hT
    refine Sx.st_call hT rfl rfl rfl rfl rfl Try.can12 rfl (Order25_calls l (R.at H.ext) (fun x hx => ⟨(RM.at H.ext) x hx, (by have := hws x hx; omega)⟩) (by omega)) ?_
    rintro _ w7 ⟨adb, cb, L2, rfl, K, hB⟩
    refine ⟨_, rfl, ?_⟩
    clear hT; intro a hT
    replace H := H.more K rfl; clear K
    have hw2 : ∀ x ∈ L2, x.ws.length ≤ 1000000 := fun x hx => by obtain ⟨y, hy, he⟩ := ord_ws hB x hx; have := hws y hy; rw [he]; omega
    refine Sx.st_take hT rfl rfl rfl rfl (Sx.x_move hT rfl rfl) ?_
    clear hT; intro a hT
    refine Sx.st_take hT rfl rfl rfl rfl (Sx.x_extractL hT rfl rfl rfl) ?_
    clear hT; intro a hT
    refine Sx.st_take hT rfl rfl rfl rfl (Sx.x_extractL hT rfl rfl rfl) ?_
    clear hT; intro a hT
    refine Sx.st_take hT rfl rfl rfl rfl (Sx.x_assign hT rfl rfl) ?_
    clear hT; intro a hT
    refine Sx.st_take hT rfl rfl rfl rfl (Sx.x_assign hT rfl rfl) ?_
    clear hT; intro a hT
    replace hT := hT.keep [9, 8, 7, 6, 5, 16, 13, 4, 3, 0, 1] rfl
    refine Sx.ser_nil ?_
    refine Sx.then_normal (hK10 _ _ ?_)
    clear hK10
    refine wp_seq_k fun K11 hK11 => ?_
    refine wp_seq_k fun K12 hK12 => ?_
    refine Sx.wp_text [(0, .take), (1, .take), (2, .take), (3, .take), (4, .take), (5, .take), (6, .run), (7, .take), (8, .take)] rfl ?_
    refine Sx.st_take hT rfl rfl rfl rfl (Sx.x_move hT rfl rfl) ?_
    clear hT; intro a hT
    refine Sx.st_take hT rfl rfl rfl rfl (Sx.x_move hT rfl rfl) ?_
    clear hT; intro a hT
    refine Sx.st_take hT rfl rfl rfl rfl ((fun w => Sx.x_ne w hT rfl rfl rfl)) ?_
    clear hT; intro a hT
    refine Sx.st_take hT rfl rfl rfl rfl (Sx.x_move hT rfl rfl) ?_
    clear hT; intro a hT
    refine Sx.Sl.two hT 33 rfl (fun hc13 hT => ?_) (fun hc13 hT => ?_)
    · exfalso
      try simp only [Sx.bq] at hc13
      simp at hc13
    · try simp only [Sx.bq] at hc13
      refine Sx.st_take hT rfl rfl rfl rfl (Sx.x_move hT rfl rfl) ?_
      clear hT; intro a hT
      refine Sx.st_take hT rfl rfl rfl rfl (Sx.x_move hT rfl rfl) ?_
      clear hT; intro a hT
      refine Sx.st_call hT rfl rfl rfl rfl rfl Try.can13 rfl (Entries_calls L1 L2 ((H.row 2 rfl).ssn rfl) ((H.row 0 rfl).ssn rfl) (fun x hx => ⟨Row.ssn (xs := x.ws) (enc := Wt.cells) ((H.fam 3 rfl).row x hx) rfl, by have := hw1 x hx; omega⟩) (fun x hx => ⟨Row.ssn (xs := x.ws) (enc := Wt.cells) ((H.fam 1 rfl).row x hx) rfl, by have := hw2 x hx; omega⟩) (by omega)) ?_
      rintro _ w8 ⟨rfl, E⟩
      refine ⟨_, rfl, ?_⟩
      clear hT; intro a hT
      replace H := H.pure E; clear E
      rw [hA, hB] at hT
      refine Sx.st_take hT rfl rfl rfl rfl (Sx.x_not hT rfl rfl) ?_
      clear hT; intro a hT
      refine Sx.st_take hT rfl rfl rfl rfl (Sx.x_pick_f hT rfl rfl rfl) ?_
      clear hT; intro a hT
      replace hT := hT.keep [38, 9, 8, 7, 6, 5, 16, 13, 4, 3, 0, 1] rfl
      refine Sx.ser_nil ?_
      refine Sx.then_normal (hK12 _ _ ?_)
      clear hK12
      refine Sx.wp_if hT rfl (fun hc14 => ?_) (fun hc14 => ?_)
      · exfalso
        try simp only [Sx.bq] at hc14
        simp at hc14
      · try simp only [Sx.bq] at hc14
        refine wp_skip ?_
        refine Sx.then_normal (hK11 _ _ ?_)
        clear hK11
        refine wp_seq_k fun K15 hK15 => ?_
        refine wp_seq_k fun K16 hK16 => ?_
        refine Sx.wp_text [(0, .take)] rfl ?_
        refine Sx.st_take hT rfl rfl rfl rfl (Sx.x_assign hT rfl rfl) ?_
        clear hT; intro a hT
        replace hT := hT.keep [10, 38, 9, 8, 7, 6, 5, 16, 13, 4, 3, 0, 1] rfl
        refine Sx.ser_nil ?_
        refine Sx.then_normal (hK16 _ _ ?_)
        clear hK16
        refine wp_block ?_
        refine Sx.wp_loopH (G := Nat) (fun i => [(10, .int .i64 (i : Int))]) (fun i => [cF 41 4 En.rw (L1.drop i)]) (fun i => i ≤ L1.length) (fun i => L1.length - i) 0 (hT.keep [10, 38, 9, 8, 7, 6, 5, 16, 13, 4, 3, 0, 1] rfl) (H.keep [3, 0, 1, 2, 4, 5, 6] rfl rfl) (Nat.zero_le _) ?_
        clear hT H
        rintro i a w9 hJ hT H
        replace hT := hT.keep [10, 38, 9, 8, 7, 6, 5, 16, 13, 4, 3, 0, 1] rfl
        replace H := H.keep [0, 1, 2, 3, 4, 5, 6] rfl rfl
        have hi : i ≤ L1.length := hJ
        refine wp_seq_k fun K17 hK17 => ?_
        refine wp_seq_k fun K18 hK18 => ?_
        refine Sx.wp_text [(0, .take), (1, .take), (2, .take), (3, .take)] rfl ?_
        refine Sx.st_take hT rfl rfl rfl rfl (Sx.x_move hT rfl rfl) ?_
        clear hT; intro a hT
        refine Sx.st_take hT rfl rfl rfl rfl (Sx.x_move hT rfl rfl) ?_
        clear hT; intro a hT
        refine Sx.st_take hT rfl rfl rfl rfl (Sx.x_len_slice hT rfl rfl Try.underlying22 rfl) ?_
        clear hT; intro a hT
        refine Sx.st_take hT rfl rfl rfl rfl ((fun w => Sx.x_lt w hT rfl rfl rfl)) ?_
        clear hT; intro a hT
        replace hT := hT.keep [42, 10, 38, 9, 8, 7, 6, 5, 16, 13, 4, 3, 0, 1] rfl
        refine Sx.ser_nil ?_
        refine Sx.then_normal (hK18 _ _ ?_)
        clear hK18
        refine Sx.wp_if hT rfl (fun hc19 => ?_) (fun hc19 => ?_)
        · try simp only [Sx.bq] at hc19
          obtain ⟨o, ho⟩ : ∃ q9, L1[i]? = some q9 := ⟨_, List.getElem?_eq_getElem (by omega)⟩
          have how1 := hw1 o (List.mem_of_getElem? ho)
          refine wp_skip ?_
          refine Sx.then_normal (hK17 _ _ ?_)
          clear hK17
          refine wp_seq_k fun K20 hK20 => ?_
          refine wp_block ?_
          refine wp_seq_k fun K21 hK21 => ?_
          refine Sx.wp_text [(0, .take)] rfl ?_
          refine Sx.st_take hT rfl rfl rfl rfl (Sx.x_assign hT rfl rfl) ?_
          clear hT; intro a hT
          replace hT := hT.keep [11, 42, 10, 38, 9, 8, 7, 6, 5, 16, 13, 4, 3, 0, 1] rfl
          refine Sx.ser_nil ?_
          refine Sx.then_normal (hK21 _ _ ?_)
          clear hK21
          refine wp_block ?_
          replace H := H.famTake (x := o) (L' := L1.drop (i + 1)) 0 rfl (drop_perm ho) rfl
          replace H : Sx.Hp w No w9 (cR 41 4 o.ad o.ws.length o.c (o.ws.flatMap Wt.cells) :: _) := H
          refine Sx.wp_loopH (G := Nat × List Wt) (fun ⟨k, W9⟩ => [(11, .int .i64 (k : Int))]) (fun ⟨k, W9⟩ => [cR 41 4 o.ad o.ws.length o.c (W9.flatMap Wt.cells)]) (fun ⟨k, W9⟩ => k ≤ o.ws.length ∧ W9.length = o.ws.length) (fun ⟨k, W9⟩ => o.ws.length - k) (0, o.ws) (hT.keep [11, 42, 10, 38, 9, 8, 7, 6, 5, 16, 13, 4, 3, 0, 1] rfl) (H.keep [0, 1, 2, 3, 4, 5, 6, 7] rfl rfl) (⟨Nat.zero_le _, rfl⟩) ?_
          clear hT H
          rintro ⟨k, W9⟩ a w10 hJ hT H
          replace hT := hT.keep [11, 42, 10, 38, 9, 8, 7, 6, 5, 16, 13, 4, 3, 0, 1] rfl
          replace H := H.keep [0, 1, 2, 3, 4, 5, 6, 7] rfl rfl
          obtain ⟨hk, hWl⟩ := hJ
          refine wp_seq_k fun K22 hK22 => ?_
          refine wp_seq_k fun K23 hK23 => ?_
          refine Sx.wp_text [(0, .take), (1, .take), (2, .take), (3, .take), (4, .take), (5, .run), (6, .take), (7, .take)] rfl ?_
          refine Sx.st_take hT rfl rfl rfl rfl (Sx.x_move hT rfl rfl) ?_
          clear hT; intro a hT
          refine Sx.st_take hT rfl rfl rfl rfl (Sx.x_move hT rfl rfl) ?_
          clear hT; intro a hT
          refine Sx.st_take hT rfl rfl rfl rfl (Sx.x_move hT rfl rfl) ?_
          clear hT; intro a hT
          refine Sx.st_take hT rfl rfl rfl rfl (Sx.x_index (k := i) hT rfl Try.underlying22 Try.ti36 (H.row 4 rfl).sv rfl rfl (by first | rfl | omega) (by omega)) ?_
          clear hT; intro a hT
          refine Sx.st_take hT rfl rfl rfl rfl (Sx.x_fieldAddr hT rfl Try.fa36_2 rfl) ?_
          clear hT; intro a hT
          refine Sx.st_run hT rfl rfl rfl rfl (Sx.x_load1 hT rfl Try.fl34 rfl (((H.row 4 rfl).ssn rfl).cell (j := 6) En.len ho rfl)) ?_
          clear hT; intro a hT
          refine Sx.st_take hT rfl rfl rfl rfl (Sx.x_len_slice hT rfl rfl Try.underlying34 rfl) ?_
          clear hT; intro a hT
          refine Sx.st_take hT rfl rfl rfl rfl ((fun w => Sx.x_lt w hT rfl rfl rfl)) ?_
          clear hT; intro a hT
          replace hT := hT.keep [52, 11, 42, 10, 38, 9, 8, 7, 6, 5, 16, 13, 4, 3, 0, 1] rfl
          refine Sx.ser_nil ?_
          refine Sx.then_normal (hK23 _ _ ?_)
          clear hK23
          refine Sx.wp_if hT rfl (fun hc24 => ?_) (fun hc24 => ?_)
          · try simp only [Sx.bq] at hc24
            refine wp_skip ?_
            refine Sx.then_normal (hK22 _ _ ?_)
            clear hK22
            refine wp_seq_k fun K25 hK25 => ?_
            refine wp_block ?_
            refine Sx.wp_text [(0, .take), (1, .take), (2, .take), (3, .take), (4, .run), (5, .take), (6, .take), (7, .take), (8, .run)] rfl ?_
            refine Sx.st_take hT rfl rfl rfl rfl (Sx.x_move hT rfl rfl) ?_
            clear hT; intro a hT
            refine Sx.st_take hT rfl rfl rfl rfl (Sx.x_move hT rfl rfl) ?_
            clear hT; intro a hT
            refine Sx.st_take hT rfl rfl rfl rfl (Sx.x_index (k := i) hT rfl Try.underlying22 Try.ti36 (H.row 4 rfl).sv rfl rfl (by first | rfl | omega) (by omega)) ?_
            clear hT; intro a hT
            refine Sx.st_take hT rfl rfl rfl rfl (Sx.x_fieldAddr hT rfl Try.fa36_2 rfl) ?_
            clear hT; intro a hT
            refine Sx.st_run hT rfl rfl rfl rfl (Sx.x_load1 hT rfl Try.fl34 rfl (((H.row 4 rfl).ssn rfl).cell (j := 6) En.len ho rfl)) ?_
            clear hT; intro a hT
            refine Sx.st_take hT rfl rfl rfl rfl (Sx.x_move hT rfl rfl) ?_
            clear hT; intro a hT
            refine Sx.st_take hT rfl rfl rfl rfl (Sx.x_bld hT rfl Try.bld41 rfl rfl) ?_
            clear hT; intro a hT
            refine Sx.st_take hT rfl rfl rfl rfl (Sx.x_index (k := k) hT rfl Try.underlying34 Try.ti41 (H.row 0 rfl).sv rfl rfl (by first | rfl | omega) (by omega)) ?_
            clear hT; intro a hT
            refine Sx.st_act hT rfl rfl rfl (Sx.x_storeRowS (k := k) (r := spW) hT rfl Try.ti41 rfl rfl Wt.len Wt.one rfl (H.row 0 rfl) hWl.symm (by omega)) ?_
            rintro w11 ⟨hr, E, _⟩
            replace H := H.setR 0 rfl hr E (fun _ hk => .inl hk) rfl; clear hr E
            replace hT := hT.keep [52, 11, 42, 10, 38, 9, 8, 7, 6, 5, 16, 13, 4, 3, 0, 1] rfl
            refine Sx.ser_nil ?_
            refine Sx.block_normal ?_
            refine Sx.then_normal (hK25 _ _ ?_)
            clear hK25
            refine Sx.wp_text [(0, .take), (1, .take), (2, .take)] rfl ?_
            refine Sx.st_take hT rfl rfl rfl rfl (Sx.x_move hT rfl rfl) ?_
            clear hT; intro a hT
            refine Sx.st_take hT rfl rfl rfl rfl ((fun w => Sx.x_add w hT rfl rfl rfl (Sx.wrap64 (by omega)))) ?_
            clear hT; intro a hT
            refine Sx.st_take hT rfl rfl rfl rfl (Sx.x_assign hT rfl rfl) ?_
            clear hT; intro a hT
            replace hT := hT.keep [11, 52, 42, 10, 38, 9, 8, 7, 6, 5, 16, 13, 4, 3, 0, 1] rfl
            refine Sx.ser_nil ?_
            refine Sx.then_normal ?_
            exact ⟨(k + 1, W9.set k spW), ⟨by show k + 1 ≤ _; omega, by show List.length (W9.set _ _) = _; rw [List.length_set, hWl]⟩, (hT.keep [11, 42, 10, 38, 9, 8, 7, 6, 5, 16, 13, 4, 3, 0, 1] rfl), (H.keep [0, 1, 2, 3, 4, 5, 6, 7] rfl rfl), by show _ - (k + 1) < _ - k; omega⟩
          · try simp only [Sx.bq] at hc24
            refine wp_exit ?_
            refine Sx.then_exit ?_
            refine Sx.then_exit ?_
            refine Sx.block_exit ?_
            refine Sx.block_normal ?_
            refine Sx.then_normal (hK20 _ _ ?_)
            clear hK20
            refine Sx.wp_text [(0, .take), (1, .take), (2, .take)] rfl ?_
            refine Sx.st_take hT rfl rfl rfl rfl (Sx.x_move hT rfl rfl) ?_
            clear hT; intro a hT
            refine Sx.st_take hT rfl rfl rfl rfl ((fun w => Sx.x_add w hT rfl rfl rfl (Sx.wrap64 (by omega)))) ?_
            clear hT; intro a hT
            refine Sx.st_take hT rfl rfl rfl rfl (Sx.x_assign hT rfl rfl) ?_
            clear hT; intro a hT
            replace hT := hT.keep [10, 52, 11, 42, 38, 9, 8, 7, 6, 5, 16, 13, 4, 3, 0, 1] rfl
            refine Sx.ser_nil ?_
            refine Sx.then_normal ?_
            exact ⟨i + 1, (by omega), (hT.keep [10, 38, 9, 8, 7, 6, 5, 16, 13, 4, 3, 0, 1] rfl), (H.keep [1, 2, 3, 4, 5, 6, 7] rfl rfl), by omega⟩
        · try simp only [Sx.bq] at hc19
          refine wp_exit ?_
          refine Sx.then_exit ?_
          refine Sx.then_exit ?_
          refine Sx.block_exit ?_
          refine Sx.then_normal (hK15 _ _ ?_)
          clear hK15
          refine wp_seq_k fun K26 hK26 => ?_
          refine Sx.wp_draws (fun u => Sx.Ext (Sx.No) u) [(0, .keep), (1, .take), (2, .take), (3, .held), (5, .take), (6, .held), (4, .keep), (7, .keep), (8, .keep), (9, .take), (10, .take), (11, .take), (12, .held), (14, .take), (15, .held), (13, .keep), (16, .run), (17, .run), (18, .take), (19, .take), (20, .take), (21, .take), (22, .run), (23, .take), (24, .take)] (by kernel_rfl) (by kernel_rfl) (fun u E _ => ?_)
          replace H := H.pure E; clear E
          have hH : Sx.Ext (Sx.No) u u := Sx.Ext.refl _ _
          have Hu := H
          refine Sx.st_callkeep hT rfl rfl rfl rfl rfl Try.can8 rfl (first_calls _) ?_
          rintro _ w12 ⟨rfl, E⟩
          refine ⟨_, rfl, hH.step E, ?_⟩
          replace hH := hH.step E
          clear hT; intro a hT
          replace H := H.pure E; clear E
          refine Sx.st_take hT rfl rfl rfl rfl (Sx.x_move hT rfl rfl) ?_
          clear hT; intro a hT
          refine Sx.st_take hT rfl rfl rfl rfl (Sx.x_move hT rfl rfl) ?_
          clear hT; intro a hT
          refine Sx.st_held hT rfl rfl rfl rfl hH (fun w' h' => Sx.y_loadS hT rfl Try.underlying24 Try.ti24 rfl ((Hu.heldB 6 rfl h' Sx.off_No).seg (k := 3) rfl) (by rfl)) ?_
          clear hT; intro a hT
          refine Sx.st_take hT rfl rfl rfl rfl (Sx.x_move hT rfl rfl) ?_
          clear hT; intro a hT
          refine Sx.st_held hT rfl rfl rfl rfl hH (fun w' h' => Sx.y_loadS hT rfl Try.underlying24 Try.ti24 rfl ((Hu.heldB 6 rfl h' Sx.off_No).seg (k := 3) rfl) (by rfl)) ?_
          clear hT; intro a hT
          refine Sx.st_callkeep hT rfl rfl rfl rfl rfl Try.can15 rfl (SnapA_calls M s9 ((H.row 4 rfl).ssn rfl) (fam_en (H.fam 5 rfl) hMw) (by omega) (by rw [hMs]; omega)) ?_
          rintro _ w13 ⟨adx4, cx4, rfl, K⟩
          refine ⟨_, rfl, hH.step K.ext, ?_⟩
          replace hH := hH.step K.ext
          clear hT; intro a hT
          replace H := H.more K rfl; clear K
          rw [hMp] at H hT
          refine Sx.st_callkeep hT rfl rfl rfl rfl rfl Try.can16 rfl (Snap25_calls l s9 (R.at H.ext) (RM.at H.ext) (by omega) (by omega)) ?_
          rintro _ w14 ⟨adx6, cx6, rfl, K⟩
          refine ⟨_, rfl, hH.step K.ext, ?_⟩
          replace hH := hH.step K.ext
          clear hT; intro a hT
          replace H := H.more K rfl; clear K
          refine Sx.st_callkeep hT rfl rfl rfl rfl rfl Try.can14 rfl (Pairs_calls (makesF (l.map En.p) s9 false) (makesF (l.map En.p) s9 false) ((H.row 1 rfl).ssn rfl) ((H.row 0 rfl).ssn rfl) (by have h7 := rawF_len l s9 false; have h8 := fil_len (rawF (l.map En.p) s9 false); rw [fil_raw] at h8; omega)) ?_
          rintro _ w15 ⟨rfl, E⟩
          refine ⟨_, rfl, hH.step E, ?_⟩
          replace hH := hH.step E
          clear hT; intro a hT
          replace H := H.pure E; clear E
          refine Sx.st_take hT rfl rfl rfl rfl (Sx.x_pick_t hT rfl rfl rfl) ?_
          clear hT; intro a hT
          refine Sx.st_take hT rfl rfl rfl rfl (Sx.x_move hT rfl rfl) ?_
          clear hT; intro a hT
          refine Sx.Sl.two hT 73 rfl (fun hc27 hT => ?_) (fun hc27 hT => ?_)
          · try simp only [Sx.bq] at hc27
            refine Sx.st_take hT rfl rfl rfl rfl (Sx.x_move hT rfl rfl) ?_
            clear hT; intro a hT
            refine Sx.st_held hT rfl rfl rfl rfl hH (fun w' h' => Sx.y_loadS hT rfl Try.underlying24 Try.ti24 rfl ((Hu.heldB 6 rfl h' Sx.off_No).seg (k := 3) rfl) (by rfl)) ?_
            clear hT; intro a hT
            refine Sx.st_take hT rfl rfl rfl rfl (Sx.x_move hT rfl rfl) ?_
            clear hT; intro a hT
            refine Sx.st_held hT rfl rfl rfl rfl hH (fun w' h' => Sx.y_loadS hT rfl Try.underlying24 Try.ti24 rfl ((Hu.heldB 6 rfl h' Sx.off_No).seg (k := 3) rfl) (by rfl)) ?_
            clear hT; intro a hT
            refine Sx.st_callkeep hT rfl rfl rfl rfl rfl Try.can17 rfl (BelowA_calls M s9 ((H.row 6 rfl).ssn rfl) (fam_en (H.fam 7 rfl) hMw) (by omega) (by rw [hMs]; omega)) ?_
            rintro _ w16 ⟨adx5, cx5, rfl, K⟩
            refine ⟨_, rfl, hH.step K.ext, ?_⟩
            replace hH := hH.step K.ext
            clear hT; intro a hT
            replace H := H.more K rfl; clear K
            rw [hMp] at H hT
            refine Sx.st_call hT rfl rfl rfl rfl rfl Try.can18 rfl (Below25_calls l s9 (R.at H.ext) (RM.at H.ext) (by omega) (by omega)) ?_
            rintro _ w17 ⟨adx7, cx7, rfl, K⟩
            refine ⟨_, rfl, ?_⟩
            clear hT; intro a hT
            replace H := H.more K rfl; clear K
            refine Sx.st_call hT rfl rfl rfl rfl rfl Try.can14 rfl (Pairs_calls (makesF (l.map En.p) s9 true) (makesF (l.map En.p) s9 true) ((H.row 1 rfl).ssn rfl) ((H.row 0 rfl).ssn rfl) (by have h7 := rawF_len l s9 true; have h8 := fil_len (rawF (l.map En.p) s9 true); rw [fil_raw] at h8; omega)) ?_
            rintro _ w18 ⟨rfl, E⟩
            refine ⟨_, rfl, ?_⟩
            clear hT; intro a hT
            replace H := H.pure E; clear E
            refine Sx.st_take hT rfl rfl rfl rfl (Sx.x_pick_t hT rfl rfl rfl) ?_
            clear hT; intro a hT
            refine Sx.st_take hT rfl rfl rfl rfl (Sx.x_move hT rfl rfl) ?_
            clear hT; intro a hT
            refine Sx.Sl.two hT 82 rfl (fun hc28 hT => ?_) (fun hc28 hT => ?_)
            · try simp only [Sx.bq] at hc28
              refine Sx.st_take hT rfl rfl rfl rfl (Sx.x_move hT rfl rfl) ?_
              clear hT; intro a hT
              refine Sx.st_take hT rfl rfl rfl rfl (Sx.x_move hT rfl rfl) ?_
              clear hT; intro a hT
              refine Sx.st_call hT rfl rfl rfl rfl rfl Try.can13 rfl (Entries_calls M l ((H.row 8 rfl).ssn rfl) (R.at H.ext) (fun x hx => ⟨Row.ssn (xs := x.ws) (enc := Wt.cells) ((H.fam 9 rfl).row x hx) rfl, by have := hMw x hx; omega⟩) (fun x hx => ⟨(RM.at H.ext) x hx, (hw x hx).2.2.1⟩) (by omega)) ?_
              rintro _ w19 ⟨rfl, E⟩
              refine ⟨_, rfl, ?_⟩
              clear hT; intro a hT
              replace H := H.pure E; clear E
              rw [hMp] at hT
              refine Sx.st_take hT rfl rfl rfl rfl (Sx.x_pick_t hT rfl rfl rfl) ?_
              clear hT; intro a hT
              refine Sx.st_take hT rfl rfl rfl rfl (Sx.x_assign hT rfl rfl) ?_
              clear hT; intro a hT
              replace hT := hT.keep [4, 42, 10, 38, 9, 8, 7, 6, 5, 16, 13, 3, 0, 1] rfl
              clear Hu hH
              refine Sx.ser_calm ?_
              refine Sx.then_normal (hK26 _ _ ?_)
              clear hK26
              refine wp_ret ?_
              refine Sx.done1 (fn := Try.f3) hT rfl (.tmp (hT.get 4 _ rfl)) ?_
              exact ⟨ret_b (by simp), H.ext⟩
            · exfalso
              try simp only [Sx.bq] at hc28
              simp at hc28
          · exfalso
            try simp only [Sx.bq] at hc27
            simp at hc27

end Go.Proofs.Ytpggijfpkgglmaa
