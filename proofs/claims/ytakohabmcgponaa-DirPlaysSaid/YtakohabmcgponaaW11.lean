/- Walks: the reference's check of a cover, weights. -/
import Derived.Test.YtakohabmcgponaaW10
set_option linter.unusedSimpArgs false
set_option linter.unusedVariables false
namespace Go.Proofs.Ytakohabmcgponaa
open Sx
theorem Try.ti9 : Sx.TI Try.prog 9 (.string .empty) 1 16 := .mk' (by kernel_rfl)
theorem Try.fl9 : Sx.Flat Try.prog 9 := ⟨_, Try.underlying9, trivial⟩
theorem Try.can8 : Sx.Can Try.prog 8 := ⟨_, Try.func8, by kernel_rfl, rfl⟩
theorem Try.can16 : Sx.Can Try.prog 16 := ⟨_, Try.func16, by kernel_rfl, rfl⟩
theorem Try.can27 : Sx.Can Try.prog 27 := ⟨_, Try.func27, by kernel_rfl, rfl⟩
theorem Try.can44 : Sx.Can Try.prog 44 := ⟨_, Try.func44, by kernel_rfl, rfl⟩
def run4F (L : List Rg) : Nat → Nat → Int
  | 0, a => if Op.floatEq .f64 a fone = true then 0 else 14
  | f + 1, a => if (scanF a L).2 = 1 then run4F L f (scanF a L).1 else 14
theorem run4_run {L : List Rg} (hf : Fine L) : ∀ (f a u : Nat), a ≤ fone → u + f = L.length → run4F L f a = runF L (f + 1) a u
  | 0, a, u, ha, hu => by
    have h1 := fone_le
    unfold run4F
    rw [feq_nat ha (Nat.le_refl _)]
    rcases Nat.lt_or_ge a fone with h | h
    · have hlt : flt a fone = true := by rw [flt_lt (by omega) h1]; exact decide_eq_true h
      rw [if_neg (by simp; omega)]
      by_cases h2 : (scanF a L).2 = 1
      · rw [run_eq hlt h2 (by omega)]; rfl
      · rw [run_bad hlt h2 (by omega)]
    · have hlt : flt a fone = false := by rw [flt_lt (by omega) h1]; exact decide_eq_false (by omega)
      rw [if_pos (decide_eq_true (show a = fone by omega)), run_end hlt (by omega), if_pos (show u = L.length by omega)]
  | f + 1, a, u, ha, hu => by
    have h1 := fone_le
    unfold run4F
    rcases Nat.lt_or_ge a fone with h | h
    · have hlt : flt a fone = true := by rw [flt_lt (by omega) h1]; exact decide_eq_true h
      by_cases h2 : (scanF a L).2 = 1
      · rw [if_pos h2, run_eq hlt h2 (by omega)]
        exact run4_run hf f _ (u + 1) (run_step ha hf.may hf.wf h2).1 (by omega)
      · rw [if_neg h2, run_bad hlt h2 (by omega)]
    · have hlt : flt a fone = false := by rw [flt_lt (by omega) h1]; exact decide_eq_false (by omega)
      rw [run_end hlt (by omega), if_neg (show ¬ u = L.length by omega), if_neg]
      unfold scanF
      rw [scan_two, filter_nil_of]
      · simp
      · intro x hx
        have n := hf.nat hx
        rw [feq_nat n.1 ha]
        exact decide_eq_false (by omega)
theorem run4_eq {L : List Rg} {f a : Nat} (h1 : (scanF a L).2 = 1) (hf : 0 < f) : run4F L f a = run4F L (f - 1) (scanF a L).1 := by
  obtain ⟨g, rfl⟩ : ∃ g, f = g + 1 := ⟨f - 1, by omega⟩
  conv => lhs; unfold run4F
  rw [if_pos h1]; rfl
theorem run4_bad {L : List Rg} {f a : Nat} (h1 : (scanF a L).2 ≠ 1) (hf : 0 < f) : run4F L f a = 14 := by
  obtain ⟨g, rfl⟩ : ∃ g, f = g + 1 := ⟨f - 1, by omega⟩
  unfold run4F
  rw [if_neg h1]
theorem scan_mono (a : Nat) (L : List Rg) (k : Nat) : (scanF a (L.take k)).2 ≤ (scanF a L).2 := by
  unfold scanF
  rw [scan_two, scan_two]
  have h : ((L.take k).filter fun r => Op.floatEq .f64 r.lo a).Sublist (L.filter fun r => Op.floatEq .f64 r.lo a) := (List.take_sublist k L).filter _
  have := h.length_le
  omega
/-- what the search holds: the next one, or none yet -/
def nxS (L : List Rg) (a k : Nat) (z : Int) : Prop := ((scanF a (L.take k)).2 = 0 ∧ z = -1) ∨ ((scanF a (L.take k)).2 = 1 ∧ ∃ (j : Nat) (q : Rg), z = (j : Int) ∧ L[j]? = some q ∧ q.hi = (scanF a (L.take k)).1)
theorem nxS_no {L : List Rg} {a k : Nat} {z : Int} {o : Rg} (h : nxS L a k z) (ho : L[k]? = some o) (he : Op.floatEq .f64 o.lo a = false) : nxS L a (k + 1) z := by
  unfold nxS; rw [scan_no ho he]; exact h
theorem nxS_yes {L : List Rg} {a k : Nat} {z : Int} {o : Rg} (h : nxS L a k z) (hz : z < 0) (ho : L[k]? = some o) (he : Op.floatEq .f64 o.lo a = true) : nxS L a (k + 1) (k : Int) := by
  rcases h with ⟨h1, -⟩ | ⟨-, j, q, rfl, -⟩
  · exact .inr ⟨by rw [scan_yes ho he, h1], k, o, rfl, ho, by rw [scan_yes ho he]⟩
  · omega
theorem nxS_two {L : List Rg} {a k : Nat} {z : Int} {o : Rg} (h : nxS L a k z) (hz : 0 ≤ z) (ho : L[k]? = some o) (he : Op.floatEq .f64 o.lo a = true) : (scanF a L).2 ≠ 1 := by
  rcases h with ⟨-, h1⟩ | ⟨h1, -⟩
  · omega
  · have := scan_mono a L (k + 1)
    rw [scan_yes ho he, h1] at this
    dsimp only at this
    omega
theorem nxS_none {L : List Rg} {a : Nat} {z : Int} (h : nxS L a L.length z) (hz : z < 0) : (scanF a L).2 ≠ 1 := by
  unfold nxS at h
  rw [List.take_length] at h
  rcases h with ⟨h1, -⟩ | ⟨-, j, q, rfl, -⟩ <;> omega
theorem nxS_some {L : List Rg} {a : Nat} {z : Int} (h : nxS L a L.length z) (hz : ¬ z < 0) : (scanF a L).2 = 1 ∧ ∃ (j : Nat) (q : Rg), z = (j : Int) ∧ L[j]? = some q ∧ q.hi = (scanF a L).1 := by
  unfold nxS at h
  rw [List.take_length] at h
  rcases h with ⟨-, h1⟩ | h1
  · omega
  · exact h1
theorem bad_fine {L : List Rg} (h : badA L L.length = 0) (hw : ∀ r ∈ L, r.wf) : Fine L := ⟨bad_all h, hw⟩

theorem Check4_calls {ad : Option Addr} {c : Nat} (l : List Rg) {w : World} (hs : Ss w ad Rg.cells 4 l) (hl : l.length ≤ 1000000) (hcap : l.length ≤ c) (hw : ∀ r ∈ l, r.wf) : Calls Try.prog 16 #[.slice ad l.length c] w fun e w' => e = .returned (.int .i64 (checkF l)) ∧ Ext No w w' := by
  have R : Ro w No _ := Ro.of fun w' x => hs.ext_no x
  refine Sx.calls_into Try.func16 rfl Try.ntmps16 rfl fun a hT => ?_
  replace hT := hT.keep [0] rfl
  have H : Sx.Hp w (Sx.No) w [] := Sx.Hp.start _ _
  refine wp_seq_k fun K1 hK1 => ?_
  -- region 0 (ref.go:60)
  refine Sx.wp_text [(0, .take)] rfl ?_
  refine Sx.st_take hT rfl rfl rfl rfl (Sx.x_assign hT rfl rfl) ?_
  clear hT; intro a hT
  replace hT := hT.keep [2, 0] rfl
  refine Sx.ser_nil ?_
  refine Sx.then_normal (hK1 _ _ ?_)
  clear hK1
  refine wp_seq_k fun K2 hK2 => ?_
  refine wp_seq_k fun K3 hK3 => ?_
  -- region 1 (ref.go:61)
  refine Sx.wp_text [(0, .take), (1, .take), (2, .take)] rfl ?_
  refine Sx.st_take hT rfl rfl rfl rfl (Sx.x_move hT rfl rfl) ?_
  clear hT; intro a hT
  refine Sx.st_take hT rfl rfl rfl rfl (Sx.x_len_slice hT rfl rfl Try.underlying28 rfl) ?_
  clear hT; intro a hT
  refine Sx.st_take hT rfl rfl rfl rfl ((fun w => Sx.x_eq w hT rfl rfl rfl)) ?_
  clear hT; intro a hT
  replace hT := hT.keep [11, 2, 0] rfl
  refine Sx.ser_nil ?_
  refine Sx.then_normal (hK3 _ _ ?_)
  clear hK3
  -- cond 0
  refine Sx.wp_if hT rfl (fun hc4 => ?_) (fun hc4 => ?_)
  · try simp only [decide_eq_true_eq, decide_eq_false_iff_not, Bool.not_eq_true', Bool.not_eq_false', Bool.not_eq_true, Bool.not_eq_false, Bool.and_eq_true, Bool.or_eq_false_iff, beq_iff_eq, bne_iff_ne, Int.not_lt, Int.not_le, ne_eq] at hc4
    refine wp_seq_k fun K5 hK5 => ?_
    -- region 2 (ref.go:62)
    refine Sx.wp_text [(0, .take)] rfl ?_
    refine Sx.st_take hT rfl rfl rfl rfl (Sx.x_assign hT rfl rfl) ?_
    clear hT; intro a hT
    replace hT := hT.keep [2, 11, 0] rfl
    refine Sx.ser_nil ?_
    refine Sx.then_normal (hK5 _ _ ?_)
    clear hK5
    refine wp_ret ?_
    refine Sx.then_ret ?_
    refine Sx.done1 (fn := Try.f16) hT rfl (.tmp (hT.get 2 _ rfl)) ?_
    refine ⟨ret_i ?_, H.ext⟩
    clear hT H
    unfold checkF
    rw [if_pos (by omega)]
  · try simp only [decide_eq_true_eq, decide_eq_false_iff_not, Bool.not_eq_true', Bool.not_eq_false', Bool.not_eq_true, Bool.not_eq_false, Bool.and_eq_true, Bool.or_eq_false_iff, beq_iff_eq, bne_iff_ne, Int.not_lt, Int.not_le, ne_eq] at hc4
    refine wp_skip ?_
    refine Sx.then_normal (hK2 _ _ ?_)
    clear hK2
    refine wp_seq_k fun K6 hK6 => ?_
    refine wp_seq_k fun K7 hK7 => ?_
    -- region 3 (ref.go:64)
    refine Sx.wp_text [(0, .take), (1, .take), (2, .take)] rfl ?_
    refine Sx.st_take hT rfl rfl rfl rfl (Sx.x_move hT rfl rfl) ?_
    clear hT; intro a hT
    refine Sx.st_take hT rfl rfl rfl rfl (Sx.x_len_slice hT rfl rfl Try.underlying28 rfl) ?_
    clear hT; intro a hT
    refine Sx.st_take hT rfl rfl rfl rfl ((fun w => Sx.x_gt w hT rfl rfl rfl)) ?_
    clear hT; intro a hT
    replace hT := hT.keep [14, 11, 2, 0] rfl
    refine Sx.ser_nil ?_
    refine Sx.then_normal (hK7 _ _ ?_)
    clear hK7
    -- cond 1
    refine Sx.wp_if hT rfl (fun hc8 => ?_) (fun hc8 => ?_)
    · try simp only [decide_eq_true_eq, decide_eq_false_iff_not, Bool.not_eq_true', Bool.not_eq_false', Bool.not_eq_true, Bool.not_eq_false, Bool.and_eq_true, Bool.or_eq_false_iff, beq_iff_eq, bne_iff_ne, Int.not_lt, Int.not_le, ne_eq] at hc8
      refine wp_seq_k fun K9 hK9 => ?_
      -- region 4 (ref.go:65)
      refine Sx.wp_text [(0, .take)] rfl ?_
      refine Sx.st_take hT rfl rfl rfl rfl (Sx.x_assign hT rfl rfl) ?_
      clear hT; intro a hT
      replace hT := hT.keep [2, 14, 11, 0] rfl
      refine Sx.ser_nil ?_
      refine Sx.then_normal (hK9 _ _ ?_)
      clear hK9
      refine wp_ret ?_
      refine Sx.then_ret ?_
      refine Sx.done1 (fn := Try.f16) hT rfl (.tmp (hT.get 2 _ rfl)) ?_
      refine ⟨ret_i ?_, H.ext⟩
      clear hT H
      unfold checkF
      rw [if_neg (by omega), if_pos (by omega)]
    · try simp only [decide_eq_true_eq, decide_eq_false_iff_not, Bool.not_eq_true', Bool.not_eq_false', Bool.not_eq_true, Bool.not_eq_false, Bool.and_eq_true, Bool.or_eq_false_iff, beq_iff_eq, bne_iff_ne, Int.not_lt, Int.not_le, ne_eq] at hc8
      refine wp_skip ?_
      refine Sx.then_normal (hK6 _ _ ?_)
      clear hK6
      refine wp_seq_k fun K10 hK10 => ?_
      refine wp_seq_k fun K11 hK11 => ?_
      -- region 5 (ref.go:67)
      refine Sx.wp_text [(0, .take)] rfl ?_
      refine Sx.st_take hT rfl rfl rfl rfl (Sx.x_assign hT rfl rfl) ?_
      clear hT; intro a hT
      replace hT := hT.keep [3, 14, 11, 2, 0] rfl
      refine Sx.ser_nil ?_
      refine Sx.then_normal (hK11 _ _ ?_)
      clear hK11
      refine wp_block ?_
      -- loop 0
      refine Sx.wp_loopH (G := Nat) (fun i => [(3, .int .i64 (i : Int))]) (fun i => []) (fun i => i ≤ l.length ∧ badA l i = 0) (fun i => l.length - i) 0 (hT.keep [3, 14, 11, 0] rfl) (H.keep [] rfl rfl) (⟨Nat.zero_le _, rfl⟩) ?_
      clear hT H
      rintro i a w1 hJ hT H
      replace hT := hT.keep [3, 14, 11, 0] rfl
      replace H := H.keep [] rfl rfl
      obtain ⟨hi, hba⟩ := hJ
      refine wp_seq_k fun K12 hK12 => ?_
      refine wp_seq_k fun K13 hK13 => ?_
      -- region 6 (ref.go:67)
      refine Sx.wp_text [(0, .take), (1, .take), (2, .take), (3, .take)] rfl ?_
      refine Sx.st_take hT rfl rfl rfl rfl (Sx.x_move hT rfl rfl) ?_
      clear hT; intro a hT
      refine Sx.st_take hT rfl rfl rfl rfl (Sx.x_move hT rfl rfl) ?_
      clear hT; intro a hT
      refine Sx.st_take hT rfl rfl rfl rfl (Sx.x_len_slice hT rfl rfl Try.underlying28 rfl) ?_
      clear hT; intro a hT
      refine Sx.st_take hT rfl rfl rfl rfl ((fun w => Sx.x_lt w hT rfl rfl rfl)) ?_
      clear hT; intro a hT
      replace hT := hT.keep [18, 3, 14, 11, 0] rfl
      refine Sx.ser_nil ?_
      refine Sx.then_normal (hK13 _ _ ?_)
      clear hK13
      -- cond 2
      refine Sx.wp_if hT rfl (fun hc14 => ?_) (fun hc14 => ?_)
      · try simp only [decide_eq_true_eq, decide_eq_false_iff_not, Bool.not_eq_true', Bool.not_eq_false', Bool.not_eq_true, Bool.not_eq_false, Bool.and_eq_true, Bool.or_eq_false_iff, beq_iff_eq, bne_iff_ne, Int.not_lt, Int.not_le, ne_eq] at hc14
        obtain ⟨o, ho⟩ : ∃ o, l[i]? = some o := ⟨_, List.getElem?_eq_getElem (by omega)⟩
        have hwo := hw o (List.mem_of_getElem? ho)
        refine wp_skip ?_
        refine Sx.then_normal (hK12 _ _ ?_)
        clear hK12
        refine wp_seq_k fun K15 hK15 => ?_
        refine wp_block ?_
        refine wp_seq_k fun K16 hK16 => ?_
        refine wp_seq_k fun K17 hK17 => ?_
        -- region 8 (ref.go:68)
        refine Sx.wp_text [(0, .take), (1, .take), (2, .take), (3, .run), (4, .run), (5, .take)] rfl ?_
        refine Sx.st_take hT rfl rfl rfl rfl (Sx.x_move hT rfl rfl) ?_
        clear hT; intro a hT
        refine Sx.st_take hT rfl rfl rfl rfl (Sx.x_move hT rfl rfl) ?_
        clear hT; intro a hT
        refine Sx.st_take hT rfl rfl rfl rfl (Sx.x_index (k := i) hT rfl Try.underlying28 Try.ti37 (by first | exact (R.at H.ext).sv | exact ss_to (R.at H.ext) (by omega)) rfl rfl (by first | rfl | omega) (by omega)) ?_
        clear hT; intro a hT
        refine Sx.st_run hT rfl rfl rfl rfl (Sx.y_loadS hT rfl Try.underlying37 Try.ti37 rfl ((R.at H.ext).cs Rg.len ho) (by rfl)) ?_
        clear hT; intro a hT
        refine Sx.st_call hT rfl rfl rfl rfl rfl Try.can29 rfl (May4_calls o hwo _) ?_
        rintro _ w2 ⟨rfl, E⟩
        refine ⟨_, rfl, ?_⟩
        clear hT; intro a hT
        replace H := H.pure E; clear E
        refine Sx.st_take hT rfl rfl rfl rfl (Sx.x_not hT rfl rfl) ?_
        clear hT; intro a hT
        replace hT := hT.keep [26, 18, 3, 14, 11, 0] rfl
        refine Sx.ser_nil ?_
        refine Sx.then_normal (hK17 _ _ ?_)
        clear hK17
        -- cond 3
        refine Sx.wp_if hT rfl (fun hc18 => ?_) (fun hc18 => ?_)
        · try simp only [decide_eq_true_eq, decide_eq_false_iff_not, Bool.not_eq_true', Bool.not_eq_false', Bool.not_eq_true, Bool.not_eq_false, Bool.and_eq_true, Bool.or_eq_false_iff, beq_iff_eq, bne_iff_ne, Int.not_lt, Int.not_le, ne_eq] at hc18
          have hbad9 : badA l l.length = 1 := badA_at hba (badR_may ho hc18) (by decide) (by omega)
          refine wp_seq_k fun K19 hK19 => ?_
          -- region 9 (ref.go:69)
          refine Sx.wp_text [(0, .take)] rfl ?_
          refine Sx.st_take hT rfl rfl rfl rfl (Sx.x_assign hT rfl rfl) ?_
          clear hT; intro a hT
          replace hT := hT.keep [2, 26, 18, 3, 14, 11, 0] rfl
          refine Sx.ser_nil ?_
          refine Sx.then_normal (hK19 _ _ ?_)
          clear hK19
          refine wp_ret ?_
          refine Sx.then_ret ?_
          refine Sx.block_ret ?_
          refine Sx.then_ret ?_
          refine Sx.then_ret ?_
          refine Sx.block_ret ?_
          refine Sx.then_ret ?_
          refine Sx.done1 (fn := Try.f16) hT rfl (.tmp (hT.get 2 _ rfl)) ?_
          refine ⟨ret_i ?_, H.ext⟩
          clear hT H
          unfold checkF
          rw [if_neg (by omega), if_neg (by omega)]
          rw [hbad9, if_pos (by decide)]
        · try simp only [decide_eq_true_eq, decide_eq_false_iff_not, Bool.not_eq_true', Bool.not_eq_false', Bool.not_eq_true, Bool.not_eq_false, Bool.and_eq_true, Bool.or_eq_false_iff, beq_iff_eq, bne_iff_ne, Int.not_lt, Int.not_le, ne_eq] at hc18
          have hm : mayR o = true := hc18
          refine wp_skip ?_
          refine Sx.then_normal (hK16 _ _ ?_)
          clear hK16
          refine wp_seq_k fun K20 hK20 => ?_
          -- region 10 (ref.go:71)
          refine Sx.wp_text [(0, .take)] rfl ?_
          refine Sx.st_take hT rfl rfl rfl rfl (Sx.x_assign hT rfl rfl) ?_
          clear hT; intro a hT
          replace hT := hT.keep [4, 26, 18, 3, 14, 11, 0] rfl
          refine Sx.ser_nil ?_
          refine Sx.then_normal (hK20 _ _ ?_)
          clear hK20
          refine wp_block ?_
          -- loop 1
          refine Sx.wp_loopH (G := Nat) (fun j => [(4, .int .i64 (j : Int))]) (fun j => []) (fun j => j ≤ i ∧ ∀ (t : Nat) (q : Rg), t < j → l[t]? = some q → q.id ≠ o.id) (fun j => i - j) 0 (hT.keep [4, 26, 18, 3, 14, 11, 0] rfl) (H.keep [] rfl rfl) (⟨Nat.zero_le _, fun t q h => by omega⟩) ?_
          clear hT H
          rintro j a w3 hJ hT H
          replace hT := hT.keep [4, 26, 18, 3, 14, 11, 0] rfl
          replace H := H.keep [] rfl rfl
          obtain ⟨hj, hnd⟩ := hJ
          refine wp_seq_k fun K21 hK21 => ?_
          refine wp_seq_k fun K22 hK22 => ?_
          -- region 11 (ref.go:71)
          refine Sx.wp_text [(0, .take), (1, .take), (2, .take)] rfl ?_
          refine Sx.st_take hT rfl rfl rfl rfl (Sx.x_move hT rfl rfl) ?_
          clear hT; intro a hT
          refine Sx.st_take hT rfl rfl rfl rfl (Sx.x_move hT rfl rfl) ?_
          clear hT; intro a hT
          refine Sx.st_take hT rfl rfl rfl rfl ((fun w => Sx.x_lt w hT rfl rfl rfl)) ?_
          clear hT; intro a hT
          replace hT := hT.keep [29, 4, 26, 18, 3, 14, 11, 0] rfl
          refine Sx.ser_nil ?_
          refine Sx.then_normal (hK22 _ _ ?_)
          clear hK22
          -- cond 4
          refine Sx.wp_if hT rfl (fun hc23 => ?_) (fun hc23 => ?_)
          · try simp only [decide_eq_true_eq, decide_eq_false_iff_not, Bool.not_eq_true', Bool.not_eq_false', Bool.not_eq_true, Bool.not_eq_false, Bool.and_eq_true, Bool.or_eq_false_iff, beq_iff_eq, bne_iff_ne, Int.not_lt, Int.not_le, ne_eq] at hc23
            obtain ⟨o2, ho2⟩ : ∃ o, l[j]? = some o := ⟨_, List.getElem?_eq_getElem (by omega)⟩
            refine wp_skip ?_
            refine Sx.then_normal (hK21 _ _ ?_)
            clear hK21
            refine wp_seq_k fun K24 hK24 => ?_
            refine wp_block ?_
            refine wp_seq_k fun K25 hK25 => ?_
            -- region 13 (ref.go:72)
            refine Sx.wp_draws (fun u => Sx.Ext (Sx.No) u) [(0, .take), (1, .take), (2, .take), (3, .take), (4, .held), (5, .take), (6, .take), (7, .take), (8, .take), (9, .held), (10, .take)] (by kernel_rfl) (by kernel_rfl) (fun u E _ => ?_)
            replace H := H.pure E; clear E
            have hH : Sx.Ext (Sx.No) u u := Sx.Ext.refl _ _
            have Hu := H
            refine Sx.st_take hT rfl rfl rfl rfl (Sx.x_move hT rfl rfl) ?_
            clear hT; intro a hT
            refine Sx.st_take hT rfl rfl rfl rfl (Sx.x_move hT rfl rfl) ?_
            clear hT; intro a hT
            refine Sx.st_take hT rfl rfl rfl rfl (Sx.x_index (k := j) hT rfl Try.underlying28 Try.ti37 (by first | exact (R.at H.ext).sv | exact ss_to (R.at H.ext) (by omega)) rfl rfl (by first | rfl | omega) (by omega)) ?_
            clear hT; intro a hT
            refine Sx.st_take hT rfl rfl rfl rfl (Sx.x_fieldAddr hT rfl Try.fa37_0 rfl) ?_
            clear hT; intro a hT
            refine Sx.st_held hT rfl rfl rfl rfl hH (fun w' h' => Sx.x_load1 hT rfl Try.fl3 rfl (by first | exact ((R.at (Hu.ext.step h')).cell (j := 0) Rg.len ho rfl) | exact ((R.at (Hu.ext.step h')).cell (j := 0) Rg.len ho2 rfl) | exact ((R.at (Hu.ext.step h')).cell (j := 2) Rg.len ho3 rfl) | exact ((R.at (Hu.ext.step h')).cell (j := 3) Rg.len ho4 rfl))) ?_
            clear hT; intro a hT
            refine Sx.st_take hT rfl rfl rfl rfl (Sx.x_move hT rfl rfl) ?_
            clear hT; intro a hT
            refine Sx.st_take hT rfl rfl rfl rfl (Sx.x_move hT rfl rfl) ?_
            clear hT; intro a hT
            refine Sx.st_take hT rfl rfl rfl rfl (Sx.x_index (k := i) hT rfl Try.underlying28 Try.ti37 (by first | exact (R.at H.ext).sv | exact ss_to (R.at H.ext) (by omega)) rfl rfl (by first | rfl | omega) (by omega)) ?_
            clear hT; intro a hT
            refine Sx.st_take hT rfl rfl rfl rfl (Sx.x_fieldAddr hT rfl Try.fa37_0 rfl) ?_
            clear hT; intro a hT
            refine Sx.st_held hT rfl rfl rfl rfl hH (fun w' h' => Sx.x_load1 hT rfl Try.fl3 rfl (by first | exact ((R.at (Hu.ext.step h')).cell (j := 0) Rg.len ho rfl) | exact ((R.at (Hu.ext.step h')).cell (j := 0) Rg.len ho2 rfl) | exact ((R.at (Hu.ext.step h')).cell (j := 2) Rg.len ho3 rfl) | exact ((R.at (Hu.ext.step h')).cell (j := 3) Rg.len ho4 rfl))) ?_
            clear hT; intro a hT
            refine Sx.st_take hT rfl rfl rfl rfl ((fun w => Sx.x_eq w hT rfl rfl rfl)) ?_
            clear hT; intro a hT
            replace hT := hT.keep [42, 29, 4, 26, 18, 3, 14, 11, 0] rfl
            clear Hu hH
            refine Sx.ser_calm ?_
            refine Sx.then_normal (hK25 _ _ ?_)
            clear hK25
            -- cond 5
            refine Sx.wp_if hT rfl (fun hc26 => ?_) (fun hc26 => ?_)
            · try simp only [decide_eq_true_eq, decide_eq_false_iff_not, Bool.not_eq_true', Bool.not_eq_false', Bool.not_eq_true, Bool.not_eq_false, Bool.and_eq_true, Bool.or_eq_false_iff, beq_iff_eq, bne_iff_ne, Int.not_lt, Int.not_le, ne_eq] at hc26
              have hbad9 : badA l l.length = 9 := badA_at hba (badR_dup ho hm ho2 (by omega) hc26) (by decide) (by omega)
              refine wp_seq_k fun K27 hK27 => ?_
              -- region 14 (ref.go:73)
              refine Sx.wp_text [(0, .take)] rfl ?_
              refine Sx.st_take hT rfl rfl rfl rfl (Sx.x_assign hT rfl rfl) ?_
              clear hT; intro a hT
              replace hT := hT.keep [2, 42, 29, 4, 26, 18, 3, 14, 11, 0] rfl
              refine Sx.ser_nil ?_
              refine Sx.then_normal (hK27 _ _ ?_)
              clear hK27
              refine wp_ret ?_
              refine Sx.block_ret ?_
              refine Sx.then_ret ?_
              refine Sx.then_ret ?_
              refine Sx.block_ret ?_
              refine Sx.block_ret ?_
              refine Sx.then_ret ?_
              refine Sx.then_ret ?_
              refine Sx.block_ret ?_
              refine Sx.then_ret ?_
              refine Sx.done1 (fn := Try.f16) hT rfl (.tmp (hT.get 2 _ rfl)) ?_
              refine ⟨ret_i ?_, H.ext⟩
              clear hT H
              unfold checkF
              rw [if_neg (by omega), if_neg (by omega)]
              rw [hbad9, if_pos (by decide)]
            · try simp only [decide_eq_true_eq, decide_eq_false_iff_not, Bool.not_eq_true', Bool.not_eq_false', Bool.not_eq_true, Bool.not_eq_false, Bool.and_eq_true, Bool.or_eq_false_iff, beq_iff_eq, bne_iff_ne, Int.not_lt, Int.not_le, ne_eq] at hc26
              have hne : o2.id ≠ o.id := hc26
              refine wp_skip ?_
              refine Sx.block_normal ?_
              refine Sx.then_normal (hK24 _ _ ?_)
              clear hK24
              -- region 12 (ref.go:71)
              refine Sx.wp_text [(0, .take), (1, .take), (2, .take)] rfl ?_
              refine Sx.st_take hT rfl rfl rfl rfl (Sx.x_move hT rfl rfl) ?_
              clear hT; intro a hT
              refine Sx.st_take hT rfl rfl rfl rfl ((fun w => Sx.x_add w hT rfl rfl rfl (Sx.wrap64 (by omega)))) ?_
              clear hT; intro a hT
              refine Sx.st_take hT rfl rfl rfl rfl (Sx.x_assign hT rfl rfl) ?_
              clear hT; intro a hT
              replace hT := hT.keep [4, 42, 29, 26, 18, 3, 14, 11, 0] rfl
              refine Sx.ser_nil ?_
              refine Sx.then_normal ?_
              exact ⟨j + 1, ⟨by omega, nd_snoc hnd ho2 hne⟩, (hT.keep [4, 26, 18, 3, 14, 11, 0] rfl), (H.keep [] rfl rfl), by omega⟩
          · try simp only [decide_eq_true_eq, decide_eq_false_iff_not, Bool.not_eq_true', Bool.not_eq_false', Bool.not_eq_true, Bool.not_eq_false, Bool.and_eq_true, Bool.or_eq_false_iff, beq_iff_eq, bne_iff_ne, Int.not_lt, Int.not_le, ne_eq] at hc23
            have hji : j = i := by omega
            rw [hji] at hnd
            refine wp_exit ?_
            refine Sx.then_exit ?_
            refine Sx.then_exit ?_
            refine Sx.block_exit ?_
            refine Sx.block_normal ?_
            refine Sx.then_normal (hK15 _ _ ?_)
            clear hK15
            -- region 7 (ref.go:67)
            refine Sx.wp_text [(0, .take), (1, .take), (2, .take)] rfl ?_
            refine Sx.st_take hT rfl rfl rfl rfl (Sx.x_move hT rfl rfl) ?_
            clear hT; intro a hT
            refine Sx.st_take hT rfl rfl rfl rfl ((fun w => Sx.x_add w hT rfl rfl rfl (Sx.wrap64 (by omega)))) ?_
            clear hT; intro a hT
            refine Sx.st_take hT rfl rfl rfl rfl (Sx.x_assign hT rfl rfl) ?_
            clear hT; intro a hT
            replace hT := hT.keep [3, 29, 4, 26, 18, 14, 11, 0] rfl
            refine Sx.ser_nil ?_
            refine Sx.then_normal ?_
            exact ⟨i + 1, ⟨by omega, badA_ok hba (badR_ok ho hm hnd)⟩, (hT.keep [3, 14, 11, 0] rfl), (H.keep [] rfl rfl), by omega⟩
      · try simp only [decide_eq_true_eq, decide_eq_false_iff_not, Bool.not_eq_true', Bool.not_eq_false', Bool.not_eq_true, Bool.not_eq_false, Bool.and_eq_true, Bool.or_eq_false_iff, beq_iff_eq, bne_iff_ne, Int.not_lt, Int.not_le, ne_eq] at hc14
        have hil : i = l.length := by omega
        rw [hil] at hba
        refine wp_exit ?_
        refine Sx.then_exit ?_
        refine Sx.then_exit ?_
        refine Sx.block_exit ?_
        refine Sx.then_normal (hK10 _ _ ?_)
        clear hK10
        refine wp_seq_k fun K28 hK28 => ?_
        -- region 15 (ref.go:77)
        refine Sx.wp_text [(0, .take)] rfl ?_
        refine Sx.st_take hT rfl rfl rfl rfl (Sx.x_assign hT rfl rfl) ?_
        clear hT; intro a hT
        replace hT := hT.keep [5, 18, 3, 14, 11, 0] rfl
        refine Sx.ser_nil ?_
        refine Sx.then_normal (hK28 _ _ ?_)
        clear hK28
        refine wp_seq_k fun K29 hK29 => ?_
        refine wp_seq_k fun K30 hK30 => ?_
        -- region 16 (ref.go:78)
        refine Sx.wp_text [(0, .take)] rfl ?_
        refine Sx.st_take hT rfl rfl rfl rfl (Sx.x_assign hT rfl rfl) ?_
        clear hT; intro a hT
        replace hT := hT.keep [6, 5, 18, 3, 14, 11, 0] rfl
        refine Sx.ser_nil ?_
        refine Sx.then_normal (hK30 _ _ ?_)
        clear hK30
        refine wp_block ?_
        have hmay := bad_all hba
        -- loop 2
        refine Sx.wp_loopH (G := Nat × Nat) (fun ⟨n9, a9⟩ => [(6, .int .i64 (n9 : Int)), (5, .float .f64 a9)]) (fun ⟨n9, a9⟩ => []) (fun ⟨n9, a9⟩ => n9 ≤ l.length ∧ a9 ≤ fone ∧ run4F l (l.length - n9) a9 = run4F l l.length 0) (fun ⟨n9, a9⟩ => l.length - n9) (0, 0) (hT.keep [6, 5, 18, 3, 14, 11, 0] rfl) (H.keep [] rfl rfl) (⟨Nat.zero_le _, Nat.zero_le _, rfl⟩) ?_
        clear hT H
        rintro ⟨n9, a9⟩ a w4 hJ hT H
        replace hT := hT.keep [6, 5, 18, 3, 14, 11, 0] rfl
        replace H := H.keep [] rfl rfl
        obtain ⟨hn9, ha9, hrun⟩ := hJ
        refine wp_seq_k fun K31 hK31 => ?_
        refine wp_seq_k fun K32 hK32 => ?_
        -- region 17 (ref.go:78)
        refine Sx.wp_text [(0, .take), (1, .take), (2, .take), (3, .take)] rfl ?_
        refine Sx.st_take hT rfl rfl rfl rfl (Sx.x_move hT rfl rfl) ?_
        clear hT; intro a hT
        refine Sx.st_take hT rfl rfl rfl rfl (Sx.x_move hT rfl rfl) ?_
        clear hT; intro a hT
        refine Sx.st_take hT rfl rfl rfl rfl (Sx.x_len_slice hT rfl rfl Try.underlying28 rfl) ?_
        clear hT; intro a hT
        refine Sx.st_take hT rfl rfl rfl rfl ((fun w => Sx.x_lt w hT rfl rfl rfl)) ?_
        clear hT; intro a hT
        replace hT := hT.keep [46, 6, 5, 18, 3, 14, 11, 0] rfl
        refine Sx.ser_nil ?_
        refine Sx.then_normal (hK32 _ _ ?_)
        clear hK32
        -- cond 6
        refine Sx.wp_if hT rfl (fun hc33 => ?_) (fun hc33 => ?_)
        · try simp only [decide_eq_true_eq, decide_eq_false_iff_not, Bool.not_eq_true', Bool.not_eq_false', Bool.not_eq_true, Bool.not_eq_false, Bool.and_eq_true, Bool.or_eq_false_iff, beq_iff_eq, bne_iff_ne, Int.not_lt, Int.not_le, ne_eq] at hc33
          refine wp_skip ?_
          refine Sx.then_normal (hK31 _ _ ?_)
          clear hK31
          refine wp_seq_k fun K34 hK34 => ?_
          refine wp_block ?_
          refine wp_seq_k fun K35 hK35 => ?_
          -- region 19 (ref.go:79)
          refine Sx.wp_text [(0, .take)] rfl ?_
          refine Sx.st_take hT rfl rfl rfl rfl (Sx.x_assign hT rfl rfl) ?_
          clear hT; intro a hT
          replace hT := hT.keep [7, 46, 6, 5, 18, 3, 14, 11, 0] rfl
          refine Sx.ser_nil ?_
          refine Sx.then_normal (hK35 _ _ ?_)
          clear hK35
          refine wp_seq_k fun K36 hK36 => ?_
          refine wp_seq_k fun K37 hK37 => ?_
          -- region 20 (ref.go:80)
          refine Sx.wp_text [(0, .take)] rfl ?_
          refine Sx.st_take hT rfl rfl rfl rfl (Sx.x_assign hT rfl rfl) ?_
          clear hT; intro a hT
          replace hT := hT.keep [8, 7, 46, 6, 5, 18, 3, 14, 11, 0] rfl
          refine Sx.ser_nil ?_
          refine Sx.then_normal (hK37 _ _ ?_)
          clear hK37
          refine wp_block ?_
          -- loop 3
          refine Sx.wp_loopH (G := Nat × Int) (fun ⟨k, z9⟩ => [(8, .int .i64 (k : Int)), (7, .int .i64 z9)]) (fun ⟨k, z9⟩ => []) (fun ⟨k, z9⟩ => k ≤ l.length ∧ nxS l a9 k z9) (fun ⟨k, z9⟩ => l.length - k) (0, -1) (hT.keep [8, 7, 46, 6, 5, 18, 3, 14, 11, 0] rfl) (H.keep [] rfl rfl) (⟨Nat.zero_le _, .inl ⟨rfl, rfl⟩⟩) ?_
          clear hT H
          rintro ⟨k, z9⟩ a w5 hJ hT H
          replace hT := hT.keep [8, 7, 46, 6, 5, 18, 3, 14, 11, 0] rfl
          replace H := H.keep [] rfl rfl
          obtain ⟨hk, hnx⟩ := hJ
          refine wp_seq_k fun K38 hK38 => ?_
          refine wp_seq_k fun K39 hK39 => ?_
          -- region 21 (ref.go:80)
          refine Sx.wp_text [(0, .take), (1, .take), (2, .take), (3, .take)] rfl ?_
          refine Sx.st_take hT rfl rfl rfl rfl (Sx.x_move hT rfl rfl) ?_
          clear hT; intro a hT
          refine Sx.st_take hT rfl rfl rfl rfl (Sx.x_move hT rfl rfl) ?_
          clear hT; intro a hT
          refine Sx.st_take hT rfl rfl rfl rfl (Sx.x_len_slice hT rfl rfl Try.underlying28 rfl) ?_
          clear hT; intro a hT
          refine Sx.st_take hT rfl rfl rfl rfl ((fun w => Sx.x_lt w hT rfl rfl rfl)) ?_
          clear hT; intro a hT
          replace hT := hT.keep [52, 8, 7, 46, 6, 5, 18, 3, 14, 11, 0] rfl
          refine Sx.ser_nil ?_
          refine Sx.then_normal (hK39 _ _ ?_)
          clear hK39
          -- cond 7
          refine Sx.wp_if hT rfl (fun hc40 => ?_) (fun hc40 => ?_)
          · try simp only [decide_eq_true_eq, decide_eq_false_iff_not, Bool.not_eq_true', Bool.not_eq_false', Bool.not_eq_true, Bool.not_eq_false, Bool.and_eq_true, Bool.or_eq_false_iff, beq_iff_eq, bne_iff_ne, Int.not_lt, Int.not_le, ne_eq] at hc40
            obtain ⟨o3, ho3⟩ : ∃ o, l[k]? = some o := ⟨_, List.getElem?_eq_getElem (by omega)⟩
            refine wp_skip ?_
            refine Sx.then_normal (hK38 _ _ ?_)
            clear hK38
            refine wp_seq_k fun K41 hK41 => ?_
            refine wp_block ?_
            refine wp_seq_k fun K42 hK42 => ?_
            -- region 23 (ref.go:81)
            refine Sx.wp_text [(0, .take), (1, .take), (2, .take), (3, .take), (4, .run), (5, .take), (6, .take)] rfl ?_
            refine Sx.st_take hT rfl rfl rfl rfl (Sx.x_move hT rfl rfl) ?_
            clear hT; intro a hT
            refine Sx.st_take hT rfl rfl rfl rfl (Sx.x_move hT rfl rfl) ?_
            clear hT; intro a hT
            refine Sx.st_take hT rfl rfl rfl rfl (Sx.x_index (k := k) hT rfl Try.underlying28 Try.ti37 (by first | exact (R.at H.ext).sv | exact ss_to (R.at H.ext) (by omega)) rfl rfl (by first | rfl | omega) (by omega)) ?_
            clear hT; intro a hT
            refine Sx.st_take hT rfl rfl rfl rfl (Sx.x_fieldAddr hT rfl Try.fa37_2 rfl) ?_
            clear hT; intro a hT
            refine Sx.st_run hT rfl rfl rfl rfl (Sx.x_load1 hT rfl Try.fl35 rfl (by first | exact ((R.at H.ext).cell (j := 0) Rg.len ho rfl) | exact ((R.at H.ext).cell (j := 0) Rg.len ho2 rfl) | exact ((R.at H.ext).cell (j := 2) Rg.len ho3 rfl) | exact ((R.at H.ext).cell (j := 3) Rg.len ho4 rfl))) ?_
            clear hT; intro a hT
            refine Sx.st_take hT rfl rfl rfl rfl (Sx.x_move hT rfl rfl) ?_
            clear hT; intro a hT
            refine Sx.st_take hT rfl rfl rfl rfl (Sx.x_feq hT rfl rfl rfl) ?_
            clear hT; intro a hT
            replace hT := hT.keep [61, 52, 8, 7, 46, 6, 5, 18, 3, 14, 11, 0] rfl
            refine Sx.ser_nil ?_
            refine Sx.then_normal (hK42 _ _ ?_)
            clear hK42
            -- cond 8
            refine Sx.wp_if hT rfl (fun hc43 => ?_) (fun hc43 => ?_)
            · try simp only [decide_eq_true_eq, decide_eq_false_iff_not, Bool.not_eq_true', Bool.not_eq_false', Bool.not_eq_true, Bool.not_eq_false, Bool.and_eq_true, Bool.or_eq_false_iff, beq_iff_eq, bne_iff_ne, Int.not_lt, Int.not_le, ne_eq] at hc43
              have hq : Op.floatEq .f64 o3.lo a9 = true := hc43
              refine wp_seq_k fun K44 hK44 => ?_
              refine wp_seq_k fun K45 hK45 => ?_
              -- region 24 (ref.go:82)
              refine Sx.wp_text [(0, .take), (1, .take)] rfl ?_
              refine Sx.st_take hT rfl rfl rfl rfl (Sx.x_move hT rfl rfl) ?_
              clear hT; intro a hT
              refine Sx.st_take hT rfl rfl rfl rfl ((fun w => Sx.x_ge w hT rfl rfl rfl)) ?_
              clear hT; intro a hT
              replace hT := hT.keep [63, 61, 52, 8, 7, 46, 6, 5, 18, 3, 14, 11, 0] rfl
              refine Sx.ser_nil ?_
              refine Sx.then_normal (hK45 _ _ ?_)
              clear hK45
              -- cond 9
              refine Sx.wp_if hT rfl (fun hc46 => ?_) (fun hc46 => ?_)
              · try simp only [decide_eq_true_eq, decide_eq_false_iff_not, Bool.not_eq_true', Bool.not_eq_false', Bool.not_eq_true, Bool.not_eq_false, Bool.and_eq_true, Bool.or_eq_false_iff, beq_iff_eq, bne_iff_ne, Int.not_lt, Int.not_le, ne_eq] at hc46
                refine wp_seq_k fun K47 hK47 => ?_
                -- region 25 (ref.go:83)
                refine Sx.wp_text [(0, .take)] rfl ?_
                refine Sx.st_take hT rfl rfl rfl rfl (Sx.x_assign hT rfl rfl) ?_
                clear hT; intro a hT
                replace hT := hT.keep [2, 63, 61, 52, 8, 7, 46, 6, 5, 18, 3, 14, 11, 0] rfl
                refine Sx.ser_nil ?_
                refine Sx.then_normal (hK47 _ _ ?_)
                clear hK47
                refine wp_ret ?_
                refine Sx.then_ret ?_
                refine Sx.block_ret ?_
                refine Sx.then_ret ?_
                refine Sx.then_ret ?_
                refine Sx.block_ret ?_
                refine Sx.then_ret ?_
                refine Sx.block_ret ?_
                refine Sx.then_ret ?_
                refine Sx.then_ret ?_
                refine Sx.block_ret ?_
                refine Sx.then_ret ?_
                refine Sx.done1 (fn := Try.f16) hT rfl (.tmp (hT.get 2 _ rfl)) ?_
                refine ⟨ret_i ?_, H.ext⟩
                clear hT H
                unfold checkF
                rw [if_neg (by omega), if_neg (by omega)]
                rw [hba, if_neg (by decide), ← run4_run (bad_fine hba hw) l.length 0 0 (Nat.zero_le _) (by omega), ← hrun]
                rw [run4_bad (nxS_two hnx (by omega) ho3 hq) (by omega)]
              · try simp only [decide_eq_true_eq, decide_eq_false_iff_not, Bool.not_eq_true', Bool.not_eq_false', Bool.not_eq_true, Bool.not_eq_false, Bool.and_eq_true, Bool.or_eq_false_iff, beq_iff_eq, bne_iff_ne, Int.not_lt, Int.not_le, ne_eq] at hc46
                refine wp_skip ?_
                refine Sx.then_normal (hK44 _ _ ?_)
                clear hK44
                -- region 26 (ref.go:85)
                refine Sx.wp_text [(0, .take), (1, .take)] rfl ?_
                refine Sx.st_take hT rfl rfl rfl rfl (Sx.x_move hT rfl rfl) ?_
                clear hT; intro a hT
                refine Sx.st_take hT rfl rfl rfl rfl (Sx.x_assign hT rfl rfl) ?_
                clear hT; intro a hT
                replace hT := hT.keep [7, 63, 61, 52, 8, 46, 6, 5, 18, 3, 14, 11, 0] rfl
                refine Sx.ser_nil ?_
                refine Sx.block_normal ?_
                refine Sx.then_normal (hK41 _ _ ?_)
                clear hK41
                -- region 22 (ref.go:80)
                refine Sx.wp_text [(0, .take), (1, .take), (2, .take)] rfl ?_
                refine Sx.st_take hT rfl rfl rfl rfl (Sx.x_move hT rfl rfl) ?_
                clear hT; intro a hT
                refine Sx.st_take hT rfl rfl rfl rfl ((fun w => Sx.x_add w hT rfl rfl rfl (Sx.wrap64 (by omega)))) ?_
                clear hT; intro a hT
                refine Sx.st_take hT rfl rfl rfl rfl (Sx.x_assign hT rfl rfl) ?_
                clear hT; intro a hT
                replace hT := hT.keep [8, 7, 63, 61, 52, 46, 6, 5, 18, 3, 14, 11, 0] rfl
                refine Sx.ser_nil ?_
                refine Sx.then_normal ?_
                exact ⟨(k + 1, (k : Int)), ⟨by show k + 1 ≤ _; omega, nxS_yes hnx (by omega) ho3 hq⟩, (hT.keep [8, 7, 46, 6, 5, 18, 3, 14, 11, 0] rfl), (H.keep [] rfl rfl), by show _ - (k + 1) < _ - k; omega⟩
            · try simp only [decide_eq_true_eq, decide_eq_false_iff_not, Bool.not_eq_true', Bool.not_eq_false', Bool.not_eq_true, Bool.not_eq_false, Bool.and_eq_true, Bool.or_eq_false_iff, beq_iff_eq, bne_iff_ne, Int.not_lt, Int.not_le, ne_eq] at hc43
              have hq : Op.floatEq .f64 o3.lo a9 = false := hc43
              refine wp_skip ?_
              refine Sx.block_normal ?_
              refine Sx.then_normal (hK41 _ _ ?_)
              clear hK41
              -- region 22 (ref.go:80)
              refine Sx.wp_text [(0, .take), (1, .take), (2, .take)] rfl ?_
              refine Sx.st_take hT rfl rfl rfl rfl (Sx.x_move hT rfl rfl) ?_
              clear hT; intro a hT
              refine Sx.st_take hT rfl rfl rfl rfl ((fun w => Sx.x_add w hT rfl rfl rfl (Sx.wrap64 (by omega)))) ?_
              clear hT; intro a hT
              refine Sx.st_take hT rfl rfl rfl rfl (Sx.x_assign hT rfl rfl) ?_
              clear hT; intro a hT
              replace hT := hT.keep [8, 61, 52, 7, 46, 6, 5, 18, 3, 14, 11, 0] rfl
              refine Sx.ser_nil ?_
              refine Sx.then_normal ?_
              exact ⟨(k + 1, z9), ⟨by show k + 1 ≤ _; omega, nxS_no hnx ho3 hq⟩, (hT.keep [8, 7, 46, 6, 5, 18, 3, 14, 11, 0] rfl), (H.keep [] rfl rfl), by show _ - (k + 1) < _ - k; omega⟩
          · try simp only [decide_eq_true_eq, decide_eq_false_iff_not, Bool.not_eq_true', Bool.not_eq_false', Bool.not_eq_true, Bool.not_eq_false, Bool.and_eq_true, Bool.or_eq_false_iff, beq_iff_eq, bne_iff_ne, Int.not_lt, Int.not_le, ne_eq] at hc40
            have hkl : k = l.length := by omega
            rw [hkl] at hnx
            refine wp_exit ?_
            refine Sx.then_exit ?_
            refine Sx.then_exit ?_
            refine Sx.block_exit ?_
            refine Sx.then_normal (hK36 _ _ ?_)
            clear hK36
            refine wp_seq_k fun K48 hK48 => ?_
            refine wp_seq_k fun K49 hK49 => ?_
            -- region 27 (ref.go:88)
            refine Sx.wp_text [(0, .take), (1, .take)] rfl ?_
            refine Sx.st_take hT rfl rfl rfl rfl (Sx.x_move hT rfl rfl) ?_
            clear hT; intro a hT
            refine Sx.st_take hT rfl rfl rfl rfl ((fun w => Sx.x_lt w hT rfl rfl rfl)) ?_
            clear hT; intro a hT
            replace hT := hT.keep [66, 52, 8, 7, 46, 6, 5, 18, 3, 14, 11, 0] rfl
            refine Sx.ser_nil ?_
            refine Sx.then_normal (hK49 _ _ ?_)
            clear hK49
            -- cond 10
            refine Sx.wp_if hT rfl (fun hc50 => ?_) (fun hc50 => ?_)
            · try simp only [decide_eq_true_eq, decide_eq_false_iff_not, Bool.not_eq_true', Bool.not_eq_false', Bool.not_eq_true, Bool.not_eq_false, Bool.and_eq_true, Bool.or_eq_false_iff, beq_iff_eq, bne_iff_ne, Int.not_lt, Int.not_le, ne_eq] at hc50
              refine wp_seq_k fun K51 hK51 => ?_
              -- region 28 (ref.go:89)
              refine Sx.wp_text [(0, .take)] rfl ?_
              refine Sx.st_take hT rfl rfl rfl rfl (Sx.x_assign hT rfl rfl) ?_
              clear hT; intro a hT
              replace hT := hT.keep [2, 66, 52, 8, 7, 46, 6, 5, 18, 3, 14, 11, 0] rfl
              refine Sx.ser_nil ?_
              refine Sx.then_normal (hK51 _ _ ?_)
              clear hK51
              refine wp_ret ?_
              refine Sx.then_ret ?_
              refine Sx.block_ret ?_
              refine Sx.then_ret ?_
              refine Sx.then_ret ?_
              refine Sx.block_ret ?_
              refine Sx.then_ret ?_
              refine Sx.done1 (fn := Try.f16) hT rfl (.tmp (hT.get 2 _ rfl)) ?_
              refine ⟨ret_i ?_, H.ext⟩
              clear hT H
              unfold checkF
              rw [if_neg (by omega), if_neg (by omega)]
              rw [hba, if_neg (by decide), ← run4_run (bad_fine hba hw) l.length 0 0 (Nat.zero_le _) (by omega), ← hrun]
              rw [run4_bad (nxS_none hnx (by omega)) (by omega)]
            · try simp only [decide_eq_true_eq, decide_eq_false_iff_not, Bool.not_eq_true', Bool.not_eq_false', Bool.not_eq_true, Bool.not_eq_false, Bool.and_eq_true, Bool.or_eq_false_iff, beq_iff_eq, bne_iff_ne, Int.not_lt, Int.not_le, ne_eq] at hc50
              obtain ⟨h41, j4, o4, h42, ho4, h44⟩ := nxS_some hnx (by omega)
              have h45 := (List.getElem?_eq_some_iff.1 ho4).1
              refine wp_skip ?_
              refine Sx.then_normal (hK48 _ _ ?_)
              clear hK48
              -- region 29 (ref.go:91)
              refine Sx.wp_text [(0, .take), (1, .take), (2, .take), (3, .take), (4, .run), (5, .take)] rfl ?_
              refine Sx.st_take hT rfl rfl rfl rfl (Sx.x_move hT rfl rfl) ?_
              clear hT; intro a hT
              refine Sx.st_take hT rfl rfl rfl rfl (Sx.x_move hT rfl rfl) ?_
              clear hT; intro a hT
              refine Sx.st_take hT rfl rfl rfl rfl (Sx.x_index (k := j4) hT rfl Try.underlying28 Try.ti37 (by first | exact (R.at H.ext).sv | exact ss_to (R.at H.ext) (by omega)) rfl rfl (by first | rfl | omega) (by omega)) ?_
              clear hT; intro a hT
              refine Sx.st_take hT rfl rfl rfl rfl (Sx.x_fieldAddr hT rfl Try.fa37_3 rfl) ?_
              clear hT; intro a hT
              refine Sx.st_run hT rfl rfl rfl rfl (Sx.x_load1 hT rfl Try.fl35 rfl (by first | exact ((R.at H.ext).cell (j := 0) Rg.len ho rfl) | exact ((R.at H.ext).cell (j := 0) Rg.len ho2 rfl) | exact ((R.at H.ext).cell (j := 2) Rg.len ho3 rfl) | exact ((R.at H.ext).cell (j := 3) Rg.len ho4 rfl))) ?_
              clear hT; intro a hT
              refine Sx.st_take hT rfl rfl rfl rfl (Sx.x_assign hT rfl rfl) ?_
              clear hT; intro a hT
              replace hT := hT.keep [5, 66, 52, 8, 7, 46, 6, 18, 3, 14, 11, 0] rfl
              refine Sx.ser_nil ?_
              refine Sx.block_normal ?_
              refine Sx.then_normal (hK34 _ _ ?_)
              clear hK34
              -- region 18 (ref.go:78)
              refine Sx.wp_text [(0, .take), (1, .take), (2, .take)] rfl ?_
              refine Sx.st_take hT rfl rfl rfl rfl (Sx.x_move hT rfl rfl) ?_
              clear hT; intro a hT
              refine Sx.st_take hT rfl rfl rfl rfl ((fun w => Sx.x_add w hT rfl rfl rfl (Sx.wrap64 (by omega)))) ?_
              clear hT; intro a hT
              refine Sx.st_take hT rfl rfl rfl rfl (Sx.x_assign hT rfl rfl) ?_
              clear hT; intro a hT
              replace hT := hT.keep [6, 5, 66, 52, 8, 7, 46, 18, 3, 14, 11, 0] rfl
              refine Sx.ser_nil ?_
              refine Sx.then_normal ?_
              exact ⟨(n9 + 1, (scanF a9 l).1), ⟨by show n9 + 1 ≤ _; omega, (run_step ha9 hmay hw h41).1, by show run4F l (l.length - (n9 + 1)) _ = _; rw [← hrun, run4_eq h41 (by omega)]; congr 1⟩, ((hT.keep [6, 5, 18, 3, 14, 11, 0] rfl).conv (by rw [← h44]; try rfl)), (H.keep [] rfl rfl), by show _ - (n9 + 1) < _ - n9; omega⟩
        · try simp only [decide_eq_true_eq, decide_eq_false_iff_not, Bool.not_eq_true', Bool.not_eq_false', Bool.not_eq_true, Bool.not_eq_false, Bool.and_eq_true, Bool.or_eq_false_iff, beq_iff_eq, bne_iff_ne, Int.not_lt, Int.not_le, ne_eq] at hc33
          refine wp_exit ?_
          refine Sx.then_exit ?_
          refine Sx.then_exit ?_
          refine Sx.block_exit ?_
          refine Sx.then_normal (hK29 _ _ ?_)
          clear hK29
          refine wp_seq_k fun K52 hK52 => ?_
          refine wp_seq_k fun K53 hK53 => ?_
          -- region 30 (ref.go:93)
          refine Sx.wp_text [(0, .take), (1, .take)] rfl ?_
          refine Sx.st_take hT rfl rfl rfl rfl (Sx.x_move hT rfl rfl) ?_
          clear hT; intro a hT
          refine Sx.st_take hT rfl rfl rfl rfl (Sx.x_fne hT rfl rfl rfl) ?_
          clear hT; intro a hT
          replace hT := hT.keep [73, 46, 6, 5, 18, 3, 14, 11, 0] rfl
          refine Sx.ser_nil ?_
          refine Sx.then_normal (hK53 _ _ ?_)
          clear hK53
          -- cond 11
          refine Sx.wp_if hT rfl (fun hc54 => ?_) (fun hc54 => ?_)
          · try simp only [decide_eq_true_eq, decide_eq_false_iff_not, Bool.not_eq_true', Bool.not_eq_false', Bool.not_eq_true, Bool.not_eq_false, Bool.and_eq_true, Bool.or_eq_false_iff, beq_iff_eq, bne_iff_ne, Int.not_lt, Int.not_le, ne_eq] at hc54
            have h11 : Op.floatEq .f64 a9 fone = false := hc54
            refine wp_seq_k fun K55 hK55 => ?_
            -- region 31 (ref.go:94)
            refine Sx.wp_text [(0, .take)] rfl ?_
            refine Sx.st_take hT rfl rfl rfl rfl (Sx.x_assign hT rfl rfl) ?_
            clear hT; intro a hT
            replace hT := hT.keep [2, 73, 46, 6, 5, 18, 3, 14, 11, 0] rfl
            refine Sx.ser_nil ?_
            refine Sx.then_normal (hK55 _ _ ?_)
            clear hK55
            refine wp_ret ?_
            refine Sx.then_ret ?_
            refine Sx.done1 (fn := Try.f16) hT rfl (.tmp (hT.get 2 _ rfl)) ?_
            refine ⟨ret_i ?_, H.ext⟩
            clear hT H
            unfold checkF
            rw [if_neg (by omega), if_neg (by omega)]
            rw [hba, if_neg (by decide), ← run4_run (bad_fine hba hw) l.length 0 0 (Nat.zero_le _) (by omega), ← hrun]
            rw [show l.length - n9 = 0 from by omega]
            unfold run4F
            rw [if_neg (by rw [h11]; decide)]
          · try simp only [decide_eq_true_eq, decide_eq_false_iff_not, Bool.not_eq_true', Bool.not_eq_false', Bool.not_eq_true, Bool.not_eq_false, Bool.and_eq_true, Bool.or_eq_false_iff, beq_iff_eq, bne_iff_ne, Int.not_lt, Int.not_le, ne_eq] at hc54
            have h11 : Op.floatEq .f64 a9 fone = true := hc54
            refine wp_skip ?_
            refine Sx.then_normal (hK52 _ _ ?_)
            clear hK52
            refine wp_seq_k fun K56 hK56 => ?_
            -- region 32 (ref.go:96)
            refine Sx.wp_text [(0, .take)] rfl ?_
            refine Sx.st_take hT rfl rfl rfl rfl (Sx.x_assign hT rfl rfl) ?_
            clear hT; intro a hT
            replace hT := hT.keep [2, 73, 46, 6, 5, 18, 3, 14, 11, 0] rfl
            refine Sx.ser_nil ?_
            refine Sx.then_normal (hK56 _ _ ?_)
            clear hK56
            refine wp_ret ?_
            refine Sx.done1 (fn := Try.f16) hT rfl (.tmp (hT.get 2 _ rfl)) ?_
            refine ⟨ret_i ?_, H.ext⟩
            clear hT H
            unfold checkF
            rw [if_neg (by omega), if_neg (by omega)]
            rw [hba, if_neg (by decide), ← run4_run (bad_fine hba hw) l.length 0 0 (Nat.zero_le _) (by omega), ← hrun]
            rw [show l.length - n9 = 0 from by omega]
            unfold run4F
            rw [if_pos h11]

theorem few2_calls (a9 b9 c9 : Int) (w : World) : Calls Try.prog 44 #[.int .i64 a9, .int .i64 b9, .int .i64 c9] w fun e w' => ∃ z : Int, e = .returned (.int .i64 z) ∧ Ext No w w' := by
  refine Sx.calls_into Try.func44 rfl Try.ntmps44 rfl fun a hT => ?_
  replace hT := hT.keep [0, 1, 2] rfl
  have H : Sx.Hp w (Sx.No) w [] := Sx.Hp.start _ _
  refine wp_seq_k fun K1 hK1 => ?_
  -- region 0 (copy.go:124)
  refine Sx.wp_text [(0, .take)] rfl ?_
  refine Sx.st_take hT rfl rfl rfl rfl (Sx.x_assign hT rfl rfl) ?_
  clear hT; intro a hT
  replace hT := hT.keep [6, 0, 1, 2] rfl
  refine Sx.ser_nil ?_
  refine Sx.then_normal (hK1 _ _ ?_)
  clear hK1
  refine wp_seq_k fun K2 hK2 => ?_
  refine wp_seq_k fun K3 hK3 => ?_
  -- region 1 (copy.go:125)
  refine Sx.wp_text [(0, .take), (1, .take), (2, .take), (3, .take), (4, .take), (5, .take), (6, .take), (7, .take)] rfl ?_
  refine Sx.st_take hT rfl rfl rfl rfl (Sx.x_move hT rfl rfl) ?_
  clear hT; intro a hT
  refine Sx.st_take hT rfl rfl rfl rfl (Sx.x_move hT rfl rfl) ?_
  clear hT; intro a hT
  refine Sx.st_take hT rfl rfl rfl rfl ((fun w => Sx.x_gt w hT rfl rfl rfl)) ?_
  clear hT; intro a hT
  refine Sx.st_take hT rfl rfl rfl rfl (Sx.x_move hT rfl rfl) ?_
  clear hT; intro a hT
  -- guard (1, 3)
  refine Sx.Sl.two hT 10 rfl (fun hc4 hT => ?_) (fun hc4 hT => ?_)
  · try simp only [decide_eq_true_eq, decide_eq_false_iff_not, Bool.not_eq_true', Bool.not_eq_false', Bool.not_eq_true, Bool.not_eq_false, Bool.and_eq_true, Bool.or_eq_false_iff, beq_iff_eq, bne_iff_ne, Int.not_lt, Int.not_le, ne_eq] at hc4
    refine Sx.st_skip hT rfl rfl rfl rfl ?_
    clear hT; intro a hT
    refine Sx.st_skip hT rfl rfl rfl rfl ?_
    clear hT; intro a hT
    refine Sx.st_skip hT rfl rfl rfl rfl ?_
    clear hT; intro a hT
    refine Sx.st_take hT rfl rfl rfl rfl (Sx.x_pick_t hT rfl rfl rfl) ?_
    clear hT; intro a hT
    replace hT := hT.keep [14, 6, 0, 1, 2] rfl
    refine Sx.ser_nil ?_
    refine Sx.then_normal (hK3 _ _ ?_)
    clear hK3
    refine Sx.wp_if hT rfl (fun _ => ?_) (fun h => by cases h)
    refine wp_seq_k fun K5 hK5 => ?_
    -- region 2 (copy.go:126)
    refine Sx.wp_text [(0, .take), (1, .take), (2, .take)] rfl ?_
    refine Sx.st_take hT rfl rfl rfl rfl (Sx.x_move hT rfl rfl) ?_
    clear hT; intro a hT
    refine Sx.st_take hT rfl rfl rfl rfl ((fun w => Sx.x_add w hT rfl rfl rfl rfl)) ?_
    clear hT; intro a hT
    refine Sx.st_take hT rfl rfl rfl rfl (Sx.x_assign hT rfl rfl) ?_
    clear hT; intro a hT
    replace hT := hT.keep [6, 14, 0, 1, 2] rfl
    refine Sx.ser_nil ?_
    refine Sx.then_normal (hK5 _ _ ?_)
    clear hK5
    refine wp_ret ?_
    refine Sx.then_ret ?_
    refine Sx.done1 (fn := Try.f44) hT rfl (.tmp (hT.get 6 _ rfl)) ?_
    exact ⟨_, rfl, H.ext⟩
  · try simp only [decide_eq_true_eq, decide_eq_false_iff_not, Bool.not_eq_true', Bool.not_eq_false', Bool.not_eq_true, Bool.not_eq_false, Bool.and_eq_true, Bool.or_eq_false_iff, beq_iff_eq, bne_iff_ne, Int.not_lt, Int.not_le, ne_eq] at hc4
    refine Sx.st_take hT rfl rfl rfl rfl (Sx.x_move hT rfl rfl) ?_
    clear hT; intro a hT
    refine Sx.st_take hT rfl rfl rfl rfl (Sx.x_move hT rfl rfl) ?_
    clear hT; intro a hT
    refine Sx.st_take hT rfl rfl rfl rfl ((fun w => Sx.x_gt w hT rfl rfl rfl)) ?_
    clear hT; intro a hT
    refine Sx.st_take hT rfl rfl rfl rfl (Sx.x_pick_f hT rfl rfl rfl) ?_
    clear hT; intro a hT
    replace hT := hT.keep [14, 6, 0, 1, 2] rfl
    refine Sx.ser_nil ?_
    refine Sx.then_normal (hK3 _ _ ?_)
    clear hK3
    -- cond 0
    refine Sx.wp_if hT rfl (fun hc6 => ?_) (fun hc6 => ?_)
    · try simp only [decide_eq_true_eq, decide_eq_false_iff_not, Bool.not_eq_true', Bool.not_eq_false', Bool.not_eq_true, Bool.not_eq_false, Bool.and_eq_true, Bool.or_eq_false_iff, beq_iff_eq, bne_iff_ne, Int.not_lt, Int.not_le, ne_eq] at hc6
      refine wp_seq_k fun K7 hK7 => ?_
      -- region 2 (copy.go:126)
      refine Sx.wp_text [(0, .take), (1, .take), (2, .take)] rfl ?_
      refine Sx.st_take hT rfl rfl rfl rfl (Sx.x_move hT rfl rfl) ?_
      clear hT; intro a hT
      refine Sx.st_take hT rfl rfl rfl rfl ((fun w => Sx.x_add w hT rfl rfl rfl rfl)) ?_
      clear hT; intro a hT
      refine Sx.st_take hT rfl rfl rfl rfl (Sx.x_assign hT rfl rfl) ?_
      clear hT; intro a hT
      replace hT := hT.keep [6, 14, 0, 1, 2] rfl
      refine Sx.ser_nil ?_
      refine Sx.then_normal (hK7 _ _ ?_)
      clear hK7
      refine wp_ret ?_
      refine Sx.then_ret ?_
      refine Sx.done1 (fn := Try.f44) hT rfl (.tmp (hT.get 6 _ rfl)) ?_
      exact ⟨_, rfl, H.ext⟩
    · try simp only [decide_eq_true_eq, decide_eq_false_iff_not, Bool.not_eq_true', Bool.not_eq_false', Bool.not_eq_true, Bool.not_eq_false, Bool.and_eq_true, Bool.or_eq_false_iff, beq_iff_eq, bne_iff_ne, Int.not_lt, Int.not_le, ne_eq] at hc6
      refine wp_skip ?_
      refine Sx.then_normal (hK2 _ _ ?_)
      clear hK2
      refine wp_seq_k fun K8 hK8 => ?_
      -- region 3 (copy.go:128)
      refine Sx.wp_text [(0, .take), (1, .take), (2, .take), (3, .take)] rfl ?_
      refine Sx.st_take hT rfl rfl rfl rfl (Sx.x_move hT rfl rfl) ?_
      clear hT; intro a hT
      refine Sx.st_take hT rfl rfl rfl rfl (Sx.x_move hT rfl rfl) ?_
      clear hT; intro a hT
      refine Sx.st_take hT rfl rfl rfl rfl ((fun w => Sx.x_add w hT rfl rfl rfl rfl)) ?_
      clear hT; intro a hT
      refine Sx.st_take hT rfl rfl rfl rfl (Sx.x_assign hT rfl rfl) ?_
      clear hT; intro a hT
      replace hT := hT.keep [6, 14, 0, 1, 2] rfl
      refine Sx.ser_nil ?_
      refine Sx.then_normal (hK8 _ _ ?_)
      clear hK8
      refine wp_ret ?_
      refine Sx.done1 (fn := Try.f44) hT rfl (.tmp (hT.get 6 _ rfl)) ?_
      exact ⟨_, rfl, H.ext⟩

def kc (l : List UInt8) : List Value := [.string ⟨l.toArray⟩]
theorem kc_len (l : List UInt8) : (kc l).length = 1 := rfl
def ic (z : Int) : List Value := [.int .i64 z]
theorem ic_len (z : Int) : (ic z).length = 1 := rfl
def fc (b : Nat) : List Value := [.float .f64 b]
theorem fc_len (b : Nat) : (fc b).length = 1 := rfl
def bc (b : Bool) : List Value := [.bool b]
theorem bc_len (b : Bool) : (bc b).length = 1 := rfl

theorem WeighTexts_calls {ad : Option Addr} {c : Nat} (ks : List (List UInt8)) (m9 : Int) {w : World} (hs : Ss w ad kc 1 ks) (hl : ks.length ≤ 9223372036854775807) : Calls Try.prog 27 #[.slice ad ks.length c, .int .i64 m9] w fun e w' => ∃ z : Int, e = .returned (.int .i64 z) ∧ Ext No w w' := by
  have R : Ro w No _ := Ro.of fun w' x => hs.ext_no x
  refine Sx.calls_into Try.func27 rfl Try.ntmps27 rfl fun a hT => ?_
  replace hT := hT.keep [0, 1] rfl
  have H : Sx.Hp w (Sx.No) w [] := Sx.Hp.start _ _
  refine wp_seq_k fun K1 hK1 => ?_
  -- region 0 (copy.go:141)
  refine Sx.wp_text [(0, .take)] rfl ?_
  refine Sx.st_take hT rfl rfl rfl rfl (Sx.x_assign hT rfl rfl) ?_
  clear hT; intro a hT
  replace hT := hT.keep [4, 0, 1] rfl
  refine Sx.ser_nil ?_
  refine Sx.then_normal (hK1 _ _ ?_)
  clear hK1
  refine wp_seq_k fun K2 hK2 => ?_
  -- region 1 (copy.go:142)
  refine Sx.wp_text [(0, .take)] rfl ?_
  refine Sx.st_take hT rfl rfl rfl rfl (Sx.x_assign hT rfl rfl) ?_
  clear hT; intro a hT
  replace hT := hT.keep [5, 4, 0, 1] rfl
  refine Sx.ser_nil ?_
  refine Sx.then_normal (hK2 _ _ ?_)
  clear hK2
  refine wp_seq_k fun K3 hK3 => ?_
  refine wp_seq_k fun K4 hK4 => ?_
  -- region 2 (copy.go:143)
  refine Sx.wp_text [(0, .take)] rfl ?_
  refine Sx.st_take hT rfl rfl rfl rfl (Sx.x_assign hT rfl rfl) ?_
  clear hT; intro a hT
  replace hT := hT.keep [6, 5, 4, 0, 1] rfl
  refine Sx.ser_nil ?_
  refine Sx.then_normal (hK4 _ _ ?_)
  clear hK4
  refine wp_block ?_
  -- loop 0
  refine Sx.wp_loopH (G := Nat × Int) (fun ⟨k, z9⟩ => [(6, .int .i64 (k : Int)), (5, .int .i64 z9)]) (fun ⟨k, z9⟩ => []) (fun ⟨k, z9⟩ => k ≤ ks.length) (fun ⟨k, z9⟩ => ks.length - k) (0, 0) (hT.keep [6, 5, 4, 0, 1] rfl) (H.keep [] rfl rfl) (Nat.zero_le _) ?_
  clear hT H
  rintro ⟨k, z9⟩ a w1 hJ hT H
  replace hT := hT.keep [6, 5, 4, 0, 1] rfl
  replace H := H.keep [] rfl rfl
  have hk : k ≤ ks.length := hJ
  refine wp_seq_k fun K5 hK5 => ?_
  refine wp_seq_k fun K6 hK6 => ?_
  -- region 3 (copy.go:143)
  refine Sx.wp_text [(0, .take), (1, .take), (2, .take), (3, .take), (4, .take), (5, .take), (6, .take), (7, .take), (8, .take)] rfl ?_
  refine Sx.st_take hT rfl rfl rfl rfl (Sx.x_move hT rfl rfl) ?_
  clear hT; intro a hT
  refine Sx.st_take hT rfl rfl rfl rfl (Sx.x_move hT rfl rfl) ?_
  clear hT; intro a hT
  refine Sx.st_take hT rfl rfl rfl rfl (Sx.x_len_slice hT rfl rfl Try.underlying25 rfl) ?_
  clear hT; intro a hT
  refine Sx.st_take hT rfl rfl rfl rfl ((fun w => Sx.x_lt w hT rfl rfl rfl)) ?_
  clear hT; intro a hT
  refine Sx.st_take hT rfl rfl rfl rfl (Sx.x_move hT rfl rfl) ?_
  clear hT; intro a hT
  -- guard (3, 4)
  refine Sx.Sl.two hT 11 rfl (fun hc7 hT => ?_) (fun hc7 hT => ?_)
  · try simp only [decide_eq_true_eq, decide_eq_false_iff_not, Bool.not_eq_true', Bool.not_eq_false', Bool.not_eq_true, Bool.not_eq_false, Bool.and_eq_true, Bool.or_eq_false_iff, beq_iff_eq, bne_iff_ne, Int.not_lt, Int.not_le, ne_eq] at hc7
    refine Sx.st_take hT rfl rfl rfl rfl (Sx.x_move hT rfl rfl) ?_
    clear hT; intro a hT
    refine Sx.st_take hT rfl rfl rfl rfl (Sx.x_move hT rfl rfl) ?_
    clear hT; intro a hT
    refine Sx.st_take hT rfl rfl rfl rfl ((fun w => Sx.x_le w hT rfl rfl rfl)) ?_
    clear hT; intro a hT
    refine Sx.st_take hT rfl rfl rfl rfl (Sx.x_pick_t hT rfl rfl rfl) ?_
    clear hT; intro a hT
    replace hT := hT.keep [15, 6, 5, 4, 0, 1] rfl
    refine Sx.ser_nil ?_
    refine Sx.then_normal (hK6 _ _ ?_)
    clear hK6
    -- cond 0
    refine Sx.wp_if hT rfl (fun hc8 => ?_) (fun hc8 => ?_)
    · try simp only [decide_eq_true_eq, decide_eq_false_iff_not, Bool.not_eq_true', Bool.not_eq_false', Bool.not_eq_true, Bool.not_eq_false, Bool.and_eq_true, Bool.or_eq_false_iff, beq_iff_eq, bne_iff_ne, Int.not_lt, Int.not_le, ne_eq] at hc8
      obtain ⟨o, ho⟩ : ∃ o, ks[k]? = some o := ⟨_, List.getElem?_eq_getElem (by omega)⟩
      refine wp_skip ?_
      refine Sx.then_normal (hK5 _ _ ?_)
      clear hK5
      refine wp_seq_k fun K9 hK9 => ?_
      refine wp_block ?_
      -- region 5 (copy.go:144)
      refine Sx.wp_text [(0, .take), (1, .take), (2, .take), (3, .take), (4, .run), (5, .take), (6, .take), (7, .take), (8, .run), (9, .take)] rfl ?_
      refine Sx.st_take hT rfl rfl rfl rfl (Sx.x_move hT rfl rfl) ?_
      clear hT; intro a hT
      refine Sx.st_take hT rfl rfl rfl rfl (Sx.x_move hT rfl rfl) ?_
      clear hT; intro a hT
      refine Sx.st_take hT rfl rfl rfl rfl (Sx.x_move hT rfl rfl) ?_
      clear hT; intro a hT
      refine Sx.st_take hT rfl rfl rfl rfl (Sx.x_index (k := k) hT rfl Try.underlying25 Try.ti9 (R.at H.ext).sv rfl rfl (by first | rfl | omega) (by omega)) ?_
      clear hT; intro a hT
      refine Sx.st_run hT rfl rfl rfl rfl (Sx.x_load1 hT rfl Try.fl9 rfl ((R.at H.ext).cell (j := 0) kc_len ho rfl)) ?_
      clear hT; intro a hT
      refine Sx.st_take hT rfl rfl rfl rfl (Sx.x_lenStr hT rfl rfl Try.underlying9 rfl) ?_
      clear hT; intro a hT
      refine Sx.st_take hT rfl rfl rfl rfl ((fun w => Sx.x_add w hT rfl rfl rfl rfl)) ?_
      clear hT; intro a hT
      refine Sx.st_take hT rfl rfl rfl rfl (Sx.x_move hT rfl rfl) ?_
      clear hT; intro a hT
      refine Sx.st_call hT rfl rfl rfl rfl rfl Try.can44 rfl (few2_calls _ _ _ _) ?_
      rintro _ w2 ⟨z8, rfl, E⟩
      refine ⟨_, rfl, ?_⟩
      clear hT; intro a hT
      replace H := H.pure E; clear E
      refine Sx.st_take hT rfl rfl rfl rfl (Sx.x_assign hT rfl rfl) ?_
      clear hT; intro a hT
      replace hT := hT.keep [5, 15, 6, 4, 0, 1] rfl
      refine Sx.ser_nil ?_
      refine Sx.block_normal ?_
      refine Sx.then_normal (hK9 _ _ ?_)
      clear hK9
      -- region 4 (copy.go:143)
      refine Sx.wp_text [(0, .take), (1, .take), (2, .take)] rfl ?_
      refine Sx.st_take hT rfl rfl rfl rfl (Sx.x_move hT rfl rfl) ?_
      clear hT; intro a hT
      refine Sx.st_take hT rfl rfl rfl rfl ((fun w => Sx.x_add w hT rfl rfl rfl (Sx.wrap64 (by omega)))) ?_
      clear hT; intro a hT
      refine Sx.st_take hT rfl rfl rfl rfl (Sx.x_assign hT rfl rfl) ?_
      clear hT; intro a hT
      replace hT := hT.keep [6, 5, 15, 4, 0, 1] rfl
      refine Sx.ser_nil ?_
      refine Sx.then_normal ?_
      exact ⟨(k + 1, z8), (show k + 1 ≤ _ by omega), (hT.keep [6, 5, 4, 0, 1] rfl), (H.keep [] rfl rfl), by show _ - (k + 1) < _ - k; omega⟩
    · try simp only [decide_eq_true_eq, decide_eq_false_iff_not, Bool.not_eq_true', Bool.not_eq_false', Bool.not_eq_true, Bool.not_eq_false, Bool.and_eq_true, Bool.or_eq_false_iff, beq_iff_eq, bne_iff_ne, Int.not_lt, Int.not_le, ne_eq] at hc8
      refine wp_exit ?_
      refine Sx.then_exit ?_
      refine Sx.then_exit ?_
      refine Sx.block_exit ?_
      refine Sx.then_normal (hK3 _ _ ?_)
      clear hK3
      refine wp_seq_k fun K10 hK10 => ?_
      -- region 6 (copy.go:146)
      refine Sx.wp_text [(0, .take), (1, .take)] rfl ?_
      refine Sx.st_take hT rfl rfl rfl rfl (Sx.x_move hT rfl rfl) ?_
      clear hT; intro a hT
      refine Sx.st_take hT rfl rfl rfl rfl (Sx.x_assign hT rfl rfl) ?_
      clear hT; intro a hT
      replace hT := hT.keep [4, 15, 6, 5, 0, 1] rfl
      refine Sx.ser_nil ?_
      refine Sx.then_normal (hK10 _ _ ?_)
      clear hK10
      refine wp_ret ?_
      refine Sx.done1 (fn := Try.f27) hT rfl (.tmp (hT.get 4 _ rfl)) ?_
      exact ⟨_, rfl, H.ext⟩
  · try simp only [decide_eq_true_eq, decide_eq_false_iff_not, Bool.not_eq_true', Bool.not_eq_false', Bool.not_eq_true, Bool.not_eq_false, Bool.and_eq_true, Bool.or_eq_false_iff, beq_iff_eq, bne_iff_ne, Int.not_lt, Int.not_le, ne_eq] at hc7
    refine Sx.st_skip hT rfl rfl rfl rfl ?_
    clear hT; intro a hT
    refine Sx.st_skip hT rfl rfl rfl rfl ?_
    clear hT; intro a hT
    refine Sx.st_skip hT rfl rfl rfl rfl ?_
    clear hT; intro a hT
    refine Sx.st_take hT rfl rfl rfl rfl (Sx.x_pick_f hT rfl rfl rfl) ?_
    clear hT; intro a hT
    replace hT := hT.keep [15, 6, 5, 4, 0, 1] rfl
    refine Sx.ser_nil ?_
    refine Sx.then_normal (hK6 _ _ ?_)
    clear hK6
    refine Sx.wp_if hT rfl (fun h => by cases h) (fun _ => ?_)
    refine wp_exit ?_
    refine Sx.then_exit ?_
    refine Sx.then_exit ?_
    refine Sx.block_exit ?_
    refine Sx.then_normal (hK3 _ _ ?_)
    clear hK3
    refine wp_seq_k fun K11 hK11 => ?_
    -- region 6 (copy.go:146)
    refine Sx.wp_text [(0, .take), (1, .take)] rfl ?_
    refine Sx.st_take hT rfl rfl rfl rfl (Sx.x_move hT rfl rfl) ?_
    clear hT; intro a hT
    refine Sx.st_take hT rfl rfl rfl rfl (Sx.x_assign hT rfl rfl) ?_
    clear hT; intro a hT
    replace hT := hT.keep [4, 15, 6, 5, 0, 1] rfl
    refine Sx.ser_nil ?_
    refine Sx.then_normal (hK11 _ _ ?_)
    clear hK11
    refine wp_ret ?_
    refine Sx.done1 (fn := Try.f27) hT rfl (.tmp (hT.get 4 _ rfl)) ?_
    exact ⟨_, rfl, H.ext⟩

theorem few_calls {ad ad2 : Option Addr} {c m c2 : Nat} (ks : List (List UInt8)) {w : World} (hs : Ss w ad kc 1 ks) (hl : ks.length ≤ 9223372036854775807) : Calls Try.prog 8 #[.slice ad ks.length c, .slice ad2 m c2] w fun e w' => ∃ b : Bool, e = .returned (.bool (decide (m ≤ 100) && b)) ∧ Ext No w w' := by
  have R : Ro w No _ := Ro.of fun w' x => hs.ext_no x
  refine Sx.calls_into Try.func8 rfl Try.ntmps8 rfl fun a hT => ?_
  replace hT := hT.keep [0, 1] rfl
  have H : Sx.Hp w (Sx.No) w [] := Sx.Hp.start _ _
  refine wp_seq_k fun K1 hK1 => ?_
  -- region 0 (law.go:28)
  refine Sx.wp_text [(0, .take)] rfl ?_
  refine Sx.st_take hT rfl rfl rfl rfl (Sx.x_assign hT rfl rfl) ?_
  clear hT; intro a hT
  replace hT := hT.keep [4, 0, 1] rfl
  refine Sx.ser_nil ?_
  refine Sx.then_normal (hK1 _ _ ?_)
  clear hK1
  refine wp_seq_k fun K2 hK2 => ?_
  -- region 1 (law.go:29)
  refine Sx.wp_text [(0, .take), (1, .take), (2, .take), (3, .take), (4, .take), (5, .run), (6, .take), (7, .take), (8, .take)] rfl ?_
  refine Sx.st_take hT rfl rfl rfl rfl (Sx.x_move hT rfl rfl) ?_
  clear hT; intro a hT
  refine Sx.st_take hT rfl rfl rfl rfl (Sx.x_len_slice hT rfl rfl Try.underlying28 rfl) ?_
  clear hT; intro a hT
  refine Sx.st_take hT rfl rfl rfl rfl ((fun w => Sx.x_le w hT rfl rfl rfl)) ?_
  clear hT; intro a hT
  refine Sx.st_take hT rfl rfl rfl rfl (Sx.x_move hT rfl rfl) ?_
  clear hT; intro a hT
  -- guard (1, 3)
  refine Sx.Sl.two hT 8 rfl (fun hc3 hT => ?_) (fun hc3 hT => ?_)
  · try simp only [decide_eq_true_eq, decide_eq_false_iff_not, Bool.not_eq_true', Bool.not_eq_false', Bool.not_eq_true, Bool.not_eq_false, Bool.and_eq_true, Bool.or_eq_false_iff, beq_iff_eq, bne_iff_ne, Int.not_lt, Int.not_le, ne_eq] at hc3
    refine Sx.st_take hT rfl rfl rfl rfl (Sx.x_move hT rfl rfl) ?_
    clear hT; intro a hT
    refine Sx.st_call hT rfl rfl rfl rfl rfl Try.can27 rfl (WeighTexts_calls ks 2000 (R.at H.ext) hl) ?_
    rintro _ w1 ⟨z8, rfl, E⟩
    refine ⟨_, rfl, ?_⟩
    clear hT; intro a hT
    replace H := H.pure E; clear E
    refine Sx.st_take hT rfl rfl rfl rfl ((fun w => Sx.x_le w hT rfl rfl rfl)) ?_
    clear hT; intro a hT
    refine Sx.st_take hT rfl rfl rfl rfl (Sx.x_pick_t hT rfl rfl rfl) ?_
    clear hT; intro a hT
    refine Sx.st_take hT rfl rfl rfl rfl (Sx.x_assign hT rfl rfl) ?_
    clear hT; intro a hT
    replace hT := hT.keep [4, 0, 1] rfl
    refine Sx.ser_nil ?_
    refine Sx.then_normal (hK2 _ _ ?_)
    clear hK2
    refine wp_ret ?_
    refine Sx.done1 (fn := Try.f8) hT rfl (.tmp (hT.get 4 _ rfl)) ?_
    have h9 : m ≤ 100 := by omega
    exact ⟨_, by rw [decide_eq_true h9, Bool.true_and], H.ext⟩
  · try simp only [decide_eq_true_eq, decide_eq_false_iff_not, Bool.not_eq_true', Bool.not_eq_false', Bool.not_eq_true, Bool.not_eq_false, Bool.and_eq_true, Bool.or_eq_false_iff, beq_iff_eq, bne_iff_ne, Int.not_lt, Int.not_le, ne_eq] at hc3
    refine Sx.st_skip hT rfl rfl rfl rfl ?_
    clear hT; intro a hT
    refine Sx.st_runskip hT rfl rfl rfl rfl ?_
    clear hT; intro a hT
    refine Sx.st_skip hT rfl rfl rfl rfl ?_
    clear hT; intro a hT
    refine Sx.st_take hT rfl rfl rfl rfl (Sx.x_pick_f hT rfl rfl rfl) ?_
    clear hT; intro a hT
    refine Sx.st_take hT rfl rfl rfl rfl (Sx.x_assign hT rfl rfl) ?_
    clear hT; intro a hT
    replace hT := hT.keep [4, 0, 1] rfl
    refine Sx.ser_nil ?_
    refine Sx.then_normal (hK2 _ _ ?_)
    clear hK2
    refine wp_ret ?_
    refine Sx.done1 (fn := Try.f8) hT rfl (.tmp (hT.get 4 _ rfl)) ?_
    have h9 : ¬ m ≤ 100 := by omega
    exact ⟨false, by rw [decide_eq_false h9, Bool.false_and], H.ext⟩

end Go.Proofs.Ytakohabmcgponaa
