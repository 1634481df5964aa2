/- Walks: DirSplits. -/
import Derived.Test.YtakohabmcgponaaW11
set_option linter.unusedSimpArgs false
set_option linter.unusedVariables false
namespace Go.Proofs.Ytakohabmcgponaa
open Sx
theorem Try.ti4 : Sx.TI Try.prog 4 (.bool false) 1 1 := .mk' (by kernel_rfl)
theorem Try.fl4 : Sx.Flat Try.prog 4 := ⟨_, Try.underlying4, trivial⟩
theorem Try.can3 : Sx.Can Try.prog 3 := ⟨_, Try.func3, by kernel_rfl, rfl⟩
def hdv : Bool → Rg → Rg → Rg
  | true, a, _ => a
  | false, _, b => b
def tlv : Bool → Rg → Rg → Rg
  | true, _, b => b
  | false, a, _ => a
def halv (par : Bool) (a b : Rg) : List Rg := [hdv par a b, tlv par a b]
def d1 : Bool → List Rg → Nat → Rg → Rg → List Rg
  | true, L, k, a, _ => L.set k a
  | false, L, _, _, b => L ++ [b]
def rpar : Bool → Rg → Option Rg
  | true, _ => none
  | false, b => some b
theorem hd_id (par : Bool) {a b : Rg} (h : a.id ≠ b.id) : decide ((hdv par a b).id = a.id) = par := by
  cases par with
  | true => exact decide_eq_true rfl
  | false => exact decide_eq_false fun h9 => h h9.symm
theorem blk_first {w : World} {bh : Nat} {par : Bool} {a b : Rg} (h : Blk w bh ((halv par a b).flatMap Rg.cells) 37) : Ss w (some ⟨bh, 0, none⟩) Rg.cells 4 [hdv par a b] :=
  ⟨rfl, fun _ => rfl, h.cs_of fun j v hj => by
    show ((hdv par a b).cells ++ ([tlv par a b] : List Rg).flatMap Rg.cells)[0 + j]? = _
    rw [Nat.zero_add, List.getElem?_append_left]
    · simpa [ao] using hj
    · have := (List.getElem?_eq_some_iff.1 hj).1; simpa using this⟩
theorem blk_both {w : World} {bh : Nat} {par : Bool} {a b : Rg} (h : Blk w bh ((halv par a b).flatMap Rg.cells) 37) : Ss w (some ⟨bh, 0, none⟩) Rg.cells 4 (halv par a b) := h.svn (m := 2) (sz := 4) rfl
theorem ok_facts {r : Rg} {x : Nat} {i : Int} (hw : r.wf) (hx : x < 2 ^ 64) (h : okS r x i) : r.epoch ≠ 9223372036854775807 ∧ r.lo < x ∧ x < r.hi ∧ i ≠ r.id := by
  obtain ⟨o1, o2, o3, o4, o5, o6, o7, o8⟩ := h
  obtain ⟨n1, n2, n3⟩ := may_nat hw o1
  have hf := fone_le
  rw [isF_le hx] at o6
  have o6 : x ≤ fone := by simpa using o6
  rw [fgt_gt (by omega) (by omega)] at o7
  rw [flt_lt (by omega) (by omega)] at o8
  exact ⟨o2, by simpa using o7, by simpa using o8, o5⟩
theorem learn_par (par : Bool) {L : List Rg} {k : Nat} {r a b : Rg} (h : Cov L) (hk : L[k]? = some r) (ha : a.id = r.id) (hb : b.id = ((L.length + 1 : Nat) : Int)) (ma : mayR a = true) (mb : mayR b = true) (he : r.epoch < a.epoch) {M : List Rg} (hM : M = L.set k a ++ [b]) :
    (learnR L [hdv par a b]).1 = d1 par L k a b ∧ (learnR L [hdv par a b]).2 = 1 ∧ (learnR (d1 par L k a b) (halv par a b)).1 = M ∧ (learnR (d1 par L k a b) (halv par a b)).2 = 1 ∧ (learnR M (halv par a b)).1 = M ∧ (learnR M (halv par a b)).2 = 0 := by
  subst hM
  cases par with
  | true =>
    obtain ⟨e1, e2, e3⟩ := learn_ab h.id hk ha hb ma mb he
    unfold halv hdv tlv d1
    rw [e1, e2, e3]
    exact ⟨rfl, rfl, rfl, rfl, rfl, rfl⟩
  | false =>
    obtain ⟨e1, e2, e3⟩ := learn_ba h.id hk ha hb ma mb he
    unfold halv hdv tlv d1
    rw [e1, e2, e3]
    exact ⟨rfl, rfl, rfl, rfl, rfl, rfl⟩
theorem keyF_yes {l : List UInt8} (h1 : ¬ (l.length : Int) < 1) (h2 : ¬ (24 : Int) < l.length) : keyF l = true := by
  unfold keyF
  rw [decide_eq_true (by omega), decide_eq_true (by omega)]; rfl
theorem keyF_no {l : List UInt8} (h : (l.length : Int) < 1 ∨ (24 : Int) < l.length) : keyF l = false := by
  unfold keyF
  rcases h with h | h
  · rw [decide_eq_false (show ¬ 1 ≤ l.length by omega)]; rfl
  · rw [decide_eq_false (show ¬ l.length ≤ 24 by omega), Bool.and_false]
theorem route_par (par : Bool) {L : List Rg} {k p : Nat} {r : Rg} {i : Int} (h : Cov L) (hk : L[k]? = some r) (hp : r.lo < p) (hp2 : p < r.hi) (hi : i = ((L.length + 1 : Nat) : Int)) (hl : L.length < 12) {key : List UInt8} (hy : keyF key = true) (hb : inF (halfB r p i) (ofF key) = true) :
    routeL (d1 par L k (halfA r p) (halfB r p i)) key = rpar par (halfB r p i) := by
  unfold routeL
  rw [if_pos hy]
  cases par with
  | true => exact route_parent h hk ⟨hp, hp2⟩ (ofF_le key) hb
  | false => exact route_child h hi hl hb
theorem routeL_no {L : List Rg} {key : List UInt8} (h : keyF key = false) : routeL L key = none := by unfold routeL; rw [if_neg (by rw [h]; decide)]
theorem routeL_yes {L : List Rg} (hC : Cov L) {key : List UInt8} (h : keyF key = true) : routeL L key = findF L (ofF key) := by unfold routeL; rw [if_pos h]; exact route_cov hC (ofF_le key)
theorem sp_cases (r : Rg) (x : Nat) (i : Int) : (okS r x i ∧ ∃ a b, a = halfA r x ∧ b = halfB r x i) ∨ ¬ okS r x i := by
  by_cases h : okS r x i
  · exact .inl ⟨h, _, _, rfl, rfl⟩
  · exact .inr h
theorem E0_eq {m : Nat} (h1 : 1 ≤ m) (h2 : m ≤ 12) : (learnR [] (evenF m m)).1 = evenF m m := by
  have h : ∀ m : Fin 13, 1 ≤ m.val → (learnR [] (evenF m.val m.val)).1 = evenF m.val m.val := by decide +kernel
  exact h ⟨m, by omega⟩ h1
theorem set_snoc {L : List Rg} {k : Nat} {a b : Rg} {M : List Rg} (hM : M = L.set k a ++ [b]) : (L.set k a).flatMap Rg.cells ++ [.int .i64 b.id, .int .i64 b.epoch, .float .f64 b.lo, .float .f64 b.hi] = M.flatMap Rg.cells := by
  subst hM
  rw [List.flatMap_append]
  rfl

set_option maxHeartbeats 1000000 in
theorem Splits_yes (m : Nat) (h1 : 1 ≤ m) (h2 : m ≤ 12) {ad1 : Option Addr} {c1 : Nat} (wh : List Int) {ad2 : Option Addr} {c2 : Nat} (ps : List Nat) {ad3 : Option Addr} {c3 : Nat} (ts : List Bool) {ad4 : Option Addr} {c4 : Nat} (ks : List (List UInt8)) {w : World} (hs1 : Ss w ad1 ic 1 wh) (hs2 : Ss w ad2 fc 1 ps) (hs3 : Ss w ad3 bc 1 ts) (hs4 : Ss w ad4 kc 1 ks) (hks : ks.length ≤ 9223372036854775807) (hkb : ∀ l ∈ ks, l.length ≤ 9223372036854775807) (hpb : ∀ b ∈ ps, b < 2 ^ 64) : Calls Try.prog 3 #[.int .i64 (m : Int), .slice ad1 wh.length c1, .slice ad2 ps.length c2, .slice ad3 ts.length c3, .slice ad4 ks.length c4] w fun e w' => e = .returned (.bool true) ∧ Ext No w w' := by
  have R1 : Ro w No _ := Ro.of fun w' x => hs1.ext_no x
  have R2 : Ro w No _ := Ro.of fun w' x => hs2.ext_no x
  have R3 : Ro w No _ := Ro.of fun w' x => hs3.ext_no x
  have R4 : Ro w No _ := Ro.of fun w' x => hs4.ext_no x
  refine Sx.calls_into Try.func3 rfl Try.ntmps3 rfl fun a hT => ?_
  replace hT := hT.keep [0, 1, 2, 3, 4] rfl
  have H : Sx.Hp w (Sx.No) w [] := Sx.Hp.start _ _
  refine wp_seq_k fun K1 hK1 => ?_
  -- region 0 (law.go:92)
  refine Sx.wp_text [(0, .take)] rfl ?_
  refine Sx.st_take hT rfl rfl rfl rfl (Sx.x_assign hT rfl rfl) ?_
  clear hT; intro a hT
  replace hT := hT.keep [10, 0, 1, 2, 3, 4] rfl
  refine Sx.ser_nil ?_
  refine Sx.then_normal (hK1 _ _ ?_)
  clear hK1
  refine wp_seq_k fun K2 hK2 => ?_
  refine wp_seq_k fun K3 hK3 => ?_
  -- region 1 (law.go:93)
  refine Sx.wp_text [(0, .run), (1, .take)] rfl ?_
  refine Sx.st_call hT rfl rfl rfl rfl rfl Try.can7 rfl (first_calls _) ?_
  rintro _ w1 ⟨rfl, E⟩
  refine ⟨_, rfl, ?_⟩
  clear hT; intro a hT
  replace H := H.pure E; clear E
  refine Sx.st_take hT rfl rfl rfl rfl (Sx.x_not hT rfl rfl) ?_
  clear hT; intro a hT
  replace hT := hT.keep [32, 10, 0, 1, 2, 3, 4] rfl
  refine Sx.ser_nil ?_
  refine Sx.then_normal (hK3 _ _ ?_)
  clear hK3
  refine Sx.wp_if hT rfl (fun h => by cases h) (fun _ => ?_)
  refine wp_skip ?_
  refine Sx.then_normal (hK2 _ _ ?_)
  clear hK2
  refine wp_seq_k fun K4 hK4 => ?_
  refine wp_seq_k fun K5 hK5 => ?_
  -- region 3 (law.go:96)
  refine Sx.wp_text [(0, .take), (1, .run), (2, .take)] rfl ?_
  refine Sx.st_take hT rfl rfl rfl rfl (Sx.x_move hT rfl rfl) ?_
  clear hT; intro a hT
  refine Sx.st_call hT rfl rfl rfl rfl rfl Try.can8 rfl (few_calls ks (R4.at H.ext) hks) ?_
  rintro _ w2 ⟨bf, rfl, E⟩
  refine ⟨_, rfl, ?_⟩
  clear hT; intro a hT
  replace H := H.pure E; clear E
  refine Sx.st_take hT rfl rfl rfl rfl (Sx.x_not hT rfl rfl) ?_
  clear hT; intro a hT
  replace hT := hT.keep [35, 32, 10, 0, 1, 2, 3, 4] rfl
  refine Sx.ser_nil ?_
  refine Sx.then_normal (hK5 _ _ ?_)
  clear hK5
  -- cond 1
  refine Sx.wp_if hT rfl (fun hc6 => ?_) (fun hc6 => ?_)
  · try simp only [decide_eq_true_eq, decide_eq_false_iff_not, Bool.not_eq_true', Bool.not_eq_false', Bool.not_eq_true, Bool.not_eq_false, Bool.and_eq_true, Bool.or_eq_false_iff, beq_iff_eq, bne_iff_ne, Int.not_lt, Int.not_le, ne_eq] at hc6
    refine wp_seq_k fun K7 hK7 => ?_
    -- region 4 (law.go:97)
    refine Sx.wp_text [(0, .run), (1, .take)] rfl ?_
    refine Sx.st_call hT rfl rfl rfl rfl rfl Try.can7 rfl (first_calls _) ?_
    rintro _ w3 ⟨rfl, E⟩
    refine ⟨_, rfl, ?_⟩
    clear hT; intro a hT
    replace H := H.pure E; clear E
    refine Sx.st_take hT rfl rfl rfl rfl (Sx.x_assign hT rfl rfl) ?_
    clear hT; intro a hT
    replace hT := hT.keep [10, 35, 32, 0, 1, 2, 3, 4] rfl
    refine Sx.ser_nil ?_
    refine Sx.then_normal (hK7 _ _ ?_)
    clear hK7
    refine wp_ret ?_
    refine Sx.then_ret ?_
    refine Sx.done1 (fn := Try.f3) hT rfl (.tmp (hT.get 10 _ rfl)) ?_
    exact ⟨ret_b (by simp), H.ext⟩
  · try simp only [decide_eq_true_eq, decide_eq_false_iff_not, Bool.not_eq_true', Bool.not_eq_false', Bool.not_eq_true, Bool.not_eq_false, Bool.and_eq_true, Bool.or_eq_false_iff, beq_iff_eq, bne_iff_ne, Int.not_lt, Int.not_le, ne_eq] at hc6
    refine wp_skip ?_
    refine Sx.then_normal (hK4 _ _ ?_)
    clear hK4
    refine wp_seq_k fun K8 hK8 => ?_
    -- region 5 (law.go:99)
    refine Sx.wp_text [(0, .take), (1, .run), (2, .take), (3, .take), (4, .take), (5, .take), (6, .take)] rfl ?_
    refine Sx.st_take hT rfl rfl rfl rfl (Sx.x_move hT rfl rfl) ?_
    clear hT; intro a hT
    refine Sx.st_call hT rfl rfl rfl rfl rfl Try.can9 rfl (Even2_calls m h1 h2 _) ?_
    rintro _ w4 ⟨ad0, c0, rfl, K⟩
    refine ⟨_, rfl, ?_⟩
    clear hT; intro a hT
    replace H := H.more K rfl; clear K
    refine Sx.st_take hT rfl rfl rfl rfl (Sx.x_move hT rfl rfl) ?_
    clear hT; intro a hT
    refine Sx.st_take hT rfl rfl rfl rfl (Sx.x_extractL hT rfl rfl rfl) ?_
    clear hT; intro a hT
    refine Sx.st_take hT rfl rfl rfl rfl (Sx.x_extractL hT rfl rfl rfl) ?_
    clear hT; intro a hT
    refine Sx.st_take hT rfl rfl rfl rfl (Sx.x_assign hT rfl rfl) ?_
    clear hT; intro a hT
    refine Sx.st_take hT rfl rfl rfl rfl (Sx.x_assign hT rfl rfl) ?_
    clear hT; intro a hT
    replace hT := hT.keep [12, 11, 35, 32, 10, 0, 1, 2, 3, 4] rfl
    refine Sx.ser_nil ?_
    refine Sx.then_normal (hK8 _ _ ?_)
    clear hK8
    refine wp_seq_k fun K9 hK9 => ?_
    refine wp_seq_k fun K10 hK10 => ?_
    -- region 6 (law.go:100)
    refine Sx.wp_text [(0, .take), (1, .take)] rfl ?_
    refine Sx.st_take hT rfl rfl rfl rfl (Sx.x_move hT rfl rfl) ?_
    clear hT; intro a hT
    refine Sx.st_take hT rfl rfl rfl rfl ((fun w => Sx.x_ne w hT rfl rfl rfl)) ?_
    clear hT; intro a hT
    replace hT := hT.keep [43, 12, 11, 35, 32, 10, 0, 1, 2, 3, 4] rfl
    refine Sx.ser_nil ?_
    refine Sx.then_normal (hK10 _ _ ?_)
    clear hK10
    -- cond 2
    refine Sx.wp_if hT rfl (fun hc11 => ?_) (fun hc11 => ?_)
    · exfalso
      try simp only [decide_eq_true_eq, decide_eq_false_iff_not, Bool.not_eq_true', Bool.not_eq_false', Bool.not_eq_true, Bool.not_eq_false, Bool.and_eq_true, Bool.or_eq_false_iff, beq_iff_eq, bne_iff_ne, Int.not_lt, Int.not_le, ne_eq] at hc11
      first | (simp at hc11; done) | (simp at hc11; omega) | omega
    · try simp only [decide_eq_true_eq, decide_eq_false_iff_not, Bool.not_eq_true', Bool.not_eq_false', Bool.not_eq_true, Bool.not_eq_false, Bool.and_eq_true, Bool.or_eq_false_iff, beq_iff_eq, bne_iff_ne, Int.not_lt, Int.not_le, ne_eq] at hc11
      refine wp_skip ?_
      refine Sx.then_normal (hK9 _ _ ?_)
      clear hK9
      refine wp_seq_k fun K12 hK12 => ?_
      -- region 8 (law.go:103)
      refine Sx.wp_text [(0, .take), (1, .run), (2, .take), (3, .take), (4, .take), (5, .take), (6, .take)] rfl ?_
      refine Sx.st_take hT rfl rfl rfl rfl (Sx.x_move hT rfl rfl) ?_
      clear hT; intro a hT
      refine Sx.st_call hT rfl rfl rfl rfl rfl Try.can10 rfl (New_yes (evenF m m) ((H.row 0 rfl).ssn rfl) (by rw [even_len]; omega) ((H.row 0 rfl).le.1) (even_wf h1 h2) (even_ok h1 h2)) ?_
      rintro _ w5 ⟨pd, bd, rfl, K⟩
      refine ⟨_, rfl, ?_⟩
      clear hT; intro a hT
      replace H := H.more K rfl; clear K
      rw [E0_eq h1 h2] at H
      refine Sx.st_take hT rfl rfl rfl rfl (Sx.x_move hT rfl rfl) ?_
      clear hT; intro a hT
      refine Sx.st_take hT rfl rfl rfl rfl (Sx.x_extractL hT rfl rfl rfl) ?_
      clear hT; intro a hT
      refine Sx.st_take hT rfl rfl rfl rfl (Sx.x_extractL hT rfl rfl rfl) ?_
      clear hT; intro a hT
      refine Sx.st_take hT rfl rfl rfl rfl (Sx.x_assign hT rfl rfl) ?_
      clear hT; intro a hT
      refine Sx.st_take hT rfl rfl rfl rfl (Sx.x_assign hT rfl rfl) ?_
      clear hT; intro a hT
      replace hT := hT.keep [14, 13, 43, 12, 11, 35, 32, 10, 0, 1, 2, 3, 4] rfl
      refine Sx.ser_nil ?_
      refine Sx.then_normal (hK12 _ _ ?_)
      clear hK12
      refine wp_seq_k fun K13 hK13 => ?_
      refine wp_seq_k fun K14 hK14 => ?_
      -- region 9 (law.go:104)
      refine Sx.wp_text [(0, .take), (1, .take), (2, .take), (3, .take), (4, .take), (5, .take)] rfl ?_
      refine Sx.st_take hT rfl rfl rfl rfl (Sx.x_move hT rfl rfl) ?_
      clear hT; intro a hT
      refine Sx.st_take hT rfl rfl rfl rfl ((fun w => Sx.x_ne w hT rfl rfl rfl)) ?_
      clear hT; intro a hT
      refine Sx.st_take hT rfl rfl rfl rfl (Sx.x_move hT rfl rfl) ?_
      clear hT; intro a hT
      -- guard (9, 2)
      refine Sx.Sl.two hT 52 rfl (fun hc15 hT => ?_) (fun hc15 hT => ?_)
      · exfalso
        try simp only [decide_eq_true_eq, decide_eq_false_iff_not, Bool.not_eq_true', Bool.not_eq_false', Bool.not_eq_true, Bool.not_eq_false, Bool.and_eq_true, Bool.or_eq_false_iff, beq_iff_eq, bne_iff_ne, Int.not_lt, Int.not_le, ne_eq] at hc15
        first | (simp at hc15; done) | (simp at hc15; omega) | omega
      · try simp only [decide_eq_true_eq, decide_eq_false_iff_not, Bool.not_eq_true', Bool.not_eq_false', Bool.not_eq_true, Bool.not_eq_false, Bool.and_eq_true, Bool.or_eq_false_iff, beq_iff_eq, bne_iff_ne, Int.not_lt, Int.not_le, ne_eq] at hc15
        refine Sx.st_take hT rfl rfl rfl rfl (Sx.x_move hT rfl rfl) ?_
        clear hT; intro a hT
        refine Sx.st_take hT rfl rfl rfl rfl (Sx.x_eqnil_some hT rfl Try.underlying32 rfl rfl) ?_
        clear hT; intro a hT
        refine Sx.st_take hT rfl rfl rfl rfl (Sx.x_pick_f hT rfl rfl rfl) ?_
        clear hT; intro a hT
        replace hT := hT.keep [55, 14, 13, 43, 12, 11, 35, 32, 10, 0, 1, 2, 3, 4] rfl
        refine Sx.ser_nil ?_
        refine Sx.then_normal (hK14 _ _ ?_)
        clear hK14
        refine Sx.wp_if hT rfl (fun h => by cases h) (fun _ => ?_)
        refine wp_skip ?_
        refine Sx.then_normal (hK13 _ _ ?_)
        clear hK13
        refine wp_seq_k fun K16 hK16 => ?_
        refine Sx.wp_join (G := List Rg × Option Addr × Nat) (fun ⟨L, ad9, c9⟩ => [(11, .slice ad9 L.length c9)]) (fun ⟨L, ad9, c9⟩ => [cR 37 4 ad9 L.length c9 (L.flatMap Rg.cells), cM Try.prog 3 bd (tb L)]) (fun ⟨L, ad9, c9⟩ => Cov L) (hT.keep [55, 14, 13, 43, 12, 35, 32, 0, 1, 2, 3, 4] rfl) (H.keep [0] rfl rfl) hK16 ?_ ?_
        · clear hT H hK16
          rintro ⟨L, ad9, c9⟩ a w6 hJ hT H
          replace hT := hT.keep [11, 55, 14, 13, 43, 12, 35, 32, 0, 1, 2, 3, 4] rfl
          replace H := H.keep [0, 1, 2] rfl rfl
          have hC := hJ
          have hL2 := hC.few
          refine wp_seq_k fun K17 hK17 => ?_
          refine wp_seq_k fun K18 hK18 => ?_
          -- region 39 (law.go:143)
          refine Sx.wp_text [(0, .take)] rfl ?_
          refine Sx.st_take hT rfl rfl rfl rfl (Sx.x_assign hT rfl rfl) ?_
          clear hT; intro a hT
          replace hT := hT.keep [26, 11, 55, 14, 13, 43, 12, 35, 32, 0, 1, 2, 3, 4] rfl
          refine Sx.ser_nil ?_
          refine Sx.then_normal (hK18 _ _ ?_)
          clear hK18
          refine wp_block ?_
          -- loop 2
          refine Sx.wp_loopH (G := Nat) (fun j => [(26, .int .i64 (j : Int))]) (fun j => []) (fun j => j ≤ ks.length) (fun j => ks.length - j) 0 (hT.keep [26, 11, 55, 14, 13, 43, 12, 35, 32, 0, 1, 2, 3, 4] rfl) (H.keep [0, 1, 2] rfl rfl) (Nat.zero_le _) ?_
          clear hT H
          rintro j a w7 hJ hT H
          replace hT := hT.keep [26, 11, 55, 14, 13, 43, 12, 35, 32, 0, 1, 2, 3, 4] rfl
          replace H := H.keep [0, 1, 2] rfl rfl
          have hj : j ≤ ks.length := hJ
          refine wp_seq_k fun K19 hK19 => ?_
          refine wp_seq_k fun K20 hK20 => ?_
          -- region 40 (law.go:143)
          refine Sx.wp_text [(0, .take), (1, .take), (2, .take), (3, .take)] rfl ?_
          refine Sx.st_take hT rfl rfl rfl rfl (Sx.x_move hT rfl rfl) ?_
          clear hT; intro a hT
          refine Sx.st_take hT rfl rfl rfl rfl (Sx.x_move hT rfl rfl) ?_
          clear hT; intro a hT
          refine Sx.st_take hT rfl rfl rfl rfl (Sx.x_len_slice hT rfl rfl Try.underlying25 rfl) ?_
          clear hT; intro a hT
          refine Sx.st_take hT rfl rfl rfl rfl ((fun w => Sx.x_lt w hT rfl rfl rfl)) ?_
          clear hT; intro a hT
          replace hT := hT.keep [218, 26, 11, 55, 14, 13, 43, 12, 35, 32, 0, 1, 2, 3, 4] rfl
          refine Sx.ser_nil ?_
          refine Sx.then_normal (hK20 _ _ ?_)
          clear hK20
          -- cond 14
          refine Sx.wp_if hT rfl (fun hc21 => ?_) (fun hc21 => ?_)
          · try simp only [decide_eq_true_eq, decide_eq_false_iff_not, Bool.not_eq_true', Bool.not_eq_false', Bool.not_eq_true, Bool.not_eq_false, Bool.and_eq_true, Bool.or_eq_false_iff, beq_iff_eq, bne_iff_ne, Int.not_lt, Int.not_le, ne_eq] at hc21
            obtain ⟨key, hkey⟩ : ∃ o, ks[j]? = some o := ⟨_, List.getElem?_eq_getElem (by omega)⟩
            have hkl := hkb key (List.mem_of_getElem? hkey)
            refine wp_skip ?_
            refine Sx.then_normal (hK19 _ _ ?_)
            clear hK19
            refine wp_seq_k fun K22 hK22 => ?_
            refine wp_block ?_
            refine wp_seq_k fun K23 hK23 => ?_
            -- region 42 (law.go:144)
            refine Sx.wp_text [(0, .take), (1, .take), (2, .take), (3, .take), (4, .run), (5, .run), (6, .take), (7, .take), (8, .take), (9, .run), (10, .run), (11, .take)] rfl ?_
            refine Sx.st_take hT rfl rfl rfl rfl (Sx.x_move hT rfl rfl) ?_
            clear hT; intro a hT
            refine Sx.st_take hT rfl rfl rfl rfl (Sx.x_move hT rfl rfl) ?_
            clear hT; intro a hT
            refine Sx.st_take hT rfl rfl rfl rfl (Sx.x_move hT rfl rfl) ?_
            clear hT; intro a hT
            refine Sx.st_take hT rfl rfl rfl rfl (Sx.x_index (k := j) hT rfl Try.underlying25 Try.ti9 (by first | exact (R1.at H.ext).sv | exact (R2.at H.ext).sv | exact (R3.at H.ext).sv | exact (R4.at H.ext).sv) rfl rfl (by first | rfl | omega) (by omega)) ?_
            clear hT; intro a hT
            refine Sx.st_run hT rfl rfl rfl rfl (Sx.x_load1 hT rfl Try.fl9 rfl (by first | exact ((R1.at H.ext).cell (j := 0) ic_len hz rfl) | exact ((R2.at H.ext).cell (j := 0) fc_len hpt rfl) | exact ((R3.at H.ext).cell (j := 0) bc_len htb rfl) | exact ((R4.at H.ext).cell (j := 0) kc_len hkey rfl))) ?_
            clear hT; intro a hT
            refine Sx.st_call hT rfl rfl rfl rfl rfl Try.can15 rfl (Route_calls key hkl (H.blk 2 rfl) (H.mp 1 rfl)) ?_
            rintro _ w8 ⟨rfl, E⟩
            refine ⟨_, rfl, ?_⟩
            clear hT; intro a hT
            replace H := H.pure E; clear E
            obtain ⟨ro9, hro⟩ : ∃ o, routeL L key = o := ⟨_, rfl⟩
            rw [hro] at hT
            refine Sx.st_take hT rfl rfl rfl rfl (Sx.x_move hT rfl rfl) ?_
            clear hT; intro a hT
            refine Sx.st_take hT rfl rfl rfl rfl (Sx.x_extractL hT rfl rfl rfl) ?_
            clear hT; intro a hT
            refine Sx.st_take hT rfl rfl rfl rfl (Sx.x_extractL hT rfl rfl rfl) ?_
            clear hT; intro a hT
            refine Sx.st_eff hT rfl rfl rfl rfl (Sx.y_alloc hT rfl Try.ti37 rfl _) ?_
            clear hT; rintro _ w9 ⟨b1, rfl, N⟩ a hT
            replace H := H.new N; clear N
            refine Sx.st_act hT rfl rfl rfl (Sx.y_storeS hT rfl Try.ti37 rfl rfl rfl rfl rfl (H.blk 0 rfl) rfl) ?_
            rintro w10 ⟨hb, E, _⟩
            replace H := H.setB 0 rfl hb E rfl; clear hb E
            refine Sx.st_take hT rfl rfl rfl rfl (Sx.x_assign hT rfl rfl) ?_
            clear hT; intro a hT
            replace hT := hT.keep [28, 27, 218, 26, 11, 55, 14, 13, 43, 12, 35, 32, 0, 1, 2, 3, 4] rfl
            refine Sx.ser_nil ?_
            refine Sx.then_normal (hK23 _ _ ?_)
            clear hK23
            refine wp_seq_k fun K24 hK24 => ?_
            -- region 43 (law.go:145)
            refine Sx.wp_text [(0, .take), (1, .take), (2, .take), (3, .take), (4, .run), (5, .run), (6, .run), (7, .take), (8, .take), (9, .take), (10, .run), (11, .run), (12, .take)] rfl ?_
            refine Sx.st_take hT rfl rfl rfl rfl (Sx.x_move hT rfl rfl) ?_
            clear hT; intro a hT
            refine Sx.st_take hT rfl rfl rfl rfl (Sx.x_move hT rfl rfl) ?_
            clear hT; intro a hT
            refine Sx.st_take hT rfl rfl rfl rfl (Sx.x_move hT rfl rfl) ?_
            clear hT; intro a hT
            refine Sx.st_take hT rfl rfl rfl rfl (Sx.x_index (k := j) hT rfl Try.underlying25 Try.ti9 (by first | exact (R1.at H.ext).sv | exact (R2.at H.ext).sv | exact (R3.at H.ext).sv | exact (R4.at H.ext).sv) rfl rfl (by first | rfl | omega) (by omega)) ?_
            clear hT; intro a hT
            refine Sx.st_run hT rfl rfl rfl rfl (Sx.x_load1 hT rfl Try.fl9 rfl (by first | exact ((H.blk 0 rfl).nth rfl) | exact ((R1.at H.ext).cell (j := 0) ic_len hz rfl) | exact ((R2.at H.ext).cell (j := 0) fc_len hpt rfl) | exact ((R3.at H.ext).cell (j := 0) bc_len htb rfl) | exact ((R4.at H.ext).cell (j := 0) kc_len hkey rfl))) ?_
            clear hT; intro a hT
            refine Sx.st_call hT rfl rfl rfl rfl rfl Try.can14 rfl (Of4_calls key hkl _) ?_
            rintro _ w11 ⟨rfl, E⟩
            refine ⟨_, rfl, ?_⟩
            clear hT; intro a hT
            replace H := H.pure E; clear E
            refine Sx.st_call hT rfl rfl rfl rfl rfl Try.can18 rfl (Find4_calls L (ofF key) ((H.row 1 rfl).ssn rfl) (by omega)) ?_
            rintro _ w12 ⟨rfl, E⟩
            refine ⟨_, rfl, ?_⟩
            clear hT; intro a hT
            replace H := H.pure E; clear E
            refine Sx.st_take hT rfl rfl rfl rfl (Sx.x_move hT rfl rfl) ?_
            clear hT; intro a hT
            refine Sx.st_take hT rfl rfl rfl rfl (Sx.x_extractL hT rfl rfl rfl) ?_
            clear hT; intro a hT
            refine Sx.st_take hT rfl rfl rfl rfl (Sx.x_extractL hT rfl rfl rfl) ?_
            clear hT; intro a hT
            refine Sx.st_eff hT rfl rfl rfl rfl (Sx.y_alloc hT rfl Try.ti37 rfl _) ?_
            clear hT; rintro _ w13 ⟨b2, rfl, N⟩ a hT
            replace H := H.new N; clear N
            refine Sx.st_act hT rfl rfl rfl (Sx.y_storeS hT rfl Try.ti37 rfl rfl rfl rfl rfl (H.blk 0 rfl) rfl) ?_
            rintro w14 ⟨hb, E, _⟩
            replace H := H.setB 0 rfl hb E rfl; clear hb E
            refine Sx.st_take hT rfl rfl rfl rfl (Sx.x_assign hT rfl rfl) ?_
            clear hT; intro a hT
            replace hT := hT.keep [30, 29, 28, 27, 218, 26, 11, 55, 14, 13, 43, 12, 35, 32, 0, 1, 2, 3, 4] rfl
            refine Sx.ser_nil ?_
            refine Sx.then_normal (hK24 _ _ ?_)
            clear hK24
            refine wp_seq_k fun K25 hK25 => ?_
            refine wp_seq_k fun K26 hK26 => ?_
            -- region 44 (law.go:146)
            refine Sx.wp_text [(0, .take), (1, .take), (2, .take), (3, .run), (4, .take), (5, .take), (6, .take), (7, .take), (8, .take), (9, .take), (10, .run), (11, .take), (12, .take), (13, .take)] rfl ?_
            refine Sx.st_take hT rfl rfl rfl rfl (Sx.x_move hT rfl rfl) ?_
            clear hT; intro a hT
            refine Sx.st_take hT rfl rfl rfl rfl (Sx.x_move hT rfl rfl) ?_
            clear hT; intro a hT
            refine Sx.st_take hT rfl rfl rfl rfl (Sx.x_index (k := j) hT rfl Try.underlying25 Try.ti9 (by first | exact (R1.at H.ext).sv | exact (R2.at H.ext).sv | exact (R3.at H.ext).sv | exact (R4.at H.ext).sv) rfl rfl (by first | rfl | omega) (by omega)) ?_
            clear hT; intro a hT
            refine Sx.st_run hT rfl rfl rfl rfl (Sx.x_load1 hT rfl Try.fl9 rfl (by first | exact ((H.blk 0 rfl).nth rfl) | exact ((H.blk 1 rfl).nth rfl) | exact ((R1.at H.ext).cell (j := 0) ic_len hz rfl) | exact ((R2.at H.ext).cell (j := 0) fc_len hpt rfl) | exact ((R3.at H.ext).cell (j := 0) bc_len htb rfl) | exact ((R4.at H.ext).cell (j := 0) kc_len hkey rfl))) ?_
            clear hT; intro a hT
            refine Sx.st_take hT rfl rfl rfl rfl (Sx.x_lenStr hT rfl rfl Try.underlying9 rfl) ?_
            clear hT; intro a hT
            refine Sx.st_take hT rfl rfl rfl rfl ((fun w => Sx.x_lt w hT rfl rfl rfl)) ?_
            clear hT; intro a hT
            refine Sx.st_take hT rfl rfl rfl rfl (Sx.x_move hT rfl rfl) ?_
            clear hT; intro a hT
            -- guard (44, 6)
            refine Sx.Sl.two hT 246 rfl (fun hc27 hT => ?_) (fun hc27 hT => ?_)
            · try simp only [decide_eq_true_eq, decide_eq_false_iff_not, Bool.not_eq_true', Bool.not_eq_false', Bool.not_eq_true, Bool.not_eq_false, Bool.and_eq_true, Bool.or_eq_false_iff, beq_iff_eq, bne_iff_ne, Int.not_lt, Int.not_le, ne_eq] at hc27
              refine Sx.st_skip hT rfl rfl rfl rfl ?_
              clear hT; intro a hT
              refine Sx.st_skip hT rfl rfl rfl rfl ?_
              clear hT; intro a hT
              refine Sx.st_skip hT rfl rfl rfl rfl ?_
              clear hT; intro a hT
              refine Sx.st_runskip hT rfl rfl rfl rfl ?_
              clear hT; intro a hT
              refine Sx.st_skip hT rfl rfl rfl rfl ?_
              clear hT; intro a hT
              refine Sx.st_skip hT rfl rfl rfl rfl ?_
              clear hT; intro a hT
              refine Sx.st_take hT rfl rfl rfl rfl (Sx.x_pick_t hT rfl rfl rfl) ?_
              clear hT; intro a hT
              replace hT := hT.keep [253, 30, 29, 28, 27, 218, 26, 11, 55, 14, 13, 43, 12, 35, 32, 0, 1, 2, 3, 4] rfl
              refine Sx.ser_nil ?_
              refine Sx.then_normal (hK26 _ _ ?_)
              clear hK26
              refine Sx.wp_if hT rfl (fun _ => ?_) (fun h => by cases h)
              obtain rfl : ro9 = none := hro.symm.trans (routeL_no (keyF_no (by omega)))
              refine wp_seq_k fun K28 hK28 => ?_
              -- region 45 (law.go:147)
              refine Sx.wp_text [(0, .take)] rfl ?_
              refine Sx.st_take hT rfl rfl rfl rfl (Sx.x_assign hT rfl rfl) ?_
              clear hT; intro a hT
              replace hT := hT.keep [30, 253, 29, 28, 27, 218, 26, 11, 55, 14, 13, 43, 12, 35, 32, 0, 1, 2, 3, 4] rfl
              refine Sx.ser_nil ?_
              refine Sx.then_normal (hK28 _ _ ?_)
              clear hK28
              -- region 46 (law.go:148)
              refine Sx.wp_text [(0, .take), (1, .run)] rfl ?_
              refine Sx.st_take hT rfl rfl rfl rfl (Sx.x_bld hT rfl Try.bld37 rfl rfl) ?_
              clear hT; intro a hT
              refine Sx.st_act hT rfl rfl rfl (Sx.y_storeS hT rfl Try.ti37 rfl rfl rfl rfl rfl (H.blk 0 rfl) rfl) ?_
              rintro w15 ⟨hb, E, _⟩
              replace H := H.setB 0 rfl hb E rfl; clear hb E
              replace hT := hT.keep [30, 253, 29, 28, 27, 218, 26, 11, 55, 14, 13, 43, 12, 35, 32, 0, 1, 2, 3, 4] rfl
              refine Sx.ser_nil ?_
              refine Sx.then_normal (hK25 _ _ ?_)
              clear hK25
              refine wp_seq_k fun K29 hK29 => ?_
              -- region 47 (law.go:150)
              refine Sx.wp_text [(0, .take), (1, .take), (2, .take), (3, .take), (4, .run), (5, .run), (6, .run), (7, .take), (8, .take)] rfl ?_
              refine Sx.st_take hT rfl rfl rfl rfl (Sx.x_move hT rfl rfl) ?_
              clear hT; intro a hT
              refine Sx.st_take hT rfl rfl rfl rfl (Sx.x_move hT rfl rfl) ?_
              clear hT; intro a hT
              refine Sx.st_take hT rfl rfl rfl rfl (Sx.x_neb hT rfl Try.underlying4 rfl rfl) ?_
              clear hT; intro a hT
              refine Sx.st_take hT rfl rfl rfl rfl (Sx.x_move hT rfl rfl) ?_
              clear hT; intro a hT
              -- guard (47, 3)
              refine Sx.Sl.two hT 258 rfl (fun hc30 hT => ?_) (fun hc30 hT => ?_)
              · exfalso
                try simp only [decide_eq_true_eq, decide_eq_false_iff_not, Bool.not_eq_true', Bool.not_eq_false', Bool.not_eq_true, Bool.not_eq_false, Bool.and_eq_true, Bool.or_eq_false_iff, beq_iff_eq, bne_iff_ne, Int.not_lt, Int.not_le, ne_eq] at hc30
                first | (simp at hc30; done) | (simp at hc30; omega) | omega
              · try simp only [decide_eq_true_eq, decide_eq_false_iff_not, Bool.not_eq_true', Bool.not_eq_false', Bool.not_eq_true, Bool.not_eq_false, Bool.and_eq_true, Bool.or_eq_false_iff, beq_iff_eq, bne_iff_ne, Int.not_lt, Int.not_le, ne_eq] at hc30
                refine Sx.st_run hT rfl rfl rfl rfl (Sx.y_loadS hT rfl Try.underlying37 Try.ti37 rfl ((H.blk 1 rfl).seg (k := 4) rfl) (by rfl)) ?_
                clear hT; intro a hT
                refine Sx.st_run hT rfl rfl rfl rfl (Sx.y_loadS hT rfl Try.underlying37 Try.ti37 rfl ((H.blk 0 rfl).seg (k := 4) rfl) (by rfl)) ?_
                clear hT; intro a hT
                refine Sx.st_call hT rfl rfl rfl rfl rfl Try.can19 rfl (Range_calls ((none : Option Rg).getD rz) rz _) ?_
                rintro _ w16 ⟨rfl, E⟩
                refine ⟨_, rfl, ?_⟩
                clear hT; intro a hT
                replace H := H.pure E; clear E
                refine Sx.st_take hT rfl rfl rfl rfl (Sx.x_not hT rfl rfl) ?_
                clear hT; intro a hT
                refine Sx.st_take hT rfl rfl rfl rfl (Sx.x_pick_f hT rfl rfl rfl) ?_
                clear hT; intro a hT
                replace hT := hT.keep [263, 30, 253, 29, 28, 27, 218, 26, 11, 55, 14, 13, 43, 12, 35, 32, 0, 1, 2, 3, 4] rfl
                refine Sx.ser_nil ?_
                refine Sx.then_normal (hK29 _ _ ?_)
                clear hK29
                -- cond 16
                refine Sx.wp_if hT rfl (fun hc31 => ?_) (fun hc31 => ?_)
                · exfalso
                  try simp only [decide_eq_true_eq, decide_eq_false_iff_not, Bool.not_eq_true', Bool.not_eq_false', Bool.not_eq_true, Bool.not_eq_false, Bool.and_eq_true, Bool.or_eq_false_iff, beq_iff_eq, bne_iff_ne, Int.not_lt, Int.not_le, ne_eq] at hc31
                  simp at hc31
                · try simp only [decide_eq_true_eq, decide_eq_false_iff_not, Bool.not_eq_true', Bool.not_eq_false', Bool.not_eq_true, Bool.not_eq_false, Bool.and_eq_true, Bool.or_eq_false_iff, beq_iff_eq, bne_iff_ne, Int.not_lt, Int.not_le, ne_eq] at hc31
                  refine wp_skip ?_
                  refine Sx.block_normal ?_
                  refine Sx.then_normal (hK22 _ _ ?_)
                  clear hK22
                  -- region 41 (law.go:143)
                  refine Sx.wp_text [(0, .take), (1, .take), (2, .take)] rfl ?_
                  refine Sx.st_take hT rfl rfl rfl rfl (Sx.x_move hT rfl rfl) ?_
                  clear hT; intro a hT
                  refine Sx.st_take hT rfl rfl rfl rfl ((fun w => Sx.x_add w hT rfl rfl rfl (Sx.wrap64 (by omega)))) ?_
                  clear hT; intro a hT
                  refine Sx.st_take hT rfl rfl rfl rfl (Sx.x_assign hT rfl rfl) ?_
                  clear hT; intro a hT
                  replace hT := hT.keep [26, 263, 30, 253, 29, 28, 27, 218, 11, 55, 14, 13, 43, 12, 35, 32, 0, 1, 2, 3, 4] rfl
                  refine Sx.ser_nil ?_
                  refine Sx.then_normal ?_
                  exact ⟨j + 1, (by omega), (hT.keep [26, 11, 55, 14, 13, 43, 12, 35, 32, 0, 1, 2, 3, 4] rfl), (H.keep [2, 3, 4] rfl rfl), by omega⟩
            · try simp only [decide_eq_true_eq, decide_eq_false_iff_not, Bool.not_eq_true', Bool.not_eq_false', Bool.not_eq_true, Bool.not_eq_false, Bool.and_eq_true, Bool.or_eq_false_iff, beq_iff_eq, bne_iff_ne, Int.not_lt, Int.not_le, ne_eq] at hc27
              refine Sx.st_take hT rfl rfl rfl rfl (Sx.x_move hT rfl rfl) ?_
              clear hT; intro a hT
              refine Sx.st_take hT rfl rfl rfl rfl (Sx.x_move hT rfl rfl) ?_
              clear hT; intro a hT
              refine Sx.st_take hT rfl rfl rfl rfl (Sx.x_index (k := j) hT rfl Try.underlying25 Try.ti9 (by first | exact (R1.at H.ext).sv | exact (R2.at H.ext).sv | exact (R3.at H.ext).sv | exact (R4.at H.ext).sv) rfl rfl (by first | rfl | omega) (by omega)) ?_
              clear hT; intro a hT
              refine Sx.st_run hT rfl rfl rfl rfl (Sx.x_load1 hT rfl Try.fl9 rfl (by first | exact ((H.blk 0 rfl).nth rfl) | exact ((H.blk 1 rfl).nth rfl) | exact ((R1.at H.ext).cell (j := 0) ic_len hz rfl) | exact ((R2.at H.ext).cell (j := 0) fc_len hpt rfl) | exact ((R3.at H.ext).cell (j := 0) bc_len htb rfl) | exact ((R4.at H.ext).cell (j := 0) kc_len hkey rfl))) ?_
              clear hT; intro a hT
              refine Sx.st_take hT rfl rfl rfl rfl (Sx.x_lenStr hT rfl rfl Try.underlying9 rfl) ?_
              clear hT; intro a hT
              refine Sx.st_take hT rfl rfl rfl rfl ((fun w => Sx.x_gt w hT rfl rfl rfl)) ?_
              clear hT; intro a hT
              refine Sx.st_take hT rfl rfl rfl rfl (Sx.x_pick_f hT rfl rfl rfl) ?_
              clear hT; intro a hT
              replace hT := hT.keep [253, 30, 29, 28, 27, 218, 26, 11, 55, 14, 13, 43, 12, 35, 32, 0, 1, 2, 3, 4] rfl
              refine Sx.ser_nil ?_
              refine Sx.then_normal (hK26 _ _ ?_)
              clear hK26
              -- cond 15
              refine Sx.wp_if hT rfl (fun hc32 => ?_) (fun hc32 => ?_)
              · try simp only [decide_eq_true_eq, decide_eq_false_iff_not, Bool.not_eq_true', Bool.not_eq_false', Bool.not_eq_true, Bool.not_eq_false, Bool.and_eq_true, Bool.or_eq_false_iff, beq_iff_eq, bne_iff_ne, Int.not_lt, Int.not_le, ne_eq] at hc32
                obtain rfl : ro9 = none := hro.symm.trans (routeL_no (keyF_no (by omega)))
                refine wp_seq_k fun K33 hK33 => ?_
                -- region 45 (law.go:147)
                refine Sx.wp_text [(0, .take)] rfl ?_
                refine Sx.st_take hT rfl rfl rfl rfl (Sx.x_assign hT rfl rfl) ?_
                clear hT; intro a hT
                replace hT := hT.keep [30, 253, 29, 28, 27, 218, 26, 11, 55, 14, 13, 43, 12, 35, 32, 0, 1, 2, 3, 4] rfl
                refine Sx.ser_nil ?_
                refine Sx.then_normal (hK33 _ _ ?_)
                clear hK33
                -- region 46 (law.go:148)
                refine Sx.wp_text [(0, .take), (1, .run)] rfl ?_
                refine Sx.st_take hT rfl rfl rfl rfl (Sx.x_bld hT rfl Try.bld37 rfl rfl) ?_
                clear hT; intro a hT
                refine Sx.st_act hT rfl rfl rfl (Sx.y_storeS hT rfl Try.ti37 rfl rfl rfl rfl rfl (H.blk 0 rfl) rfl) ?_
                rintro w17 ⟨hb, E, _⟩
                replace H := H.setB 0 rfl hb E rfl; clear hb E
                replace hT := hT.keep [30, 253, 29, 28, 27, 218, 26, 11, 55, 14, 13, 43, 12, 35, 32, 0, 1, 2, 3, 4] rfl
                refine Sx.ser_nil ?_
                refine Sx.then_normal (hK25 _ _ ?_)
                clear hK25
                refine wp_seq_k fun K34 hK34 => ?_
                -- region 47 (law.go:150)
                refine Sx.wp_text [(0, .take), (1, .take), (2, .take), (3, .take), (4, .run), (5, .run), (6, .run), (7, .take), (8, .take)] rfl ?_
                refine Sx.st_take hT rfl rfl rfl rfl (Sx.x_move hT rfl rfl) ?_
                clear hT; intro a hT
                refine Sx.st_take hT rfl rfl rfl rfl (Sx.x_move hT rfl rfl) ?_
                clear hT; intro a hT
                refine Sx.st_take hT rfl rfl rfl rfl (Sx.x_neb hT rfl Try.underlying4 rfl rfl) ?_
                clear hT; intro a hT
                refine Sx.st_take hT rfl rfl rfl rfl (Sx.x_move hT rfl rfl) ?_
                clear hT; intro a hT
                -- guard (47, 3)
                refine Sx.Sl.two hT 258 rfl (fun hc35 hT => ?_) (fun hc35 hT => ?_)
                · exfalso
                  try simp only [decide_eq_true_eq, decide_eq_false_iff_not, Bool.not_eq_true', Bool.not_eq_false', Bool.not_eq_true, Bool.not_eq_false, Bool.and_eq_true, Bool.or_eq_false_iff, beq_iff_eq, bne_iff_ne, Int.not_lt, Int.not_le, ne_eq] at hc35
                  first | (simp at hc35; done) | (simp at hc35; omega) | omega
                · try simp only [decide_eq_true_eq, decide_eq_false_iff_not, Bool.not_eq_true', Bool.not_eq_false', Bool.not_eq_true, Bool.not_eq_false, Bool.and_eq_true, Bool.or_eq_false_iff, beq_iff_eq, bne_iff_ne, Int.not_lt, Int.not_le, ne_eq] at hc35
                  refine Sx.st_run hT rfl rfl rfl rfl (Sx.y_loadS hT rfl Try.underlying37 Try.ti37 rfl ((H.blk 1 rfl).seg (k := 4) rfl) (by rfl)) ?_
                  clear hT; intro a hT
                  refine Sx.st_run hT rfl rfl rfl rfl (Sx.y_loadS hT rfl Try.underlying37 Try.ti37 rfl ((H.blk 0 rfl).seg (k := 4) rfl) (by rfl)) ?_
                  clear hT; intro a hT
                  refine Sx.st_call hT rfl rfl rfl rfl rfl Try.can19 rfl (Range_calls ((none : Option Rg).getD rz) rz _) ?_
                  rintro _ w18 ⟨rfl, E⟩
                  refine ⟨_, rfl, ?_⟩
                  clear hT; intro a hT
                  replace H := H.pure E; clear E
                  refine Sx.st_take hT rfl rfl rfl rfl (Sx.x_not hT rfl rfl) ?_
                  clear hT; intro a hT
                  refine Sx.st_take hT rfl rfl rfl rfl (Sx.x_pick_f hT rfl rfl rfl) ?_
                  clear hT; intro a hT
                  replace hT := hT.keep [263, 30, 253, 29, 28, 27, 218, 26, 11, 55, 14, 13, 43, 12, 35, 32, 0, 1, 2, 3, 4] rfl
                  refine Sx.ser_nil ?_
                  refine Sx.then_normal (hK34 _ _ ?_)
                  clear hK34
                  -- cond 16
                  refine Sx.wp_if hT rfl (fun hc36 => ?_) (fun hc36 => ?_)
                  · exfalso
                    try simp only [decide_eq_true_eq, decide_eq_false_iff_not, Bool.not_eq_true', Bool.not_eq_false', Bool.not_eq_true, Bool.not_eq_false, Bool.and_eq_true, Bool.or_eq_false_iff, beq_iff_eq, bne_iff_ne, Int.not_lt, Int.not_le, ne_eq] at hc36
                    simp at hc36
                  · try simp only [decide_eq_true_eq, decide_eq_false_iff_not, Bool.not_eq_true', Bool.not_eq_false', Bool.not_eq_true, Bool.not_eq_false, Bool.and_eq_true, Bool.or_eq_false_iff, beq_iff_eq, bne_iff_ne, Int.not_lt, Int.not_le, ne_eq] at hc36
                    refine wp_skip ?_
                    refine Sx.block_normal ?_
                    refine Sx.then_normal (hK22 _ _ ?_)
                    clear hK22
                    -- region 41 (law.go:143)
                    refine Sx.wp_text [(0, .take), (1, .take), (2, .take)] rfl ?_
                    refine Sx.st_take hT rfl rfl rfl rfl (Sx.x_move hT rfl rfl) ?_
                    clear hT; intro a hT
                    refine Sx.st_take hT rfl rfl rfl rfl ((fun w => Sx.x_add w hT rfl rfl rfl (Sx.wrap64 (by omega)))) ?_
                    clear hT; intro a hT
                    refine Sx.st_take hT rfl rfl rfl rfl (Sx.x_assign hT rfl rfl) ?_
                    clear hT; intro a hT
                    replace hT := hT.keep [26, 263, 30, 253, 29, 28, 27, 218, 11, 55, 14, 13, 43, 12, 35, 32, 0, 1, 2, 3, 4] rfl
                    refine Sx.ser_nil ?_
                    refine Sx.then_normal ?_
                    exact ⟨j + 1, (by omega), (hT.keep [26, 11, 55, 14, 13, 43, 12, 35, 32, 0, 1, 2, 3, 4] rfl), (H.keep [2, 3, 4] rfl rfl), by omega⟩
              · try simp only [decide_eq_true_eq, decide_eq_false_iff_not, Bool.not_eq_true', Bool.not_eq_false', Bool.not_eq_true, Bool.not_eq_false, Bool.and_eq_true, Bool.or_eq_false_iff, beq_iff_eq, bne_iff_ne, Int.not_lt, Int.not_le, ne_eq] at hc32
                have hrf : findF L (ofF key) = ro9 := (routeL_yes hC (keyF_yes (by omega) (by omega))).symm.trans hro
                rw [hrf] at hT H
                refine wp_skip ?_
                refine Sx.then_normal (hK25 _ _ ?_)
                clear hK25
                refine wp_seq_k fun K37 hK37 => ?_
                -- region 47 (law.go:150)
                refine Sx.wp_text [(0, .take), (1, .take), (2, .take), (3, .take), (4, .run), (5, .run), (6, .run), (7, .take), (8, .take)] rfl ?_
                refine Sx.st_take hT rfl rfl rfl rfl (Sx.x_move hT rfl rfl) ?_
                clear hT; intro a hT
                refine Sx.st_take hT rfl rfl rfl rfl (Sx.x_move hT rfl rfl) ?_
                clear hT; intro a hT
                refine Sx.st_take hT rfl rfl rfl rfl (Sx.x_neb hT rfl Try.underlying4 rfl rfl) ?_
                clear hT; intro a hT
                refine Sx.st_take hT rfl rfl rfl rfl (Sx.x_move hT rfl rfl) ?_
                clear hT; intro a hT
                -- guard (47, 3)
                refine Sx.Sl.two hT 258 rfl (fun hc38 hT => ?_) (fun hc38 hT => ?_)
                · exfalso
                  try simp only [decide_eq_true_eq, decide_eq_false_iff_not, Bool.not_eq_true', Bool.not_eq_false', Bool.not_eq_true, Bool.not_eq_false, Bool.and_eq_true, Bool.or_eq_false_iff, beq_iff_eq, bne_iff_ne, Int.not_lt, Int.not_le, ne_eq] at hc38
                  first | (simp at hc38; done) | (simp at hc38; omega) | omega
                · try simp only [decide_eq_true_eq, decide_eq_false_iff_not, Bool.not_eq_true', Bool.not_eq_false', Bool.not_eq_true, Bool.not_eq_false, Bool.and_eq_true, Bool.or_eq_false_iff, beq_iff_eq, bne_iff_ne, Int.not_lt, Int.not_le, ne_eq] at hc38
                  refine Sx.st_run hT rfl rfl rfl rfl (Sx.y_loadS hT rfl Try.underlying37 Try.ti37 rfl ((H.blk 1 rfl).seg (k := 4) rfl) (by rfl)) ?_
                  clear hT; intro a hT
                  refine Sx.st_run hT rfl rfl rfl rfl (Sx.y_loadS hT rfl Try.underlying37 Try.ti37 rfl ((H.blk 0 rfl).seg (k := 4) rfl) (by rfl)) ?_
                  clear hT; intro a hT
                  refine Sx.st_call hT rfl rfl rfl rfl rfl Try.can19 rfl (Range_calls (ro9.getD rz) (ro9.getD rz) _) ?_
                  rintro _ w19 ⟨rfl, E⟩
                  refine ⟨_, rfl, ?_⟩
                  clear hT; intro a hT
                  replace H := H.pure E; clear E
                  refine Sx.st_take hT rfl rfl rfl rfl (Sx.x_not hT rfl rfl) ?_
                  clear hT; intro a hT
                  refine Sx.st_take hT rfl rfl rfl rfl (Sx.x_pick_f hT rfl rfl rfl) ?_
                  clear hT; intro a hT
                  replace hT := hT.keep [263, 253, 30, 29, 28, 27, 218, 26, 11, 55, 14, 13, 43, 12, 35, 32, 0, 1, 2, 3, 4] rfl
                  refine Sx.ser_nil ?_
                  refine Sx.then_normal (hK37 _ _ ?_)
                  clear hK37
                  -- cond 16
                  refine Sx.wp_if hT rfl (fun hc39 => ?_) (fun hc39 => ?_)
                  · exfalso
                    try simp only [decide_eq_true_eq, decide_eq_false_iff_not, Bool.not_eq_true', Bool.not_eq_false', Bool.not_eq_true, Bool.not_eq_false, Bool.and_eq_true, Bool.or_eq_false_iff, beq_iff_eq, bne_iff_ne, Int.not_lt, Int.not_le, ne_eq] at hc39
                    simp at hc39
                  · try simp only [decide_eq_true_eq, decide_eq_false_iff_not, Bool.not_eq_true', Bool.not_eq_false', Bool.not_eq_true, Bool.not_eq_false, Bool.and_eq_true, Bool.or_eq_false_iff, beq_iff_eq, bne_iff_ne, Int.not_lt, Int.not_le, ne_eq] at hc39
                    refine wp_skip ?_
                    refine Sx.block_normal ?_
                    refine Sx.then_normal (hK22 _ _ ?_)
                    clear hK22
                    -- region 41 (law.go:143)
                    refine Sx.wp_text [(0, .take), (1, .take), (2, .take)] rfl ?_
                    refine Sx.st_take hT rfl rfl rfl rfl (Sx.x_move hT rfl rfl) ?_
                    clear hT; intro a hT
                    refine Sx.st_take hT rfl rfl rfl rfl ((fun w => Sx.x_add w hT rfl rfl rfl (Sx.wrap64 (by omega)))) ?_
                    clear hT; intro a hT
                    refine Sx.st_take hT rfl rfl rfl rfl (Sx.x_assign hT rfl rfl) ?_
                    clear hT; intro a hT
                    replace hT := hT.keep [26, 263, 253, 30, 29, 28, 27, 218, 11, 55, 14, 13, 43, 12, 35, 32, 0, 1, 2, 3, 4] rfl
                    refine Sx.ser_nil ?_
                    refine Sx.then_normal ?_
                    exact ⟨j + 1, (by omega), (hT.keep [26, 11, 55, 14, 13, 43, 12, 35, 32, 0, 1, 2, 3, 4] rfl), (H.keep [2, 3, 4] rfl rfl), by omega⟩
          · try simp only [decide_eq_true_eq, decide_eq_false_iff_not, Bool.not_eq_true', Bool.not_eq_false', Bool.not_eq_true, Bool.not_eq_false, Bool.and_eq_true, Bool.or_eq_false_iff, beq_iff_eq, bne_iff_ne, Int.not_lt, Int.not_le, ne_eq] at hc21
            refine wp_exit ?_
            refine Sx.then_exit ?_
            refine Sx.then_exit ?_
            refine Sx.block_exit ?_
            refine Sx.then_normal (hK17 _ _ ?_)
            clear hK17
            refine wp_seq_k fun K40 hK40 => ?_
            -- region 49 (law.go:154)
            refine Sx.wp_text [(0, .run), (1, .take)] rfl ?_
            refine Sx.st_call hT rfl rfl rfl rfl rfl Try.can7 rfl (first_calls _) ?_
            rintro _ w20 ⟨rfl, E⟩
            refine ⟨_, rfl, ?_⟩
            clear hT; intro a hT
            replace H := H.pure E; clear E
            refine Sx.st_take hT rfl rfl rfl rfl (Sx.x_assign hT rfl rfl) ?_
            clear hT; intro a hT
            replace hT := hT.keep [10, 218, 26, 11, 55, 14, 13, 43, 12, 35, 32, 0, 1, 2, 3, 4] rfl
            refine Sx.ser_nil ?_
            refine Sx.then_normal (hK40 _ _ ?_)
            clear hK40
            refine wp_ret ?_
            refine Sx.done1 (fn := Try.f3) hT rfl (.tmp (hT.get 10 _ rfl)) ?_
            exact ⟨ret_b (by simp), H.ext⟩
        · clear hK16; intro hJK16
          refine wp_seq_k fun K41 hK41 => ?_
          -- region 11 (law.go:107)
          refine Sx.wp_text [(0, .take)] rfl ?_
          refine Sx.st_take hT rfl rfl rfl rfl (Sx.x_assign hT rfl rfl) ?_
          clear hT; intro a hT
          replace hT := hT.keep [15, 55, 14, 13, 43, 12, 11, 35, 32, 10, 0, 1, 2, 3, 4] rfl
          refine Sx.ser_nil ?_
          refine Sx.then_normal (hK41 _ _ ?_)
          clear hK41
          refine wp_block ?_
          -- loop 0
          refine Sx.wp_loopH (G := Nat × List Rg × Option Addr × Nat) (fun ⟨i, L, ad9, c9⟩ => [(15, .int .i64 (i : Int)), (11, .slice ad9 L.length c9)]) (fun ⟨i, L, ad9, c9⟩ => [cR 37 4 ad9 L.length c9 (L.flatMap Rg.cells), cM Try.prog 3 bd (tb L)]) (fun ⟨i, L, ad9, c9⟩ => i ≤ 11 ∧ Cov L) (fun ⟨i, L, ad9, c9⟩ => 11 - i) (0, evenF m m, ad0, c0) (hT.keep [15, 11, 55, 14, 13, 43, 12, 35, 32, 0, 1, 2, 3, 4] rfl) (H.keep [2, 1, 0] rfl rfl) (⟨Nat.zero_le _, cov_even h1 h2⟩) ?_
          clear hT H
          rintro ⟨i, L, ad9, c9⟩ a w21 hJ hT H
          replace hT := hT.keep [15, 11, 55, 14, 13, 43, 12, 35, 32, 0, 1, 2, 3, 4] rfl
          replace H := H.keep [0, 1, 2] rfl rfl
          obtain ⟨hi, hC⟩ := hJ
          have hL1 := hC.one
          have hL2 := hC.few
          refine wp_seq_k fun K42 hK42 => ?_
          refine wp_seq_k fun K43 hK43 => ?_
          -- region 12 (law.go:107)
          refine Sx.wp_text [(0, .take), (1, .take), (2, .take), (3, .take), (4, .take), (5, .take), (6, .take), (7, .take), (8, .take), (9, .take), (10, .take), (11, .take), (12, .take), (13, .take), (14, .take), (15, .take), (16, .take), (17, .take), (18, .take)] rfl ?_
          refine Sx.st_take hT rfl rfl rfl rfl (Sx.x_move hT rfl rfl) ?_
          clear hT; intro a hT
          refine Sx.st_take hT rfl rfl rfl rfl (Sx.x_move hT rfl rfl) ?_
          clear hT; intro a hT
          refine Sx.st_take hT rfl rfl rfl rfl (Sx.x_len_slice hT rfl rfl Try.underlying22 rfl) ?_
          clear hT; intro a hT
          refine Sx.st_take hT rfl rfl rfl rfl ((fun w => Sx.x_lt w hT rfl rfl rfl)) ?_
          clear hT; intro a hT
          refine Sx.st_take hT rfl rfl rfl rfl (Sx.x_move hT rfl rfl) ?_
          clear hT; intro a hT
          -- guard (12, 4)
          refine Sx.Sl.two hT 60 rfl (fun hc44 hT => ?_) (fun hc44 hT => ?_)
          · try simp only [decide_eq_true_eq, decide_eq_false_iff_not, Bool.not_eq_true', Bool.not_eq_false', Bool.not_eq_true, Bool.not_eq_false, Bool.and_eq_true, Bool.or_eq_false_iff, beq_iff_eq, bne_iff_ne, Int.not_lt, Int.not_le, ne_eq] at hc44
            refine Sx.st_take hT rfl rfl rfl rfl (Sx.x_move hT rfl rfl) ?_
            clear hT; intro a hT
            refine Sx.st_take hT rfl rfl rfl rfl (Sx.x_move hT rfl rfl) ?_
            clear hT; intro a hT
            refine Sx.st_take hT rfl rfl rfl rfl (Sx.x_len_slice hT rfl rfl Try.underlying23 rfl) ?_
            clear hT; intro a hT
            refine Sx.st_take hT rfl rfl rfl rfl ((fun w => Sx.x_lt w hT rfl rfl rfl)) ?_
            clear hT; intro a hT
            refine Sx.st_take hT rfl rfl rfl rfl (Sx.x_pick_t hT rfl rfl rfl) ?_
            clear hT; intro a hT
            refine Sx.st_take hT rfl rfl rfl rfl (Sx.x_move hT rfl rfl) ?_
            clear hT; intro a hT
            -- guard (12, 10)
            refine Sx.Sl.two hT 66 rfl (fun hc45 hT => ?_) (fun hc45 hT => ?_)
            · try simp only [decide_eq_true_eq, decide_eq_false_iff_not, Bool.not_eq_true', Bool.not_eq_false', Bool.not_eq_true, Bool.not_eq_false, Bool.and_eq_true, Bool.or_eq_false_iff, beq_iff_eq, bne_iff_ne, Int.not_lt, Int.not_le, ne_eq] at hc45
              refine Sx.st_take hT rfl rfl rfl rfl (Sx.x_move hT rfl rfl) ?_
              clear hT; intro a hT
              refine Sx.st_take hT rfl rfl rfl rfl ((fun w => Sx.x_lt w hT rfl rfl rfl)) ?_
              clear hT; intro a hT
              refine Sx.st_take hT rfl rfl rfl rfl (Sx.x_pick_t hT rfl rfl rfl) ?_
              clear hT; intro a hT
              refine Sx.st_take hT rfl rfl rfl rfl (Sx.x_move hT rfl rfl) ?_
              clear hT; intro a hT
              -- guard (12, 14)
              refine Sx.Sl.two hT 70 rfl (fun hc46 hT => ?_) (fun hc46 hT => ?_)
              · try simp only [decide_eq_true_eq, decide_eq_false_iff_not, Bool.not_eq_true', Bool.not_eq_false', Bool.not_eq_true, Bool.not_eq_false, Bool.and_eq_true, Bool.or_eq_false_iff, beq_iff_eq, bne_iff_ne, Int.not_lt, Int.not_le, ne_eq] at hc46
                refine Sx.st_take hT rfl rfl rfl rfl (Sx.x_move hT rfl rfl) ?_
                clear hT; intro a hT
                refine Sx.st_take hT rfl rfl rfl rfl (Sx.x_len_slice hT rfl rfl Try.underlying28 rfl) ?_
                clear hT; intro a hT
                refine Sx.st_take hT rfl rfl rfl rfl ((fun w => Sx.x_lt w hT rfl rfl rfl)) ?_
                clear hT; intro a hT
                refine Sx.st_take hT rfl rfl rfl rfl (Sx.x_pick_t hT rfl rfl rfl) ?_
                clear hT; intro a hT
                replace hT := hT.keep [74, 15, 11, 55, 14, 13, 43, 12, 35, 32, 0, 1, 2, 3, 4] rfl
                refine Sx.ser_nil ?_
                refine Sx.then_normal (hK43 _ _ ?_)
                clear hK43
                -- cond 4
                refine Sx.wp_if hT rfl (fun hc47 => ?_) (fun hc47 => ?_)
                · try simp only [decide_eq_true_eq, decide_eq_false_iff_not, Bool.not_eq_true', Bool.not_eq_false', Bool.not_eq_true, Bool.not_eq_false, Bool.and_eq_true, Bool.or_eq_false_iff, beq_iff_eq, bne_iff_ne, Int.not_lt, Int.not_le, ne_eq] at hc47
                  obtain ⟨z, hz⟩ : ∃ o, wh[i]? = some o := ⟨_, List.getElem?_eq_getElem (by omega)⟩
                  obtain ⟨pt, hpt⟩ : ∃ o, ps[i]? = some o := ⟨_, List.getElem?_eq_getElem (by omega)⟩
                  have hptb := hpb pt (List.mem_of_getElem? hpt)
                  refine wp_skip ?_
                  refine Sx.then_normal (hK42 _ _ ?_)
                  clear hK42
                  refine wp_seq_k fun K48 hK48 => ?_
                  refine wp_block ?_
                  refine wp_seq_k fun K49 hK49 => ?_
                  -- region 14 (law.go:108)
                  refine Sx.wp_text [(0, .take), (1, .take), (2, .take), (3, .run), (4, .take), (5, .take), (6, .take), (7, .take)] rfl ?_
                  refine Sx.st_take hT rfl rfl rfl rfl (Sx.x_move hT rfl rfl) ?_
                  clear hT; intro a hT
                  refine Sx.st_take hT rfl rfl rfl rfl (Sx.x_move hT rfl rfl) ?_
                  clear hT; intro a hT
                  refine Sx.st_take hT rfl rfl rfl rfl (Sx.x_index (k := i) hT rfl Try.underlying22 Try.ti3 (by first | exact (R1.at H.ext).sv | exact (R2.at H.ext).sv | exact (R3.at H.ext).sv | exact (R4.at H.ext).sv) rfl rfl (by first | rfl | omega) (by omega)) ?_
                  clear hT; intro a hT
                  refine Sx.st_run hT rfl rfl rfl rfl (Sx.x_load1 hT rfl Try.fl3 rfl (by first | exact ((R1.at H.ext).cell (j := 0) ic_len hz rfl) | exact ((R2.at H.ext).cell (j := 0) fc_len hpt rfl) | exact ((R3.at H.ext).cell (j := 0) bc_len htb rfl) | exact ((R4.at H.ext).cell (j := 0) kc_len hkey rfl))) ?_
                  clear hT; intro a hT
                  refine Sx.st_take hT rfl rfl rfl rfl (Sx.x_move hT rfl rfl) ?_
                  clear hT; intro a hT
                  refine Sx.st_take hT rfl rfl rfl rfl (Sx.x_len_slice hT rfl rfl Try.underlying28 rfl) ?_
                  clear hT; intro a hT
                  refine Sx.st_take hT rfl rfl rfl rfl ((fun w => Sx.x_rem w hT rfl rfl rfl (by omega))) ?_
                  clear hT; intro a hT
                  have htm := tmod_small z (n := L.length) (by omega)
                  obtain ⟨r9, hr9⟩ : ∃ r, z.tmod (L.length : Int) = r := ⟨_, rfl⟩
                  rw [hr9] at hT htm
                  refine Sx.st_take hT rfl rfl rfl rfl (Sx.x_assign hT rfl rfl) ?_
                  clear hT; intro a hT
                  replace hT := hT.keep [16, 74, 15, 11, 55, 14, 13, 43, 12, 35, 32, 0, 1, 2, 3, 4] rfl
                  refine Sx.ser_nil ?_
                  refine Sx.then_normal (hK49 _ _ ?_)
                  clear hK49
                  refine wp_seq_k fun K50 hK50 => ?_
                  refine Sx.wp_join (G := Nat) (fun k => [(16, .int .i64 (k : Int))]) (fun k => []) (fun k => k < L.length) (hT.keep [74, 15, 11, 55, 14, 13, 43, 12, 35, 32, 0, 1, 2, 3, 4] rfl) (H.keep [0, 1, 2] rfl rfl) hK50 ?_ ?_
                  · clear hT H hK50
                    rintro k a w22 hJ hT H
                    replace hT := hT.keep [16, 74, 15, 11, 55, 14, 13, 43, 12, 35, 32, 0, 1, 2, 3, 4] rfl
                    replace H := H.keep [0, 1, 2] rfl rfl
                    have hkL := hJ
                    obtain ⟨r, hr⟩ : ∃ o, L[k]? = some o := ⟨_, List.getElem?_eq_getElem (by omega)⟩
                    have hrw := hC.fine.wf r (List.mem_of_getElem? hr)
                    rcases sp_cases r pt ((L.length : Int) + 1) with ⟨hsp, qa, qb, hqa, hqb⟩ | hsp
                    · skip
                      refine wp_seq_k fun K51 hK51 => ?_
                      refine Sx.wp_join (G := Nat × Nat) (fun ⟨ba, bb⟩ => [(17, .pointer (some ⟨ba, 0, none⟩)), (18, .pointer (some ⟨bb, 0, none⟩)), (19, .int .i64 0)]) (fun ⟨ba, bb⟩ => [cB ba [.int .i64 qa.id, .int .i64 qa.epoch, .float .f64 qa.lo, .float .f64 qa.hi] 37, cB bb [.int .i64 qb.id, .int .i64 qb.epoch, .float .f64 qb.lo, .float .f64 qb.hi] 37]) (fun ⟨ba, bb⟩ => True) (hT.keep [16, 74, 15, 11, 55, 14, 13, 43, 12, 35, 32, 0, 1, 2, 3, 4] rfl) (H.keep [0, 1, 2] rfl rfl) hK51 ?_ ?_
                      · clear hT H hK51
                        rintro ⟨ba, bb⟩ a w23 hJ hT H
                        replace hT := hT.keep [17, 18, 19, 16, 74, 15, 11, 55, 14, 13, 43, 12, 35, 32, 0, 1, 2, 3, 4] rfl
                        replace H := H.keep [0, 1, 2, 3, 4] rfl rfl
                        clear hJ
                        refine wp_seq_k fun K52 hK52 => ?_
                        refine wp_seq_k fun K53 hK53 => ?_
                        -- region 18 (law.go:113)
                        refine Sx.wp_text [(0, .take), (1, .take)] rfl ?_
                        refine Sx.st_take hT rfl rfl rfl rfl (Sx.x_move hT rfl rfl) ?_
                        clear hT; intro a hT
                        refine Sx.st_take hT rfl rfl rfl rfl ((fun w => Sx.x_ne w hT rfl rfl rfl)) ?_
                        clear hT; intro a hT
                        replace hT := hT.keep [105, 17, 18, 19, 16, 74, 15, 11, 55, 14, 13, 43, 12, 35, 32, 0, 1, 2, 3, 4] rfl
                        refine Sx.ser_nil ?_
                        refine Sx.then_normal (hK53 _ _ ?_)
                        clear hK53
                        -- cond 6
                        refine Sx.wp_if hT rfl (fun hc54 => ?_) (fun hc54 => ?_)
                        · exfalso
                          try simp only [decide_eq_true_eq, decide_eq_false_iff_not, Bool.not_eq_true', Bool.not_eq_false', Bool.not_eq_true, Bool.not_eq_false, Bool.and_eq_true, Bool.or_eq_false_iff, beq_iff_eq, bne_iff_ne, Int.not_lt, Int.not_le, ne_eq] at hc54
                          first | (simp at hc54; done) | (simp at hc54; omega) | omega
                        · try simp only [decide_eq_true_eq, decide_eq_false_iff_not, Bool.not_eq_true', Bool.not_eq_false', Bool.not_eq_true, Bool.not_eq_false, Bool.and_eq_true, Bool.or_eq_false_iff, beq_iff_eq, bne_iff_ne, Int.not_lt, Int.not_le, ne_eq] at hc54
                          refine wp_skip ?_
                          refine Sx.then_normal (hK52 _ _ ?_)
                          clear hK52
                          refine wp_seq_k fun K55 hK55 => ?_
                          -- region 19 (law.go:116)
                          obtain ⟨f1, f2, f3, f4⟩ := ok_facts hrw hptb hsp
                          obtain ⟨⟨ma, wa⟩, mb, wb⟩ := halves_fine (i := (L.length : Int) + 1) hrw (hC.fine.may r (List.mem_of_getElem? hr)) f1 f2 f3 (by omega) (by omega)
                          rw [← hqa] at ma wa
                          rw [← hqb] at mb wb
                          have hia : qa.id = r.id := by rw [hqa]; rfl
                          have hib : qb.id = ((L.length + 1 : Nat) : Int) := by rw [hqb]; rfl
                          have hep : r.epoch < qa.epoch := by rw [hqa]; show r.epoch < r.epoch + 1; omega
                          have hnab : qa.id ≠ qb.id := by rw [hia, hib]; intro h9; exact f4 (by omega)
                          obtain ⟨M, hM⟩ : ∃ M, M = L.set k qa ++ [qb] := ⟨_, rfl⟩
                          have hC2 : Cov M := by rw [hM, hqa, hqb]; exact hC.split hr f1 f2 f3 (by omega)
                          have hML : M.length = L.length + 1 := by rw [hM]; simp
                          refine Sx.wp_text [(0, .run), (1, .run), (2, .run), (3, .take)] rfl ?_
                          refine Sx.st_run hT rfl rfl rfl rfl (Sx.y_loadS hT rfl Try.underlying37 Try.ti37 rfl ((H.blk 0 rfl).seg (k := 4) rfl) (by rfl)) ?_
                          clear hT; intro a hT
                          refine Sx.st_run hT rfl rfl rfl rfl (Sx.y_loadS hT rfl Try.underlying37 Try.ti37 rfl ((H.blk 1 rfl).seg (k := 4) rfl) (by rfl)) ?_
                          clear hT; intro a hT
                          refine Sx.st_eff hT rfl rfl rfl rfl (Sx.x_bldS hT rfl Try.underlying28 Try.ti37 rfl rfl rfl rfl rfl rfl rfl _) ?_
                          clear hT; rintro _ w24 ⟨b3, rfl, N⟩ a hT
                          replace H := H.new N; clear N
                          refine Sx.st_take hT rfl rfl rfl rfl (Sx.x_assign hT rfl rfl) ?_
                          clear hT; intro a hT
                          replace hT := hT.keep [20, 105, 17, 18, 19, 16, 74, 15, 11, 55, 14, 13, 43, 12, 35, 32, 0, 1, 2, 3, 4] rfl
                          refine Sx.ser_nil ?_
                          refine Sx.then_normal (hK55 _ _ ?_)
                          clear hK55
                          refine wp_seq_k fun K56 hK56 => ?_
                          refine Sx.wp_join (G := Bool × Nat) (fun ⟨par, bh⟩ => [(20, .slice (some ⟨bh, 0, none⟩) 2 2)]) (fun ⟨par, bh⟩ => [cB bh ((halv par qa qb).flatMap Rg.cells) 37]) (fun ⟨par, bh⟩ => True) (hT.keep [105, 17, 18, 19, 16, 74, 15, 11, 55, 14, 13, 43, 12, 35, 32, 0, 1, 2, 3, 4] rfl) (H.keep [1, 2, 3, 4, 5] rfl rfl) hK56 ?_ ?_
                          · clear hT H hK56
                            rintro ⟨par, bh⟩ a w25 hJ hT H
                            replace hT := hT.keep [20, 105, 17, 18, 19, 16, 74, 15, 11, 55, 14, 13, 43, 12, 35, 32, 0, 1, 2, 3, 4] rfl
                            replace H := H.keep [0, 1, 2, 3, 4, 5] rfl rfl
                            clear hJ
                            refine wp_seq_k fun K57 hK57 => ?_
                            refine wp_seq_k fun K58 hK58 => ?_
                            -- region 22 (law.go:120)
                            obtain ⟨e1, e2, e3, e4, e5, e6⟩ := learn_par par hC hr hia hib ma mb hep hM
                            refine Sx.wp_text [(0, .take), (1, .take), (2, .take), (3, .run), (4, .take)] rfl ?_
                            refine Sx.st_take hT rfl rfl rfl rfl (Sx.x_move hT rfl rfl) ?_
                            clear hT; intro a hT
                            refine Sx.st_take hT rfl rfl rfl rfl (Sx.x_move hT rfl rfl) ?_
                            clear hT; intro a hT
                            refine Sx.st_take hT rfl rfl rfl rfl (Sx.x_slice_h (q := 1) hT rfl Try.underlying28 Try.ti37 rfl rfl rfl (by decide)) ?_
                            clear hT; intro a hT
                            refine Sx.st_call hT rfl rfl rfl rfl rfl Try.can12 rfl (Learn_calls [hdv par qa qb] (H.pre [5, 4] rfl rfl) ((H.lend 0 rfl [5, 4] rfl rfl).mono fun u h => blk_first h) (by show 1 ≤ 1000000; decide) (by omega) (by intro q hq; simp only [List.mem_singleton] at hq; subst hq; cases par; exact wb; exact wa)) ?_
                            rintro _ w26 ⟨rfl, K⟩
                            refine ⟨_, rfl, ?_⟩
                            clear hT; intro a hT
                            replace H := H.back [5, 4] [0, 1, 2, 3] rfl rfl rfl K rfl; clear K
                            rw [e1] at H
                            rw [e2] at hT
                            refine Sx.st_take hT rfl rfl rfl rfl ((fun w => Sx.x_ne w hT rfl rfl rfl)) ?_
                            clear hT; intro a hT
                            replace hT := hT.keep [126, 20, 105, 17, 18, 19, 16, 74, 15, 11, 55, 14, 13, 43, 12, 35, 32, 0, 1, 2, 3, 4] rfl
                            refine Sx.ser_nil ?_
                            refine Sx.then_normal (hK58 _ _ ?_)
                            clear hK58
                            -- cond 8
                            refine Sx.wp_if hT rfl (fun hc59 => ?_) (fun hc59 => ?_)
                            · exfalso
                              try simp only [decide_eq_true_eq, decide_eq_false_iff_not, Bool.not_eq_true', Bool.not_eq_false', Bool.not_eq_true, Bool.not_eq_false, Bool.and_eq_true, Bool.or_eq_false_iff, beq_iff_eq, bne_iff_ne, Int.not_lt, Int.not_le, ne_eq] at hc59
                              first | (simp at hc59; done) | (simp at hc59; omega) | omega
                            · try simp only [decide_eq_true_eq, decide_eq_false_iff_not, Bool.not_eq_true', Bool.not_eq_false', Bool.not_eq_true, Bool.not_eq_false, Bool.and_eq_true, Bool.or_eq_false_iff, beq_iff_eq, bne_iff_ne, Int.not_lt, Int.not_le, ne_eq] at hc59
                              refine wp_skip ?_
                              refine Sx.then_normal (hK57 _ _ ?_)
                              clear hK57
                              refine wp_seq_k fun K60 hK60 => ?_
                              -- region 24 (law.go:123)
                              refine Sx.wp_draws (fun u => Sx.Ext (Sx.No) u) [(0, .take), (1, .take), (2, .take), (3, .held), (4, .take), (5, .held), (6, .take), (7, .take)] (by kernel_rfl) (by kernel_rfl) (fun u E _ => ?_)
                              replace H := H.pure E; clear E
                              have hH : Sx.Ext (Sx.No) u u := Sx.Ext.refl _ _
                              have Hu := H
                              refine Sx.st_take hT rfl rfl rfl rfl (Sx.x_move hT rfl rfl) ?_
                              clear hT; intro a hT
                              refine Sx.st_take hT rfl rfl rfl rfl (Sx.x_index (k := 0) hT rfl Try.underlying28 Try.ti37 ((H.blk 2 rfl).svn rfl) rfl rfl (by first | rfl | omega) (by omega)) ?_
                              clear hT; intro a hT
                              refine Sx.st_take hT rfl rfl rfl rfl (Sx.x_fieldAddr hT rfl Try.fa37_0 rfl) ?_
                              clear hT; intro a hT
                              refine Sx.st_held hT rfl rfl rfl rfl hH (fun w' h' => Sx.x_load1 hT rfl Try.fl3 rfl ((Hu.heldB 2 rfl h' Sx.off_No).nth rfl)) ?_
                              clear hT; intro a hT
                              refine Sx.st_take hT rfl rfl rfl rfl (Sx.x_fieldAddr hT rfl Try.fa37_0 rfl) ?_
                              clear hT; intro a hT
                              refine Sx.st_held hT rfl rfl rfl rfl hH (fun w' h' => Sx.x_load1 hT rfl Try.fl3 rfl ((Hu.heldB 3 rfl h' Sx.off_No).nth rfl)) ?_
                              clear hT; intro a hT
                              refine Sx.st_take hT rfl rfl rfl rfl ((fun w => Sx.x_eq w hT rfl rfl rfl)) ?_
                              clear hT; intro a hT
                              rw [hd_id par hnab] at hT
                              refine Sx.st_take hT rfl rfl rfl rfl (Sx.x_assign hT rfl rfl) ?_
                              clear hT; intro a hT
                              replace hT := hT.keep [21, 126, 20, 105, 17, 18, 19, 16, 74, 15, 11, 55, 14, 13, 43, 12, 35, 32, 0, 1, 2, 3, 4] rfl
                              clear Hu hH
                              refine Sx.ser_calm ?_
                              refine Sx.then_normal (hK60 _ _ ?_)
                              clear hK60
                              refine wp_seq_k fun K61 hK61 => ?_
                              refine wp_seq_k fun K62 hK62 => ?_
                              -- region 25 (law.go:124)
                              refine Sx.wp_text [(0, .take)] rfl ?_
                              refine Sx.st_take hT rfl rfl rfl rfl (Sx.x_assign hT rfl rfl) ?_
                              clear hT; intro a hT
                              replace hT := hT.keep [22, 21, 126, 20, 105, 17, 18, 19, 16, 74, 15, 11, 55, 14, 13, 43, 12, 35, 32, 0, 1, 2, 3, 4] rfl
                              refine Sx.ser_nil ?_
                              refine Sx.then_normal (hK62 _ _ ?_)
                              clear hK62
                              refine wp_block ?_
                              -- loop 1
                              refine Sx.wp_loopH (G := Nat) (fun j => [(22, .int .i64 (j : Int))]) (fun j => []) (fun j => j ≤ ks.length) (fun j => ks.length - j) 0 (hT.keep [22, 21, 126, 20, 105, 17, 18, 19, 16, 74, 15, 11, 55, 14, 13, 43, 12, 35, 32, 0, 1, 2, 3, 4] rfl) (H.keep [0, 1, 2, 3, 4, 5] rfl rfl) (Nat.zero_le _) ?_
                              clear hT H
                              rintro j a w27 hJ hT H
                              replace hT := hT.keep [22, 21, 126, 20, 105, 17, 18, 19, 16, 74, 15, 11, 55, 14, 13, 43, 12, 35, 32, 0, 1, 2, 3, 4] rfl
                              replace H := H.keep [0, 1, 2, 3, 4, 5] rfl rfl
                              have hj : j ≤ ks.length := hJ
                              refine wp_seq_k fun K63 hK63 => ?_
                              refine wp_seq_k fun K64 hK64 => ?_
                              -- region 26 (law.go:124)
                              refine Sx.wp_text [(0, .take), (1, .take), (2, .take), (3, .take)] rfl ?_
                              refine Sx.st_take hT rfl rfl rfl rfl (Sx.x_move hT rfl rfl) ?_
                              clear hT; intro a hT
                              refine Sx.st_take hT rfl rfl rfl rfl (Sx.x_move hT rfl rfl) ?_
                              clear hT; intro a hT
                              refine Sx.st_take hT rfl rfl rfl rfl (Sx.x_len_slice hT rfl rfl Try.underlying25 rfl) ?_
                              clear hT; intro a hT
                              refine Sx.st_take hT rfl rfl rfl rfl ((fun w => Sx.x_lt w hT rfl rfl rfl)) ?_
                              clear hT; intro a hT
                              replace hT := hT.keep [137, 22, 21, 126, 20, 105, 17, 18, 19, 16, 74, 15, 11, 55, 14, 13, 43, 12, 35, 32, 0, 1, 2, 3, 4] rfl
                              refine Sx.ser_nil ?_
                              refine Sx.then_normal (hK64 _ _ ?_)
                              clear hK64
                              -- cond 9
                              refine Sx.wp_if hT rfl (fun hc65 => ?_) (fun hc65 => ?_)
                              · try simp only [decide_eq_true_eq, decide_eq_false_iff_not, Bool.not_eq_true', Bool.not_eq_false', Bool.not_eq_true, Bool.not_eq_false, Bool.and_eq_true, Bool.or_eq_false_iff, beq_iff_eq, bne_iff_ne, Int.not_lt, Int.not_le, ne_eq] at hc65
                                obtain ⟨key, hkey⟩ : ∃ o, ks[j]? = some o := ⟨_, List.getElem?_eq_getElem (by omega)⟩
                                have hkl := hkb key (List.mem_of_getElem? hkey)
                                refine wp_skip ?_
                                refine Sx.then_normal (hK63 _ _ ?_)
                                clear hK63
                                refine wp_seq_k fun K66 hK66 => ?_
                                refine wp_block ?_
                                refine wp_seq_k fun K67 hK67 => ?_
                                -- region 28 (law.go:125)
                                refine Sx.wp_draws (fun u => Sx.Ext (Sx.No) u) [(0, .held), (1, .take), (2, .take), (3, .take), (4, .held), (5, .keep), (6, .run), (7, .take)] (by kernel_rfl) (by kernel_rfl) (fun u E _ => ?_)
                                replace H := H.pure E; clear E
                                have hH : Sx.Ext (Sx.No) u u := Sx.Ext.refl _ _
                                have Hu := H
                                refine Sx.st_held hT rfl rfl rfl rfl hH (fun w' h' => Sx.y_loadS hT rfl Try.underlying37 Try.ti37 rfl ((Hu.heldB 4 rfl h' Sx.off_No).seg (k := 4) rfl) (by rfl)) ?_
                                clear hT; intro a hT
                                refine Sx.st_take hT rfl rfl rfl rfl (Sx.x_move hT rfl rfl) ?_
                                clear hT; intro a hT
                                refine Sx.st_take hT rfl rfl rfl rfl (Sx.x_move hT rfl rfl) ?_
                                clear hT; intro a hT
                                refine Sx.st_take hT rfl rfl rfl rfl (Sx.x_index (k := j) hT rfl Try.underlying25 Try.ti9 (by first | exact (R1.at H.ext).sv | exact (R2.at H.ext).sv | exact (R3.at H.ext).sv | exact (R4.at H.ext).sv) rfl rfl (by first | rfl | omega) (by omega)) ?_
                                clear hT; intro a hT
                                refine Sx.st_held hT rfl rfl rfl rfl hH (fun w' h' => Sx.x_load1 hT rfl Try.fl9 rfl (by first | exact ((Hu.heldB 2 rfl h' Sx.off_No).nth rfl) | exact ((Hu.heldB 3 rfl h' Sx.off_No).nth rfl) | exact ((Hu.heldB 4 rfl h' Sx.off_No).nth rfl) | exact ((R1.at (Hu.ext.step h')).cell (j := 0) ic_len hz rfl) | exact ((R2.at (Hu.ext.step h')).cell (j := 0) fc_len hpt rfl) | exact ((R3.at (Hu.ext.step h')).cell (j := 0) bc_len htb rfl) | exact ((R4.at (Hu.ext.step h')).cell (j := 0) kc_len hkey rfl))) ?_
                                clear hT; intro a hT
                                refine Sx.st_callkeep hT rfl rfl rfl rfl rfl Try.can14 rfl (Of4_calls key hkl _) ?_
                                rintro _ w28 ⟨rfl, E⟩
                                refine ⟨_, rfl, hH.step E, ?_⟩
                                replace hH := hH.step E
                                clear hT; intro a hT
                                replace H := H.pure E; clear E
                                refine Sx.st_call hT rfl rfl rfl rfl rfl Try.can13 rfl (In4_calls _ _ _) ?_
                                rintro _ w29 ⟨rfl, E⟩
                                refine ⟨_, rfl, ?_⟩
                                clear hT; intro a hT
                                replace H := H.pure E; clear E
                                refine Sx.st_take hT rfl rfl rfl rfl (Sx.x_assign hT rfl rfl) ?_
                                clear hT; intro a hT
                                replace hT := hT.keep [23, 137, 22, 21, 126, 20, 105, 17, 18, 19, 16, 74, 15, 11, 55, 14, 13, 43, 12, 35, 32, 0, 1, 2, 3, 4] rfl
                                clear Hu hH
                                refine Sx.ser_calm ?_
                                refine Sx.then_normal (hK67 _ _ ?_)
                                clear hK67
                                refine wp_seq_k fun K68 hK68 => ?_
                                -- region 29 (law.go:126)
                                refine Sx.wp_text [(0, .take), (1, .take), (2, .take), (3, .take), (4, .run), (5, .run), (6, .take), (7, .take), (8, .take), (9, .run), (10, .run), (11, .take)] rfl ?_
                                refine Sx.st_take hT rfl rfl rfl rfl (Sx.x_move hT rfl rfl) ?_
                                clear hT; intro a hT
                                refine Sx.st_take hT rfl rfl rfl rfl (Sx.x_move hT rfl rfl) ?_
                                clear hT; intro a hT
                                refine Sx.st_take hT rfl rfl rfl rfl (Sx.x_move hT rfl rfl) ?_
                                clear hT; intro a hT
                                refine Sx.st_take hT rfl rfl rfl rfl (Sx.x_index (k := j) hT rfl Try.underlying25 Try.ti9 (by first | exact (R1.at H.ext).sv | exact (R2.at H.ext).sv | exact (R3.at H.ext).sv | exact (R4.at H.ext).sv) rfl rfl (by first | rfl | omega) (by omega)) ?_
                                clear hT; intro a hT
                                refine Sx.st_run hT rfl rfl rfl rfl (Sx.x_load1 hT rfl Try.fl9 rfl (by first | exact ((H.blk 2 rfl).nth rfl) | exact ((H.blk 3 rfl).nth rfl) | exact ((H.blk 4 rfl).nth rfl) | exact ((R1.at H.ext).cell (j := 0) ic_len hz rfl) | exact ((R2.at H.ext).cell (j := 0) fc_len hpt rfl) | exact ((R3.at H.ext).cell (j := 0) bc_len htb rfl) | exact ((R4.at H.ext).cell (j := 0) kc_len hkey rfl))) ?_
                                clear hT; intro a hT
                                refine Sx.st_call hT rfl rfl rfl rfl rfl Try.can15 rfl (Route_calls key hkl (H.blk 0 rfl) (H.mp 1 rfl)) ?_
                                rintro _ w30 ⟨rfl, E⟩
                                refine ⟨_, rfl, ?_⟩
                                clear hT; intro a hT
                                replace H := H.pure E; clear E
                                obtain ⟨ro9, hro⟩ : ∃ o, routeL (d1 par L k qa qb) key = o := ⟨_, rfl⟩
                                rw [hro] at hT
                                refine Sx.st_take hT rfl rfl rfl rfl (Sx.x_move hT rfl rfl) ?_
                                clear hT; intro a hT
                                refine Sx.st_take hT rfl rfl rfl rfl (Sx.x_extractL hT rfl rfl rfl) ?_
                                clear hT; intro a hT
                                refine Sx.st_take hT rfl rfl rfl rfl (Sx.x_extractL hT rfl rfl rfl) ?_
                                clear hT; intro a hT
                                refine Sx.st_eff hT rfl rfl rfl rfl (Sx.y_alloc hT rfl Try.ti37 rfl _) ?_
                                clear hT; rintro _ w31 ⟨b4, rfl, N⟩ a hT
                                replace H := H.new N; clear N
                                refine Sx.st_act hT rfl rfl rfl (Sx.y_storeS hT rfl Try.ti37 rfl rfl rfl rfl rfl (H.blk 0 rfl) rfl) ?_
                                rintro w32 ⟨hb, E, _⟩
                                replace H := H.setB 0 rfl hb E rfl; clear hb E
                                refine Sx.st_take hT rfl rfl rfl rfl (Sx.x_assign hT rfl rfl) ?_
                                clear hT; intro a hT
                                replace hT := hT.keep [25, 24, 23, 137, 22, 21, 126, 20, 105, 17, 18, 19, 16, 74, 15, 11, 55, 14, 13, 43, 12, 35, 32, 0, 1, 2, 3, 4] rfl
                                refine Sx.ser_nil ?_
                                refine Sx.then_normal (hK68 _ _ ?_)
                                clear hK68
                                refine wp_seq_k fun K69 hK69 => ?_
                                refine wp_seq_k fun K70 hK70 => ?_
                                -- region 30 (law.go:127)
                                refine Sx.wp_text [(0, .take), (1, .take), (2, .take), (3, .run), (4, .take), (5, .take), (6, .take), (7, .take), (8, .take), (9, .take), (10, .run), (11, .take), (12, .take), (13, .take), (14, .take), (15, .take), (16, .take), (17, .take)] rfl ?_
                                refine Sx.st_take hT rfl rfl rfl rfl (Sx.x_move hT rfl rfl) ?_
                                clear hT; intro a hT
                                refine Sx.st_take hT rfl rfl rfl rfl (Sx.x_move hT rfl rfl) ?_
                                clear hT; intro a hT
                                refine Sx.st_take hT rfl rfl rfl rfl (Sx.x_index (k := j) hT rfl Try.underlying25 Try.ti9 (by first | exact (R1.at H.ext).sv | exact (R2.at H.ext).sv | exact (R3.at H.ext).sv | exact (R4.at H.ext).sv) rfl rfl (by first | rfl | omega) (by omega)) ?_
                                clear hT; intro a hT
                                refine Sx.st_run hT rfl rfl rfl rfl (Sx.x_load1 hT rfl Try.fl9 rfl (by first | exact ((H.blk 0 rfl).nth rfl) | exact ((H.blk 3 rfl).nth rfl) | exact ((H.blk 4 rfl).nth rfl) | exact ((H.blk 5 rfl).nth rfl) | exact ((R1.at H.ext).cell (j := 0) ic_len hz rfl) | exact ((R2.at H.ext).cell (j := 0) fc_len hpt rfl) | exact ((R3.at H.ext).cell (j := 0) bc_len htb rfl) | exact ((R4.at H.ext).cell (j := 0) kc_len hkey rfl))) ?_
                                clear hT; intro a hT
                                refine Sx.st_take hT rfl rfl rfl rfl (Sx.x_lenStr hT rfl rfl Try.underlying9 rfl) ?_
                                clear hT; intro a hT
                                refine Sx.st_take hT rfl rfl rfl rfl ((fun w => Sx.x_lt w hT rfl rfl rfl)) ?_
                                clear hT; intro a hT
                                refine Sx.st_take hT rfl rfl rfl rfl (Sx.x_move hT rfl rfl) ?_
                                clear hT; intro a hT
                                -- guard (30, 6)
                                refine Sx.Sl.two hT 162 rfl (fun hc71 hT => ?_) (fun hc71 hT => ?_)
                                · try simp only [decide_eq_true_eq, decide_eq_false_iff_not, Bool.not_eq_true', Bool.not_eq_false', Bool.not_eq_true, Bool.not_eq_false, Bool.and_eq_true, Bool.or_eq_false_iff, beq_iff_eq, bne_iff_ne, Int.not_lt, Int.not_le, ne_eq] at hc71
                                  refine Sx.st_skip hT rfl rfl rfl rfl ?_
                                  clear hT; intro a hT
                                  refine Sx.st_skip hT rfl rfl rfl rfl ?_
                                  clear hT; intro a hT
                                  refine Sx.st_skip hT rfl rfl rfl rfl ?_
                                  clear hT; intro a hT
                                  refine Sx.st_runskip hT rfl rfl rfl rfl ?_
                                  clear hT; intro a hT
                                  refine Sx.st_skip hT rfl rfl rfl rfl ?_
                                  clear hT; intro a hT
                                  refine Sx.st_skip hT rfl rfl rfl rfl ?_
                                  clear hT; intro a hT
                                  refine Sx.st_take hT rfl rfl rfl rfl (Sx.x_pick_t hT rfl rfl rfl) ?_
                                  clear hT; intro a hT
                                  refine Sx.st_take hT rfl rfl rfl rfl (Sx.x_move hT rfl rfl) ?_
                                  clear hT; intro a hT
                                  refine Sx.st_skip hT rfl rfl rfl rfl ?_
                                  clear hT; intro a hT
                                  refine Sx.st_skip hT rfl rfl rfl rfl ?_
                                  clear hT; intro a hT
                                  refine Sx.st_take hT rfl rfl rfl rfl (Sx.x_pick_t hT rfl rfl rfl) ?_
                                  clear hT; intro a hT
                                  replace hT := hT.keep [173, 25, 24, 23, 137, 22, 21, 126, 20, 105, 17, 18, 19, 16, 74, 15, 11, 55, 14, 13, 43, 12, 35, 32, 0, 1, 2, 3, 4] rfl
                                  refine Sx.ser_nil ?_
                                  refine Sx.then_normal (hK70 _ _ ?_)
                                  clear hK70
                                  refine Sx.wp_if hT rfl (fun _ => ?_) (fun h => by cases h)
                                  refine wp_exit ?_
                                  refine Sx.then_exit ?_
                                  refine Sx.block_exit ?_
                                  refine Sx.then_normal (hK66 _ _ ?_)
                                  clear hK66
                                  -- region 27 (law.go:124)
                                  refine Sx.wp_text [(0, .take), (1, .take), (2, .take)] rfl ?_
                                  refine Sx.st_take hT rfl rfl rfl rfl (Sx.x_move hT rfl rfl) ?_
                                  clear hT; intro a hT
                                  refine Sx.st_take hT rfl rfl rfl rfl ((fun w => Sx.x_add w hT rfl rfl rfl (Sx.wrap64 (by omega)))) ?_
                                  clear hT; intro a hT
                                  refine Sx.st_take hT rfl rfl rfl rfl (Sx.x_assign hT rfl rfl) ?_
                                  clear hT; intro a hT
                                  replace hT := hT.keep [22, 173, 25, 24, 23, 137, 21, 126, 20, 105, 17, 18, 19, 16, 74, 15, 11, 55, 14, 13, 43, 12, 35, 32, 0, 1, 2, 3, 4] rfl
                                  refine Sx.ser_nil ?_
                                  refine Sx.then_normal ?_
                                  exact ⟨j + 1, (by omega), (hT.keep [22, 21, 126, 20, 105, 17, 18, 19, 16, 74, 15, 11, 55, 14, 13, 43, 12, 35, 32, 0, 1, 2, 3, 4] rfl), (H.keep [1, 2, 3, 4, 5, 6] rfl rfl), by omega⟩
                                · try simp only [decide_eq_true_eq, decide_eq_false_iff_not, Bool.not_eq_true', Bool.not_eq_false', Bool.not_eq_true, Bool.not_eq_false, Bool.and_eq_true, Bool.or_eq_false_iff, beq_iff_eq, bne_iff_ne, Int.not_lt, Int.not_le, ne_eq] at hc71
                                  refine Sx.st_take hT rfl rfl rfl rfl (Sx.x_move hT rfl rfl) ?_
                                  clear hT; intro a hT
                                  refine Sx.st_take hT rfl rfl rfl rfl (Sx.x_move hT rfl rfl) ?_
                                  clear hT; intro a hT
                                  refine Sx.st_take hT rfl rfl rfl rfl (Sx.x_index (k := j) hT rfl Try.underlying25 Try.ti9 (by first | exact (R1.at H.ext).sv | exact (R2.at H.ext).sv | exact (R3.at H.ext).sv | exact (R4.at H.ext).sv) rfl rfl (by first | rfl | omega) (by omega)) ?_
                                  clear hT; intro a hT
                                  refine Sx.st_run hT rfl rfl rfl rfl (Sx.x_load1 hT rfl Try.fl9 rfl (by first | exact ((H.blk 0 rfl).nth rfl) | exact ((H.blk 3 rfl).nth rfl) | exact ((H.blk 4 rfl).nth rfl) | exact ((H.blk 5 rfl).nth rfl) | exact ((R1.at H.ext).cell (j := 0) ic_len hz rfl) | exact ((R2.at H.ext).cell (j := 0) fc_len hpt rfl) | exact ((R3.at H.ext).cell (j := 0) bc_len htb rfl) | exact ((R4.at H.ext).cell (j := 0) kc_len hkey rfl))) ?_
                                  clear hT; intro a hT
                                  refine Sx.st_take hT rfl rfl rfl rfl (Sx.x_lenStr hT rfl rfl Try.underlying9 rfl) ?_
                                  clear hT; intro a hT
                                  refine Sx.st_take hT rfl rfl rfl rfl ((fun w => Sx.x_gt w hT rfl rfl rfl)) ?_
                                  clear hT; intro a hT
                                  refine Sx.st_take hT rfl rfl rfl rfl (Sx.x_pick_f hT rfl rfl rfl) ?_
                                  clear hT; intro a hT
                                  refine Sx.st_take hT rfl rfl rfl rfl (Sx.x_move hT rfl rfl) ?_
                                  clear hT; intro a hT
                                  -- guard (30, 14)
                                  refine Sx.Sl.two hT 170 rfl (fun hc72 hT => ?_) (fun hc72 hT => ?_)
                                  · try simp only [decide_eq_true_eq, decide_eq_false_iff_not, Bool.not_eq_true', Bool.not_eq_false', Bool.not_eq_true, Bool.not_eq_false, Bool.and_eq_true, Bool.or_eq_false_iff, beq_iff_eq, bne_iff_ne, Int.not_lt, Int.not_le, ne_eq] at hc72
                                    refine Sx.st_skip hT rfl rfl rfl rfl ?_
                                    clear hT; intro a hT
                                    refine Sx.st_skip hT rfl rfl rfl rfl ?_
                                    clear hT; intro a hT
                                    refine Sx.st_take hT rfl rfl rfl rfl (Sx.x_pick_t hT rfl rfl rfl) ?_
                                    clear hT; intro a hT
                                    replace hT := hT.keep [173, 25, 24, 23, 137, 22, 21, 126, 20, 105, 17, 18, 19, 16, 74, 15, 11, 55, 14, 13, 43, 12, 35, 32, 0, 1, 2, 3, 4] rfl
                                    refine Sx.ser_nil ?_
                                    refine Sx.then_normal (hK70 _ _ ?_)
                                    clear hK70
                                    refine Sx.wp_if hT rfl (fun _ => ?_) (fun h => by cases h)
                                    refine wp_exit ?_
                                    refine Sx.then_exit ?_
                                    refine Sx.block_exit ?_
                                    refine Sx.then_normal (hK66 _ _ ?_)
                                    clear hK66
                                    -- region 27 (law.go:124)
                                    refine Sx.wp_text [(0, .take), (1, .take), (2, .take)] rfl ?_
                                    refine Sx.st_take hT rfl rfl rfl rfl (Sx.x_move hT rfl rfl) ?_
                                    clear hT; intro a hT
                                    refine Sx.st_take hT rfl rfl rfl rfl ((fun w => Sx.x_add w hT rfl rfl rfl (Sx.wrap64 (by omega)))) ?_
                                    clear hT; intro a hT
                                    refine Sx.st_take hT rfl rfl rfl rfl (Sx.x_assign hT rfl rfl) ?_
                                    clear hT; intro a hT
                                    replace hT := hT.keep [22, 173, 25, 24, 23, 137, 21, 126, 20, 105, 17, 18, 19, 16, 74, 15, 11, 55, 14, 13, 43, 12, 35, 32, 0, 1, 2, 3, 4] rfl
                                    refine Sx.ser_nil ?_
                                    refine Sx.then_normal ?_
                                    exact ⟨j + 1, (by omega), (hT.keep [22, 21, 126, 20, 105, 17, 18, 19, 16, 74, 15, 11, 55, 14, 13, 43, 12, 35, 32, 0, 1, 2, 3, 4] rfl), (H.keep [1, 2, 3, 4, 5, 6] rfl rfl), by omega⟩
                                  · try simp only [decide_eq_true_eq, decide_eq_false_iff_not, Bool.not_eq_true', Bool.not_eq_false', Bool.not_eq_true, Bool.not_eq_false, Bool.and_eq_true, Bool.or_eq_false_iff, beq_iff_eq, bne_iff_ne, Int.not_lt, Int.not_le, ne_eq] at hc72
                                    refine Sx.st_take hT rfl rfl rfl rfl (Sx.x_move hT rfl rfl) ?_
                                    clear hT; intro a hT
                                    refine Sx.st_take hT rfl rfl rfl rfl (Sx.x_not hT rfl rfl) ?_
                                    clear hT; intro a hT
                                    refine Sx.st_take hT rfl rfl rfl rfl (Sx.x_pick_f hT rfl rfl rfl) ?_
                                    clear hT; intro a hT
                                    replace hT := hT.keep [173, 25, 24, 23, 137, 22, 21, 126, 20, 105, 17, 18, 19, 16, 74, 15, 11, 55, 14, 13, 43, 12, 35, 32, 0, 1, 2, 3, 4] rfl
                                    refine Sx.ser_nil ?_
                                    refine Sx.then_normal (hK70 _ _ ?_)
                                    clear hK70
                                    -- cond 10
                                    refine Sx.wp_if hT rfl (fun hc73 => ?_) (fun hc73 => ?_)
                                    · try simp only [decide_eq_true_eq, decide_eq_false_iff_not, Bool.not_eq_true', Bool.not_eq_false', Bool.not_eq_true, Bool.not_eq_false, Bool.and_eq_true, Bool.or_eq_false_iff, beq_iff_eq, bne_iff_ne, Int.not_lt, Int.not_le, ne_eq] at hc73
                                      refine wp_exit ?_
                                      refine Sx.then_exit ?_
                                      refine Sx.block_exit ?_
                                      refine Sx.then_normal (hK66 _ _ ?_)
                                      clear hK66
                                      -- region 27 (law.go:124)
                                      refine Sx.wp_text [(0, .take), (1, .take), (2, .take)] rfl ?_
                                      refine Sx.st_take hT rfl rfl rfl rfl (Sx.x_move hT rfl rfl) ?_
                                      clear hT; intro a hT
                                      refine Sx.st_take hT rfl rfl rfl rfl ((fun w => Sx.x_add w hT rfl rfl rfl (Sx.wrap64 (by omega)))) ?_
                                      clear hT; intro a hT
                                      refine Sx.st_take hT rfl rfl rfl rfl (Sx.x_assign hT rfl rfl) ?_
                                      clear hT; intro a hT
                                      replace hT := hT.keep [22, 173, 25, 24, 23, 137, 21, 126, 20, 105, 17, 18, 19, 16, 74, 15, 11, 55, 14, 13, 43, 12, 35, 32, 0, 1, 2, 3, 4] rfl
                                      refine Sx.ser_nil ?_
                                      refine Sx.then_normal ?_
                                      exact ⟨j + 1, (by omega), (hT.keep [22, 21, 126, 20, 105, 17, 18, 19, 16, 74, 15, 11, 55, 14, 13, 43, 12, 35, 32, 0, 1, 2, 3, 4] rfl), (H.keep [1, 2, 3, 4, 5, 6] rfl rfl), by omega⟩
                                    · try simp only [decide_eq_true_eq, decide_eq_false_iff_not, Bool.not_eq_true', Bool.not_eq_false', Bool.not_eq_true, Bool.not_eq_false, Bool.and_eq_true, Bool.or_eq_false_iff, beq_iff_eq, bne_iff_ne, Int.not_lt, Int.not_le, ne_eq] at hc73
                                      have hmv : inF qb (ofF key) = true := hc73
                                      have hrp := route_par par (i := (L.length : Int) + 1) hC hr f2 f3 (by omega) (by omega) (keyF_yes (by omega) (by omega)) (hqb ▸ hmv)
                                      rw [← hqa, ← hqb] at hrp
                                      rw [hro] at hrp
                                      subst hrp
                                      refine wp_skip ?_
                                      refine Sx.then_normal (hK69 _ _ ?_)
                                      clear hK69
                                      refine wp_seq_k fun K74 hK74 => ?_
                                      by_cases hpar : par = true
                                      · skip
                                        subst hpar
                                        -- region 31 (law.go:130)
                                        refine Sx.wp_text [(0, .take), (1, .take), (2, .take), (3, .take), (4, .take), (5, .take), (6, .take), (7, .take), (8, .take), (9, .take), (10, .take), (11, .take), (12, .run), (13, .take), (14, .run), (15, .take), (16, .take), (17, .take), (18, .take)] rfl ?_
                                        refine Sx.st_take hT rfl rfl rfl rfl (Sx.x_move hT rfl rfl) ?_
                                        clear hT; intro a hT
                                        refine Sx.st_take hT rfl rfl rfl rfl (Sx.x_move hT rfl rfl) ?_
                                        clear hT; intro a hT
                                        -- guard (31, 1)
                                        refine Sx.Sl.two hT 175 rfl (fun hc75 hT => ?_) (fun hc75 hT => ?_)
                                        · try simp only [decide_eq_true_eq, decide_eq_false_iff_not, Bool.not_eq_true', Bool.not_eq_false', Bool.not_eq_true, Bool.not_eq_false, Bool.and_eq_true, Bool.or_eq_false_iff, beq_iff_eq, bne_iff_ne, Int.not_lt, Int.not_le, ne_eq] at hc75
                                          refine Sx.st_take hT rfl rfl rfl rfl (Sx.x_move hT rfl rfl) ?_
                                          clear hT; intro a hT
                                          refine Sx.st_take hT rfl rfl rfl rfl (Sx.x_pick_t hT rfl rfl rfl) ?_
                                          clear hT; intro a hT
                                          refine Sx.st_take hT rfl rfl rfl rfl (Sx.x_move hT rfl rfl) ?_
                                          clear hT; intro a hT
                                          -- guard (31, 4)
                                          refine Sx.Sl.two hT 178 rfl (fun hc76 hT => ?_) (fun hc76 hT => ?_)
                                          · exfalso
                                            try simp only [decide_eq_true_eq, decide_eq_false_iff_not, Bool.not_eq_true', Bool.not_eq_false', Bool.not_eq_true, Bool.not_eq_false, Bool.and_eq_true, Bool.or_eq_false_iff, beq_iff_eq, bne_iff_ne, Int.not_lt, Int.not_le, ne_eq] at hc76
                                            simp [rpar] at hc76
                                          · try simp only [decide_eq_true_eq, decide_eq_false_iff_not, Bool.not_eq_true', Bool.not_eq_false', Bool.not_eq_true, Bool.not_eq_false, Bool.and_eq_true, Bool.or_eq_false_iff, beq_iff_eq, bne_iff_ne, Int.not_lt, Int.not_le, ne_eq] at hc76
                                            refine Sx.st_take hT rfl rfl rfl rfl (Sx.x_move hT rfl rfl) ?_
                                            clear hT; intro a hT
                                            refine Sx.st_take hT rfl rfl rfl rfl (Sx.x_not hT rfl rfl) ?_
                                            clear hT; intro a hT
                                            refine Sx.st_take hT rfl rfl rfl rfl (Sx.x_move hT rfl rfl) ?_
                                            clear hT; intro a hT
                                            -- guard (31, 7)
                                            refine Sx.Sl.two hT 181 rfl (fun hc77 hT => ?_) (fun hc77 hT => ?_)
                                            · exfalso
                                              try simp only [decide_eq_true_eq, decide_eq_false_iff_not, Bool.not_eq_true', Bool.not_eq_false', Bool.not_eq_true, Bool.not_eq_false, Bool.and_eq_true, Bool.or_eq_false_iff, beq_iff_eq, bne_iff_ne, Int.not_lt, Int.not_le, ne_eq] at hc77
                                              first | (simp at hc77; done) | (simp at hc77; omega) | omega
                                            · try simp only [decide_eq_true_eq, decide_eq_false_iff_not, Bool.not_eq_true', Bool.not_eq_false', Bool.not_eq_true, Bool.not_eq_false, Bool.and_eq_true, Bool.or_eq_false_iff, beq_iff_eq, bne_iff_ne, Int.not_lt, Int.not_le, ne_eq] at hc77
                                              refine Sx.st_skip hT rfl rfl rfl rfl ?_
                                              clear hT; intro a hT
                                              refine Sx.st_skip hT rfl rfl rfl rfl ?_
                                              clear hT; intro a hT
                                              refine Sx.st_skip hT rfl rfl rfl rfl ?_
                                              clear hT; intro a hT
                                              refine Sx.st_skip hT rfl rfl rfl rfl ?_
                                              clear hT; intro a hT
                                              refine Sx.st_runskip hT rfl rfl rfl rfl ?_
                                              clear hT; intro a hT
                                              refine Sx.st_skip hT rfl rfl rfl rfl ?_
                                              clear hT; intro a hT
                                              refine Sx.st_runskip hT rfl rfl rfl rfl ?_
                                              clear hT; intro a hT
                                              refine Sx.st_skip hT rfl rfl rfl rfl ?_
                                              clear hT; intro a hT
                                              refine Sx.st_skip hT rfl rfl rfl rfl ?_
                                              clear hT; intro a hT
                                              refine Sx.st_take hT rfl rfl rfl rfl (Sx.x_pick_f hT rfl rfl rfl) ?_
                                              clear hT; intro a hT
                                              refine Sx.st_take hT rfl rfl rfl rfl (Sx.x_pick_f hT rfl rfl rfl) ?_
                                              clear hT; intro a hT
                                              replace hT := hT.keep [192, 173, 25, 24, 23, 137, 22, 21, 126, 20, 105, 17, 18, 19, 16, 74, 15, 11, 55, 14, 13, 43, 12, 35, 32, 0, 1, 2, 3, 4] rfl
                                              refine Sx.ser_nil ?_
                                              refine Sx.then_normal (hK74 _ _ ?_)
                                              clear hK74
                                              refine Sx.wp_if hT rfl (fun h => by cases h) (fun _ => ?_)
                                              refine wp_skip ?_
                                              refine Sx.block_normal ?_
                                              refine Sx.then_normal (hK66 _ _ ?_)
                                              clear hK66
                                              -- region 27 (law.go:124)
                                              refine Sx.wp_text [(0, .take), (1, .take), (2, .take)] rfl ?_
                                              refine Sx.st_take hT rfl rfl rfl rfl (Sx.x_move hT rfl rfl) ?_
                                              clear hT; intro a hT
                                              refine Sx.st_take hT rfl rfl rfl rfl ((fun w => Sx.x_add w hT rfl rfl rfl (Sx.wrap64 (by omega)))) ?_
                                              clear hT; intro a hT
                                              refine Sx.st_take hT rfl rfl rfl rfl (Sx.x_assign hT rfl rfl) ?_
                                              clear hT; intro a hT
                                              replace hT := hT.keep [22, 192, 173, 25, 24, 23, 137, 21, 126, 20, 105, 17, 18, 19, 16, 74, 15, 11, 55, 14, 13, 43, 12, 35, 32, 0, 1, 2, 3, 4] rfl
                                              refine Sx.ser_nil ?_
                                              refine Sx.then_normal ?_
                                              exact ⟨j + 1, (by omega), (hT.keep [22, 21, 126, 20, 105, 17, 18, 19, 16, 74, 15, 11, 55, 14, 13, 43, 12, 35, 32, 0, 1, 2, 3, 4] rfl), (H.keep [1, 2, 3, 4, 5, 6] rfl rfl), by omega⟩
                                        · exfalso
                                          try simp only [decide_eq_true_eq, decide_eq_false_iff_not, Bool.not_eq_true', Bool.not_eq_false', Bool.not_eq_true, Bool.not_eq_false, Bool.and_eq_true, Bool.or_eq_false_iff, beq_iff_eq, bne_iff_ne, Int.not_lt, Int.not_le, ne_eq] at hc75
                                          first | (simp at hc75; done) | (simp at hc75; omega) | omega
                                      · skip
                                        obtain rfl : par = false := by simpa using hpar
                                        -- region 31 (law.go:130)
                                        refine Sx.wp_text [(0, .take), (1, .take), (2, .take), (3, .take), (4, .take), (5, .take), (6, .take), (7, .take), (8, .take), (9, .take), (10, .take), (11, .take), (12, .run), (13, .take), (14, .run), (15, .take), (16, .take), (17, .take), (18, .take)] rfl ?_
                                        refine Sx.st_take hT rfl rfl rfl rfl (Sx.x_move hT rfl rfl) ?_
                                        clear hT; intro a hT
                                        refine Sx.st_take hT rfl rfl rfl rfl (Sx.x_move hT rfl rfl) ?_
                                        clear hT; intro a hT
                                        -- guard (31, 1)
                                        refine Sx.Sl.two hT 175 rfl (fun hc78 hT => ?_) (fun hc78 hT => ?_)
                                        · exfalso
                                          try simp only [decide_eq_true_eq, decide_eq_false_iff_not, Bool.not_eq_true', Bool.not_eq_false', Bool.not_eq_true, Bool.not_eq_false, Bool.and_eq_true, Bool.or_eq_false_iff, beq_iff_eq, bne_iff_ne, Int.not_lt, Int.not_le, ne_eq] at hc78
                                          first | (simp at hc78; done) | (simp at hc78; omega) | omega
                                        · try simp only [decide_eq_true_eq, decide_eq_false_iff_not, Bool.not_eq_true', Bool.not_eq_false', Bool.not_eq_true, Bool.not_eq_false, Bool.and_eq_true, Bool.or_eq_false_iff, beq_iff_eq, bne_iff_ne, Int.not_lt, Int.not_le, ne_eq] at hc78
                                          refine Sx.st_skip hT rfl rfl rfl rfl ?_
                                          clear hT; intro a hT
                                          refine Sx.st_take hT rfl rfl rfl rfl (Sx.x_pick_f hT rfl rfl rfl) ?_
                                          clear hT; intro a hT
                                          refine Sx.st_take hT rfl rfl rfl rfl (Sx.x_move hT rfl rfl) ?_
                                          clear hT; intro a hT
                                          refine Sx.st_take hT rfl rfl rfl rfl (Sx.x_move hT rfl rfl) ?_
                                          clear hT; intro a hT
                                          refine Sx.st_take hT rfl rfl rfl rfl (Sx.x_not hT rfl rfl) ?_
                                          clear hT; intro a hT
                                          refine Sx.st_take hT rfl rfl rfl rfl (Sx.x_move hT rfl rfl) ?_
                                          clear hT; intro a hT
                                          -- guard (31, 7)
                                          refine Sx.Sl.two hT 181 rfl (fun hc79 hT => ?_) (fun hc79 hT => ?_)
                                          · try simp only [decide_eq_true_eq, decide_eq_false_iff_not, Bool.not_eq_true', Bool.not_eq_false', Bool.not_eq_true, Bool.not_eq_false, Bool.and_eq_true, Bool.or_eq_false_iff, beq_iff_eq, bne_iff_ne, Int.not_lt, Int.not_le, ne_eq] at hc79
                                            refine Sx.st_take hT rfl rfl rfl rfl (Sx.x_move hT rfl rfl) ?_
                                            clear hT; intro a hT
                                            refine Sx.st_take hT rfl rfl rfl rfl (Sx.x_not hT rfl rfl) ?_
                                            clear hT; intro a hT
                                            refine Sx.st_take hT rfl rfl rfl rfl (Sx.x_move hT rfl rfl) ?_
                                            clear hT; intro a hT
                                            -- guard (31, 10)
                                            refine Sx.Sl.two hT 184 rfl (fun hc80 hT => ?_) (fun hc80 hT => ?_)
                                            · exfalso
                                              try simp only [decide_eq_true_eq, decide_eq_false_iff_not, Bool.not_eq_true', Bool.not_eq_false', Bool.not_eq_true, Bool.not_eq_false, Bool.and_eq_true, Bool.or_eq_false_iff, beq_iff_eq, bne_iff_ne, Int.not_lt, Int.not_le, ne_eq] at hc80
                                              simp [rpar] at hc80
                                            · try simp only [decide_eq_true_eq, decide_eq_false_iff_not, Bool.not_eq_true', Bool.not_eq_false', Bool.not_eq_true, Bool.not_eq_false, Bool.and_eq_true, Bool.or_eq_false_iff, beq_iff_eq, bne_iff_ne, Int.not_lt, Int.not_le, ne_eq] at hc80
                                              refine Sx.st_take hT rfl rfl rfl rfl (Sx.x_fieldAddr hT rfl Try.fa37_0 rfl) ?_
                                              clear hT; intro a hT
                                              refine Sx.st_run hT rfl rfl rfl rfl (Sx.x_load1 hT rfl Try.fl3 rfl ((H.blk 0 rfl).nth rfl)) ?_
                                              clear hT; intro a hT
                                              refine Sx.st_take hT rfl rfl rfl rfl (Sx.x_fieldAddr hT rfl Try.fa37_0 rfl) ?_
                                              clear hT; intro a hT
                                              refine Sx.st_run hT rfl rfl rfl rfl (Sx.x_load1 hT rfl Try.fl3 rfl ((H.blk 5 rfl).nth rfl)) ?_
                                              clear hT; intro a hT
                                              refine Sx.st_take hT rfl rfl rfl rfl ((fun w => Sx.x_ne w hT rfl rfl rfl)) ?_
                                              clear hT; intro a hT
                                              refine Sx.st_take hT rfl rfl rfl rfl (Sx.x_pick_f hT rfl rfl rfl) ?_
                                              clear hT; intro a hT
                                              refine Sx.st_take hT rfl rfl rfl rfl (Sx.x_pick_t hT rfl rfl rfl) ?_
                                              clear hT; intro a hT
                                              refine Sx.st_take hT rfl rfl rfl rfl (Sx.x_pick_f hT rfl rfl rfl) ?_
                                              clear hT; intro a hT
                                              replace hT := hT.keep [192, 173, 25, 24, 23, 137, 22, 21, 126, 20, 105, 17, 18, 19, 16, 74, 15, 11, 55, 14, 13, 43, 12, 35, 32, 0, 1, 2, 3, 4] rfl
                                              refine Sx.ser_nil ?_
                                              refine Sx.then_normal (hK74 _ _ ?_)
                                              clear hK74
                                              -- cond 11
                                              refine Sx.wp_if hT rfl (fun hc81 => ?_) (fun hc81 => ?_)
                                              · exfalso
                                                try simp only [decide_eq_true_eq, decide_eq_false_iff_not, Bool.not_eq_true', Bool.not_eq_false', Bool.not_eq_true, Bool.not_eq_false, Bool.and_eq_true, Bool.or_eq_false_iff, beq_iff_eq, bne_iff_ne, Int.not_lt, Int.not_le, ne_eq] at hc81
                                                simp [rpar] at hc81
                                              · try simp only [decide_eq_true_eq, decide_eq_false_iff_not, Bool.not_eq_true', Bool.not_eq_false', Bool.not_eq_true, Bool.not_eq_false, Bool.and_eq_true, Bool.or_eq_false_iff, beq_iff_eq, bne_iff_ne, Int.not_lt, Int.not_le, ne_eq] at hc81
                                                refine wp_skip ?_
                                                refine Sx.block_normal ?_
                                                refine Sx.then_normal (hK66 _ _ ?_)
                                                clear hK66
                                                -- region 27 (law.go:124)
                                                refine Sx.wp_text [(0, .take), (1, .take), (2, .take)] rfl ?_
                                                refine Sx.st_take hT rfl rfl rfl rfl (Sx.x_move hT rfl rfl) ?_
                                                clear hT; intro a hT
                                                refine Sx.st_take hT rfl rfl rfl rfl ((fun w => Sx.x_add w hT rfl rfl rfl (Sx.wrap64 (by omega)))) ?_
                                                clear hT; intro a hT
                                                refine Sx.st_take hT rfl rfl rfl rfl (Sx.x_assign hT rfl rfl) ?_
                                                clear hT; intro a hT
                                                replace hT := hT.keep [22, 192, 173, 25, 24, 23, 137, 21, 126, 20, 105, 17, 18, 19, 16, 74, 15, 11, 55, 14, 13, 43, 12, 35, 32, 0, 1, 2, 3, 4] rfl
                                                refine Sx.ser_nil ?_
                                                refine Sx.then_normal ?_
                                                exact ⟨j + 1, (by omega), (hT.keep [22, 21, 126, 20, 105, 17, 18, 19, 16, 74, 15, 11, 55, 14, 13, 43, 12, 35, 32, 0, 1, 2, 3, 4] rfl), (H.keep [1, 2, 3, 4, 5, 6] rfl rfl), by omega⟩
                                          · exfalso
                                            try simp only [decide_eq_true_eq, decide_eq_false_iff_not, Bool.not_eq_true', Bool.not_eq_false', Bool.not_eq_true, Bool.not_eq_false, Bool.and_eq_true, Bool.or_eq_false_iff, beq_iff_eq, bne_iff_ne, Int.not_lt, Int.not_le, ne_eq] at hc79
                                            first | (simp at hc79; done) | (simp at hc79; omega) | omega
                              · try simp only [decide_eq_true_eq, decide_eq_false_iff_not, Bool.not_eq_true', Bool.not_eq_false', Bool.not_eq_true, Bool.not_eq_false, Bool.and_eq_true, Bool.or_eq_false_iff, beq_iff_eq, bne_iff_ne, Int.not_lt, Int.not_le, ne_eq] at hc65
                                refine wp_exit ?_
                                refine Sx.then_exit ?_
                                refine Sx.then_exit ?_
                                refine Sx.block_exit ?_
                                refine Sx.then_normal (hK61 _ _ ?_)
                                clear hK61
                                refine wp_seq_k fun K82 hK82 => ?_
                                refine wp_seq_k fun K83 hK83 => ?_
                                -- region 33 (law.go:134)
                                refine Sx.wp_text [(0, .take), (1, .take), (2, .run), (3, .take), (4, .take), (5, .take), (6, .take), (7, .run), (8, .take), (9, .take)] rfl ?_
                                refine Sx.st_take hT rfl rfl rfl rfl (Sx.x_move hT rfl rfl) ?_
                                clear hT; intro a hT
                                refine Sx.st_take hT rfl rfl rfl rfl (Sx.x_move hT rfl rfl) ?_
                                clear hT; intro a hT
                                have hd1 : (d1 par L k qa qb).length ≤ 13 := by cases par <;> simp [d1] <;> omega
                                refine Sx.st_call hT rfl rfl rfl rfl rfl Try.can12 rfl (Learn_calls (halv par qa qb) (H.pre [0, 1] rfl rfl) ((H.lend 2 rfl [0, 1] rfl rfl).mono fun u h => blk_both h) (by show 2 ≤ 1000000; decide) (by omega) (by intro q hq; simp only [halv, List.mem_cons, List.not_mem_nil, or_false] at hq; rcases hq with rfl | rfl <;> cases par <;> first | exact wa | exact wb)) ?_
                                rintro _ w33 ⟨rfl, K⟩
                                refine ⟨_, rfl, ?_⟩
                                clear hT; intro a hT
                                replace H := H.back [0, 1] [2, 3, 4, 5] rfl rfl rfl K rfl; clear K
                                rw [e3] at H
                                rw [e4] at hT
                                refine Sx.st_take hT rfl rfl rfl rfl ((fun w => Sx.x_ne w hT rfl rfl rfl)) ?_
                                clear hT; intro a hT
                                refine Sx.st_take hT rfl rfl rfl rfl (Sx.x_move hT rfl rfl) ?_
                                clear hT; intro a hT
                                -- guard (33, 4)
                                refine Sx.Sl.two hT 197 rfl (fun hc84 hT => ?_) (fun hc84 hT => ?_)
                                · exfalso
                                  try simp only [decide_eq_true_eq, decide_eq_false_iff_not, Bool.not_eq_true', Bool.not_eq_false', Bool.not_eq_true, Bool.not_eq_false, Bool.and_eq_true, Bool.or_eq_false_iff, beq_iff_eq, bne_iff_ne, Int.not_lt, Int.not_le, ne_eq] at hc84
                                  first | (simp at hc84; done) | (simp at hc84; omega) | omega
                                · try simp only [decide_eq_true_eq, decide_eq_false_iff_not, Bool.not_eq_true', Bool.not_eq_false', Bool.not_eq_true, Bool.not_eq_false, Bool.and_eq_true, Bool.or_eq_false_iff, beq_iff_eq, bne_iff_ne, Int.not_lt, Int.not_le, ne_eq] at hc84
                                  refine Sx.st_take hT rfl rfl rfl rfl (Sx.x_move hT rfl rfl) ?_
                                  clear hT; intro a hT
                                  refine Sx.st_take hT rfl rfl rfl rfl (Sx.x_move hT rfl rfl) ?_
                                  clear hT; intro a hT
                                  refine Sx.st_call hT rfl rfl rfl rfl rfl Try.can12 rfl (Learn_calls (halv par qa qb) (H.pre [0, 1] rfl rfl) ((H.lend 2 rfl [0, 1] rfl rfl).mono fun u h => blk_both h) (by show 2 ≤ 1000000; decide) (by omega) (by intro q hq; simp only [halv, List.mem_cons, List.not_mem_nil, or_false] at hq; rcases hq with rfl | rfl <;> cases par <;> first | exact wa | exact wb)) ?_
                                  rintro _ w34 ⟨rfl, K⟩
                                  refine ⟨_, rfl, ?_⟩
                                  clear hT; intro a hT
                                  replace H := H.back [0, 1] [2, 3, 4, 5] rfl rfl rfl K rfl; clear K
                                  rw [e5] at H
                                  rw [e6] at hT
                                  refine Sx.st_take hT rfl rfl rfl rfl ((fun w => Sx.x_ne w hT rfl rfl rfl)) ?_
                                  clear hT; intro a hT
                                  refine Sx.st_take hT rfl rfl rfl rfl (Sx.x_pick_f hT rfl rfl rfl) ?_
                                  clear hT; intro a hT
                                  replace hT := hT.keep [202, 137, 22, 21, 126, 20, 105, 17, 18, 19, 16, 74, 15, 11, 55, 14, 13, 43, 12, 35, 32, 0, 1, 2, 3, 4] rfl
                                  refine Sx.ser_nil ?_
                                  refine Sx.then_normal (hK83 _ _ ?_)
                                  clear hK83
                                  -- cond 12
                                  refine Sx.wp_if hT rfl (fun hc85 => ?_) (fun hc85 => ?_)
                                  · exfalso
                                    try simp only [decide_eq_true_eq, decide_eq_false_iff_not, Bool.not_eq_true', Bool.not_eq_false', Bool.not_eq_true, Bool.not_eq_false, Bool.and_eq_true, Bool.or_eq_false_iff, beq_iff_eq, bne_iff_ne, Int.not_lt, Int.not_le, ne_eq] at hc85
                                    first | (simp at hc85; done) | (simp at hc85; omega) | omega
                                  · try simp only [decide_eq_true_eq, decide_eq_false_iff_not, Bool.not_eq_true', Bool.not_eq_false', Bool.not_eq_true, Bool.not_eq_false, Bool.and_eq_true, Bool.or_eq_false_iff, beq_iff_eq, bne_iff_ne, Int.not_lt, Int.not_le, ne_eq] at hc85
                                    refine wp_skip ?_
                                    refine Sx.then_normal (hK82 _ _ ?_)
                                    clear hK82
                                    refine wp_seq_k fun K86 hK86 => ?_
                                    -- region 35 (law.go:137)
                                    refine Sx.wp_text [(0, .take), (1, .take), (2, .run), (3, .take), (4, .run)] rfl ?_
                                    refine Sx.st_take hT rfl rfl rfl rfl (Sx.x_move hT rfl rfl) ?_
                                    clear hT; intro a hT
                                    refine Sx.st_take hT rfl rfl rfl rfl (Sx.x_move hT rfl rfl) ?_
                                    clear hT; intro a hT
                                    refine Sx.st_run hT rfl rfl rfl rfl (Sx.y_loadS hT rfl Try.underlying37 Try.ti37 rfl ((H.blk 3 rfl).seg (k := 4) rfl) (by rfl)) ?_
                                    clear hT; intro a hT
                                    refine Sx.st_take hT rfl rfl rfl rfl (Sx.x_index (k := k) hT rfl Try.underlying28 Try.ti37 (H.row 5 rfl).sv rfl rfl (by first | rfl | omega) (by omega)) ?_
                                    clear hT; intro a hT
                                    refine Sx.st_act hT rfl rfl rfl (Sx.x_storeRowS (k := k) (r := qa) hT rfl Try.ti37 rfl rfl Rg.len Rg.one rfl (H.row 5 rfl) rfl (by omega)) ?_
                                    rintro w35 ⟨hr, E, _⟩
                                    replace H := H.setR 5 rfl hr E (fun _ hk => .inl hk) rfl; clear hr E
                                    replace hT := hT.keep [202, 137, 22, 21, 126, 20, 105, 17, 18, 19, 16, 74, 15, 11, 55, 14, 13, 43, 12, 35, 32, 0, 1, 2, 3, 4] rfl
                                    refine Sx.ser_nil ?_
                                    refine Sx.then_normal (hK86 _ _ ?_)
                                    clear hK86
                                    refine wp_seq_k fun K87 hK87 => ?_
                                    -- region 36 (law.go:138)
                                    refine Sx.wp_text [(0, .take), (1, .run), (2, .run), (3, .run), (4, .take)] rfl ?_
                                    refine Sx.st_take hT rfl rfl rfl rfl (Sx.x_move hT rfl rfl) ?_
                                    clear hT; intro a hT
                                    refine Sx.st_run hT rfl rfl rfl rfl (Sx.y_loadS hT rfl Try.underlying37 Try.ti37 rfl ((H.blk 4 rfl).seg (k := 4) rfl) (by rfl)) ?_
                                    clear hT; intro a hT
                                    refine Sx.st_eff hT rfl rfl rfl rfl (Sx.y_slice1 hT rfl Try.underlying28 Try.ti37 rfl rfl rfl rfl rfl rfl _) ?_
                                    clear hT; rintro _ w36 ⟨b5, rfl, N⟩ a hT
                                    replace H := H.new N; clear N
                                    refine Sx.st_eff hT rfl rfl rfl rfl (Sx.x_append hT rfl rfl Try.underlying28 Try.ti37 rfl (by decide) rfl rfl (H.row 6 rfl) ((H.blk 0 rfl).sv1 rfl) (Rg.one qb) (fun h => by cases h) (by unfold maxLen; omega) (by omega)) ?_
                                    rintro _ w37 ⟨ad37, c37, rfl, hr, E, hown, -⟩
                                    clear hT; intro a hT
                                    replace H := H.setR 6 rfl hr E hown rfl; clear hr E hown
                                    rw [set_snoc hM, ← hML] at H
                                    rw [← hML] at hT
                                    refine Sx.st_take hT rfl rfl rfl rfl (Sx.x_assign hT rfl rfl) ?_
                                    clear hT; intro a hT
                                    replace hT := hT.keep [11, 202, 137, 22, 21, 126, 20, 105, 17, 18, 19, 16, 74, 15, 55, 14, 13, 43, 12, 35, 32, 0, 1, 2, 3, 4] rfl
                                    refine Sx.ser_nil ?_
                                    refine Sx.then_normal (hK87 _ _ ?_)
                                    clear hK87
                                    refine wp_seq_k fun K88 hK88 => ?_
                                    -- region 37 (law.go:139)
                                    refine Sx.wp_text [(0, .take), (1, .run), (2, .run), (3, .take)] rfl ?_
                                    refine Sx.st_take hT rfl rfl rfl rfl (Sx.x_move hT rfl rfl) ?_
                                    clear hT; intro a hT
                                    refine Sx.st_call hT rfl rfl rfl rfl rfl Try.can17 rfl (List_calls (H.blk 1 rfl) (H.mp 2 rfl) (IdL.srt hC2.id) (by have := hC2.few; omega) hC2.fine.wf) ?_
                                    rintro _ w38 ⟨ad9, c9, rfl, K⟩
                                    refine ⟨_, rfl, ?_⟩
                                    clear hT; intro a hT
                                    replace H := H.more K rfl; clear K
                                    refine Sx.st_call hT rfl rfl rfl rfl rfl Try.can16 rfl (Check4_calls M ((H.row 0 rfl).ssn rfl) (by have := hC2.few; omega) ((H.row 0 rfl).le.1) hC2.fine.wf) ?_
                                    rintro _ w39 ⟨rfl, E⟩
                                    refine ⟨_, rfl, ?_⟩
                                    clear hT; intro a hT
                                    replace H := H.pure E; clear E
                                    rw [hC2.check] at hT
                                    refine Sx.st_take hT rfl rfl rfl rfl ((fun w => Sx.x_ne w hT rfl rfl rfl)) ?_
                                    clear hT; intro a hT
                                    replace hT := hT.keep [214, 11, 202, 137, 22, 21, 126, 20, 105, 17, 18, 19, 16, 74, 15, 55, 14, 13, 43, 12, 35, 32, 0, 1, 2, 3, 4] rfl
                                    refine Sx.ser_nil ?_
                                    refine Sx.then_normal (hK88 _ _ ?_)
                                    clear hK88
                                    -- cond 13
                                    refine Sx.wp_if hT rfl (fun hc89 => ?_) (fun hc89 => ?_)
                                    · exfalso
                                      try simp only [decide_eq_true_eq, decide_eq_false_iff_not, Bool.not_eq_true', Bool.not_eq_false', Bool.not_eq_true, Bool.not_eq_false, Bool.and_eq_true, Bool.or_eq_false_iff, beq_iff_eq, bne_iff_ne, Int.not_lt, Int.not_le, ne_eq] at hc89
                                      first | (simp at hc89; done) | (simp at hc89; omega) | omega
                                    · try simp only [decide_eq_true_eq, decide_eq_false_iff_not, Bool.not_eq_true', Bool.not_eq_false', Bool.not_eq_true, Bool.not_eq_false, Bool.and_eq_true, Bool.or_eq_false_iff, beq_iff_eq, bne_iff_ne, Int.not_lt, Int.not_le, ne_eq] at hc89
                                      refine wp_skip ?_
                                      refine Sx.block_normal ?_
                                      refine Sx.then_normal (hK48 _ _ ?_)
                                      clear hK48
                                      -- region 13 (law.go:107)
                                      refine Sx.wp_text [(0, .take), (1, .take), (2, .take)] rfl ?_
                                      refine Sx.st_take hT rfl rfl rfl rfl (Sx.x_move hT rfl rfl) ?_
                                      clear hT; intro a hT
                                      refine Sx.st_take hT rfl rfl rfl rfl ((fun w => Sx.x_add w hT rfl rfl rfl (Sx.wrap64 (by omega)))) ?_
                                      clear hT; intro a hT
                                      refine Sx.st_take hT rfl rfl rfl rfl (Sx.x_assign hT rfl rfl) ?_
                                      clear hT; intro a hT
                                      replace hT := hT.keep [15, 214, 11, 202, 137, 22, 21, 126, 20, 105, 17, 18, 19, 16, 74, 55, 14, 13, 43, 12, 35, 32, 0, 1, 2, 3, 4] rfl
                                      refine Sx.ser_nil ?_
                                      refine Sx.then_normal ?_
                                      exact ⟨(i + 1, M, ad37, c37), ⟨by show i + 1 ≤ _; omega, hC2⟩, (hT.keep [15, 11, 55, 14, 13, 43, 12, 35, 32, 0, 1, 2, 3, 4] rfl), (H.keep [7, 3, 2] rfl rfl), by show _ - (i + 1) < _ - i; omega⟩
                          · clear hK56; intro hJK56
                            refine wp_seq_k fun K90 hK90 => ?_
                            -- region 20 (law.go:117)
                            refine Sx.wp_text [(0, .take), (1, .take), (2, .take), (3, .take), (4, .take), (5, .take), (6, .take), (7, .take), (8, .run), (9, .take)] rfl ?_
                            refine Sx.st_take hT rfl rfl rfl rfl (Sx.x_move hT rfl rfl) ?_
                            clear hT; intro a hT
                            refine Sx.st_take hT rfl rfl rfl rfl (Sx.x_move hT rfl rfl) ?_
                            clear hT; intro a hT
                            refine Sx.st_take hT rfl rfl rfl rfl (Sx.x_len_slice hT rfl rfl Try.underlying24 rfl) ?_
                            clear hT; intro a hT
                            refine Sx.st_take hT rfl rfl rfl rfl ((fun w => Sx.x_lt w hT rfl rfl rfl)) ?_
                            clear hT; intro a hT
                            refine Sx.st_take hT rfl rfl rfl rfl (Sx.x_move hT rfl rfl) ?_
                            clear hT; intro a hT
                            -- guard (20, 4)
                            refine Sx.Sl.two hT 113 rfl (fun hc91 hT => ?_) (fun hc91 hT => ?_)
                            · try simp only [decide_eq_true_eq, decide_eq_false_iff_not, Bool.not_eq_true', Bool.not_eq_false', Bool.not_eq_true, Bool.not_eq_false, Bool.and_eq_true, Bool.or_eq_false_iff, beq_iff_eq, bne_iff_ne, Int.not_lt, Int.not_le, ne_eq] at hc91
                              obtain ⟨tb, htb⟩ : ∃ o, ts[i]? = some o := ⟨_, List.getElem?_eq_getElem (by omega)⟩
                              refine Sx.st_take hT rfl rfl rfl rfl (Sx.x_move hT rfl rfl) ?_
                              clear hT; intro a hT
                              refine Sx.st_take hT rfl rfl rfl rfl (Sx.x_move hT rfl rfl) ?_
                              clear hT; intro a hT
                              refine Sx.st_take hT rfl rfl rfl rfl (Sx.x_index (k := i) hT rfl Try.underlying24 Try.ti4 (by first | exact (R1.at H.ext).sv | exact (R2.at H.ext).sv | exact (R3.at H.ext).sv | exact (R4.at H.ext).sv) rfl rfl (by first | rfl | omega) (by omega)) ?_
                              clear hT; intro a hT
                              refine Sx.st_run hT rfl rfl rfl rfl (Sx.x_load1 hT rfl Try.fl4 rfl (by first | exact ((H.blk 0 rfl).nth rfl) | exact ((H.blk 1 rfl).nth rfl) | exact ((H.blk 2 rfl).nth rfl) | exact ((R1.at H.ext).cell (j := 0) ic_len hz rfl) | exact ((R2.at H.ext).cell (j := 0) fc_len hpt rfl) | exact ((R3.at H.ext).cell (j := 0) bc_len htb rfl) | exact ((R4.at H.ext).cell (j := 0) kc_len hkey rfl))) ?_
                              clear hT; intro a hT
                              refine Sx.st_take hT rfl rfl rfl rfl (Sx.x_pick_t hT rfl rfl rfl) ?_
                              clear hT; intro a hT
                              replace hT := hT.keep [118, 20, 105, 17, 18, 19, 16, 74, 15, 11, 55, 14, 13, 43, 12, 35, 32, 0, 1, 2, 3, 4] rfl
                              refine Sx.ser_nil ?_
                              refine Sx.then_normal (hK90 _ _ ?_)
                              clear hK90
                              -- cond 7
                              refine Sx.wp_if hT rfl (fun hc92 => ?_) (fun hc92 => ?_)
                              · try simp only [decide_eq_true_eq, decide_eq_false_iff_not, Bool.not_eq_true', Bool.not_eq_false', Bool.not_eq_true, Bool.not_eq_false, Bool.and_eq_true, Bool.or_eq_false_iff, beq_iff_eq, bne_iff_ne, Int.not_lt, Int.not_le, ne_eq] at hc92
                                -- region 21 (law.go:118)
                                refine Sx.wp_text [(0, .run), (1, .run), (2, .run), (3, .take)] rfl ?_
                                refine Sx.st_run hT rfl rfl rfl rfl (Sx.y_loadS hT rfl Try.underlying37 Try.ti37 rfl ((H.blk 2 rfl).seg (k := 4) rfl) (by rfl)) ?_
                                clear hT; intro a hT
                                refine Sx.st_run hT rfl rfl rfl rfl (Sx.y_loadS hT rfl Try.underlying37 Try.ti37 rfl ((H.blk 1 rfl).seg (k := 4) rfl) (by rfl)) ?_
                                clear hT; intro a hT
                                refine Sx.st_eff hT rfl rfl rfl rfl (Sx.x_bldS hT rfl Try.underlying28 Try.ti37 rfl rfl rfl rfl rfl rfl rfl _) ?_
                                clear hT; rintro _ w40 ⟨b6, rfl, N⟩ a hT
                                replace H := H.new N; clear N
                                refine Sx.st_take hT rfl rfl rfl rfl (Sx.x_assign hT rfl rfl) ?_
                                clear hT; intro a hT
                                replace hT := hT.keep [20, 118, 105, 17, 18, 19, 16, 74, 15, 11, 55, 14, 13, 43, 12, 35, 32, 0, 1, 2, 3, 4] rfl
                                refine Sx.ser_nil ?_
                                exact Sx.then_normal (hJK56 (false, b6) _ _ trivial (hT.keep [20, 105, 17, 18, 19, 16, 74, 15, 11, 55, 14, 13, 43, 12, 35, 32, 0, 1, 2, 3, 4] rfl) (H.keep [0, 2, 3, 4, 5, 6] rfl rfl))
                              · try simp only [decide_eq_true_eq, decide_eq_false_iff_not, Bool.not_eq_true', Bool.not_eq_false', Bool.not_eq_true, Bool.not_eq_false, Bool.and_eq_true, Bool.or_eq_false_iff, beq_iff_eq, bne_iff_ne, Int.not_lt, Int.not_le, ne_eq] at hc92
                                refine wp_skip ?_
                                exact Sx.then_normal (hJK56 (true, b3) _ _ trivial (hT.keep [20, 105, 17, 18, 19, 16, 74, 15, 11, 55, 14, 13, 43, 12, 35, 32, 0, 1, 2, 3, 4] rfl) (H.keep [0, 1, 2, 3, 4, 5] rfl rfl))
                            · try simp only [decide_eq_true_eq, decide_eq_false_iff_not, Bool.not_eq_true', Bool.not_eq_false', Bool.not_eq_true, Bool.not_eq_false, Bool.and_eq_true, Bool.or_eq_false_iff, beq_iff_eq, bne_iff_ne, Int.not_lt, Int.not_le, ne_eq] at hc91
                              refine Sx.st_skip hT rfl rfl rfl rfl ?_
                              clear hT; intro a hT
                              refine Sx.st_skip hT rfl rfl rfl rfl ?_
                              clear hT; intro a hT
                              refine Sx.st_skip hT rfl rfl rfl rfl ?_
                              clear hT; intro a hT
                              refine Sx.st_runskip hT rfl rfl rfl rfl ?_
                              clear hT; intro a hT
                              refine Sx.st_take hT rfl rfl rfl rfl (Sx.x_pick_f hT rfl rfl rfl) ?_
                              clear hT; intro a hT
                              replace hT := hT.keep [118, 20, 105, 17, 18, 19, 16, 74, 15, 11, 55, 14, 13, 43, 12, 35, 32, 0, 1, 2, 3, 4] rfl
                              refine Sx.ser_nil ?_
                              refine Sx.then_normal (hK90 _ _ ?_)
                              clear hK90
                              refine Sx.wp_if hT rfl (fun h => by cases h) (fun _ => ?_)
                              refine wp_skip ?_
                              exact Sx.then_normal (hJK56 (true, b3) _ _ trivial (hT.keep [20, 105, 17, 18, 19, 16, 74, 15, 11, 55, 14, 13, 43, 12, 35, 32, 0, 1, 2, 3, 4] rfl) (H.keep [0, 1, 2, 3, 4, 5] rfl rfl))
                      · clear hK51; intro hJK51
                        -- region 17 (law.go:112)
                        refine Sx.wp_drawsT (fun u => Sx.Ext (Sx.No) u) (.node [(0, .take), (1, .take), (2, .take), (3, .held), (4, .take), (5, .take), (6, .take), (7, .held), (8, .take), (9, .take), (10, .take)] (.node [(11, .run), (12, .take), (13, .take), (14, .take), (15, .take)] (.leaf [(16, .keep), (17, .keep), (18, .run), (19, .run), (20, .take)]) (.leaf [(17, .keep), (16, .keep), (18, .run), (19, .run), (20, .take)])) (.node [] (.node [(16, .keep)] (.leaf [(11, .run), (12, .take), (13, .take), (14, .take), (15, .take), (17, .keep), (18, .run), (19, .run), (20, .take)]) (.leaf [(17, .keep), (11, .run), (12, .take), (13, .take), (14, .take), (15, .take), (18, .run), (19, .run), (20, .take)])) (.node [(17, .keep)] (.leaf [(11, .run), (12, .take), (13, .take), (14, .take), (15, .take), (16, .keep), (18, .run), (19, .run), (20, .take)]) (.leaf [(16, .keep), (11, .run), (12, .take), (13, .take), (14, .take), (15, .take), (18, .run), (19, .run), (20, .take)])))) (by kernel_rfl) (by kernel_rfl) (fun u E _ => ?_)
                        refine Sx.tser_node ?_
                        replace H := H.pure E; clear E
                        have hH : Sx.Ext (Sx.No) u u := Sx.Ext.refl _ _
                        have Hu := H
                        refine Sx.st_take hT rfl rfl rfl rfl (Sx.x_move hT rfl rfl) ?_
                        clear hT; intro a hT
                        refine Sx.st_take hT rfl rfl rfl rfl (Sx.x_move hT rfl rfl) ?_
                        clear hT; intro a hT
                        refine Sx.st_take hT rfl rfl rfl rfl (Sx.x_index (k := k) hT rfl Try.underlying28 Try.ti37 (H.row 0 rfl).sv rfl rfl (by first | rfl | omega) (by omega)) ?_
                        clear hT; intro a hT
                        refine Sx.st_held hT rfl rfl rfl rfl hH (fun w' h' => Sx.y_loadS hT rfl Try.underlying37 Try.ti37 rfl (((Hu.heldR 0 rfl h' Sx.off_No).ssn rfl).cs Rg.len hr) (by rfl)) ?_
                        clear hT; intro a hT
                        refine Sx.st_take hT rfl rfl rfl rfl (Sx.x_move hT rfl rfl) ?_
                        clear hT; intro a hT
                        refine Sx.st_take hT rfl rfl rfl rfl (Sx.x_move hT rfl rfl) ?_
                        clear hT; intro a hT
                        refine Sx.st_take hT rfl rfl rfl rfl (Sx.x_index (k := i) hT rfl Try.underlying23 Try.ti35 (by first | exact (R1.at H.ext).sv | exact (R2.at H.ext).sv | exact (R3.at H.ext).sv | exact (R4.at H.ext).sv) rfl rfl (by first | rfl | omega) (by omega)) ?_
                        clear hT; intro a hT
                        refine Sx.st_held hT rfl rfl rfl rfl hH (fun w' h' => Sx.x_load1 hT rfl Try.fl35 rfl (by first | exact ((R1.at (Hu.ext.step h')).cell (j := 0) ic_len hz rfl) | exact ((R2.at (Hu.ext.step h')).cell (j := 0) fc_len hpt rfl) | exact ((R3.at (Hu.ext.step h')).cell (j := 0) bc_len htb rfl) | exact ((R4.at (Hu.ext.step h')).cell (j := 0) kc_len hkey rfl))) ?_
                        clear hT; intro a hT
                        refine Sx.st_take hT rfl rfl rfl rfl (Sx.x_move hT rfl rfl) ?_
                        clear hT; intro a hT
                        refine Sx.st_take hT rfl rfl rfl rfl (Sx.x_len_slice hT rfl rfl Try.underlying28 rfl) ?_
                        clear hT; intro a hT
                        refine Sx.st_take hT rfl rfl rfl rfl ((fun w => Sx.x_add w hT rfl rfl rfl (Sx.wrap64 (by omega)))) ?_
                        clear hT; intro a hT
                        refine Sx.ser_forkT ?_ ?_
                        · skip
                          refine Sx.tser_node ?_
                          refine Sx.st_call hT rfl rfl rfl rfl rfl Try.can11 rfl (Split4_yes r qa qb pt ((L.length : Int) + 1) hrw hsp hqa hqb _) ?_
                          rintro _ w41 ⟨rfl, E⟩
                          refine ⟨_, rfl, ?_⟩
                          clear hT; intro a hT
                          replace H := H.pure E; clear E
                          refine Sx.st_take hT rfl rfl rfl rfl (Sx.x_move hT rfl rfl) ?_
                          clear hT; intro a hT
                          refine Sx.st_take hT rfl rfl rfl rfl (Sx.x_extractL hT rfl rfl rfl) ?_
                          clear hT; intro a hT
                          refine Sx.st_take hT rfl rfl rfl rfl (Sx.x_extractL hT rfl rfl rfl) ?_
                          clear hT; intro a hT
                          refine Sx.st_take hT rfl rfl rfl rfl (Sx.x_extractL hT rfl rfl rfl) ?_
                          clear hT; intro a hT
                          refine Sx.ser_forkT ?_ ?_
                          · skip
                            refine Sx.tser_leaf ?_
                            refine Sx.st_effkeepif hT rfl rfl rfl rfl (Sx.y_alloc hT rfl Try.ti37 rfl _) ?_
                            rintro _ w42 ⟨b7, rfl, N⟩
                            refine ⟨fun h9 => h9.step N.ext, ?_⟩
                            clear hT; intro a hT
                            replace H := H.new N; clear N
                            refine Sx.st_effkeepif hT rfl rfl rfl rfl (Sx.y_alloc hT rfl Try.ti37 rfl _) ?_
                            rintro _ w43 ⟨b8, rfl, N⟩
                            refine ⟨fun h9 => h9.step N.ext, ?_⟩
                            clear hT; intro a hT
                            replace H := H.new N; clear N
                            refine Sx.st_act hT rfl rfl rfl (Sx.y_storeS hT rfl Try.ti37 rfl rfl rfl rfl rfl (H.blk 1 rfl) rfl) ?_
                            rintro w44 ⟨hb, E, _⟩
                            replace H := H.setB 1 rfl hb E rfl; clear hb E
                            refine Sx.st_act hT rfl rfl rfl (Sx.y_storeS hT rfl Try.ti37 rfl rfl rfl rfl rfl (H.blk 0 rfl) rfl) ?_
                            rintro w45 ⟨hb, E, _⟩
                            replace H := H.setB 0 rfl hb E rfl; clear hb E
                            refine Sx.st_take hT rfl rfl rfl rfl (Sx.x_assign hT rfl rfl) ?_
                            clear hT; intro a hT
                            replace hT := hT.keep [19, 18, 17, 16, 74, 15, 11, 55, 14, 13, 43, 12, 35, 32, 0, 1, 2, 3, 4] rfl
                            clear Hu hH
                            refine Sx.ser_calm ?_
                            exact Sx.then_normal (hJK51 (b7, b8) _ _ trivial (hT.keep [17, 18, 19, 16, 74, 15, 11, 55, 14, 13, 43, 12, 35, 32, 0, 1, 2, 3, 4] rfl) (H.keep [1, 0, 2, 3, 4] rfl rfl))
                          · skip
                            refine Sx.tser_leaf ?_
                            refine Sx.st_effkeepif hT rfl rfl rfl rfl (Sx.y_alloc hT rfl Try.ti37 rfl _) ?_
                            rintro _ w46 ⟨b9, rfl, N⟩
                            refine ⟨fun h9 => h9.step N.ext, ?_⟩
                            clear hT; intro a hT
                            replace H := H.new N; clear N
                            refine Sx.st_effkeepif hT rfl rfl rfl rfl (Sx.y_alloc hT rfl Try.ti37 rfl _) ?_
                            rintro _ w47 ⟨b10, rfl, N⟩
                            refine ⟨fun h9 => h9.step N.ext, ?_⟩
                            clear hT; intro a hT
                            replace H := H.new N; clear N
                            refine Sx.st_act hT rfl rfl rfl (Sx.y_storeS hT rfl Try.ti37 rfl rfl rfl rfl rfl (H.blk 0 rfl) rfl) ?_
                            rintro w48 ⟨hb, E, _⟩
                            replace H := H.setB 0 rfl hb E rfl; clear hb E
                            refine Sx.st_act hT rfl rfl rfl (Sx.y_storeS hT rfl Try.ti37 rfl rfl rfl rfl rfl (H.blk 1 rfl) rfl) ?_
                            rintro w49 ⟨hb, E, _⟩
                            replace H := H.setB 1 rfl hb E rfl; clear hb E
                            refine Sx.st_take hT rfl rfl rfl rfl (Sx.x_assign hT rfl rfl) ?_
                            clear hT; intro a hT
                            replace hT := hT.keep [19, 17, 18, 16, 74, 15, 11, 55, 14, 13, 43, 12, 35, 32, 0, 1, 2, 3, 4] rfl
                            clear Hu hH
                            refine Sx.ser_calm ?_
                            exact Sx.then_normal (hJK51 (b10, b9) _ _ trivial (hT.keep [17, 18, 19, 16, 74, 15, 11, 55, 14, 13, 43, 12, 35, 32, 0, 1, 2, 3, 4] rfl) (H.keep [0, 1, 2, 3, 4] rfl rfl))
                        · skip
                          refine Sx.tser_or ?_ ?_
                          · skip
                            refine Sx.tser_node ?_
                            refine Sx.st_effkeep hT rfl rfl rfl rfl (Sx.y_alloc hT rfl Try.ti37 rfl _) ?_
                            rintro _ w50 ⟨b11, rfl, N⟩
                            have q_b11 : u.heap.size ≤ b11 := by have h8 := hH.size; have h9 := N.at_; omega
                            refine ⟨hH.step N.ext, ?_⟩
                            replace hH := hH.step N.ext
                            clear hT; intro a hT
                            replace H := H.new N; clear N
                            refine Sx.ser_forkT ?_ ?_
                            · skip
                              refine Sx.tser_leaf ?_
                              refine Sx.st_call hT rfl rfl rfl rfl rfl Try.can11 rfl (Split4_yes r qa qb pt ((L.length : Int) + 1) hrw hsp hqa hqb _) ?_
                              rintro _ w51 ⟨rfl, E⟩
                              refine ⟨_, rfl, ?_⟩
                              clear hT; intro a hT
                              replace H := H.pure E; clear E
                              refine Sx.st_take hT rfl rfl rfl rfl (Sx.x_move hT rfl rfl) ?_
                              clear hT; intro a hT
                              refine Sx.st_take hT rfl rfl rfl rfl (Sx.x_extractL hT rfl rfl rfl) ?_
                              clear hT; intro a hT
                              refine Sx.st_take hT rfl rfl rfl rfl (Sx.x_extractL hT rfl rfl rfl) ?_
                              clear hT; intro a hT
                              refine Sx.st_take hT rfl rfl rfl rfl (Sx.x_extractL hT rfl rfl rfl) ?_
                              clear hT; intro a hT
                              refine Sx.st_effkeepif hT rfl rfl rfl rfl (Sx.y_alloc hT rfl Try.ti37 rfl _) ?_
                              rintro _ w52 ⟨b12, rfl, N⟩
                              refine ⟨fun h9 => h9.step N.ext, ?_⟩
                              clear hT; intro a hT
                              replace H := H.new N; clear N
                              refine Sx.st_act hT rfl rfl rfl (Sx.y_storeS hT rfl Try.ti37 rfl rfl rfl rfl rfl (H.blk 1 rfl) rfl) ?_
                              rintro w53 ⟨hb, E, _⟩
                              replace H := H.setB 1 rfl hb E rfl; clear hb E
                              refine Sx.st_act hT rfl rfl rfl (Sx.y_storeS hT rfl Try.ti37 rfl rfl rfl rfl rfl (H.blk 0 rfl) rfl) ?_
                              rintro w54 ⟨hb, E, _⟩
                              replace H := H.setB 0 rfl hb E rfl; clear hb E
                              refine Sx.st_take hT rfl rfl rfl rfl (Sx.x_assign hT rfl rfl) ?_
                              clear hT; intro a hT
                              replace hT := hT.keep [19, 18, 17, 16, 74, 15, 11, 55, 14, 13, 43, 12, 35, 32, 0, 1, 2, 3, 4] rfl
                              clear Hu hH
                              refine Sx.ser_calm ?_
                              exact Sx.then_normal (hJK51 (b11, b12) _ _ trivial (hT.keep [17, 18, 19, 16, 74, 15, 11, 55, 14, 13, 43, 12, 35, 32, 0, 1, 2, 3, 4] rfl) (H.keep [1, 0, 2, 3, 4] rfl rfl))
                            · skip
                              refine Sx.tser_leaf ?_
                              refine Sx.st_effkeep hT rfl rfl rfl rfl (Sx.y_alloc hT rfl Try.ti37 rfl _) ?_
                              rintro _ w55 ⟨b13, rfl, N⟩
                              have q_b13 : u.heap.size ≤ b13 := by have h8 := hH.size; have h9 := N.at_; omega
                              refine ⟨hH.step N.ext, ?_⟩
                              replace hH := hH.step N.ext
                              clear hT; intro a hT
                              replace H := H.new N; clear N
                              refine Sx.st_call hT rfl rfl rfl rfl rfl Try.can11 rfl (Split4_yes r qa qb pt ((L.length : Int) + 1) hrw hsp hqa hqb _) ?_
                              rintro _ w56 ⟨rfl, E⟩
                              refine ⟨_, rfl, ?_⟩
                              clear hT; intro a hT
                              replace H := H.pure E; clear E
                              refine Sx.st_take hT rfl rfl rfl rfl (Sx.x_move hT rfl rfl) ?_
                              clear hT; intro a hT
                              refine Sx.st_take hT rfl rfl rfl rfl (Sx.x_extractL hT rfl rfl rfl) ?_
                              clear hT; intro a hT
                              refine Sx.st_take hT rfl rfl rfl rfl (Sx.x_extractL hT rfl rfl rfl) ?_
                              clear hT; intro a hT
                              refine Sx.st_take hT rfl rfl rfl rfl (Sx.x_extractL hT rfl rfl rfl) ?_
                              clear hT; intro a hT
                              refine Sx.st_act hT rfl rfl rfl (Sx.y_storeS hT rfl Try.ti37 rfl rfl rfl rfl rfl (H.blk 1 rfl) rfl) ?_
                              rintro w57 ⟨hb, E, _⟩
                              replace H := H.setB 1 rfl hb E rfl; clear hb E
                              refine Sx.st_act hT rfl rfl rfl (Sx.y_storeS hT rfl Try.ti37 rfl rfl rfl rfl rfl (H.blk 0 rfl) rfl) ?_
                              rintro w58 ⟨hb, E, _⟩
                              replace H := H.setB 0 rfl hb E rfl; clear hb E
                              refine Sx.st_take hT rfl rfl rfl rfl (Sx.x_assign hT rfl rfl) ?_
                              clear hT; intro a hT
                              replace hT := hT.keep [19, 18, 17, 16, 74, 15, 11, 55, 14, 13, 43, 12, 35, 32, 0, 1, 2, 3, 4] rfl
                              clear Hu hH
                              refine Sx.ser_calm ?_
                              exact Sx.then_normal (hJK51 (b11, b13) _ _ trivial (hT.keep [17, 18, 19, 16, 74, 15, 11, 55, 14, 13, 43, 12, 35, 32, 0, 1, 2, 3, 4] rfl) (H.keep [1, 0, 2, 3, 4] rfl rfl))
                          · skip
                            refine Sx.tser_node ?_
                            refine Sx.st_effkeep hT rfl rfl rfl rfl (Sx.y_alloc hT rfl Try.ti37 rfl _) ?_
                            rintro _ w59 ⟨b14, rfl, N⟩
                            have q_b14 : u.heap.size ≤ b14 := by have h8 := hH.size; have h9 := N.at_; omega
                            refine ⟨hH.step N.ext, ?_⟩
                            replace hH := hH.step N.ext
                            clear hT; intro a hT
                            replace H := H.new N; clear N
                            refine Sx.ser_forkT ?_ ?_
                            · skip
                              refine Sx.tser_leaf ?_
                              refine Sx.st_call hT rfl rfl rfl rfl rfl Try.can11 rfl (Split4_yes r qa qb pt ((L.length : Int) + 1) hrw hsp hqa hqb _) ?_
                              rintro _ w60 ⟨rfl, E⟩
                              refine ⟨_, rfl, ?_⟩
                              clear hT; intro a hT
                              replace H := H.pure E; clear E
                              refine Sx.st_take hT rfl rfl rfl rfl (Sx.x_move hT rfl rfl) ?_
                              clear hT; intro a hT
                              refine Sx.st_take hT rfl rfl rfl rfl (Sx.x_extractL hT rfl rfl rfl) ?_
                              clear hT; intro a hT
                              refine Sx.st_take hT rfl rfl rfl rfl (Sx.x_extractL hT rfl rfl rfl) ?_
                              clear hT; intro a hT
                              refine Sx.st_take hT rfl rfl rfl rfl (Sx.x_extractL hT rfl rfl rfl) ?_
                              clear hT; intro a hT
                              refine Sx.st_effkeepif hT rfl rfl rfl rfl (Sx.y_alloc hT rfl Try.ti37 rfl _) ?_
                              rintro _ w61 ⟨b15, rfl, N⟩
                              refine ⟨fun h9 => h9.step N.ext, ?_⟩
                              clear hT; intro a hT
                              replace H := H.new N; clear N
                              refine Sx.st_act hT rfl rfl rfl (Sx.y_storeS hT rfl Try.ti37 rfl rfl rfl rfl rfl (H.blk 0 rfl) rfl) ?_
                              rintro w62 ⟨hb, E, _⟩
                              replace H := H.setB 0 rfl hb E rfl; clear hb E
                              refine Sx.st_act hT rfl rfl rfl (Sx.y_storeS hT rfl Try.ti37 rfl rfl rfl rfl rfl (H.blk 1 rfl) rfl) ?_
                              rintro w63 ⟨hb, E, _⟩
                              replace H := H.setB 1 rfl hb E rfl; clear hb E
                              refine Sx.st_take hT rfl rfl rfl rfl (Sx.x_assign hT rfl rfl) ?_
                              clear hT; intro a hT
                              replace hT := hT.keep [19, 17, 18, 16, 74, 15, 11, 55, 14, 13, 43, 12, 35, 32, 0, 1, 2, 3, 4] rfl
                              clear Hu hH
                              refine Sx.ser_calm ?_
                              exact Sx.then_normal (hJK51 (b15, b14) _ _ trivial (hT.keep [17, 18, 19, 16, 74, 15, 11, 55, 14, 13, 43, 12, 35, 32, 0, 1, 2, 3, 4] rfl) (H.keep [0, 1, 2, 3, 4] rfl rfl))
                            · skip
                              refine Sx.tser_leaf ?_
                              refine Sx.st_effkeep hT rfl rfl rfl rfl (Sx.y_alloc hT rfl Try.ti37 rfl _) ?_
                              rintro _ w64 ⟨b16, rfl, N⟩
                              have q_b16 : u.heap.size ≤ b16 := by have h8 := hH.size; have h9 := N.at_; omega
                              refine ⟨hH.step N.ext, ?_⟩
                              replace hH := hH.step N.ext
                              clear hT; intro a hT
                              replace H := H.new N; clear N
                              refine Sx.st_call hT rfl rfl rfl rfl rfl Try.can11 rfl (Split4_yes r qa qb pt ((L.length : Int) + 1) hrw hsp hqa hqb _) ?_
                              rintro _ w65 ⟨rfl, E⟩
                              refine ⟨_, rfl, ?_⟩
                              clear hT; intro a hT
                              replace H := H.pure E; clear E
                              refine Sx.st_take hT rfl rfl rfl rfl (Sx.x_move hT rfl rfl) ?_
                              clear hT; intro a hT
                              refine Sx.st_take hT rfl rfl rfl rfl (Sx.x_extractL hT rfl rfl rfl) ?_
                              clear hT; intro a hT
                              refine Sx.st_take hT rfl rfl rfl rfl (Sx.x_extractL hT rfl rfl rfl) ?_
                              clear hT; intro a hT
                              refine Sx.st_take hT rfl rfl rfl rfl (Sx.x_extractL hT rfl rfl rfl) ?_
                              clear hT; intro a hT
                              refine Sx.st_act hT rfl rfl rfl (Sx.y_storeS hT rfl Try.ti37 rfl rfl rfl rfl rfl (H.blk 0 rfl) rfl) ?_
                              rintro w66 ⟨hb, E, _⟩
                              replace H := H.setB 0 rfl hb E rfl; clear hb E
                              refine Sx.st_act hT rfl rfl rfl (Sx.y_storeS hT rfl Try.ti37 rfl rfl rfl rfl rfl (H.blk 1 rfl) rfl) ?_
                              rintro w67 ⟨hb, E, _⟩
                              replace H := H.setB 1 rfl hb E rfl; clear hb E
                              refine Sx.st_take hT rfl rfl rfl rfl (Sx.x_assign hT rfl rfl) ?_
                              clear hT; intro a hT
                              replace hT := hT.keep [19, 17, 18, 16, 74, 15, 11, 55, 14, 13, 43, 12, 35, 32, 0, 1, 2, 3, 4] rfl
                              clear Hu hH
                              refine Sx.ser_calm ?_
                              exact Sx.then_normal (hJK51 (b16, b14) _ _ trivial (hT.keep [17, 18, 19, 16, 74, 15, 11, 55, 14, 13, 43, 12, 35, 32, 0, 1, 2, 3, 4] rfl) (H.keep [0, 1, 2, 3, 4] rfl rfl))
                    · skip
                      refine wp_seq_k fun K93 hK93 => ?_
                      refine Sx.wp_join (G := Int) (fun g9 => [(19, .int .i64 g9)]) (fun g9 => []) (fun g9 => g9 ≠ 0) (hT.keep [16, 74, 15, 11, 55, 14, 13, 43, 12, 35, 32, 0, 1, 2, 3, 4] rfl) (H.keep [0, 1, 2] rfl rfl) hK93 ?_ ?_
                      · clear hT H hK93
                        rintro g9 a w68 hJ hT H
                        replace hT := hT.keep [19, 16, 74, 15, 11, 55, 14, 13, 43, 12, 35, 32, 0, 1, 2, 3, 4] rfl
                        replace H := H.keep [0, 1, 2] rfl rfl
                        have hg9 := hJ
                        refine wp_seq_k fun K94 hK94 => ?_
                        refine wp_seq_k fun K95 hK95 => ?_
                        -- region 18 (law.go:113)
                        refine Sx.wp_text [(0, .take), (1, .take)] rfl ?_
                        refine Sx.st_take hT rfl rfl rfl rfl (Sx.x_move hT rfl rfl) ?_
                        clear hT; intro a hT
                        refine Sx.st_take hT rfl rfl rfl rfl ((fun w => Sx.x_ne w hT rfl rfl rfl)) ?_
                        clear hT; intro a hT
                        replace hT := hT.keep [105, 19, 16, 74, 15, 11, 55, 14, 13, 43, 12, 35, 32, 0, 1, 2, 3, 4] rfl
                        refine Sx.ser_nil ?_
                        refine Sx.then_normal (hK95 _ _ ?_)
                        clear hK95
                        -- cond 6
                        refine Sx.wp_if hT rfl (fun hc96 => ?_) (fun hc96 => ?_)
                        · try simp only [decide_eq_true_eq, decide_eq_false_iff_not, Bool.not_eq_true', Bool.not_eq_false', Bool.not_eq_true, Bool.not_eq_false, Bool.and_eq_true, Bool.or_eq_false_iff, beq_iff_eq, bne_iff_ne, Int.not_lt, Int.not_le, ne_eq] at hc96
                          refine wp_exit ?_
                          refine Sx.then_exit ?_
                          refine Sx.block_exit ?_
                          refine Sx.then_normal (hK48 _ _ ?_)
                          clear hK48
                          -- region 13 (law.go:107)
                          refine Sx.wp_text [(0, .take), (1, .take), (2, .take)] rfl ?_
                          refine Sx.st_take hT rfl rfl rfl rfl (Sx.x_move hT rfl rfl) ?_
                          clear hT; intro a hT
                          refine Sx.st_take hT rfl rfl rfl rfl ((fun w => Sx.x_add w hT rfl rfl rfl (Sx.wrap64 (by omega)))) ?_
                          clear hT; intro a hT
                          refine Sx.st_take hT rfl rfl rfl rfl (Sx.x_assign hT rfl rfl) ?_
                          clear hT; intro a hT
                          replace hT := hT.keep [15, 105, 19, 16, 74, 11, 55, 14, 13, 43, 12, 35, 32, 0, 1, 2, 3, 4] rfl
                          refine Sx.ser_nil ?_
                          refine Sx.then_normal ?_
                          exact ⟨(i + 1, L, ad9, c9), ⟨by show i + 1 ≤ _; omega, hC⟩, (hT.keep [15, 11, 55, 14, 13, 43, 12, 35, 32, 0, 1, 2, 3, 4] rfl), (H.keep [0, 1, 2] rfl rfl), by show _ - (i + 1) < _ - i; omega⟩
                        · exfalso
                          try simp only [decide_eq_true_eq, decide_eq_false_iff_not, Bool.not_eq_true', Bool.not_eq_false', Bool.not_eq_true, Bool.not_eq_false, Bool.and_eq_true, Bool.or_eq_false_iff, beq_iff_eq, bne_iff_ne, Int.not_lt, Int.not_le, ne_eq] at hc96
                          first | (exact hg9 hc96) | (simp at hc96; done) | omega
                      · clear hK93; intro hJK93
                        -- region 17 (law.go:112)
                        refine Sx.wp_drawsT (fun u => Sx.Ext (Sx.No) u) (.node [(0, .take), (1, .take), (2, .take), (3, .held), (4, .take), (5, .take), (6, .take), (7, .held), (8, .take), (9, .take), (10, .take)] (.node [(11, .run), (12, .take), (13, .take), (14, .take), (15, .take)] (.leaf [(16, .keep), (17, .keep), (18, .run), (19, .run), (20, .take)]) (.leaf [(17, .keep), (16, .keep), (18, .run), (19, .run), (20, .take)])) (.node [] (.node [(16, .keep)] (.leaf [(11, .run), (12, .take), (13, .take), (14, .take), (15, .take), (17, .keep), (18, .run), (19, .run), (20, .take)]) (.leaf [(17, .keep), (11, .run), (12, .take), (13, .take), (14, .take), (15, .take), (18, .run), (19, .run), (20, .take)])) (.node [(17, .keep)] (.leaf [(11, .run), (12, .take), (13, .take), (14, .take), (15, .take), (16, .keep), (18, .run), (19, .run), (20, .take)]) (.leaf [(16, .keep), (11, .run), (12, .take), (13, .take), (14, .take), (15, .take), (18, .run), (19, .run), (20, .take)])))) (by kernel_rfl) (by kernel_rfl) (fun u E _ => ?_)
                        refine Sx.tser_node ?_
                        replace H := H.pure E; clear E
                        have hH : Sx.Ext (Sx.No) u u := Sx.Ext.refl _ _
                        have Hu := H
                        refine Sx.st_take hT rfl rfl rfl rfl (Sx.x_move hT rfl rfl) ?_
                        clear hT; intro a hT
                        refine Sx.st_take hT rfl rfl rfl rfl (Sx.x_move hT rfl rfl) ?_
                        clear hT; intro a hT
                        refine Sx.st_take hT rfl rfl rfl rfl (Sx.x_index (k := k) hT rfl Try.underlying28 Try.ti37 (H.row 0 rfl).sv rfl rfl (by first | rfl | omega) (by omega)) ?_
                        clear hT; intro a hT
                        refine Sx.st_held hT rfl rfl rfl rfl hH (fun w' h' => Sx.y_loadS hT rfl Try.underlying37 Try.ti37 rfl (((Hu.heldR 0 rfl h' Sx.off_No).ssn rfl).cs Rg.len hr) (by rfl)) ?_
                        clear hT; intro a hT
                        refine Sx.st_take hT rfl rfl rfl rfl (Sx.x_move hT rfl rfl) ?_
                        clear hT; intro a hT
                        refine Sx.st_take hT rfl rfl rfl rfl (Sx.x_move hT rfl rfl) ?_
                        clear hT; intro a hT
                        refine Sx.st_take hT rfl rfl rfl rfl (Sx.x_index (k := i) hT rfl Try.underlying23 Try.ti35 (by first | exact (R1.at H.ext).sv | exact (R2.at H.ext).sv | exact (R3.at H.ext).sv | exact (R4.at H.ext).sv) rfl rfl (by first | rfl | omega) (by omega)) ?_
                        clear hT; intro a hT
                        refine Sx.st_held hT rfl rfl rfl rfl hH (fun w' h' => Sx.x_load1 hT rfl Try.fl35 rfl (by first | exact ((R1.at (Hu.ext.step h')).cell (j := 0) ic_len hz rfl) | exact ((R2.at (Hu.ext.step h')).cell (j := 0) fc_len hpt rfl) | exact ((R3.at (Hu.ext.step h')).cell (j := 0) bc_len htb rfl) | exact ((R4.at (Hu.ext.step h')).cell (j := 0) kc_len hkey rfl))) ?_
                        clear hT; intro a hT
                        refine Sx.st_take hT rfl rfl rfl rfl (Sx.x_move hT rfl rfl) ?_
                        clear hT; intro a hT
                        refine Sx.st_take hT rfl rfl rfl rfl (Sx.x_len_slice hT rfl rfl Try.underlying28 rfl) ?_
                        clear hT; intro a hT
                        refine Sx.st_take hT rfl rfl rfl rfl ((fun w => Sx.x_add w hT rfl rfl rfl (Sx.wrap64 (by omega)))) ?_
                        clear hT; intro a hT
                        refine Sx.ser_forkT ?_ ?_
                        · skip
                          refine Sx.tser_node ?_
                          refine Sx.st_call hT rfl rfl rfl rfl rfl Try.can11 rfl (Split4_no r pt ((L.length : Int) + 1) hrw hsp _) ?_
                          rintro _ w69 ⟨g8, rfl, hg8, E⟩
                          refine ⟨_, rfl, ?_⟩
                          clear hT; intro a hT
                          replace H := H.pure E; clear E
                          refine Sx.st_take hT rfl rfl rfl rfl (Sx.x_move hT rfl rfl) ?_
                          clear hT; intro a hT
                          refine Sx.st_take hT rfl rfl rfl rfl (Sx.x_extractL hT rfl rfl rfl) ?_
                          clear hT; intro a hT
                          refine Sx.st_take hT rfl rfl rfl rfl (Sx.x_extractL hT rfl rfl rfl) ?_
                          clear hT; intro a hT
                          refine Sx.st_take hT rfl rfl rfl rfl (Sx.x_extractL hT rfl rfl rfl) ?_
                          clear hT; intro a hT
                          refine Sx.ser_forkT ?_ ?_
                          · skip
                            refine Sx.tser_leaf ?_
                            refine Sx.st_effkeepif hT rfl rfl rfl rfl (Sx.y_alloc hT rfl Try.ti37 rfl _) ?_
                            rintro _ w70 ⟨b17, rfl, N⟩
                            refine ⟨fun h9 => h9.step N.ext, ?_⟩
                            clear hT; intro a hT
                            replace H := H.new N; clear N
                            refine Sx.st_effkeepif hT rfl rfl rfl rfl (Sx.y_alloc hT rfl Try.ti37 rfl _) ?_
                            rintro _ w71 ⟨b18, rfl, N⟩
                            refine ⟨fun h9 => h9.step N.ext, ?_⟩
                            clear hT; intro a hT
                            replace H := H.new N; clear N
                            refine Sx.st_act hT rfl rfl rfl (Sx.y_storeS hT rfl Try.ti37 rfl rfl rfl rfl rfl (H.blk 1 rfl) rfl) ?_
                            rintro w72 ⟨hb, E, _⟩
                            replace H := H.setB 1 rfl hb E rfl; clear hb E
                            refine Sx.st_act hT rfl rfl rfl (Sx.y_storeS hT rfl Try.ti37 rfl rfl rfl rfl rfl (H.blk 0 rfl) rfl) ?_
                            rintro w73 ⟨hb, E, _⟩
                            replace H := H.setB 0 rfl hb E rfl; clear hb E
                            refine Sx.st_take hT rfl rfl rfl rfl (Sx.x_assign hT rfl rfl) ?_
                            clear hT; intro a hT
                            replace hT := hT.keep [19, 18, 17, 16, 74, 15, 11, 55, 14, 13, 43, 12, 35, 32, 0, 1, 2, 3, 4] rfl
                            clear Hu hH
                            refine Sx.ser_calm ?_
                            exact Sx.then_normal (hJK93 g8 _ _ hg8 (hT.keep [19, 16, 74, 15, 11, 55, 14, 13, 43, 12, 35, 32, 0, 1, 2, 3, 4] rfl) (H.keep [2, 3, 4] rfl rfl))
                          · skip
                            refine Sx.tser_leaf ?_
                            refine Sx.st_effkeepif hT rfl rfl rfl rfl (Sx.y_alloc hT rfl Try.ti37 rfl _) ?_
                            rintro _ w74 ⟨b19, rfl, N⟩
                            refine ⟨fun h9 => h9.step N.ext, ?_⟩
                            clear hT; intro a hT
                            replace H := H.new N; clear N
                            refine Sx.st_effkeepif hT rfl rfl rfl rfl (Sx.y_alloc hT rfl Try.ti37 rfl _) ?_
                            rintro _ w75 ⟨b20, rfl, N⟩
                            refine ⟨fun h9 => h9.step N.ext, ?_⟩
                            clear hT; intro a hT
                            replace H := H.new N; clear N
                            refine Sx.st_act hT rfl rfl rfl (Sx.y_storeS hT rfl Try.ti37 rfl rfl rfl rfl rfl (H.blk 0 rfl) rfl) ?_
                            rintro w76 ⟨hb, E, _⟩
                            replace H := H.setB 0 rfl hb E rfl; clear hb E
                            refine Sx.st_act hT rfl rfl rfl (Sx.y_storeS hT rfl Try.ti37 rfl rfl rfl rfl rfl (H.blk 1 rfl) rfl) ?_
                            rintro w77 ⟨hb, E, _⟩
                            replace H := H.setB 1 rfl hb E rfl; clear hb E
                            refine Sx.st_take hT rfl rfl rfl rfl (Sx.x_assign hT rfl rfl) ?_
                            clear hT; intro a hT
                            replace hT := hT.keep [19, 17, 18, 16, 74, 15, 11, 55, 14, 13, 43, 12, 35, 32, 0, 1, 2, 3, 4] rfl
                            clear Hu hH
                            refine Sx.ser_calm ?_
                            exact Sx.then_normal (hJK93 g8 _ _ hg8 (hT.keep [19, 16, 74, 15, 11, 55, 14, 13, 43, 12, 35, 32, 0, 1, 2, 3, 4] rfl) (H.keep [2, 3, 4] rfl rfl))
                        · skip
                          refine Sx.tser_or ?_ ?_
                          · skip
                            refine Sx.tser_node ?_
                            refine Sx.st_effkeep hT rfl rfl rfl rfl (Sx.y_alloc hT rfl Try.ti37 rfl _) ?_
                            rintro _ w78 ⟨b21, rfl, N⟩
                            have q_b21 : u.heap.size ≤ b21 := by have h8 := hH.size; have h9 := N.at_; omega
                            refine ⟨hH.step N.ext, ?_⟩
                            replace hH := hH.step N.ext
                            clear hT; intro a hT
                            replace H := H.new N; clear N
                            refine Sx.ser_forkT ?_ ?_
                            · skip
                              refine Sx.tser_leaf ?_
                              refine Sx.st_call hT rfl rfl rfl rfl rfl Try.can11 rfl (Split4_no r pt ((L.length : Int) + 1) hrw hsp _) ?_
                              rintro _ w79 ⟨g8, rfl, hg8, E⟩
                              refine ⟨_, rfl, ?_⟩
                              clear hT; intro a hT
                              replace H := H.pure E; clear E
                              refine Sx.st_take hT rfl rfl rfl rfl (Sx.x_move hT rfl rfl) ?_
                              clear hT; intro a hT
                              refine Sx.st_take hT rfl rfl rfl rfl (Sx.x_extractL hT rfl rfl rfl) ?_
                              clear hT; intro a hT
                              refine Sx.st_take hT rfl rfl rfl rfl (Sx.x_extractL hT rfl rfl rfl) ?_
                              clear hT; intro a hT
                              refine Sx.st_take hT rfl rfl rfl rfl (Sx.x_extractL hT rfl rfl rfl) ?_
                              clear hT; intro a hT
                              refine Sx.st_effkeepif hT rfl rfl rfl rfl (Sx.y_alloc hT rfl Try.ti37 rfl _) ?_
                              rintro _ w80 ⟨b22, rfl, N⟩
                              refine ⟨fun h9 => h9.step N.ext, ?_⟩
                              clear hT; intro a hT
                              replace H := H.new N; clear N
                              refine Sx.st_act hT rfl rfl rfl (Sx.y_storeS hT rfl Try.ti37 rfl rfl rfl rfl rfl (H.blk 1 rfl) rfl) ?_
                              rintro w81 ⟨hb, E, _⟩
                              replace H := H.setB 1 rfl hb E rfl; clear hb E
                              refine Sx.st_act hT rfl rfl rfl (Sx.y_storeS hT rfl Try.ti37 rfl rfl rfl rfl rfl (H.blk 0 rfl) rfl) ?_
                              rintro w82 ⟨hb, E, _⟩
                              replace H := H.setB 0 rfl hb E rfl; clear hb E
                              refine Sx.st_take hT rfl rfl rfl rfl (Sx.x_assign hT rfl rfl) ?_
                              clear hT; intro a hT
                              replace hT := hT.keep [19, 18, 17, 16, 74, 15, 11, 55, 14, 13, 43, 12, 35, 32, 0, 1, 2, 3, 4] rfl
                              clear Hu hH
                              refine Sx.ser_calm ?_
                              exact Sx.then_normal (hJK93 g8 _ _ hg8 (hT.keep [19, 16, 74, 15, 11, 55, 14, 13, 43, 12, 35, 32, 0, 1, 2, 3, 4] rfl) (H.keep [2, 3, 4] rfl rfl))
                            · skip
                              refine Sx.tser_leaf ?_
                              refine Sx.st_effkeep hT rfl rfl rfl rfl (Sx.y_alloc hT rfl Try.ti37 rfl _) ?_
                              rintro _ w83 ⟨b23, rfl, N⟩
                              have q_b23 : u.heap.size ≤ b23 := by have h8 := hH.size; have h9 := N.at_; omega
                              refine ⟨hH.step N.ext, ?_⟩
                              replace hH := hH.step N.ext
                              clear hT; intro a hT
                              replace H := H.new N; clear N
                              refine Sx.st_call hT rfl rfl rfl rfl rfl Try.can11 rfl (Split4_no r pt ((L.length : Int) + 1) hrw hsp _) ?_
                              rintro _ w84 ⟨g8, rfl, hg8, E⟩
                              refine ⟨_, rfl, ?_⟩
                              clear hT; intro a hT
                              replace H := H.pure E; clear E
                              refine Sx.st_take hT rfl rfl rfl rfl (Sx.x_move hT rfl rfl) ?_
                              clear hT; intro a hT
                              refine Sx.st_take hT rfl rfl rfl rfl (Sx.x_extractL hT rfl rfl rfl) ?_
                              clear hT; intro a hT
                              refine Sx.st_take hT rfl rfl rfl rfl (Sx.x_extractL hT rfl rfl rfl) ?_
                              clear hT; intro a hT
                              refine Sx.st_take hT rfl rfl rfl rfl (Sx.x_extractL hT rfl rfl rfl) ?_
                              clear hT; intro a hT
                              refine Sx.st_act hT rfl rfl rfl (Sx.y_storeS hT rfl Try.ti37 rfl rfl rfl rfl rfl (H.blk 1 rfl) rfl) ?_
                              rintro w85 ⟨hb, E, _⟩
                              replace H := H.setB 1 rfl hb E rfl; clear hb E
                              refine Sx.st_act hT rfl rfl rfl (Sx.y_storeS hT rfl Try.ti37 rfl rfl rfl rfl rfl (H.blk 0 rfl) rfl) ?_
                              rintro w86 ⟨hb, E, _⟩
                              replace H := H.setB 0 rfl hb E rfl; clear hb E
                              refine Sx.st_take hT rfl rfl rfl rfl (Sx.x_assign hT rfl rfl) ?_
                              clear hT; intro a hT
                              replace hT := hT.keep [19, 18, 17, 16, 74, 15, 11, 55, 14, 13, 43, 12, 35, 32, 0, 1, 2, 3, 4] rfl
                              clear Hu hH
                              refine Sx.ser_calm ?_
                              exact Sx.then_normal (hJK93 g8 _ _ hg8 (hT.keep [19, 16, 74, 15, 11, 55, 14, 13, 43, 12, 35, 32, 0, 1, 2, 3, 4] rfl) (H.keep [2, 3, 4] rfl rfl))
                          · skip
                            refine Sx.tser_node ?_
                            refine Sx.st_effkeep hT rfl rfl rfl rfl (Sx.y_alloc hT rfl Try.ti37 rfl _) ?_
                            rintro _ w87 ⟨b24, rfl, N⟩
                            have q_b24 : u.heap.size ≤ b24 := by have h8 := hH.size; have h9 := N.at_; omega
                            refine ⟨hH.step N.ext, ?_⟩
                            replace hH := hH.step N.ext
                            clear hT; intro a hT
                            replace H := H.new N; clear N
                            refine Sx.ser_forkT ?_ ?_
                            · skip
                              refine Sx.tser_leaf ?_
                              refine Sx.st_call hT rfl rfl rfl rfl rfl Try.can11 rfl (Split4_no r pt ((L.length : Int) + 1) hrw hsp _) ?_
                              rintro _ w88 ⟨g8, rfl, hg8, E⟩
                              refine ⟨_, rfl, ?_⟩
                              clear hT; intro a hT
                              replace H := H.pure E; clear E
                              refine Sx.st_take hT rfl rfl rfl rfl (Sx.x_move hT rfl rfl) ?_
                              clear hT; intro a hT
                              refine Sx.st_take hT rfl rfl rfl rfl (Sx.x_extractL hT rfl rfl rfl) ?_
                              clear hT; intro a hT
                              refine Sx.st_take hT rfl rfl rfl rfl (Sx.x_extractL hT rfl rfl rfl) ?_
                              clear hT; intro a hT
                              refine Sx.st_take hT rfl rfl rfl rfl (Sx.x_extractL hT rfl rfl rfl) ?_
                              clear hT; intro a hT
                              refine Sx.st_effkeepif hT rfl rfl rfl rfl (Sx.y_alloc hT rfl Try.ti37 rfl _) ?_
                              rintro _ w89 ⟨b25, rfl, N⟩
                              refine ⟨fun h9 => h9.step N.ext, ?_⟩
                              clear hT; intro a hT
                              replace H := H.new N; clear N
                              refine Sx.st_act hT rfl rfl rfl (Sx.y_storeS hT rfl Try.ti37 rfl rfl rfl rfl rfl (H.blk 0 rfl) rfl) ?_
                              rintro w90 ⟨hb, E, _⟩
                              replace H := H.setB 0 rfl hb E rfl; clear hb E
                              refine Sx.st_act hT rfl rfl rfl (Sx.y_storeS hT rfl Try.ti37 rfl rfl rfl rfl rfl (H.blk 1 rfl) rfl) ?_
                              rintro w91 ⟨hb, E, _⟩
                              replace H := H.setB 1 rfl hb E rfl; clear hb E
                              refine Sx.st_take hT rfl rfl rfl rfl (Sx.x_assign hT rfl rfl) ?_
                              clear hT; intro a hT
                              replace hT := hT.keep [19, 17, 18, 16, 74, 15, 11, 55, 14, 13, 43, 12, 35, 32, 0, 1, 2, 3, 4] rfl
                              clear Hu hH
                              refine Sx.ser_calm ?_
                              exact Sx.then_normal (hJK93 g8 _ _ hg8 (hT.keep [19, 16, 74, 15, 11, 55, 14, 13, 43, 12, 35, 32, 0, 1, 2, 3, 4] rfl) (H.keep [2, 3, 4] rfl rfl))
                            · skip
                              refine Sx.tser_leaf ?_
                              refine Sx.st_effkeep hT rfl rfl rfl rfl (Sx.y_alloc hT rfl Try.ti37 rfl _) ?_
                              rintro _ w92 ⟨b26, rfl, N⟩
                              have q_b26 : u.heap.size ≤ b26 := by have h8 := hH.size; have h9 := N.at_; omega
                              refine ⟨hH.step N.ext, ?_⟩
                              replace hH := hH.step N.ext
                              clear hT; intro a hT
                              replace H := H.new N; clear N
                              refine Sx.st_call hT rfl rfl rfl rfl rfl Try.can11 rfl (Split4_no r pt ((L.length : Int) + 1) hrw hsp _) ?_
                              rintro _ w93 ⟨g8, rfl, hg8, E⟩
                              refine ⟨_, rfl, ?_⟩
                              clear hT; intro a hT
                              replace H := H.pure E; clear E
                              refine Sx.st_take hT rfl rfl rfl rfl (Sx.x_move hT rfl rfl) ?_
                              clear hT; intro a hT
                              refine Sx.st_take hT rfl rfl rfl rfl (Sx.x_extractL hT rfl rfl rfl) ?_
                              clear hT; intro a hT
                              refine Sx.st_take hT rfl rfl rfl rfl (Sx.x_extractL hT rfl rfl rfl) ?_
                              clear hT; intro a hT
                              refine Sx.st_take hT rfl rfl rfl rfl (Sx.x_extractL hT rfl rfl rfl) ?_
                              clear hT; intro a hT
                              refine Sx.st_act hT rfl rfl rfl (Sx.y_storeS hT rfl Try.ti37 rfl rfl rfl rfl rfl (H.blk 0 rfl) rfl) ?_
                              rintro w94 ⟨hb, E, _⟩
                              replace H := H.setB 0 rfl hb E rfl; clear hb E
                              refine Sx.st_act hT rfl rfl rfl (Sx.y_storeS hT rfl Try.ti37 rfl rfl rfl rfl rfl (H.blk 1 rfl) rfl) ?_
                              rintro w95 ⟨hb, E, _⟩
                              replace H := H.setB 1 rfl hb E rfl; clear hb E
                              refine Sx.st_take hT rfl rfl rfl rfl (Sx.x_assign hT rfl rfl) ?_
                              clear hT; intro a hT
                              replace hT := hT.keep [19, 17, 18, 16, 74, 15, 11, 55, 14, 13, 43, 12, 35, 32, 0, 1, 2, 3, 4] rfl
                              clear Hu hH
                              refine Sx.ser_calm ?_
                              exact Sx.then_normal (hJK93 g8 _ _ hg8 (hT.keep [19, 16, 74, 15, 11, 55, 14, 13, 43, 12, 35, 32, 0, 1, 2, 3, 4] rfl) (H.keep [2, 3, 4] rfl rfl))
                  · clear hK50; intro hJK50
                    refine wp_seq_k fun K97 hK97 => ?_
                    -- region 15 (law.go:109)
                    refine Sx.wp_text [(0, .take), (1, .take)] rfl ?_
                    refine Sx.st_take hT rfl rfl rfl rfl (Sx.x_move hT rfl rfl) ?_
                    clear hT; intro a hT
                    refine Sx.st_take hT rfl rfl rfl rfl ((fun w => Sx.x_lt w hT rfl rfl rfl)) ?_
                    clear hT; intro a hT
                    replace hT := hT.keep [85, 16, 74, 15, 11, 55, 14, 13, 43, 12, 35, 32, 0, 1, 2, 3, 4] rfl
                    refine Sx.ser_nil ?_
                    refine Sx.then_normal (hK97 _ _ ?_)
                    clear hK97
                    -- cond 5
                    refine Sx.wp_if hT rfl (fun hc98 => ?_) (fun hc98 => ?_)
                    · try simp only [decide_eq_true_eq, decide_eq_false_iff_not, Bool.not_eq_true', Bool.not_eq_false', Bool.not_eq_true, Bool.not_eq_false, Bool.and_eq_true, Bool.or_eq_false_iff, beq_iff_eq, bne_iff_ne, Int.not_lt, Int.not_le, ne_eq] at hc98
                      -- region 16 (law.go:110)
                      refine Sx.wp_text [(0, .take), (1, .take), (2, .take)] rfl ?_
                      refine Sx.st_take hT rfl rfl rfl rfl (Sx.x_move hT rfl rfl) ?_
                      clear hT; intro a hT
                      refine Sx.st_take hT rfl rfl rfl rfl ((fun w => Sx.x_neg w hT rfl rfl (Sx.wrap64 (by omega)))) ?_
                      clear hT; intro a hT
                      refine Sx.st_take hT rfl rfl rfl rfl (Sx.x_assign hT rfl rfl) ?_
                      clear hT; intro a hT
                      replace hT := hT.keep [16, 85, 74, 15, 11, 55, 14, 13, 43, 12, 35, 32, 0, 1, 2, 3, 4] rfl
                      refine Sx.ser_nil ?_
                      exact Sx.then_normal (hJK50 (-r9).toNat _ _ (by omega) ((hT.keep [16, 74, 15, 11, 55, 14, 13, 43, 12, 35, 32, 0, 1, 2, 3, 4] rfl).conv (by rw [Int.toNat_of_nonneg (by omega)]; try rfl)) (H.keep [0, 1, 2] rfl rfl))
                    · try simp only [decide_eq_true_eq, decide_eq_false_iff_not, Bool.not_eq_true', Bool.not_eq_false', Bool.not_eq_true, Bool.not_eq_false, Bool.and_eq_true, Bool.or_eq_false_iff, beq_iff_eq, bne_iff_ne, Int.not_lt, Int.not_le, ne_eq] at hc98
                      refine wp_skip ?_
                      exact Sx.then_normal (hJK50 r9.toNat _ _ (by omega) ((hT.keep [16, 74, 15, 11, 55, 14, 13, 43, 12, 35, 32, 0, 1, 2, 3, 4] rfl).conv (by rw [Int.toNat_of_nonneg (by omega)]; try rfl)) (H.keep [0, 1, 2] rfl rfl))
                · try simp only [decide_eq_true_eq, decide_eq_false_iff_not, Bool.not_eq_true', Bool.not_eq_false', Bool.not_eq_true, Bool.not_eq_false, Bool.and_eq_true, Bool.or_eq_false_iff, beq_iff_eq, bne_iff_ne, Int.not_lt, Int.not_le, ne_eq] at hc47
                  refine wp_exit ?_
                  refine Sx.then_exit ?_
                  refine Sx.then_exit ?_
                  refine Sx.block_exit ?_
                  exact Sx.then_normal (hJK16 (L, ad9, c9) _ _ hC (hT.keep [11, 55, 14, 13, 43, 12, 35, 32, 0, 1, 2, 3, 4] rfl) (H.keep [0, 1, 2] rfl rfl))
              · try simp only [decide_eq_true_eq, decide_eq_false_iff_not, Bool.not_eq_true', Bool.not_eq_false', Bool.not_eq_true, Bool.not_eq_false, Bool.and_eq_true, Bool.or_eq_false_iff, beq_iff_eq, bne_iff_ne, Int.not_lt, Int.not_le, ne_eq] at hc46
                refine Sx.st_skip hT rfl rfl rfl rfl ?_
                clear hT; intro a hT
                refine Sx.st_skip hT rfl rfl rfl rfl ?_
                clear hT; intro a hT
                refine Sx.st_skip hT rfl rfl rfl rfl ?_
                clear hT; intro a hT
                refine Sx.st_take hT rfl rfl rfl rfl (Sx.x_pick_f hT rfl rfl rfl) ?_
                clear hT; intro a hT
                replace hT := hT.keep [74, 15, 11, 55, 14, 13, 43, 12, 35, 32, 0, 1, 2, 3, 4] rfl
                refine Sx.ser_nil ?_
                refine Sx.then_normal (hK43 _ _ ?_)
                clear hK43
                refine Sx.wp_if hT rfl (fun h => by cases h) (fun _ => ?_)
                refine wp_exit ?_
                refine Sx.then_exit ?_
                refine Sx.then_exit ?_
                refine Sx.block_exit ?_
                exact Sx.then_normal (hJK16 (L, ad9, c9) _ _ hC (hT.keep [11, 55, 14, 13, 43, 12, 35, 32, 0, 1, 2, 3, 4] rfl) (H.keep [0, 1, 2] rfl rfl))
            · try simp only [decide_eq_true_eq, decide_eq_false_iff_not, Bool.not_eq_true', Bool.not_eq_false', Bool.not_eq_true, Bool.not_eq_false, Bool.and_eq_true, Bool.or_eq_false_iff, beq_iff_eq, bne_iff_ne, Int.not_lt, Int.not_le, ne_eq] at hc45
              refine Sx.st_skip hT rfl rfl rfl rfl ?_
              clear hT; intro a hT
              refine Sx.st_skip hT rfl rfl rfl rfl ?_
              clear hT; intro a hT
              refine Sx.st_take hT rfl rfl rfl rfl (Sx.x_pick_f hT rfl rfl rfl) ?_
              clear hT; intro a hT
              refine Sx.st_take hT rfl rfl rfl rfl (Sx.x_move hT rfl rfl) ?_
              clear hT; intro a hT
              refine Sx.st_skip hT rfl rfl rfl rfl ?_
              clear hT; intro a hT
              refine Sx.st_skip hT rfl rfl rfl rfl ?_
              clear hT; intro a hT
              refine Sx.st_skip hT rfl rfl rfl rfl ?_
              clear hT; intro a hT
              refine Sx.st_take hT rfl rfl rfl rfl (Sx.x_pick_f hT rfl rfl rfl) ?_
              clear hT; intro a hT
              replace hT := hT.keep [74, 15, 11, 55, 14, 13, 43, 12, 35, 32, 0, 1, 2, 3, 4] rfl
              refine Sx.ser_nil ?_
              refine Sx.then_normal (hK43 _ _ ?_)
              clear hK43
              refine Sx.wp_if hT rfl (fun h => by cases h) (fun _ => ?_)
              refine wp_exit ?_
              refine Sx.then_exit ?_
              refine Sx.then_exit ?_
              refine Sx.block_exit ?_
              exact Sx.then_normal (hJK16 (L, ad9, c9) _ _ hC (hT.keep [11, 55, 14, 13, 43, 12, 35, 32, 0, 1, 2, 3, 4] rfl) (H.keep [0, 1, 2] rfl rfl))
          · try simp only [decide_eq_true_eq, decide_eq_false_iff_not, Bool.not_eq_true', Bool.not_eq_false', Bool.not_eq_true, Bool.not_eq_false, Bool.and_eq_true, Bool.or_eq_false_iff, beq_iff_eq, bne_iff_ne, Int.not_lt, Int.not_le, ne_eq] at hc44
            refine Sx.st_skip hT rfl rfl rfl rfl ?_
            clear hT; intro a hT
            refine Sx.st_skip hT rfl rfl rfl rfl ?_
            clear hT; intro a hT
            refine Sx.st_skip hT rfl rfl rfl rfl ?_
            clear hT; intro a hT
            refine Sx.st_skip hT rfl rfl rfl rfl ?_
            clear hT; intro a hT
            refine Sx.st_take hT rfl rfl rfl rfl (Sx.x_pick_f hT rfl rfl rfl) ?_
            clear hT; intro a hT
            refine Sx.st_take hT rfl rfl rfl rfl (Sx.x_move hT rfl rfl) ?_
            clear hT; intro a hT
            refine Sx.st_skip hT rfl rfl rfl rfl ?_
            clear hT; intro a hT
            refine Sx.st_skip hT rfl rfl rfl rfl ?_
            clear hT; intro a hT
            refine Sx.st_take hT rfl rfl rfl rfl (Sx.x_pick_f hT rfl rfl rfl) ?_
            clear hT; intro a hT
            refine Sx.st_take hT rfl rfl rfl rfl (Sx.x_move hT rfl rfl) ?_
            clear hT; intro a hT
            refine Sx.st_skip hT rfl rfl rfl rfl ?_
            clear hT; intro a hT
            refine Sx.st_skip hT rfl rfl rfl rfl ?_
            clear hT; intro a hT
            refine Sx.st_skip hT rfl rfl rfl rfl ?_
            clear hT; intro a hT
            refine Sx.st_take hT rfl rfl rfl rfl (Sx.x_pick_f hT rfl rfl rfl) ?_
            clear hT; intro a hT
            replace hT := hT.keep [74, 15, 11, 55, 14, 13, 43, 12, 35, 32, 0, 1, 2, 3, 4] rfl
            refine Sx.ser_nil ?_
            refine Sx.then_normal (hK43 _ _ ?_)
            clear hK43
            refine Sx.wp_if hT rfl (fun h => by cases h) (fun _ => ?_)
            refine wp_exit ?_
            refine Sx.then_exit ?_
            refine Sx.then_exit ?_
            refine Sx.block_exit ?_
            exact Sx.then_normal (hJK16 (L, ad9, c9) _ _ hC (hT.keep [11, 55, 14, 13, 43, 12, 35, 32, 0, 1, 2, 3, 4] rfl) (H.keep [0, 1, 2] rfl rfl))

theorem Splits_no (n : Int) (hn : n < 1 ∨ 12 < n) {ad1 : Option Addr} {c1 : Nat} (wh : List Int) {ad2 : Option Addr} {c2 : Nat} (ps : List Nat) {ad3 : Option Addr} {c3 : Nat} (ts : List Bool) {ad4 : Option Addr} {c4 : Nat} (ks : List (List UInt8)) {w : World} (hs1 : Ss w ad1 ic 1 wh) (hs2 : Ss w ad2 fc 1 ps) (hs3 : Ss w ad3 bc 1 ts) (hs4 : Ss w ad4 kc 1 ks) (hks : ks.length ≤ 9223372036854775807) (hkb : ∀ l ∈ ks, l.length ≤ 9223372036854775807) (hpb : ∀ b ∈ ps, b < 2 ^ 64) : Calls Try.prog 3 #[.int .i64 n, .slice ad1 wh.length c1, .slice ad2 ps.length c2, .slice ad3 ts.length c3, .slice ad4 ks.length c4] w fun e w' => e = .returned (.bool true) ∧ Ext No w w' := by
  have R4 : Ro w No _ := Ro.of fun w' x => hs4.ext_no x
  refine Sx.calls_into Try.func3 rfl Try.ntmps3 rfl fun a hT => ?_
  replace hT := hT.keep [0, 1, 2, 3, 4] rfl
  have H : Sx.Hp w (Sx.No) w [] := Sx.Hp.start _ _
  refine wp_seq_k fun K1 hK1 => ?_
  -- region 0 (law.go:92)
  refine Sx.wp_text [(0, .take)] rfl ?_
  refine Sx.st_take hT rfl rfl rfl rfl (Sx.x_assign hT rfl rfl) ?_
  clear hT; intro a hT
  replace hT := hT.keep [10, 0, 1, 2, 3, 4] rfl
  refine Sx.ser_nil ?_
  refine Sx.then_normal (hK1 _ _ ?_)
  clear hK1
  refine wp_seq_k fun K2 hK2 => ?_
  refine wp_seq_k fun K3 hK3 => ?_
  -- region 1 (law.go:93)
  refine Sx.wp_text [(0, .run), (1, .take)] rfl ?_
  refine Sx.st_call hT rfl rfl rfl rfl rfl Try.can7 rfl (first_calls _) ?_
  rintro _ w1 ⟨rfl, E⟩
  refine ⟨_, rfl, ?_⟩
  clear hT; intro a hT
  replace H := H.pure E; clear E
  refine Sx.st_take hT rfl rfl rfl rfl (Sx.x_not hT rfl rfl) ?_
  clear hT; intro a hT
  replace hT := hT.keep [32, 10, 0, 1, 2, 3, 4] rfl
  refine Sx.ser_nil ?_
  refine Sx.then_normal (hK3 _ _ ?_)
  clear hK3
  refine Sx.wp_if hT rfl (fun h => by cases h) (fun _ => ?_)
  refine wp_skip ?_
  refine Sx.then_normal (hK2 _ _ ?_)
  clear hK2
  refine wp_seq_k fun K4 hK4 => ?_
  refine wp_seq_k fun K5 hK5 => ?_
  -- region 3 (law.go:96)
  refine Sx.wp_text [(0, .take), (1, .run), (2, .take)] rfl ?_
  refine Sx.st_take hT rfl rfl rfl rfl (Sx.x_move hT rfl rfl) ?_
  clear hT; intro a hT
  refine Sx.st_call hT rfl rfl rfl rfl rfl Try.can8 rfl (few_calls ks (R4.at H.ext) hks) ?_
  rintro _ w2 ⟨bf, rfl, E⟩
  refine ⟨_, rfl, ?_⟩
  clear hT; intro a hT
  replace H := H.pure E; clear E
  refine Sx.st_take hT rfl rfl rfl rfl (Sx.x_not hT rfl rfl) ?_
  clear hT; intro a hT
  replace hT := hT.keep [35, 32, 10, 0, 1, 2, 3, 4] rfl
  refine Sx.ser_nil ?_
  refine Sx.then_normal (hK5 _ _ ?_)
  clear hK5
  -- cond 1
  refine Sx.wp_if hT rfl (fun hc6 => ?_) (fun hc6 => ?_)
  · try simp only [decide_eq_true_eq, decide_eq_false_iff_not, Bool.not_eq_true', Bool.not_eq_false', Bool.not_eq_true, Bool.not_eq_false, Bool.and_eq_true, Bool.or_eq_false_iff, beq_iff_eq, bne_iff_ne, Int.not_lt, Int.not_le, ne_eq] at hc6
    refine wp_seq_k fun K7 hK7 => ?_
    -- region 4 (law.go:97)
    refine Sx.wp_text [(0, .run), (1, .take)] rfl ?_
    refine Sx.st_call hT rfl rfl rfl rfl rfl Try.can7 rfl (first_calls _) ?_
    rintro _ w3 ⟨rfl, E⟩
    refine ⟨_, rfl, ?_⟩
    clear hT; intro a hT
    replace H := H.pure E; clear E
    refine Sx.st_take hT rfl rfl rfl rfl (Sx.x_assign hT rfl rfl) ?_
    clear hT; intro a hT
    replace hT := hT.keep [10, 35, 32, 0, 1, 2, 3, 4] rfl
    refine Sx.ser_nil ?_
    refine Sx.then_normal (hK7 _ _ ?_)
    clear hK7
    refine wp_ret ?_
    refine Sx.then_ret ?_
    refine Sx.done1 (fn := Try.f3) hT rfl (.tmp (hT.get 10 _ rfl)) ?_
    exact ⟨rfl, H.ext⟩
  · try simp only [decide_eq_true_eq, decide_eq_false_iff_not, Bool.not_eq_true', Bool.not_eq_false', Bool.not_eq_true, Bool.not_eq_false, Bool.and_eq_true, Bool.or_eq_false_iff, beq_iff_eq, bne_iff_ne, Int.not_lt, Int.not_le, ne_eq] at hc6
    refine wp_skip ?_
    refine Sx.then_normal (hK4 _ _ ?_)
    clear hK4
    refine wp_seq_k fun K8 hK8 => ?_
    -- region 5 (law.go:99)
    refine Sx.wp_text [(0, .take), (1, .run), (2, .take), (3, .take), (4, .take), (5, .take), (6, .take)] rfl ?_
    refine Sx.st_take hT rfl rfl rfl rfl (Sx.x_move hT rfl rfl) ?_
    clear hT; intro a hT
    refine Sx.st_call hT rfl rfl rfl rfl rfl Try.can9 rfl (Even_no n hn _) ?_
    rintro _ w4 ⟨rfl, E⟩
    refine ⟨_, rfl, ?_⟩
    clear hT; intro a hT
    replace H := H.pure E; clear E
    refine Sx.st_take hT rfl rfl rfl rfl (Sx.x_move hT rfl rfl) ?_
    clear hT; intro a hT
    refine Sx.st_take hT rfl rfl rfl rfl (Sx.x_extractL hT rfl rfl rfl) ?_
    clear hT; intro a hT
    refine Sx.st_take hT rfl rfl rfl rfl (Sx.x_extractL hT rfl rfl rfl) ?_
    clear hT; intro a hT
    refine Sx.st_take hT rfl rfl rfl rfl (Sx.x_assign hT rfl rfl) ?_
    clear hT; intro a hT
    refine Sx.st_take hT rfl rfl rfl rfl (Sx.x_assign hT rfl rfl) ?_
    clear hT; intro a hT
    replace hT := hT.keep [12, 11, 35, 32, 10, 0, 1, 2, 3, 4] rfl
    refine Sx.ser_nil ?_
    refine Sx.then_normal (hK8 _ _ ?_)
    clear hK8
    refine wp_seq_k fun K9 hK9 => ?_
    refine wp_seq_k fun K10 hK10 => ?_
    -- region 6 (law.go:100)
    refine Sx.wp_text [(0, .take), (1, .take)] rfl ?_
    refine Sx.st_take hT rfl rfl rfl rfl (Sx.x_move hT rfl rfl) ?_
    clear hT; intro a hT
    refine Sx.st_take hT rfl rfl rfl rfl ((fun w => Sx.x_ne w hT rfl rfl rfl)) ?_
    clear hT; intro a hT
    replace hT := hT.keep [43, 12, 11, 35, 32, 10, 0, 1, 2, 3, 4] rfl
    refine Sx.ser_nil ?_
    refine Sx.then_normal (hK10 _ _ ?_)
    clear hK10
    -- cond 2
    refine Sx.wp_if hT rfl (fun hc11 => ?_) (fun hc11 => ?_)
    · try simp only [decide_eq_true_eq, decide_eq_false_iff_not, Bool.not_eq_true', Bool.not_eq_false', Bool.not_eq_true, Bool.not_eq_false, Bool.and_eq_true, Bool.or_eq_false_iff, beq_iff_eq, bne_iff_ne, Int.not_lt, Int.not_le, ne_eq] at hc11
      refine wp_seq_k fun K12 hK12 => ?_
      -- region 7 (law.go:101)
      refine Sx.wp_text [(0, .run), (1, .take)] rfl ?_
      refine Sx.st_call hT rfl rfl rfl rfl rfl Try.can7 rfl (first_calls _) ?_
      rintro _ w5 ⟨rfl, E⟩
      refine ⟨_, rfl, ?_⟩
      clear hT; intro a hT
      replace H := H.pure E; clear E
      refine Sx.st_take hT rfl rfl rfl rfl (Sx.x_assign hT rfl rfl) ?_
      clear hT; intro a hT
      replace hT := hT.keep [10, 43, 12, 11, 35, 32, 0, 1, 2, 3, 4] rfl
      refine Sx.ser_nil ?_
      refine Sx.then_normal (hK12 _ _ ?_)
      clear hK12
      refine wp_ret ?_
      refine Sx.then_ret ?_
      refine Sx.done1 (fn := Try.f3) hT rfl (.tmp (hT.get 10 _ rfl)) ?_
      exact ⟨rfl, H.ext⟩
    · exfalso
      try simp only [decide_eq_true_eq, decide_eq_false_iff_not, Bool.not_eq_true', Bool.not_eq_false', Bool.not_eq_true, Bool.not_eq_false, Bool.and_eq_true, Bool.or_eq_false_iff, beq_iff_eq, bne_iff_ne, Int.not_lt, Int.not_le, ne_eq] at hc11
      simp at hc11

end Go.Proofs.Ytakohabmcgponaa
