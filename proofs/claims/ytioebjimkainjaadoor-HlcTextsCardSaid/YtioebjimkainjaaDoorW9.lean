/- Walks: a text as a stamp, by definition; HlcTexts. -/
import Derived.Test.YtioebjimkainjaaDoorW8
set_option linter.unusedSimpArgs false
set_option linter.unusedVariables false
namespace Go.Proofs.YtioebjimkainjaaDoor
open Sx
theorem Tryd.can8 : Sx.Can Tryd.prog 8 := ⟨_, Tryd.func8, by kernel_rfl, rfl⟩
theorem Tryd.can32 : Sx.Can Tryd.prog 32 := ⟨_, Tryd.func32, by kernel_rfl, rfl⟩
structure RJ (s : List UInt8) (k d : Nat) (ns : List Int) (i : Nat) : Prop where
  all : rdAll (some ⟨0, 0, [0, 0, 0]⟩) (s.take i) = some ⟨k, d, ns⟩
  ile : i ≤ s.length
  kle : k ≤ 2
  dle : d ≤ 16
  len : ns.length = 3
  bnd : ∀ v ∈ ns, 0 ≤ v ∧ v < 10000000000000000
  low : ns.getD k 0 < ((10 ^ d : Nat) : Int)
  zero : ∀ j, k < j → ns.getD j 0 = 0
theorem RJ.init (s : List UInt8) : RJ s 0 0 [0, 0, 0] 0 := ⟨rfl, Nat.zero_le _, by decide, by decide, rfl, by simp, by decide, fun j hj => by
  match j, hj with
  | 1, _ => rfl
  | 2, _ => rfl
  | j + 3, _ => rfl⟩
theorem RJ.dot {s : List UInt8} {k d : Nat} {ns : List Int} {i : Nat} (h : RJ s k d ns i) {c : UInt8} (hc : s[i]? = some c) (h1 : c.toNat = 46 ∧ 0 < d ∧ k < 2) : RJ s (k + 1) 0 ns (i + 1) := by
  have hi := (List.getElem?_eq_some_iff.1 hc).1
  refine ⟨?_, by omega, by omega, by decide, h.len, h.bnd, by rw [h.zero (k + 1) (by omega)]; decide, fun j hj => h.zero j (by omega)⟩
  rw [rdAll_snoc hc, h.all]
  simp only [Option.bind_some, rd]
  rw [if_pos h1]
theorem RJ.dig {s : List UInt8} {k d : Nat} {ns : List Int} {i : Nat} (h : RJ s k d ns i) {c : UInt8} (hc : s[i]? = some c) (h0 : ¬ (c.toNat = 46 ∧ 0 < d ∧ k < 2)) (h1 : (48 ≤ c.toNat ∧ c.toNat ≤ 57) ∧ d < 16) :
    0 ≤ ns.getD k 0 ∧ ns.getD k 0 < 1000000000000000 ∧ RJ s k (d + 1) (ns.set k (10 * ns.getD k 0 + ((c.toNat - 48 : Nat) : Int))) (i + 1) := by
  have hi := (List.getElem?_eq_some_iff.1 hc).1
  have hk : k < ns.length := by have := h.len; have := h.kle; omega
  have hlow := h.low
  have hp : (10 ^ d : Nat) ≤ 10 ^ 15 := Nat.pow_le_pow_right (by decide) (by omega)
  have h15 : (10 ^ 15 : Nat) = 1000000000000000 := by decide
  have hge : 0 ≤ ns.getD k 0 := by
    have e9 : ns.getD k 0 = ns[k] := by simp [List.getD, hk]
    rw [e9]
    exact (h.bnd _ (List.getElem_mem hk)).1
  have hget : ∀ v : Int, (ns.set k v).getD k 0 = v := fun v => by simp [List.getD, hk]
  have hps : (10 ^ (d + 1) : Nat) = 10 * 10 ^ d := by rw [Nat.pow_succ, Nat.mul_comm]
  refine ⟨hge, by omega, ?_, by omega, h.kle, by omega, by simp [h.len], fun v hv => ?_, ?_, fun j hj => ?_⟩
  · rw [rdAll_snoc hc, h.all]
    simp only [Option.bind_some, rd]
    rw [if_neg h0, if_pos h1]
  · rcases List.mem_or_eq_of_mem_set hv with h2 | h2
    · exact h.bnd v h2
    · subst h2; omega
  · rw [hget, hps]; omega
  · have := h.zero j hj
    simp only [List.getD] at this ⊢
    rw [List.getElem?_set_ne (by omega)]
    exact this
theorem RJ.dead {s : List UInt8} {k d : Nat} {ns : List Int} {i : Nat} (h : RJ s k d ns i) {c : UInt8} (hc : s[i]? = some c) (h0 : ¬ (c.toNat = 46 ∧ 0 < d ∧ k < 2)) (h1 : ¬ ((48 ≤ c.toNat ∧ c.toNat ≤ 57) ∧ d < 16)) (t : Stamp) (ht : may t = true) : s ≠ printS t := fun hs => by
  obtain ⟨d', h9⟩ := rd_print t ht
  rw [← hs, rdAll_dead hc h.all (by simp only [rd]; rw [if_neg h0, if_neg h1])] at h9
  cases h9
theorem RJ.fin {s : List UInt8} {k d : Nat} {ns : List Int} (h : RJ s k d ns s.length) {a b c : Int} (hn : ns = [a, b, c]) (t : Stamp) (ht : may t = true) (hs : s = printS t) : t = ⟨a, b, c⟩ := by
  obtain ⟨d', h9⟩ := rd_print t ht
  have h8 := h.all
  rw [List.take_length, hs, h9] at h8
  simp only [Option.some.injEq, RS.mk.injEq] at h8
  have h7 := h8.2.2
  rw [hn] at h7
  simp only [List.cons.injEq, and_true] at h7
  obtain ⟨x, y, z⟩ := t
  simp only at h7
  rw [h7.1, h7.2.1, h7.2.2]

theorem xParse_calls (s : List UInt8) (hs : s.length ≤ 2000) (w : World) : Calls Tryd.prog 32 #[.string ⟨s.toArray⟩] w fun e w' => ∃ x y z r, e = .returned (.tuple #[.agg #[.int .i64 x, .int .i64 y, .int .i64 z], .int .i64 r]) ∧ Parsed s x y z r ∧ Ext No w w' := by
  refine Sx.calls_into Tryd.func32 rfl Tryd.ntmps32 rfl fun a hT => ?_
  replace hT := hT.keep [0] rfl
  have H : Sx.Hp w (Sx.No) w [] := Sx.Hp.start _ _
  refine wp_seq_k fun K1 hK1 => ?_
  -- region 0 (ref.go:73)
  refine Sx.wp_text [(0, .run), (1, .take)] rfl ?_
  refine Sx.st_eff hT rfl rfl rfl rfl (Sx.y_alloc hT rfl Tryd.ti23 rfl _) ?_
  clear hT; rintro _ w1 ⟨b1, rfl, N⟩ a hT
  replace H := H.new N; clear N
  refine Sx.st_take hT rfl rfl rfl rfl (Sx.x_assign hT rfl rfl) ?_
  clear hT; intro a hT
  replace hT := hT.keep [3, 2, 0] rfl
  refine Sx.ser_nil ?_
  refine Sx.then_normal (hK1 _ _ ?_)
  clear hK1
  refine wp_seq_k fun K2 hK2 => ?_
  -- region 1 (ref.go:74)
  refine Sx.wp_text [(0, .run)] rfl ?_
  refine Sx.st_eff hT rfl rfl rfl rfl (Sx.y_alloc hT rfl Tryd.ti61 rfl _) ?_
  clear hT; rintro _ w2 ⟨b2, rfl, N⟩ a hT
  replace H := H.new N; clear N
  replace hT := hT.keep [4, 3, 2, 0] rfl
  refine Sx.ser_nil ?_
  refine Sx.then_normal (hK2 _ _ ?_)
  clear hK2
  refine wp_seq_k fun K3 hK3 => ?_
  -- region 2 (ref.go:75)
  refine Sx.wp_text [(0, .take)] rfl ?_
  refine Sx.st_take hT rfl rfl rfl rfl (Sx.x_assign hT rfl rfl) ?_
  clear hT; intro a hT
  replace hT := hT.keep [5, 4, 3, 2, 0] rfl
  refine Sx.ser_nil ?_
  refine Sx.then_normal (hK3 _ _ ?_)
  clear hK3
  refine wp_seq_k fun K4 hK4 => ?_
  -- region 3 (ref.go:76)
  refine Sx.wp_text [(0, .take)] rfl ?_
  refine Sx.st_take hT rfl rfl rfl rfl (Sx.x_assign hT rfl rfl) ?_
  clear hT; intro a hT
  replace hT := hT.keep [6, 5, 4, 3, 2, 0] rfl
  refine Sx.ser_nil ?_
  refine Sx.then_normal (hK4 _ _ ?_)
  clear hK4
  refine wp_seq_k fun K5 hK5 => ?_
  refine wp_seq_k fun K6 hK6 => ?_
  -- region 4 (ref.go:77)
  refine Sx.wp_text [(0, .take)] rfl ?_
  refine Sx.st_take hT rfl rfl rfl rfl (Sx.x_assign hT rfl rfl) ?_
  clear hT; intro a hT
  replace hT := hT.keep [7, 6, 5, 4, 3, 2, 0] rfl
  refine Sx.ser_nil ?_
  refine Sx.then_normal (hK6 _ _ ?_)
  clear hK6
  refine wp_block ?_
  -- loop 0
  refine Sx.wp_loopH (G := Nat × Nat × List Int × Nat) (fun ⟨k, d, ns, i⟩ => [(5, .int .i64 (k : Int)), (6, .int .i64 (d : Int)), (7, .int .i64 (i : Int))]) (fun ⟨k, d, ns, i⟩ => [cB b2 (arr ns) 61]) (fun ⟨k, d, ns, i⟩ => RJ s k d ns i) (fun ⟨k, d, ns, i⟩ => s.length - i) (0, 0, [0, 0, 0], 0) (hT.keep [5, 6, 7, 4, 2, 0] rfl) (H.keep [0, 1] rfl rfl) (RJ.init s) ?_
  clear hT H
  rintro ⟨k, d, ns, i⟩ a w3 hJ hT H
  replace hT := hT.keep [5, 6, 7, 4, 2, 0] rfl
  replace H := H.keep [0, 1] rfl rfl
  have hj : RJ s k d ns i := hJ
  have hjk := hj.kle
  have hjd := hj.dle
  have hji := hj.ile
  refine wp_seq_k fun K7 hK7 => ?_
  refine wp_seq_k fun K8 hK8 => ?_
  -- region 5 (ref.go:77)
  refine Sx.wp_text [(0, .take), (1, .take), (2, .take), (3, .take)] rfl ?_
  refine Sx.st_take hT rfl rfl rfl rfl (Sx.x_move hT rfl rfl) ?_
  clear hT; intro a hT
  refine Sx.st_take hT rfl rfl rfl rfl (Sx.x_move hT rfl rfl) ?_
  clear hT; intro a hT
  refine Sx.st_take hT rfl rfl rfl rfl (Sx.x_lenStr hT rfl rfl Tryd.underlying9 rfl) ?_
  clear hT; intro a hT
  refine Sx.st_take hT rfl rfl rfl rfl ((fun w => Sx.x_lt w hT rfl rfl rfl)) ?_
  clear hT; intro a hT
  replace hT := hT.keep [13, 5, 6, 7, 4, 2, 0] rfl
  refine Sx.ser_nil ?_
  refine Sx.then_normal (hK8 _ _ ?_)
  clear hK8
  -- cond 0
  refine Sx.wp_if hT rfl (fun hc9 => ?_) (fun hc9 => ?_)
  · try simp only [decide_eq_true_eq, decide_eq_false_iff_not, Bool.not_eq_true', Bool.not_eq_false', Bool.not_eq_true, Bool.not_eq_false, Bool.and_eq_true, Bool.or_eq_false_iff, beq_iff_eq, bne_iff_ne, Int.not_lt, Int.not_le, ne_eq] at hc9
    obtain ⟨ch, hix⟩ : ∃ o, s[i]? = some o := ⟨_, List.getElem?_eq_getElem (by omega)⟩
    refine wp_skip ?_
    refine Sx.then_normal (hK7 _ _ ?_)
    clear hK7
    refine wp_seq_k fun K10 hK10 => ?_
    refine wp_block ?_
    refine wp_seq_k fun K11 hK11 => ?_
    -- region 7 (ref.go:78)
    refine Sx.wp_text [(0, .take), (1, .take), (2, .take), (3, .take)] rfl ?_
    refine Sx.st_take hT rfl rfl rfl rfl (Sx.x_move hT rfl rfl) ?_
    clear hT; intro a hT
    refine Sx.st_take hT rfl rfl rfl rfl (Sx.x_move hT rfl rfl) ?_
    clear hT; intro a hT
    refine Sx.st_take hT rfl rfl rfl rfl (Sx.x_indexStr hT rfl Tryd.underlying9 rfl rfl rfl hix) ?_
    clear hT; intro a hT
    refine Sx.st_take hT rfl rfl rfl rfl (Sx.x_assign hT rfl rfl) ?_
    clear hT; intro a hT
    replace hT := hT.keep [8, 13, 5, 6, 7, 4, 2, 0] rfl
    refine Sx.ser_nil ?_
    refine Sx.then_normal (hK11 _ _ ?_)
    clear hK11
    refine wp_block ?_
    refine wp_seq_k fun K12 hK12 => ?_
    -- region 9 (ref.go:80)
    refine Sx.wp_text [(0, .take), (1, .take), (2, .take), (3, .take), (4, .take), (5, .take), (6, .take), (7, .take), (8, .take), (9, .take), (10, .take)] rfl ?_
    refine Sx.st_take hT rfl rfl rfl rfl (Sx.x_move hT rfl rfl) ?_
    clear hT; intro a hT
    refine Sx.st_take hT rfl rfl rfl rfl ((fun w => Sx.x_eq w hT rfl rfl rfl)) ?_
    clear hT; intro a hT
    refine Sx.st_take hT rfl rfl rfl rfl (Sx.x_move hT rfl rfl) ?_
    clear hT; intro a hT
    -- guard (9, 2)
    refine Sx.Sl.two hT 23 rfl (fun hc13 hT => ?_) (fun hc13 hT => ?_)
    · try simp only [decide_eq_true_eq, decide_eq_false_iff_not, Bool.not_eq_true', Bool.not_eq_false', Bool.not_eq_true, Bool.not_eq_false, Bool.and_eq_true, Bool.or_eq_false_iff, beq_iff_eq, bne_iff_ne, Int.not_lt, Int.not_le, ne_eq] at hc13
      refine Sx.st_take hT rfl rfl rfl rfl (Sx.x_move hT rfl rfl) ?_
      clear hT; intro a hT
      refine Sx.st_take hT rfl rfl rfl rfl ((fun w => Sx.x_gt w hT rfl rfl rfl)) ?_
      clear hT; intro a hT
      refine Sx.st_take hT rfl rfl rfl rfl (Sx.x_pick_t hT rfl rfl rfl) ?_
      clear hT; intro a hT
      refine Sx.st_take hT rfl rfl rfl rfl (Sx.x_move hT rfl rfl) ?_
      clear hT; intro a hT
      -- guard (9, 6)
      refine Sx.Sl.two hT 27 rfl (fun hc14 hT => ?_) (fun hc14 hT => ?_)
      · try simp only [decide_eq_true_eq, decide_eq_false_iff_not, Bool.not_eq_true', Bool.not_eq_false', Bool.not_eq_true, Bool.not_eq_false, Bool.and_eq_true, Bool.or_eq_false_iff, beq_iff_eq, bne_iff_ne, Int.not_lt, Int.not_le, ne_eq] at hc14
        refine Sx.st_take hT rfl rfl rfl rfl (Sx.x_move hT rfl rfl) ?_
        clear hT; intro a hT
        refine Sx.st_take hT rfl rfl rfl rfl ((fun w => Sx.x_lt w hT rfl rfl rfl)) ?_
        clear hT; intro a hT
        refine Sx.st_take hT rfl rfl rfl rfl (Sx.x_pick_t hT rfl rfl rfl) ?_
        clear hT; intro a hT
        refine Sx.st_take hT rfl rfl rfl rfl (Sx.x_assign hT rfl rfl) ?_
        clear hT; intro a hT
        replace hT := hT.keep [20, 8, 13, 5, 6, 7, 4, 2, 0] rfl
        refine Sx.ser_nil ?_
        refine Sx.then_normal (hK12 _ _ ?_)
        clear hK12
        -- cond 1
        refine Sx.wp_if hT rfl (fun hc15 => ?_) (fun hc15 => ?_)
        · try simp only [decide_eq_true_eq, decide_eq_false_iff_not, Bool.not_eq_true', Bool.not_eq_false', Bool.not_eq_true, Bool.not_eq_false, Bool.and_eq_true, Bool.or_eq_false_iff, beq_iff_eq, bne_iff_ne, Int.not_lt, Int.not_le, ne_eq] at hc15
          refine wp_seq_k fun K16 hK16 => ?_
          -- region 10 (ref.go:81)
          refine Sx.wp_text [(0, .take), (1, .take), (2, .take)] rfl ?_
          refine Sx.st_take hT rfl rfl rfl rfl (Sx.x_move hT rfl rfl) ?_
          clear hT; intro a hT
          refine Sx.st_take hT rfl rfl rfl rfl ((fun w => Sx.x_add w hT rfl rfl rfl (Sx.wrap64 (by omega)))) ?_
          clear hT; intro a hT
          refine Sx.st_take hT rfl rfl rfl rfl (Sx.x_assign hT rfl rfl) ?_
          clear hT; intro a hT
          replace hT := hT.keep [5, 20, 8, 13, 6, 7, 4, 2, 0] rfl
          refine Sx.ser_nil ?_
          refine Sx.then_normal (hK16 _ _ ?_)
          clear hK16
          -- region 11 (ref.go:82)
          refine Sx.wp_text [(0, .take)] rfl ?_
          refine Sx.st_take hT rfl rfl rfl rfl (Sx.x_assign hT rfl rfl) ?_
          clear hT; intro a hT
          replace hT := hT.keep [6, 5, 20, 8, 13, 7, 4, 2, 0] rfl
          refine Sx.ser_nil ?_
          refine Sx.block_normal ?_
          refine Sx.block_normal ?_
          refine Sx.then_normal (hK10 _ _ ?_)
          clear hK10
          -- region 6 (ref.go:77)
          refine Sx.wp_text [(0, .take), (1, .take), (2, .take)] rfl ?_
          refine Sx.st_take hT rfl rfl rfl rfl (Sx.x_move hT rfl rfl) ?_
          clear hT; intro a hT
          refine Sx.st_take hT rfl rfl rfl rfl ((fun w => Sx.x_add w hT rfl rfl rfl (Sx.wrap64 (by omega)))) ?_
          clear hT; intro a hT
          refine Sx.st_take hT rfl rfl rfl rfl (Sx.x_assign hT rfl rfl) ?_
          clear hT; intro a hT
          replace hT := hT.keep [7, 6, 5, 20, 8, 13, 4, 2, 0] rfl
          refine Sx.ser_nil ?_
          refine Sx.then_normal ?_
          exact ⟨(k + 1, 0, ns, i + 1), hj.dot hix (by omega), (hT.keep [5, 6, 7, 4, 2, 0] rfl), (H.keep [0, 1] rfl rfl), by show _ - (i + 1) < _ - i; omega⟩
        · try simp only [decide_eq_true_eq, decide_eq_false_iff_not, Bool.not_eq_true', Bool.not_eq_false', Bool.not_eq_true, Bool.not_eq_false, Bool.and_eq_true, Bool.or_eq_false_iff, beq_iff_eq, bne_iff_ne, Int.not_lt, Int.not_le, ne_eq] at hc15
          refine wp_seq_k fun K17 hK17 => ?_
          -- region 12 (ref.go:83)
          refine Sx.wp_text [(0, .take), (1, .take), (2, .take), (3, .take), (4, .take), (5, .take), (6, .take), (7, .take), (8, .take), (9, .take), (10, .take)] rfl ?_
          refine Sx.st_take hT rfl rfl rfl rfl (Sx.x_move hT rfl rfl) ?_
          clear hT; intro a hT
          refine Sx.st_take hT rfl rfl rfl rfl ((fun w => Sx.x_ge w hT rfl rfl rfl)) ?_
          clear hT; intro a hT
          refine Sx.st_take hT rfl rfl rfl rfl (Sx.x_move hT rfl rfl) ?_
          clear hT; intro a hT
          -- guard (12, 2)
          refine Sx.Sl.two hT 36 rfl (fun hc18 hT => ?_) (fun hc18 hT => ?_)
          · try simp only [decide_eq_true_eq, decide_eq_false_iff_not, Bool.not_eq_true', Bool.not_eq_false', Bool.not_eq_true, Bool.not_eq_false, Bool.and_eq_true, Bool.or_eq_false_iff, beq_iff_eq, bne_iff_ne, Int.not_lt, Int.not_le, ne_eq] at hc18
            refine Sx.st_take hT rfl rfl rfl rfl (Sx.x_move hT rfl rfl) ?_
            clear hT; intro a hT
            refine Sx.st_take hT rfl rfl rfl rfl ((fun w => Sx.x_le w hT rfl rfl rfl)) ?_
            clear hT; intro a hT
            refine Sx.st_take hT rfl rfl rfl rfl (Sx.x_pick_t hT rfl rfl rfl) ?_
            clear hT; intro a hT
            refine Sx.st_take hT rfl rfl rfl rfl (Sx.x_move hT rfl rfl) ?_
            clear hT; intro a hT
            -- guard (12, 6)
            refine Sx.Sl.two hT 40 rfl (fun hc19 hT => ?_) (fun hc19 hT => ?_)
            · try simp only [decide_eq_true_eq, decide_eq_false_iff_not, Bool.not_eq_true', Bool.not_eq_false', Bool.not_eq_true, Bool.not_eq_false, Bool.and_eq_true, Bool.or_eq_false_iff, beq_iff_eq, bne_iff_ne, Int.not_lt, Int.not_le, ne_eq] at hc19
              refine Sx.st_take hT rfl rfl rfl rfl (Sx.x_move hT rfl rfl) ?_
              clear hT; intro a hT
              refine Sx.st_take hT rfl rfl rfl rfl ((fun w => Sx.x_lt w hT rfl rfl rfl)) ?_
              clear hT; intro a hT
              refine Sx.st_take hT rfl rfl rfl rfl (Sx.x_pick_t hT rfl rfl rfl) ?_
              clear hT; intro a hT
              refine Sx.st_take hT rfl rfl rfl rfl (Sx.x_assign hT rfl rfl) ?_
              clear hT; intro a hT
              replace hT := hT.keep [33, 20, 8, 13, 5, 6, 7, 4, 2, 0] rfl
              refine Sx.ser_nil ?_
              refine Sx.then_normal (hK17 _ _ ?_)
              clear hK17
              -- cond 2
              refine Sx.wp_if hT rfl (fun hc20 => ?_) (fun hc20 => ?_)
              · try simp only [decide_eq_true_eq, decide_eq_false_iff_not, Bool.not_eq_true', Bool.not_eq_false', Bool.not_eq_true, Bool.not_eq_false, Bool.and_eq_true, Bool.or_eq_false_iff, beq_iff_eq, bne_iff_ne, Int.not_lt, Int.not_le, ne_eq] at hc20
                refine wp_seq_k fun K21 hK21 => ?_
                -- region 13 (ref.go:84)
                obtain ⟨hn0, hn1, hj2⟩ := hj.dig hix (by omega) (by omega)
                refine Sx.wp_text [(0, .take), (1, .take), (2, .take), (3, .run), (4, .take), (5, .take), (6, .take), (7, .take), (8, .take), (9, .take), (10, .run)] rfl ?_
                refine Sx.st_take hT rfl rfl rfl rfl (Sx.x_move hT rfl rfl) ?_
                clear hT; intro a hT
                refine Sx.st_take hT rfl rfl rfl rfl (Sx.x_move hT rfl rfl) ?_
                clear hT; intro a hT
                refine Sx.st_take hT rfl rfl rfl rfl (Sx.x_indexAddr_array (k := k) hT rfl Tryd.underlying61 Tryd.ti3 rfl rfl rfl (by omega)) ?_
                clear hT; intro a hT
                refine Sx.st_run hT rfl rfl rfl rfl (Sx.x_load1 hT rfl Tryd.fl3 rfl ((H.blk 0 rfl).cell (by rw [show 0 + k * 1 = k from by omega]; exact arr_get k (by omega)))) ?_
                clear hT; intro a hT
                refine Sx.st_take hT rfl rfl rfl rfl ((fun w => Sx.x_mul w hT rfl rfl rfl (Sx.wrap64 (by omega)))) ?_
                clear hT; intro a hT
                refine Sx.st_take hT rfl rfl rfl rfl (Sx.x_move hT rfl rfl) ?_
                clear hT; intro a hT
                refine Sx.st_take hT rfl rfl rfl rfl ((fun w => Sx.x_sub w hT rfl rfl rfl (Sx.wrap8 (by omega)))) ?_
                clear hT; intro a hT
                refine Sx.st_take hT rfl rfl rfl rfl ((fun w => Sx.x_toint w hT rfl Tryd.underlying5 Tryd.underlying3 rfl (Sx.wrap64 (by omega)))) ?_
                clear hT; intro a hT
                refine Sx.st_take hT rfl rfl rfl rfl ((fun w => Sx.x_add w hT rfl rfl rfl (Sx.wrap64 (by omega)))) ?_
                clear hT; intro a hT
                refine Sx.st_take hT rfl rfl rfl rfl (Sx.x_indexAddr_array (k := k) hT rfl Tryd.underlying61 Tryd.ti3 rfl rfl rfl (by omega)) ?_
                clear hT; intro a hT
                refine Sx.st_act hT rfl rfl rfl (Sx.x_store1 hT rfl Tryd.ti3 rfl rfl rfl (H.blk 0 rfl) (by simp [arr]; omega)) ?_
                rintro w4 ⟨hb, E, _⟩
                replace H := H.setB 0 rfl hb E rfl; clear hb E
                rw [show (ch.toNat : Int) - 48 = ((ch.toNat - 48 : Nat) : Int) from by omega, show 0 + k * 1 = k from by omega, arr_set3 hj.len k (by omega)] at H
                replace hT := hT.keep [33, 20, 8, 13, 5, 6, 7, 4, 2, 0] rfl
                refine Sx.ser_nil ?_
                refine Sx.then_normal (hK21 _ _ ?_)
                clear hK21
                -- region 14 (ref.go:85)
                refine Sx.wp_text [(0, .take), (1, .take), (2, .take)] rfl ?_
                refine Sx.st_take hT rfl rfl rfl rfl (Sx.x_move hT rfl rfl) ?_
                clear hT; intro a hT
                refine Sx.st_take hT rfl rfl rfl rfl ((fun w => Sx.x_add w hT rfl rfl rfl (Sx.wrap64 (by omega)))) ?_
                clear hT; intro a hT
                refine Sx.st_take hT rfl rfl rfl rfl (Sx.x_assign hT rfl rfl) ?_
                clear hT; intro a hT
                replace hT := hT.keep [6, 33, 20, 8, 13, 5, 7, 4, 2, 0] rfl
                refine Sx.ser_nil ?_
                refine Sx.block_normal ?_
                refine Sx.block_normal ?_
                refine Sx.then_normal (hK10 _ _ ?_)
                clear hK10
                -- region 6 (ref.go:77)
                refine Sx.wp_text [(0, .take), (1, .take), (2, .take)] rfl ?_
                refine Sx.st_take hT rfl rfl rfl rfl (Sx.x_move hT rfl rfl) ?_
                clear hT; intro a hT
                refine Sx.st_take hT rfl rfl rfl rfl ((fun w => Sx.x_add w hT rfl rfl rfl (Sx.wrap64 (by omega)))) ?_
                clear hT; intro a hT
                refine Sx.st_take hT rfl rfl rfl rfl (Sx.x_assign hT rfl rfl) ?_
                clear hT; intro a hT
                replace hT := hT.keep [7, 6, 33, 20, 8, 13, 5, 4, 2, 0] rfl
                refine Sx.ser_nil ?_
                refine Sx.then_normal ?_
                exact ⟨(k, d + 1, ns.set k (10 * ns.getD k 0 + ((ch.toNat - 48 : Nat) : Int)), i + 1), hj2, (hT.keep [5, 6, 7, 4, 2, 0] rfl), (H.keep [0, 1] rfl rfl), by show _ - (i + 1) < _ - i; omega⟩
              · try simp only [decide_eq_true_eq, decide_eq_false_iff_not, Bool.not_eq_true', Bool.not_eq_false', Bool.not_eq_true, Bool.not_eq_false, Bool.and_eq_true, Bool.or_eq_false_iff, beq_iff_eq, bne_iff_ne, Int.not_lt, Int.not_le, ne_eq] at hc20
                refine wp_seq_k fun K22 hK22 => ?_
                -- region 8 (ref.go:87)
                refine Sx.wp_text [(0, .take), (1, .run), (2, .take)] rfl ?_
                refine Sx.st_take hT rfl rfl rfl rfl (Sx.x_bld hT rfl Tryd.bld23 rfl rfl) ?_
                clear hT; intro a hT
                refine Sx.st_act hT rfl rfl rfl (Sx.y_storeS hT rfl Tryd.ti23 rfl rfl rfl rfl rfl (H.blk 1 rfl) rfl) ?_
                rintro w5 ⟨hb, E, _⟩
                replace H := H.setB 1 rfl hb E rfl; clear hb E
                refine Sx.st_take hT rfl rfl rfl rfl (Sx.x_assign hT rfl rfl) ?_
                clear hT; intro a hT
                replace hT := hT.keep [3, 33, 20, 8, 13, 5, 6, 7, 4, 2, 0] rfl
                refine Sx.ser_nil ?_
                refine Sx.then_normal (hK22 _ _ ?_)
                clear hK22
                refine wp_ret ?_
                refine Sx.block_ret ?_
                refine Sx.block_ret ?_
                refine Sx.then_ret ?_
                refine Sx.then_ret ?_
                refine Sx.block_ret ?_
                refine Sx.then_ret ?_
                refine Sx.done2 (fn := Tryd.f32) hT rfl (.cell (hT.get 2 _ rfl) (Sx.run_resS Tryd.underlying23 Tryd.ti23 ((H.blk 1 rfl).seg (k := 3) rfl) (by rfl))) (.tmp (hT.get 3 _ rfl)) ?_
                exact ⟨0, 0, 0, 4, rfl, .inr ⟨rfl, rfl, rfl, rfl, fun t ht => hj.dead hix (by omega) (by omega) t ht⟩, H.ext⟩
            · try simp only [decide_eq_true_eq, decide_eq_false_iff_not, Bool.not_eq_true', Bool.not_eq_false', Bool.not_eq_true, Bool.not_eq_false, Bool.and_eq_true, Bool.or_eq_false_iff, beq_iff_eq, bne_iff_ne, Int.not_lt, Int.not_le, ne_eq] at hc19
              refine Sx.st_skip hT rfl rfl rfl rfl ?_
              clear hT; intro a hT
              refine Sx.st_skip hT rfl rfl rfl rfl ?_
              clear hT; intro a hT
              refine Sx.st_take hT rfl rfl rfl rfl (Sx.x_pick_f hT rfl rfl rfl) ?_
              clear hT; intro a hT
              refine Sx.st_take hT rfl rfl rfl rfl (Sx.x_assign hT rfl rfl) ?_
              clear hT; intro a hT
              replace hT := hT.keep [33, 20, 8, 13, 5, 6, 7, 4, 2, 0] rfl
              refine Sx.ser_nil ?_
              refine Sx.then_normal (hK17 _ _ ?_)
              clear hK17
              refine Sx.wp_if hT rfl (fun h => by cases h) (fun _ => ?_)
              refine wp_seq_k fun K23 hK23 => ?_
              -- region 8 (ref.go:87)
              refine Sx.wp_text [(0, .take), (1, .run), (2, .take)] rfl ?_
              refine Sx.st_take hT rfl rfl rfl rfl (Sx.x_bld hT rfl Tryd.bld23 rfl rfl) ?_
              clear hT; intro a hT
              refine Sx.st_act hT rfl rfl rfl (Sx.y_storeS hT rfl Tryd.ti23 rfl rfl rfl rfl rfl (H.blk 1 rfl) rfl) ?_
              rintro w6 ⟨hb, E, _⟩
              replace H := H.setB 1 rfl hb E rfl; clear hb E
              refine Sx.st_take hT rfl rfl rfl rfl (Sx.x_assign hT rfl rfl) ?_
              clear hT; intro a hT
              replace hT := hT.keep [3, 33, 20, 8, 13, 5, 6, 7, 4, 2, 0] rfl
              refine Sx.ser_nil ?_
              refine Sx.then_normal (hK23 _ _ ?_)
              clear hK23
              refine wp_ret ?_
              refine Sx.block_ret ?_
              refine Sx.block_ret ?_
              refine Sx.then_ret ?_
              refine Sx.then_ret ?_
              refine Sx.block_ret ?_
              refine Sx.then_ret ?_
              refine Sx.done2 (fn := Tryd.f32) hT rfl (.cell (hT.get 2 _ rfl) (Sx.run_resS Tryd.underlying23 Tryd.ti23 ((H.blk 1 rfl).seg (k := 3) rfl) (by rfl))) (.tmp (hT.get 3 _ rfl)) ?_
              exact ⟨0, 0, 0, 4, rfl, .inr ⟨rfl, rfl, rfl, rfl, fun t ht => hj.dead hix (by omega) (by omega) t ht⟩, H.ext⟩
          · try simp only [decide_eq_true_eq, decide_eq_false_iff_not, Bool.not_eq_true', Bool.not_eq_false', Bool.not_eq_true, Bool.not_eq_false, Bool.and_eq_true, Bool.or_eq_false_iff, beq_iff_eq, bne_iff_ne, Int.not_lt, Int.not_le, ne_eq] at hc18
            refine Sx.st_skip hT rfl rfl rfl rfl ?_
            clear hT; intro a hT
            refine Sx.st_skip hT rfl rfl rfl rfl ?_
            clear hT; intro a hT
            refine Sx.st_take hT rfl rfl rfl rfl (Sx.x_pick_f hT rfl rfl rfl) ?_
            clear hT; intro a hT
            refine Sx.st_take hT rfl rfl rfl rfl (Sx.x_move hT rfl rfl) ?_
            clear hT; intro a hT
            refine Sx.st_skip hT rfl rfl rfl rfl ?_
            clear hT; intro a hT
            refine Sx.st_skip hT rfl rfl rfl rfl ?_
            clear hT; intro a hT
            refine Sx.st_take hT rfl rfl rfl rfl (Sx.x_pick_f hT rfl rfl rfl) ?_
            clear hT; intro a hT
            refine Sx.st_take hT rfl rfl rfl rfl (Sx.x_assign hT rfl rfl) ?_
            clear hT; intro a hT
            replace hT := hT.keep [33, 20, 8, 13, 5, 6, 7, 4, 2, 0] rfl
            refine Sx.ser_nil ?_
            refine Sx.then_normal (hK17 _ _ ?_)
            clear hK17
            refine Sx.wp_if hT rfl (fun h => by cases h) (fun _ => ?_)
            refine wp_seq_k fun K24 hK24 => ?_
            -- region 8 (ref.go:87)
            refine Sx.wp_text [(0, .take), (1, .run), (2, .take)] rfl ?_
            refine Sx.st_take hT rfl rfl rfl rfl (Sx.x_bld hT rfl Tryd.bld23 rfl rfl) ?_
            clear hT; intro a hT
            refine Sx.st_act hT rfl rfl rfl (Sx.y_storeS hT rfl Tryd.ti23 rfl rfl rfl rfl rfl (H.blk 1 rfl) rfl) ?_
            rintro w7 ⟨hb, E, _⟩
            replace H := H.setB 1 rfl hb E rfl; clear hb E
            refine Sx.st_take hT rfl rfl rfl rfl (Sx.x_assign hT rfl rfl) ?_
            clear hT; intro a hT
            replace hT := hT.keep [3, 33, 20, 8, 13, 5, 6, 7, 4, 2, 0] rfl
            refine Sx.ser_nil ?_
            refine Sx.then_normal (hK24 _ _ ?_)
            clear hK24
            refine wp_ret ?_
            refine Sx.block_ret ?_
            refine Sx.block_ret ?_
            refine Sx.then_ret ?_
            refine Sx.then_ret ?_
            refine Sx.block_ret ?_
            refine Sx.then_ret ?_
            refine Sx.done2 (fn := Tryd.f32) hT rfl (.cell (hT.get 2 _ rfl) (Sx.run_resS Tryd.underlying23 Tryd.ti23 ((H.blk 1 rfl).seg (k := 3) rfl) (by rfl))) (.tmp (hT.get 3 _ rfl)) ?_
            exact ⟨0, 0, 0, 4, rfl, .inr ⟨rfl, rfl, rfl, rfl, fun t ht => hj.dead hix (by omega) (by omega) t ht⟩, H.ext⟩
      · try simp only [decide_eq_true_eq, decide_eq_false_iff_not, Bool.not_eq_true', Bool.not_eq_false', Bool.not_eq_true, Bool.not_eq_false, Bool.and_eq_true, Bool.or_eq_false_iff, beq_iff_eq, bne_iff_ne, Int.not_lt, Int.not_le, ne_eq] at hc14
        refine Sx.st_skip hT rfl rfl rfl rfl ?_
        clear hT; intro a hT
        refine Sx.st_skip hT rfl rfl rfl rfl ?_
        clear hT; intro a hT
        refine Sx.st_take hT rfl rfl rfl rfl (Sx.x_pick_f hT rfl rfl rfl) ?_
        clear hT; intro a hT
        refine Sx.st_take hT rfl rfl rfl rfl (Sx.x_assign hT rfl rfl) ?_
        clear hT; intro a hT
        replace hT := hT.keep [20, 8, 13, 5, 6, 7, 4, 2, 0] rfl
        refine Sx.ser_nil ?_
        refine Sx.then_normal (hK12 _ _ ?_)
        clear hK12
        refine Sx.wp_if hT rfl (fun h => by cases h) (fun _ => ?_)
        refine wp_seq_k fun K25 hK25 => ?_
        -- region 12 (ref.go:83)
        refine Sx.wp_text [(0, .take), (1, .take), (2, .take), (3, .take), (4, .take), (5, .take), (6, .take), (7, .take), (8, .take), (9, .take), (10, .take)] rfl ?_
        refine Sx.st_take hT rfl rfl rfl rfl (Sx.x_move hT rfl rfl) ?_
        clear hT; intro a hT
        refine Sx.st_take hT rfl rfl rfl rfl ((fun w => Sx.x_ge w hT rfl rfl rfl)) ?_
        clear hT; intro a hT
        refine Sx.st_take hT rfl rfl rfl rfl (Sx.x_move hT rfl rfl) ?_
        clear hT; intro a hT
        -- guard (12, 2)
        refine Sx.Sl.two hT 36 rfl (fun hc26 hT => ?_) (fun hc26 hT => ?_)
        · try simp only [decide_eq_true_eq, decide_eq_false_iff_not, Bool.not_eq_true', Bool.not_eq_false', Bool.not_eq_true, Bool.not_eq_false, Bool.and_eq_true, Bool.or_eq_false_iff, beq_iff_eq, bne_iff_ne, Int.not_lt, Int.not_le, ne_eq] at hc26
          refine Sx.st_take hT rfl rfl rfl rfl (Sx.x_move hT rfl rfl) ?_
          clear hT; intro a hT
          refine Sx.st_take hT rfl rfl rfl rfl ((fun w => Sx.x_le w hT rfl rfl rfl)) ?_
          clear hT; intro a hT
          refine Sx.st_take hT rfl rfl rfl rfl (Sx.x_pick_t hT rfl rfl rfl) ?_
          clear hT; intro a hT
          refine Sx.st_take hT rfl rfl rfl rfl (Sx.x_move hT rfl rfl) ?_
          clear hT; intro a hT
          -- guard (12, 6)
          refine Sx.Sl.two hT 40 rfl (fun hc27 hT => ?_) (fun hc27 hT => ?_)
          · try simp only [decide_eq_true_eq, decide_eq_false_iff_not, Bool.not_eq_true', Bool.not_eq_false', Bool.not_eq_true, Bool.not_eq_false, Bool.and_eq_true, Bool.or_eq_false_iff, beq_iff_eq, bne_iff_ne, Int.not_lt, Int.not_le, ne_eq] at hc27
            refine Sx.st_take hT rfl rfl rfl rfl (Sx.x_move hT rfl rfl) ?_
            clear hT; intro a hT
            refine Sx.st_take hT rfl rfl rfl rfl ((fun w => Sx.x_lt w hT rfl rfl rfl)) ?_
            clear hT; intro a hT
            refine Sx.st_take hT rfl rfl rfl rfl (Sx.x_pick_t hT rfl rfl rfl) ?_
            clear hT; intro a hT
            refine Sx.st_take hT rfl rfl rfl rfl (Sx.x_assign hT rfl rfl) ?_
            clear hT; intro a hT
            replace hT := hT.keep [33, 20, 8, 13, 5, 6, 7, 4, 2, 0] rfl
            refine Sx.ser_nil ?_
            refine Sx.then_normal (hK25 _ _ ?_)
            clear hK25
            -- cond 2
            refine Sx.wp_if hT rfl (fun hc28 => ?_) (fun hc28 => ?_)
            · try simp only [decide_eq_true_eq, decide_eq_false_iff_not, Bool.not_eq_true', Bool.not_eq_false', Bool.not_eq_true, Bool.not_eq_false, Bool.and_eq_true, Bool.or_eq_false_iff, beq_iff_eq, bne_iff_ne, Int.not_lt, Int.not_le, ne_eq] at hc28
              refine wp_seq_k fun K29 hK29 => ?_
              -- region 13 (ref.go:84)
              obtain ⟨hn0, hn1, hj2⟩ := hj.dig hix (by omega) (by omega)
              refine Sx.wp_text [(0, .take), (1, .take), (2, .take), (3, .run), (4, .take), (5, .take), (6, .take), (7, .take), (8, .take), (9, .take), (10, .run)] rfl ?_
              refine Sx.st_take hT rfl rfl rfl rfl (Sx.x_move hT rfl rfl) ?_
              clear hT; intro a hT
              refine Sx.st_take hT rfl rfl rfl rfl (Sx.x_move hT rfl rfl) ?_
              clear hT; intro a hT
              refine Sx.st_take hT rfl rfl rfl rfl (Sx.x_indexAddr_array (k := k) hT rfl Tryd.underlying61 Tryd.ti3 rfl rfl rfl (by omega)) ?_
              clear hT; intro a hT
              refine Sx.st_run hT rfl rfl rfl rfl (Sx.x_load1 hT rfl Tryd.fl3 rfl ((H.blk 0 rfl).cell (by rw [show 0 + k * 1 = k from by omega]; exact arr_get k (by omega)))) ?_
              clear hT; intro a hT
              refine Sx.st_take hT rfl rfl rfl rfl ((fun w => Sx.x_mul w hT rfl rfl rfl (Sx.wrap64 (by omega)))) ?_
              clear hT; intro a hT
              refine Sx.st_take hT rfl rfl rfl rfl (Sx.x_move hT rfl rfl) ?_
              clear hT; intro a hT
              refine Sx.st_take hT rfl rfl rfl rfl ((fun w => Sx.x_sub w hT rfl rfl rfl (Sx.wrap8 (by omega)))) ?_
              clear hT; intro a hT
              refine Sx.st_take hT rfl rfl rfl rfl ((fun w => Sx.x_toint w hT rfl Tryd.underlying5 Tryd.underlying3 rfl (Sx.wrap64 (by omega)))) ?_
              clear hT; intro a hT
              refine Sx.st_take hT rfl rfl rfl rfl ((fun w => Sx.x_add w hT rfl rfl rfl (Sx.wrap64 (by omega)))) ?_
              clear hT; intro a hT
              refine Sx.st_take hT rfl rfl rfl rfl (Sx.x_indexAddr_array (k := k) hT rfl Tryd.underlying61 Tryd.ti3 rfl rfl rfl (by omega)) ?_
              clear hT; intro a hT
              refine Sx.st_act hT rfl rfl rfl (Sx.x_store1 hT rfl Tryd.ti3 rfl rfl rfl (H.blk 0 rfl) (by simp [arr]; omega)) ?_
              rintro w8 ⟨hb, E, _⟩
              replace H := H.setB 0 rfl hb E rfl; clear hb E
              rw [show (ch.toNat : Int) - 48 = ((ch.toNat - 48 : Nat) : Int) from by omega, show 0 + k * 1 = k from by omega, arr_set3 hj.len k (by omega)] at H
              replace hT := hT.keep [33, 20, 8, 13, 5, 6, 7, 4, 2, 0] rfl
              refine Sx.ser_nil ?_
              refine Sx.then_normal (hK29 _ _ ?_)
              clear hK29
              -- region 14 (ref.go:85)
              refine Sx.wp_text [(0, .take), (1, .take), (2, .take)] rfl ?_
              refine Sx.st_take hT rfl rfl rfl rfl (Sx.x_move hT rfl rfl) ?_
              clear hT; intro a hT
              refine Sx.st_take hT rfl rfl rfl rfl ((fun w => Sx.x_add w hT rfl rfl rfl (Sx.wrap64 (by omega)))) ?_
              clear hT; intro a hT
              refine Sx.st_take hT rfl rfl rfl rfl (Sx.x_assign hT rfl rfl) ?_
              clear hT; intro a hT
              replace hT := hT.keep [6, 33, 20, 8, 13, 5, 7, 4, 2, 0] rfl
              refine Sx.ser_nil ?_
              refine Sx.block_normal ?_
              refine Sx.block_normal ?_
              refine Sx.then_normal (hK10 _ _ ?_)
              clear hK10
              -- region 6 (ref.go:77)
              refine Sx.wp_text [(0, .take), (1, .take), (2, .take)] rfl ?_
              refine Sx.st_take hT rfl rfl rfl rfl (Sx.x_move hT rfl rfl) ?_
              clear hT; intro a hT
              refine Sx.st_take hT rfl rfl rfl rfl ((fun w => Sx.x_add w hT rfl rfl rfl (Sx.wrap64 (by omega)))) ?_
              clear hT; intro a hT
              refine Sx.st_take hT rfl rfl rfl rfl (Sx.x_assign hT rfl rfl) ?_
              clear hT; intro a hT
              replace hT := hT.keep [7, 6, 33, 20, 8, 13, 5, 4, 2, 0] rfl
              refine Sx.ser_nil ?_
              refine Sx.then_normal ?_
              exact ⟨(k, d + 1, ns.set k (10 * ns.getD k 0 + ((ch.toNat - 48 : Nat) : Int)), i + 1), hj2, (hT.keep [5, 6, 7, 4, 2, 0] rfl), (H.keep [0, 1] rfl rfl), by show _ - (i + 1) < _ - i; omega⟩
            · try simp only [decide_eq_true_eq, decide_eq_false_iff_not, Bool.not_eq_true', Bool.not_eq_false', Bool.not_eq_true, Bool.not_eq_false, Bool.and_eq_true, Bool.or_eq_false_iff, beq_iff_eq, bne_iff_ne, Int.not_lt, Int.not_le, ne_eq] at hc28
              refine wp_seq_k fun K30 hK30 => ?_
              -- region 8 (ref.go:87)
              refine Sx.wp_text [(0, .take), (1, .run), (2, .take)] rfl ?_
              refine Sx.st_take hT rfl rfl rfl rfl (Sx.x_bld hT rfl Tryd.bld23 rfl rfl) ?_
              clear hT; intro a hT
              refine Sx.st_act hT rfl rfl rfl (Sx.y_storeS hT rfl Tryd.ti23 rfl rfl rfl rfl rfl (H.blk 1 rfl) rfl) ?_
              rintro w9 ⟨hb, E, _⟩
              replace H := H.setB 1 rfl hb E rfl; clear hb E
              refine Sx.st_take hT rfl rfl rfl rfl (Sx.x_assign hT rfl rfl) ?_
              clear hT; intro a hT
              replace hT := hT.keep [3, 33, 20, 8, 13, 5, 6, 7, 4, 2, 0] rfl
              refine Sx.ser_nil ?_
              refine Sx.then_normal (hK30 _ _ ?_)
              clear hK30
              refine wp_ret ?_
              refine Sx.block_ret ?_
              refine Sx.block_ret ?_
              refine Sx.then_ret ?_
              refine Sx.then_ret ?_
              refine Sx.block_ret ?_
              refine Sx.then_ret ?_
              refine Sx.done2 (fn := Tryd.f32) hT rfl (.cell (hT.get 2 _ rfl) (Sx.run_resS Tryd.underlying23 Tryd.ti23 ((H.blk 1 rfl).seg (k := 3) rfl) (by rfl))) (.tmp (hT.get 3 _ rfl)) ?_
              exact ⟨0, 0, 0, 4, rfl, .inr ⟨rfl, rfl, rfl, rfl, fun t ht => hj.dead hix (by omega) (by omega) t ht⟩, H.ext⟩
          · try simp only [decide_eq_true_eq, decide_eq_false_iff_not, Bool.not_eq_true', Bool.not_eq_false', Bool.not_eq_true, Bool.not_eq_false, Bool.and_eq_true, Bool.or_eq_false_iff, beq_iff_eq, bne_iff_ne, Int.not_lt, Int.not_le, ne_eq] at hc27
            refine Sx.st_skip hT rfl rfl rfl rfl ?_
            clear hT; intro a hT
            refine Sx.st_skip hT rfl rfl rfl rfl ?_
            clear hT; intro a hT
            refine Sx.st_take hT rfl rfl rfl rfl (Sx.x_pick_f hT rfl rfl rfl) ?_
            clear hT; intro a hT
            refine Sx.st_take hT rfl rfl rfl rfl (Sx.x_assign hT rfl rfl) ?_
            clear hT; intro a hT
            replace hT := hT.keep [33, 20, 8, 13, 5, 6, 7, 4, 2, 0] rfl
            refine Sx.ser_nil ?_
            refine Sx.then_normal (hK25 _ _ ?_)
            clear hK25
            refine Sx.wp_if hT rfl (fun h => by cases h) (fun _ => ?_)
            refine wp_seq_k fun K31 hK31 => ?_
            -- region 8 (ref.go:87)
            refine Sx.wp_text [(0, .take), (1, .run), (2, .take)] rfl ?_
            refine Sx.st_take hT rfl rfl rfl rfl (Sx.x_bld hT rfl Tryd.bld23 rfl rfl) ?_
            clear hT; intro a hT
            refine Sx.st_act hT rfl rfl rfl (Sx.y_storeS hT rfl Tryd.ti23 rfl rfl rfl rfl rfl (H.blk 1 rfl) rfl) ?_
            rintro w10 ⟨hb, E, _⟩
            replace H := H.setB 1 rfl hb E rfl; clear hb E
            refine Sx.st_take hT rfl rfl rfl rfl (Sx.x_assign hT rfl rfl) ?_
            clear hT; intro a hT
            replace hT := hT.keep [3, 33, 20, 8, 13, 5, 6, 7, 4, 2, 0] rfl
            refine Sx.ser_nil ?_
            refine Sx.then_normal (hK31 _ _ ?_)
            clear hK31
            refine wp_ret ?_
            refine Sx.block_ret ?_
            refine Sx.block_ret ?_
            refine Sx.then_ret ?_
            refine Sx.then_ret ?_
            refine Sx.block_ret ?_
            refine Sx.then_ret ?_
            refine Sx.done2 (fn := Tryd.f32) hT rfl (.cell (hT.get 2 _ rfl) (Sx.run_resS Tryd.underlying23 Tryd.ti23 ((H.blk 1 rfl).seg (k := 3) rfl) (by rfl))) (.tmp (hT.get 3 _ rfl)) ?_
            exact ⟨0, 0, 0, 4, rfl, .inr ⟨rfl, rfl, rfl, rfl, fun t ht => hj.dead hix (by omega) (by omega) t ht⟩, H.ext⟩
        · try simp only [decide_eq_true_eq, decide_eq_false_iff_not, Bool.not_eq_true', Bool.not_eq_false', Bool.not_eq_true, Bool.not_eq_false, Bool.and_eq_true, Bool.or_eq_false_iff, beq_iff_eq, bne_iff_ne, Int.not_lt, Int.not_le, ne_eq] at hc26
          refine Sx.st_skip hT rfl rfl rfl rfl ?_
          clear hT; intro a hT
          refine Sx.st_skip hT rfl rfl rfl rfl ?_
          clear hT; intro a hT
          refine Sx.st_take hT rfl rfl rfl rfl (Sx.x_pick_f hT rfl rfl rfl) ?_
          clear hT; intro a hT
          refine Sx.st_take hT rfl rfl rfl rfl (Sx.x_move hT rfl rfl) ?_
          clear hT; intro a hT
          refine Sx.st_skip hT rfl rfl rfl rfl ?_
          clear hT; intro a hT
          refine Sx.st_skip hT rfl rfl rfl rfl ?_
          clear hT; intro a hT
          refine Sx.st_take hT rfl rfl rfl rfl (Sx.x_pick_f hT rfl rfl rfl) ?_
          clear hT; intro a hT
          refine Sx.st_take hT rfl rfl rfl rfl (Sx.x_assign hT rfl rfl) ?_
          clear hT; intro a hT
          replace hT := hT.keep [33, 20, 8, 13, 5, 6, 7, 4, 2, 0] rfl
          refine Sx.ser_nil ?_
          refine Sx.then_normal (hK25 _ _ ?_)
          clear hK25
          refine Sx.wp_if hT rfl (fun h => by cases h) (fun _ => ?_)
          refine wp_seq_k fun K32 hK32 => ?_
          -- region 8 (ref.go:87)
          refine Sx.wp_text [(0, .take), (1, .run), (2, .take)] rfl ?_
          refine Sx.st_take hT rfl rfl rfl rfl (Sx.x_bld hT rfl Tryd.bld23 rfl rfl) ?_
          clear hT; intro a hT
          refine Sx.st_act hT rfl rfl rfl (Sx.y_storeS hT rfl Tryd.ti23 rfl rfl rfl rfl rfl (H.blk 1 rfl) rfl) ?_
          rintro w11 ⟨hb, E, _⟩
          replace H := H.setB 1 rfl hb E rfl; clear hb E
          refine Sx.st_take hT rfl rfl rfl rfl (Sx.x_assign hT rfl rfl) ?_
          clear hT; intro a hT
          replace hT := hT.keep [3, 33, 20, 8, 13, 5, 6, 7, 4, 2, 0] rfl
          refine Sx.ser_nil ?_
          refine Sx.then_normal (hK32 _ _ ?_)
          clear hK32
          refine wp_ret ?_
          refine Sx.block_ret ?_
          refine Sx.block_ret ?_
          refine Sx.then_ret ?_
          refine Sx.then_ret ?_
          refine Sx.block_ret ?_
          refine Sx.then_ret ?_
          refine Sx.done2 (fn := Tryd.f32) hT rfl (.cell (hT.get 2 _ rfl) (Sx.run_resS Tryd.underlying23 Tryd.ti23 ((H.blk 1 rfl).seg (k := 3) rfl) (by rfl))) (.tmp (hT.get 3 _ rfl)) ?_
          exact ⟨0, 0, 0, 4, rfl, .inr ⟨rfl, rfl, rfl, rfl, fun t ht => hj.dead hix (by omega) (by omega) t ht⟩, H.ext⟩
    · try simp only [decide_eq_true_eq, decide_eq_false_iff_not, Bool.not_eq_true', Bool.not_eq_false', Bool.not_eq_true, Bool.not_eq_false, Bool.and_eq_true, Bool.or_eq_false_iff, beq_iff_eq, bne_iff_ne, Int.not_lt, Int.not_le, ne_eq] at hc13
      refine Sx.st_skip hT rfl rfl rfl rfl ?_
      clear hT; intro a hT
      refine Sx.st_skip hT rfl rfl rfl rfl ?_
      clear hT; intro a hT
      refine Sx.st_take hT rfl rfl rfl rfl (Sx.x_pick_f hT rfl rfl rfl) ?_
      clear hT; intro a hT
      refine Sx.st_take hT rfl rfl rfl rfl (Sx.x_move hT rfl rfl) ?_
      clear hT; intro a hT
      refine Sx.st_skip hT rfl rfl rfl rfl ?_
      clear hT; intro a hT
      refine Sx.st_skip hT rfl rfl rfl rfl ?_
      clear hT; intro a hT
      refine Sx.st_take hT rfl rfl rfl rfl (Sx.x_pick_f hT rfl rfl rfl) ?_
      clear hT; intro a hT
      refine Sx.st_take hT rfl rfl rfl rfl (Sx.x_assign hT rfl rfl) ?_
      clear hT; intro a hT
      replace hT := hT.keep [20, 8, 13, 5, 6, 7, 4, 2, 0] rfl
      refine Sx.ser_nil ?_
      refine Sx.then_normal (hK12 _ _ ?_)
      clear hK12
      refine Sx.wp_if hT rfl (fun h => by cases h) (fun _ => ?_)
      refine wp_seq_k fun K33 hK33 => ?_
      -- region 12 (ref.go:83)
      refine Sx.wp_text [(0, .take), (1, .take), (2, .take), (3, .take), (4, .take), (5, .take), (6, .take), (7, .take), (8, .take), (9, .take), (10, .take)] rfl ?_
      refine Sx.st_take hT rfl rfl rfl rfl (Sx.x_move hT rfl rfl) ?_
      clear hT; intro a hT
      refine Sx.st_take hT rfl rfl rfl rfl ((fun w => Sx.x_ge w hT rfl rfl rfl)) ?_
      clear hT; intro a hT
      refine Sx.st_take hT rfl rfl rfl rfl (Sx.x_move hT rfl rfl) ?_
      clear hT; intro a hT
      -- guard (12, 2)
      refine Sx.Sl.two hT 36 rfl (fun hc34 hT => ?_) (fun hc34 hT => ?_)
      · try simp only [decide_eq_true_eq, decide_eq_false_iff_not, Bool.not_eq_true', Bool.not_eq_false', Bool.not_eq_true, Bool.not_eq_false, Bool.and_eq_true, Bool.or_eq_false_iff, beq_iff_eq, bne_iff_ne, Int.not_lt, Int.not_le, ne_eq] at hc34
        refine Sx.st_take hT rfl rfl rfl rfl (Sx.x_move hT rfl rfl) ?_
        clear hT; intro a hT
        refine Sx.st_take hT rfl rfl rfl rfl ((fun w => Sx.x_le w hT rfl rfl rfl)) ?_
        clear hT; intro a hT
        refine Sx.st_take hT rfl rfl rfl rfl (Sx.x_pick_t hT rfl rfl rfl) ?_
        clear hT; intro a hT
        refine Sx.st_take hT rfl rfl rfl rfl (Sx.x_move hT rfl rfl) ?_
        clear hT; intro a hT
        -- guard (12, 6)
        refine Sx.Sl.two hT 40 rfl (fun hc35 hT => ?_) (fun hc35 hT => ?_)
        · try simp only [decide_eq_true_eq, decide_eq_false_iff_not, Bool.not_eq_true', Bool.not_eq_false', Bool.not_eq_true, Bool.not_eq_false, Bool.and_eq_true, Bool.or_eq_false_iff, beq_iff_eq, bne_iff_ne, Int.not_lt, Int.not_le, ne_eq] at hc35
          refine Sx.st_take hT rfl rfl rfl rfl (Sx.x_move hT rfl rfl) ?_
          clear hT; intro a hT
          refine Sx.st_take hT rfl rfl rfl rfl ((fun w => Sx.x_lt w hT rfl rfl rfl)) ?_
          clear hT; intro a hT
          refine Sx.st_take hT rfl rfl rfl rfl (Sx.x_pick_t hT rfl rfl rfl) ?_
          clear hT; intro a hT
          refine Sx.st_take hT rfl rfl rfl rfl (Sx.x_assign hT rfl rfl) ?_
          clear hT; intro a hT
          replace hT := hT.keep [33, 20, 8, 13, 5, 6, 7, 4, 2, 0] rfl
          refine Sx.ser_nil ?_
          refine Sx.then_normal (hK33 _ _ ?_)
          clear hK33
          -- cond 2
          refine Sx.wp_if hT rfl (fun hc36 => ?_) (fun hc36 => ?_)
          · try simp only [decide_eq_true_eq, decide_eq_false_iff_not, Bool.not_eq_true', Bool.not_eq_false', Bool.not_eq_true, Bool.not_eq_false, Bool.and_eq_true, Bool.or_eq_false_iff, beq_iff_eq, bne_iff_ne, Int.not_lt, Int.not_le, ne_eq] at hc36
            refine wp_seq_k fun K37 hK37 => ?_
            -- region 13 (ref.go:84)
            obtain ⟨hn0, hn1, hj2⟩ := hj.dig hix (by omega) (by omega)
            refine Sx.wp_text [(0, .take), (1, .take), (2, .take), (3, .run), (4, .take), (5, .take), (6, .take), (7, .take), (8, .take), (9, .take), (10, .run)] rfl ?_
            refine Sx.st_take hT rfl rfl rfl rfl (Sx.x_move hT rfl rfl) ?_
            clear hT; intro a hT
            refine Sx.st_take hT rfl rfl rfl rfl (Sx.x_move hT rfl rfl) ?_
            clear hT; intro a hT
            refine Sx.st_take hT rfl rfl rfl rfl (Sx.x_indexAddr_array (k := k) hT rfl Tryd.underlying61 Tryd.ti3 rfl rfl rfl (by omega)) ?_
            clear hT; intro a hT
            refine Sx.st_run hT rfl rfl rfl rfl (Sx.x_load1 hT rfl Tryd.fl3 rfl ((H.blk 0 rfl).cell (by rw [show 0 + k * 1 = k from by omega]; exact arr_get k (by omega)))) ?_
            clear hT; intro a hT
            refine Sx.st_take hT rfl rfl rfl rfl ((fun w => Sx.x_mul w hT rfl rfl rfl (Sx.wrap64 (by omega)))) ?_
            clear hT; intro a hT
            refine Sx.st_take hT rfl rfl rfl rfl (Sx.x_move hT rfl rfl) ?_
            clear hT; intro a hT
            refine Sx.st_take hT rfl rfl rfl rfl ((fun w => Sx.x_sub w hT rfl rfl rfl (Sx.wrap8 (by omega)))) ?_
            clear hT; intro a hT
            refine Sx.st_take hT rfl rfl rfl rfl ((fun w => Sx.x_toint w hT rfl Tryd.underlying5 Tryd.underlying3 rfl (Sx.wrap64 (by omega)))) ?_
            clear hT; intro a hT
            refine Sx.st_take hT rfl rfl rfl rfl ((fun w => Sx.x_add w hT rfl rfl rfl (Sx.wrap64 (by omega)))) ?_
            clear hT; intro a hT
            refine Sx.st_take hT rfl rfl rfl rfl (Sx.x_indexAddr_array (k := k) hT rfl Tryd.underlying61 Tryd.ti3 rfl rfl rfl (by omega)) ?_
            clear hT; intro a hT
            refine Sx.st_act hT rfl rfl rfl (Sx.x_store1 hT rfl Tryd.ti3 rfl rfl rfl (H.blk 0 rfl) (by simp [arr]; omega)) ?_
            rintro w12 ⟨hb, E, _⟩
            replace H := H.setB 0 rfl hb E rfl; clear hb E
            rw [show (ch.toNat : Int) - 48 = ((ch.toNat - 48 : Nat) : Int) from by omega, show 0 + k * 1 = k from by omega, arr_set3 hj.len k (by omega)] at H
            replace hT := hT.keep [33, 20, 8, 13, 5, 6, 7, 4, 2, 0] rfl
            refine Sx.ser_nil ?_
            refine Sx.then_normal (hK37 _ _ ?_)
            clear hK37
            -- region 14 (ref.go:85)
            refine Sx.wp_text [(0, .take), (1, .take), (2, .take)] rfl ?_
            refine Sx.st_take hT rfl rfl rfl rfl (Sx.x_move hT rfl rfl) ?_
            clear hT; intro a hT
            refine Sx.st_take hT rfl rfl rfl rfl ((fun w => Sx.x_add w hT rfl rfl rfl (Sx.wrap64 (by omega)))) ?_
            clear hT; intro a hT
            refine Sx.st_take hT rfl rfl rfl rfl (Sx.x_assign hT rfl rfl) ?_
            clear hT; intro a hT
            replace hT := hT.keep [6, 33, 20, 8, 13, 5, 7, 4, 2, 0] rfl
            refine Sx.ser_nil ?_
            refine Sx.block_normal ?_
            refine Sx.block_normal ?_
            refine Sx.then_normal (hK10 _ _ ?_)
            clear hK10
            -- region 6 (ref.go:77)
            refine Sx.wp_text [(0, .take), (1, .take), (2, .take)] rfl ?_
            refine Sx.st_take hT rfl rfl rfl rfl (Sx.x_move hT rfl rfl) ?_
            clear hT; intro a hT
            refine Sx.st_take hT rfl rfl rfl rfl ((fun w => Sx.x_add w hT rfl rfl rfl (Sx.wrap64 (by omega)))) ?_
            clear hT; intro a hT
            refine Sx.st_take hT rfl rfl rfl rfl (Sx.x_assign hT rfl rfl) ?_
            clear hT; intro a hT
            replace hT := hT.keep [7, 6, 33, 20, 8, 13, 5, 4, 2, 0] rfl
            refine Sx.ser_nil ?_
            refine Sx.then_normal ?_
            exact ⟨(k, d + 1, ns.set k (10 * ns.getD k 0 + ((ch.toNat - 48 : Nat) : Int)), i + 1), hj2, (hT.keep [5, 6, 7, 4, 2, 0] rfl), (H.keep [0, 1] rfl rfl), by show _ - (i + 1) < _ - i; omega⟩
          · try simp only [decide_eq_true_eq, decide_eq_false_iff_not, Bool.not_eq_true', Bool.not_eq_false', Bool.not_eq_true, Bool.not_eq_false, Bool.and_eq_true, Bool.or_eq_false_iff, beq_iff_eq, bne_iff_ne, Int.not_lt, Int.not_le, ne_eq] at hc36
            refine wp_seq_k fun K38 hK38 => ?_
            -- region 8 (ref.go:87)
            refine Sx.wp_text [(0, .take), (1, .run), (2, .take)] rfl ?_
            refine Sx.st_take hT rfl rfl rfl rfl (Sx.x_bld hT rfl Tryd.bld23 rfl rfl) ?_
            clear hT; intro a hT
            refine Sx.st_act hT rfl rfl rfl (Sx.y_storeS hT rfl Tryd.ti23 rfl rfl rfl rfl rfl (H.blk 1 rfl) rfl) ?_
            rintro w13 ⟨hb, E, _⟩
            replace H := H.setB 1 rfl hb E rfl; clear hb E
            refine Sx.st_take hT rfl rfl rfl rfl (Sx.x_assign hT rfl rfl) ?_
            clear hT; intro a hT
            replace hT := hT.keep [3, 33, 20, 8, 13, 5, 6, 7, 4, 2, 0] rfl
            refine Sx.ser_nil ?_
            refine Sx.then_normal (hK38 _ _ ?_)
            clear hK38
            refine wp_ret ?_
            refine Sx.block_ret ?_
            refine Sx.block_ret ?_
            refine Sx.then_ret ?_
            refine Sx.then_ret ?_
            refine Sx.block_ret ?_
            refine Sx.then_ret ?_
            refine Sx.done2 (fn := Tryd.f32) hT rfl (.cell (hT.get 2 _ rfl) (Sx.run_resS Tryd.underlying23 Tryd.ti23 ((H.blk 1 rfl).seg (k := 3) rfl) (by rfl))) (.tmp (hT.get 3 _ rfl)) ?_
            exact ⟨0, 0, 0, 4, rfl, .inr ⟨rfl, rfl, rfl, rfl, fun t ht => hj.dead hix (by omega) (by omega) t ht⟩, H.ext⟩
        · try simp only [decide_eq_true_eq, decide_eq_false_iff_not, Bool.not_eq_true', Bool.not_eq_false', Bool.not_eq_true, Bool.not_eq_false, Bool.and_eq_true, Bool.or_eq_false_iff, beq_iff_eq, bne_iff_ne, Int.not_lt, Int.not_le, ne_eq] at hc35
          refine Sx.st_skip hT rfl rfl rfl rfl ?_
          clear hT; intro a hT
          refine Sx.st_skip hT rfl rfl rfl rfl ?_
          clear hT; intro a hT
          refine Sx.st_take hT rfl rfl rfl rfl (Sx.x_pick_f hT rfl rfl rfl) ?_
          clear hT; intro a hT
          refine Sx.st_take hT rfl rfl rfl rfl (Sx.x_assign hT rfl rfl) ?_
          clear hT; intro a hT
          replace hT := hT.keep [33, 20, 8, 13, 5, 6, 7, 4, 2, 0] rfl
          refine Sx.ser_nil ?_
          refine Sx.then_normal (hK33 _ _ ?_)
          clear hK33
          refine Sx.wp_if hT rfl (fun h => by cases h) (fun _ => ?_)
          refine wp_seq_k fun K39 hK39 => ?_
          -- region 8 (ref.go:87)
          refine Sx.wp_text [(0, .take), (1, .run), (2, .take)] rfl ?_
          refine Sx.st_take hT rfl rfl rfl rfl (Sx.x_bld hT rfl Tryd.bld23 rfl rfl) ?_
          clear hT; intro a hT
          refine Sx.st_act hT rfl rfl rfl (Sx.y_storeS hT rfl Tryd.ti23 rfl rfl rfl rfl rfl (H.blk 1 rfl) rfl) ?_
          rintro w14 ⟨hb, E, _⟩
          replace H := H.setB 1 rfl hb E rfl; clear hb E
          refine Sx.st_take hT rfl rfl rfl rfl (Sx.x_assign hT rfl rfl) ?_
          clear hT; intro a hT
          replace hT := hT.keep [3, 33, 20, 8, 13, 5, 6, 7, 4, 2, 0] rfl
          refine Sx.ser_nil ?_
          refine Sx.then_normal (hK39 _ _ ?_)
          clear hK39
          refine wp_ret ?_
          refine Sx.block_ret ?_
          refine Sx.block_ret ?_
          refine Sx.then_ret ?_
          refine Sx.then_ret ?_
          refine Sx.block_ret ?_
          refine Sx.then_ret ?_
          refine Sx.done2 (fn := Tryd.f32) hT rfl (.cell (hT.get 2 _ rfl) (Sx.run_resS Tryd.underlying23 Tryd.ti23 ((H.blk 1 rfl).seg (k := 3) rfl) (by rfl))) (.tmp (hT.get 3 _ rfl)) ?_
          exact ⟨0, 0, 0, 4, rfl, .inr ⟨rfl, rfl, rfl, rfl, fun t ht => hj.dead hix (by omega) (by omega) t ht⟩, H.ext⟩
      · try simp only [decide_eq_true_eq, decide_eq_false_iff_not, Bool.not_eq_true', Bool.not_eq_false', Bool.not_eq_true, Bool.not_eq_false, Bool.and_eq_true, Bool.or_eq_false_iff, beq_iff_eq, bne_iff_ne, Int.not_lt, Int.not_le, ne_eq] at hc34
        refine Sx.st_skip hT rfl rfl rfl rfl ?_
        clear hT; intro a hT
        refine Sx.st_skip hT rfl rfl rfl rfl ?_
        clear hT; intro a hT
        refine Sx.st_take hT rfl rfl rfl rfl (Sx.x_pick_f hT rfl rfl rfl) ?_
        clear hT; intro a hT
        refine Sx.st_take hT rfl rfl rfl rfl (Sx.x_move hT rfl rfl) ?_
        clear hT; intro a hT
        refine Sx.st_skip hT rfl rfl rfl rfl ?_
        clear hT; intro a hT
        refine Sx.st_skip hT rfl rfl rfl rfl ?_
        clear hT; intro a hT
        refine Sx.st_take hT rfl rfl rfl rfl (Sx.x_pick_f hT rfl rfl rfl) ?_
        clear hT; intro a hT
        refine Sx.st_take hT rfl rfl rfl rfl (Sx.x_assign hT rfl rfl) ?_
        clear hT; intro a hT
        replace hT := hT.keep [33, 20, 8, 13, 5, 6, 7, 4, 2, 0] rfl
        refine Sx.ser_nil ?_
        refine Sx.then_normal (hK33 _ _ ?_)
        clear hK33
        refine Sx.wp_if hT rfl (fun h => by cases h) (fun _ => ?_)
        refine wp_seq_k fun K40 hK40 => ?_
        -- region 8 (ref.go:87)
        refine Sx.wp_text [(0, .take), (1, .run), (2, .take)] rfl ?_
        refine Sx.st_take hT rfl rfl rfl rfl (Sx.x_bld hT rfl Tryd.bld23 rfl rfl) ?_
        clear hT; intro a hT
        refine Sx.st_act hT rfl rfl rfl (Sx.y_storeS hT rfl Tryd.ti23 rfl rfl rfl rfl rfl (H.blk 1 rfl) rfl) ?_
        rintro w15 ⟨hb, E, _⟩
        replace H := H.setB 1 rfl hb E rfl; clear hb E
        refine Sx.st_take hT rfl rfl rfl rfl (Sx.x_assign hT rfl rfl) ?_
        clear hT; intro a hT
        replace hT := hT.keep [3, 33, 20, 8, 13, 5, 6, 7, 4, 2, 0] rfl
        refine Sx.ser_nil ?_
        refine Sx.then_normal (hK40 _ _ ?_)
        clear hK40
        refine wp_ret ?_
        refine Sx.block_ret ?_
        refine Sx.block_ret ?_
        refine Sx.then_ret ?_
        refine Sx.then_ret ?_
        refine Sx.block_ret ?_
        refine Sx.then_ret ?_
        refine Sx.done2 (fn := Tryd.f32) hT rfl (.cell (hT.get 2 _ rfl) (Sx.run_resS Tryd.underlying23 Tryd.ti23 ((H.blk 1 rfl).seg (k := 3) rfl) (by rfl))) (.tmp (hT.get 3 _ rfl)) ?_
        exact ⟨0, 0, 0, 4, rfl, .inr ⟨rfl, rfl, rfl, rfl, fun t ht => hj.dead hix (by omega) (by omega) t ht⟩, H.ext⟩
  · try simp only [decide_eq_true_eq, decide_eq_false_iff_not, Bool.not_eq_true', Bool.not_eq_false', Bool.not_eq_true, Bool.not_eq_false, Bool.and_eq_true, Bool.or_eq_false_iff, beq_iff_eq, bne_iff_ne, Int.not_lt, Int.not_le, ne_eq] at hc9
    refine wp_exit ?_
    refine Sx.then_exit ?_
    refine Sx.then_exit ?_
    refine Sx.block_exit ?_
    refine Sx.then_normal (hK5 _ _ ?_)
    clear hK5
    refine wp_seq_k fun K41 hK41 => ?_
    -- region 15 (ref.go:90)
    obtain ⟨na, nb, nc, rfl⟩ : ∃ a b c, ns = [a, b, c] := by
      match ns, hj.len with
      | [a, b, c], _ => exact ⟨a, b, c, rfl⟩
    obtain rfl : i = s.length := by omega
    refine Sx.wp_text [(0, .take), (1, .run), (2, .take), (3, .run), (4, .take), (5, .run), (6, .take), (7, .run), (8, .run)] rfl ?_
    refine Sx.st_take hT rfl rfl rfl rfl (Sx.x_indexAddr_array (k := 0) hT rfl Tryd.underlying61 Tryd.ti3 rfl rfl rfl (by omega)) ?_
    clear hT; intro a hT
    refine Sx.st_run hT rfl rfl rfl rfl (Sx.x_load1 hT rfl Tryd.fl3 rfl ((H.blk 0 rfl).nth rfl)) ?_
    clear hT; intro a hT
    refine Sx.st_take hT rfl rfl rfl rfl (Sx.x_indexAddr_array (k := 1) hT rfl Tryd.underlying61 Tryd.ti3 rfl rfl rfl (by omega)) ?_
    clear hT; intro a hT
    refine Sx.st_run hT rfl rfl rfl rfl (Sx.x_load1 hT rfl Tryd.fl3 rfl ((H.blk 0 rfl).nth rfl)) ?_
    clear hT; intro a hT
    refine Sx.st_take hT rfl rfl rfl rfl (Sx.x_indexAddr_array (k := 2) hT rfl Tryd.underlying61 Tryd.ti3 rfl rfl rfl (by omega)) ?_
    clear hT; intro a hT
    refine Sx.st_run hT rfl rfl rfl rfl (Sx.x_load1 hT rfl Tryd.fl3 rfl ((H.blk 0 rfl).nth rfl)) ?_
    clear hT; intro a hT
    refine Sx.st_take hT rfl rfl rfl rfl (Sx.x_bld hT rfl Tryd.bld23 rfl rfl) ?_
    clear hT; intro a hT
    refine Sx.st_eff hT rfl rfl rfl rfl (Sx.y_alloc hT rfl Tryd.ti23 rfl _) ?_
    clear hT; rintro _ w16 ⟨b3, rfl, N⟩ a hT
    replace H := H.new N; clear N
    refine Sx.st_act hT rfl rfl rfl (Sx.y_storeS hT rfl Tryd.ti23 rfl rfl rfl rfl rfl (H.blk 0 rfl) rfl) ?_
    rintro w17 ⟨hb, E, _⟩
    replace H := H.setB 0 rfl hb E rfl; clear hb E
    replace hT := hT.keep [9, 13, 5, 6, 7, 4, 2, 0] rfl
    refine Sx.ser_nil ?_
    refine Sx.then_normal (hK41 _ _ ?_)
    clear hK41
    refine wp_seq_k fun K42 hK42 => ?_
    refine wp_seq_k fun K43 hK43 => ?_
    -- region 16 (ref.go:91)
    refine Sx.wp_text [(0, .run), (1, .run), (2, .take), (3, .take), (4, .run), (5, .run), (6, .take), (7, .take), (8, .take)] rfl ?_
    refine Sx.st_run hT rfl rfl rfl rfl (Sx.y_loadS hT rfl Tryd.underlying23 Tryd.ti23 rfl ((H.blk 0 rfl).seg (k := 3) rfl) (by rfl)) ?_
    clear hT; intro a hT
    refine Sx.st_call hT rfl rfl rfl rfl rfl Tryd.can14 rfl (xMay_calls _ _ _ _) ?_
    rintro _ w18 ⟨rfl, E⟩
    refine ⟨_, rfl, ?_⟩
    clear hT; intro a hT
    replace H := H.pure E; clear E
    refine Sx.st_take hT rfl rfl rfl rfl (Sx.x_not hT rfl rfl) ?_
    clear hT; intro a hT
    refine Sx.st_take hT rfl rfl rfl rfl (Sx.x_move hT rfl rfl) ?_
    clear hT; intro a hT
    -- guard (16, 3)
    refine Sx.Sl.two hT 66 rfl (fun hc44 hT => ?_) (fun hc44 hT => ?_)
    · try simp only [decide_eq_true_eq, decide_eq_false_iff_not, Bool.not_eq_true', Bool.not_eq_false', Bool.not_eq_true, Bool.not_eq_false, Bool.and_eq_true, Bool.or_eq_false_iff, beq_iff_eq, bne_iff_ne, Int.not_lt, Int.not_le, ne_eq] at hc44
      have hmy := hc44
      refine Sx.st_runskip hT rfl rfl rfl rfl ?_
      clear hT; intro a hT
      refine Sx.st_runskip hT rfl rfl rfl rfl ?_
      clear hT; intro a hT
      refine Sx.st_skip hT rfl rfl rfl rfl ?_
      clear hT; intro a hT
      refine Sx.st_skip hT rfl rfl rfl rfl ?_
      clear hT; intro a hT
      refine Sx.st_take hT rfl rfl rfl rfl (Sx.x_pick_t hT rfl rfl rfl) ?_
      clear hT; intro a hT
      replace hT := hT.keep [71, 9, 13, 5, 6, 7, 4, 2, 0] rfl
      refine Sx.ser_nil ?_
      refine Sx.then_normal (hK43 _ _ ?_)
      clear hK43
      refine Sx.wp_if hT rfl (fun _ => ?_) (fun h => by cases h)
      refine wp_seq_k fun K45 hK45 => ?_
      -- region 17 (ref.go:92)
      refine Sx.wp_text [(0, .take), (1, .run), (2, .take)] rfl ?_
      refine Sx.st_take hT rfl rfl rfl rfl (Sx.x_bld hT rfl Tryd.bld23 rfl rfl) ?_
      clear hT; intro a hT
      refine Sx.st_act hT rfl rfl rfl (Sx.y_storeS hT rfl Tryd.ti23 rfl rfl rfl rfl rfl (H.blk 2 rfl) rfl) ?_
      rintro w19 ⟨hb, E, _⟩
      replace H := H.setB 2 rfl hb E rfl; clear hb E
      refine Sx.st_take hT rfl rfl rfl rfl (Sx.x_assign hT rfl rfl) ?_
      clear hT; intro a hT
      replace hT := hT.keep [3, 71, 9, 13, 5, 6, 7, 4, 2, 0] rfl
      refine Sx.ser_nil ?_
      refine Sx.then_normal (hK45 _ _ ?_)
      clear hK45
      refine wp_ret ?_
      refine Sx.then_ret ?_
      refine Sx.done2 (fn := Tryd.f32) hT rfl (.cell (hT.get 2 _ rfl) (Sx.run_resS Tryd.underlying23 Tryd.ti23 ((H.blk 2 rfl).seg (k := 3) rfl) (by rfl))) (.tmp (hT.get 3 _ rfl)) ?_
      exact ⟨0, 0, 0, 4, rfl, .inr ⟨rfl, rfl, rfl, rfl, fun t ht hs => by have h9 := hj.fin rfl t ht hs; subst h9; exact absurd ht (by simpa using hmy)⟩, H.ext⟩
    · try simp only [decide_eq_true_eq, decide_eq_false_iff_not, Bool.not_eq_true', Bool.not_eq_false', Bool.not_eq_true, Bool.not_eq_false, Bool.and_eq_true, Bool.or_eq_false_iff, beq_iff_eq, bne_iff_ne, Int.not_lt, Int.not_le, ne_eq] at hc44
      have hmy := hc44
      refine Sx.st_run hT rfl rfl rfl rfl (Sx.y_loadS hT rfl Tryd.underlying23 Tryd.ti23 rfl ((H.blk 0 rfl).seg (k := 3) rfl) (by rfl)) ?_
      clear hT; intro a hT
      refine Sx.st_call hT rfl rfl rfl rfl rfl Tryd.can20 rfl (xPrint_calls na nb nc _ (by have := hj.bnd na (by simp); omega) (by have := hj.bnd nb (by simp); omega) (by have := hj.bnd nc (by simp); omega)) ?_
      rintro _ w20 ⟨rfl, E⟩
      refine ⟨_, rfl, ?_⟩
      clear hT; intro a hT
      replace H := H.pure E; clear E
      refine Sx.st_take hT rfl rfl rfl rfl (Sx.x_move hT rfl rfl) ?_
      clear hT; intro a hT
      refine Sx.st_take hT rfl rfl rfl rfl ((fun w => Sx.x_strne w hT rfl rfl rfl)) ?_
      clear hT; intro a hT
      refine Sx.st_take hT rfl rfl rfl rfl (Sx.x_pick_f hT rfl rfl rfl) ?_
      clear hT; intro a hT
      replace hT := hT.keep [71, 9, 13, 5, 6, 7, 4, 2, 0] rfl
      refine Sx.ser_nil ?_
      refine Sx.then_normal (hK43 _ _ ?_)
      clear hK43
      -- cond 3
      refine Sx.wp_if hT rfl (fun hc46 => ?_) (fun hc46 => ?_)
      · try simp only [decide_eq_true_eq, decide_eq_false_iff_not, Bool.not_eq_true', Bool.not_eq_false', Bool.not_eq_true, Bool.not_eq_false, Bool.and_eq_true, Bool.or_eq_false_iff, beq_iff_eq, bne_iff_ne, Int.not_lt, Int.not_le, ne_eq] at hc46
        try (have hpr : ¬ printS ⟨na, nb, nc⟩ = s := hc46)
        refine wp_seq_k fun K47 hK47 => ?_
        -- region 17 (ref.go:92)
        refine Sx.wp_text [(0, .take), (1, .run), (2, .take)] rfl ?_
        refine Sx.st_take hT rfl rfl rfl rfl (Sx.x_bld hT rfl Tryd.bld23 rfl rfl) ?_
        clear hT; intro a hT
        refine Sx.st_act hT rfl rfl rfl (Sx.y_storeS hT rfl Tryd.ti23 rfl rfl rfl rfl rfl (H.blk 2 rfl) rfl) ?_
        rintro w21 ⟨hb, E, _⟩
        replace H := H.setB 2 rfl hb E rfl; clear hb E
        refine Sx.st_take hT rfl rfl rfl rfl (Sx.x_assign hT rfl rfl) ?_
        clear hT; intro a hT
        replace hT := hT.keep [3, 71, 9, 13, 5, 6, 7, 4, 2, 0] rfl
        refine Sx.ser_nil ?_
        refine Sx.then_normal (hK47 _ _ ?_)
        clear hK47
        refine wp_ret ?_
        refine Sx.then_ret ?_
        refine Sx.done2 (fn := Tryd.f32) hT rfl (.cell (hT.get 2 _ rfl) (Sx.run_resS Tryd.underlying23 Tryd.ti23 ((H.blk 2 rfl).seg (k := 3) rfl) (by rfl))) (.tmp (hT.get 3 _ rfl)) ?_
        exact ⟨0, 0, 0, 4, rfl, .inr ⟨rfl, rfl, rfl, rfl, fun t ht hs9 => by have h9 := hj.fin rfl t ht hs9; subst h9; exact hpr hs9.symm⟩, H.ext⟩
      · try simp only [decide_eq_true_eq, decide_eq_false_iff_not, Bool.not_eq_true', Bool.not_eq_false', Bool.not_eq_true, Bool.not_eq_false, Bool.and_eq_true, Bool.or_eq_false_iff, beq_iff_eq, bne_iff_ne, Int.not_lt, Int.not_le, ne_eq] at hc46
        have hpr : printS ⟨na, nb, nc⟩ = s := hc46
        refine wp_skip ?_
        refine Sx.then_normal (hK42 _ _ ?_)
        clear hK42
        refine wp_seq_k fun K48 hK48 => ?_
        -- region 18 (ref.go:94)
        refine Sx.wp_text [(0, .run), (1, .run), (2, .take)] rfl ?_
        refine Sx.st_run hT rfl rfl rfl rfl (Sx.y_loadS hT rfl Tryd.underlying23 Tryd.ti23 rfl ((H.blk 0 rfl).seg (k := 3) rfl) (by rfl)) ?_
        clear hT; intro a hT
        refine Sx.st_act hT rfl rfl rfl (Sx.y_storeS hT rfl Tryd.ti23 rfl rfl rfl rfl rfl (H.blk 2 rfl) rfl) ?_
        rintro w22 ⟨hb, E, _⟩
        replace H := H.setB 2 rfl hb E rfl; clear hb E
        refine Sx.st_take hT rfl rfl rfl rfl (Sx.x_assign hT rfl rfl) ?_
        clear hT; intro a hT
        replace hT := hT.keep [3, 71, 9, 13, 5, 6, 7, 4, 2, 0] rfl
        refine Sx.ser_nil ?_
        refine Sx.then_normal (hK48 _ _ ?_)
        clear hK48
        refine wp_ret ?_
        refine Sx.done2 (fn := Tryd.f32) hT rfl (.cell (hT.get 2 _ rfl) (Sx.run_resS Tryd.underlying23 Tryd.ti23 ((H.blk 2 rfl).seg (k := 3) rfl) (by rfl))) (.tmp (hT.get 3 _ rfl)) ?_
        exact ⟨na, nb, nc, 0, rfl, .inl ⟨rfl, by simpa using hmy, Eq.symm hpr⟩, H.ext⟩

theorem Texts_calls (s : List UInt8) (w : World) (hl : s.length ≤ 9223372036854775807) (ht : Tab w) (he : Errs w) : Calls Tryd.prog 8 #[.string ⟨s.toArray⟩] w fun e w' => e = .returned (.bool true) ∧ Ext No w w' := by
  have RT : Ro w No _ := Ro.of fun w' x => Tab.ext ht x
  have RE : Ro w No _ := Ro.of fun w' x => he.ext x
  refine Sx.calls_into Tryd.func8 rfl Tryd.ntmps8 rfl fun a hT => ?_
  replace hT := hT.keep [0] rfl
  have H : Sx.Hp w (Sx.No) w [] := Sx.Hp.start _ _
  refine wp_seq_k fun K1 hK1 => ?_
  -- region 0 (law.go:33)
  refine Sx.wp_text [(0, .take)] rfl ?_
  refine Sx.st_take hT rfl rfl rfl rfl (Sx.x_assign hT rfl rfl) ?_
  clear hT; intro a hT
  replace hT := hT.keep [2, 0] rfl
  refine Sx.ser_nil ?_
  refine Sx.then_normal (hK1 _ _ ?_)
  clear hK1
  refine wp_seq_k fun K2 hK2 => ?_
  refine wp_seq_k fun K3 hK3 => ?_
  -- region 1 (law.go:34)
  refine Sx.wp_text [(0, .run), (1, .take)] rfl ?_
  refine Sx.st_call hT rfl rfl rfl rfl rfl Tryd.can10 rfl (first_calls _) ?_
  rintro _ w1 ⟨rfl, E⟩
  refine ⟨_, rfl, ?_⟩
  clear hT; intro a hT
  replace H := H.pure E; clear E
  refine Sx.st_take hT rfl rfl rfl rfl (Sx.x_not hT rfl rfl) ?_
  clear hT; intro a hT
  replace hT := hT.keep [8, 2, 0] rfl
  refine Sx.ser_nil ?_
  refine Sx.then_normal (hK3 _ _ ?_)
  clear hK3
  refine Sx.wp_if hT rfl (fun h => by cases h) (fun _ => ?_)
  refine wp_skip ?_
  refine Sx.then_normal (hK2 _ _ ?_)
  clear hK2
  refine wp_seq_k fun K4 hK4 => ?_
  refine wp_seq_k fun K5 hK5 => ?_
  -- region 3 (law.go:37)
  refine Sx.wp_text [(0, .take), (1, .take), (2, .take)] rfl ?_
  refine Sx.st_take hT rfl rfl rfl rfl (Sx.x_move hT rfl rfl) ?_
  clear hT; intro a hT
  refine Sx.st_take hT rfl rfl rfl rfl (Sx.x_lenStr hT rfl rfl Tryd.underlying9 rfl) ?_
  clear hT; intro a hT
  refine Sx.st_take hT rfl rfl rfl rfl ((fun w => Sx.x_gt w hT rfl rfl rfl)) ?_
  clear hT; intro a hT
  replace hT := hT.keep [11, 8, 2, 0] rfl
  refine Sx.ser_nil ?_
  refine Sx.then_normal (hK5 _ _ ?_)
  clear hK5
  -- cond 1
  refine Sx.wp_if hT rfl (fun hc6 => ?_) (fun hc6 => ?_)
  · try simp only [decide_eq_true_eq, decide_eq_false_iff_not, Bool.not_eq_true', Bool.not_eq_false', Bool.not_eq_true, Bool.not_eq_false, Bool.and_eq_true, Bool.or_eq_false_iff, beq_iff_eq, bne_iff_ne, Int.not_lt, Int.not_le, ne_eq] at hc6
    refine wp_seq_k fun K7 hK7 => ?_
    -- region 4 (law.go:38)
    refine Sx.wp_text [(0, .run), (1, .take)] rfl ?_
    refine Sx.st_call hT rfl rfl rfl rfl rfl Tryd.can10 rfl (first_calls _) ?_
    rintro _ w2 ⟨rfl, E⟩
    refine ⟨_, rfl, ?_⟩
    clear hT; intro a hT
    replace H := H.pure E; clear E
    refine Sx.st_take hT rfl rfl rfl rfl (Sx.x_assign hT rfl rfl) ?_
    clear hT; intro a hT
    replace hT := hT.keep [2, 11, 8, 0] rfl
    refine Sx.ser_nil ?_
    refine Sx.then_normal (hK7 _ _ ?_)
    clear hK7
    refine wp_ret ?_
    refine Sx.then_ret ?_
    refine Sx.done1 (fn := Tryd.f8) hT rfl (.tmp (hT.get 2 _ rfl)) ?_
    first | exact ⟨rfl, H.ext⟩ | exact ⟨ret_b (by simp), H.ext⟩
  · try simp only [decide_eq_true_eq, decide_eq_false_iff_not, Bool.not_eq_true', Bool.not_eq_false', Bool.not_eq_true, Bool.not_eq_false, Bool.and_eq_true, Bool.or_eq_false_iff, beq_iff_eq, bne_iff_ne, Int.not_lt, Int.not_le, ne_eq] at hc6
    refine wp_skip ?_
    refine Sx.then_normal (hK4 _ _ ?_)
    clear hK4
    refine wp_seq_k fun K8 hK8 => ?_
    -- region 5 (law.go:40)
    refine Sx.wp_text [(0, .take), (1, .run), (2, .take), (3, .take), (4, .take), (5, .run), (6, .run), (7, .take)] rfl ?_
    refine Sx.st_take hT rfl rfl rfl rfl (Sx.x_move hT rfl rfl) ?_
    clear hT; intro a hT
    refine Sx.st_call hT rfl rfl rfl rfl rfl Tryd.can31 rfl (Parse_calls s (by omega) _ (RT.at H.ext) (RE.at H.ext)) ?_
    rintro _ w3 ⟨x1, y1, z1, r1, rfl, hp1, E⟩
    refine ⟨_, rfl, ?_⟩
    clear hT; intro a hT
    replace H := H.pure E; clear E
    refine Sx.st_take hT rfl rfl rfl rfl (Sx.x_move hT rfl rfl) ?_
    clear hT; intro a hT
    refine Sx.st_take hT rfl rfl rfl rfl (Sx.x_extractL hT rfl rfl rfl) ?_
    clear hT; intro a hT
    refine Sx.st_take hT rfl rfl rfl rfl (Sx.x_extractL hT rfl rfl rfl) ?_
    clear hT; intro a hT
    refine Sx.st_eff hT rfl rfl rfl rfl (Sx.y_alloc hT rfl Tryd.ti23 rfl _) ?_
    clear hT; rintro _ w4 ⟨b1, rfl, N⟩ a hT
    replace H := H.new N; clear N
    refine Sx.st_act hT rfl rfl rfl (Sx.y_storeS hT rfl Tryd.ti23 rfl rfl rfl rfl rfl (H.blk 0 rfl) rfl) ?_
    rintro w5 ⟨hb, E, _⟩
    replace H := H.setB 0 rfl hb E rfl; clear hb E
    refine Sx.st_take hT rfl rfl rfl rfl (Sx.x_assign hT rfl rfl) ?_
    clear hT; intro a hT
    replace hT := hT.keep [4, 3, 11, 8, 2, 0] rfl
    refine Sx.ser_nil ?_
    refine Sx.then_normal (hK8 _ _ ?_)
    clear hK8
    refine wp_seq_k fun K9 hK9 => ?_
    -- region 6 (law.go:41)
    refine Sx.wp_text [(0, .take), (1, .run), (2, .take), (3, .take), (4, .take), (5, .run), (6, .run), (7, .take)] rfl ?_
    refine Sx.st_take hT rfl rfl rfl rfl (Sx.x_move hT rfl rfl) ?_
    clear hT; intro a hT
    refine Sx.st_call hT rfl rfl rfl rfl rfl Tryd.can32 rfl (xParse_calls s (by omega) _) ?_
    rintro _ w6 ⟨x2, y2, z2, r2, rfl, hp2, E⟩
    refine ⟨_, rfl, ?_⟩
    clear hT; intro a hT
    replace H := H.pure E; clear E
    obtain ⟨rfl, rfl, rfl, rfl⟩ := hp1.one hp2
    refine Sx.st_take hT rfl rfl rfl rfl (Sx.x_move hT rfl rfl) ?_
    clear hT; intro a hT
    refine Sx.st_take hT rfl rfl rfl rfl (Sx.x_extractL hT rfl rfl rfl) ?_
    clear hT; intro a hT
    refine Sx.st_take hT rfl rfl rfl rfl (Sx.x_extractL hT rfl rfl rfl) ?_
    clear hT; intro a hT
    refine Sx.st_eff hT rfl rfl rfl rfl (Sx.y_alloc hT rfl Tryd.ti23 rfl _) ?_
    clear hT; rintro _ w7 ⟨b2, rfl, N⟩ a hT
    replace H := H.new N; clear N
    refine Sx.st_act hT rfl rfl rfl (Sx.y_storeS hT rfl Tryd.ti23 rfl rfl rfl rfl rfl (H.blk 0 rfl) rfl) ?_
    rintro w8 ⟨hb, E, _⟩
    replace H := H.setB 0 rfl hb E rfl; clear hb E
    refine Sx.st_take hT rfl rfl rfl rfl (Sx.x_assign hT rfl rfl) ?_
    clear hT; intro a hT
    replace hT := hT.keep [6, 5, 4, 3, 11, 8, 2, 0] rfl
    refine Sx.ser_nil ?_
    refine Sx.then_normal (hK9 _ _ ?_)
    clear hK9
    refine wp_seq_k fun K10 hK10 => ?_
    -- region 7 (law.go:42)
    refine Sx.wp_text [(0, .run), (1, .take), (2, .run), (3, .run), (4, .take), (5, .take), (6, .take), (7, .take), (8, .take), (9, .take), (10, .take), (11, .take)] rfl ?_
    refine Sx.st_call hT rfl rfl rfl rfl rfl Tryd.can10 rfl (first_calls _) ?_
    rintro _ w9 ⟨rfl, E⟩
    refine ⟨_, rfl, ?_⟩
    clear hT; intro a hT
    replace H := H.pure E; clear E
    refine Sx.st_take hT rfl rfl rfl rfl (Sx.x_move hT rfl rfl) ?_
    clear hT; intro a hT
    refine Sx.st_run hT rfl rfl rfl rfl (Sx.y_loadS hT rfl Tryd.underlying23 Tryd.ti23 rfl ((H.blk 1 rfl).seg (k := 3) rfl) (by rfl)) ?_
    clear hT; intro a hT
    refine Sx.st_run hT rfl rfl rfl rfl (Sx.y_loadS hT rfl Tryd.underlying23 Tryd.ti23 rfl ((H.blk 0 rfl).seg (k := 3) rfl) (by rfl)) ?_
    clear hT; intro a hT
    refine Sx.st_take hT rfl rfl rfl rfl (Sx.x_eqS hT rfl (by kernel_rfl) (Tryd.eq23 _ _ _ _ _ _) rfl rfl rfl) ?_
    clear hT; intro a hT
    refine Sx.st_take hT rfl rfl rfl rfl (Sx.x_pick_t hT rfl rfl rfl) ?_
    clear hT; intro a hT
    refine Sx.st_take hT rfl rfl rfl rfl (Sx.x_move hT rfl rfl) ?_
    clear hT; intro a hT
    -- guard (7, 6)
    refine Sx.Sl.two hT 29 rfl (fun hc11 hT => ?_) (fun hc11 hT => ?_)
    · try simp only [decide_eq_true_eq, decide_eq_false_iff_not, Bool.not_eq_true', Bool.not_eq_false', Bool.not_eq_true, Bool.not_eq_false, Bool.and_eq_true, Bool.or_eq_false_iff, beq_iff_eq, bne_iff_ne, Int.not_lt, Int.not_le, ne_eq] at hc11
      refine Sx.st_take hT rfl rfl rfl rfl (Sx.x_move hT rfl rfl) ?_
      clear hT; intro a hT
      refine Sx.st_take hT rfl rfl rfl rfl (Sx.x_move hT rfl rfl) ?_
      clear hT; intro a hT
      refine Sx.st_take hT rfl rfl rfl rfl ((fun w => Sx.x_eq w hT rfl rfl rfl)) ?_
      clear hT; intro a hT
      refine Sx.st_take hT rfl rfl rfl rfl (Sx.x_pick_t hT rfl rfl rfl) ?_
      clear hT; intro a hT
      refine Sx.st_take hT rfl rfl rfl rfl (Sx.x_assign hT rfl rfl) ?_
      clear hT; intro a hT
      replace hT := hT.keep [2, 6, 5, 4, 3, 11, 8, 0] rfl
      refine Sx.ser_nil ?_
      refine Sx.then_normal (hK10 _ _ ?_)
      clear hK10
      refine wp_ret ?_
      refine Sx.done1 (fn := Tryd.f8) hT rfl (.tmp (hT.get 2 _ rfl)) ?_
      first | exact ⟨rfl, H.ext⟩ | exact ⟨ret_b (by simp), H.ext⟩
    · exfalso
      try simp only [decide_eq_true_eq, decide_eq_false_iff_not, Bool.not_eq_true', Bool.not_eq_false', Bool.not_eq_true, Bool.not_eq_false, Bool.and_eq_true, Bool.or_eq_false_iff, beq_iff_eq, bne_iff_ne, Int.not_lt, Int.not_le, ne_eq] at hc11
      first | (simp at hc11; done) | omega | (simp at hc11; omega) | (simp_all; done)

end Go.Proofs.YtioebjimkainjaaDoor
