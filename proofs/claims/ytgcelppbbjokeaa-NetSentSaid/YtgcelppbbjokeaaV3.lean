/- Walk: NetSent. -/
import Derived.Test.YtgcelppbbjokeaaV2
import Derived.Test.YtgcelppbbjokeaaL1
set_option linter.unusedSimpArgs false
set_option linter.unusedVariables false
namespace Go.Proofs.Ytgcelppbbjokeaa
open Sx
theorem Try.can6 : Sx.Can Try.prog 6 := ⟨_, Try.func6, by kernel_rfl, rfl⟩
theorem NetSent_many (ad : Option Addr) (c : Nat) (rs0 : List ROp) (os : List OpV) (w : World) (hops : Ops w ad rs0 os) (hfb : fewB os = false) : Calls Try.prog 6 #[.slice ad rs0.length c] w fun e w' => e = .returned (.bool true) ∧ Ext No w w' := by
  refine Sx.calls_into Try.func6 rfl Try.ntmps6 rfl fun a hT => ?_
  replace hT := hT.keep [0] rfl
  have H : Sx.Hp w (Sx.No) w [] := Sx.Hp.start _ _
  refine wp_seq_k fun K1 hK1 => ?_
  -- region 0 (law.go:118)
  refine Sx.wp_text [(0, .take)] rfl ?_
  refine Sx.st_take hT rfl rfl rfl rfl (Sx.x_assign hT rfl rfl) ?_
  clear hT; intro a hT
  replace hT := hT.keep [2, 0] rfl
  refine Sx.ser_nil ?_
  refine Sx.then_normal (hK1 _ _ ?_)
  clear hK1
  refine wp_seq_k fun K2 hK2 => ?_
  refine wp_seq_k fun K3 hK3 => ?_
  -- region 1 (law.go:119)
  refine Sx.wp_text [(0, .run), (1, .take)] rfl ?_
  refine Sx.st_call hT rfl rfl rfl rfl rfl Try.can7 rfl (first_calls _) ?_
  rintro _ w1 ⟨rfl, E⟩
  refine ⟨_, rfl, ?_⟩
  clear hT; intro a hT
  replace H := H.pure E; clear E
  refine Sx.st_take hT rfl rfl rfl rfl (Sx.x_not hT rfl rfl) ?_
  clear hT; intro a hT
  replace hT := hT.keep [15, 2, 0] rfl
  refine Sx.ser_nil ?_
  refine Sx.then_normal (hK3 _ _ ?_)
  clear hK3
  refine Sx.wp_if hT rfl (fun h => by cases h) (fun _ => ?_)
  refine wp_skip ?_
  refine Sx.then_normal (hK2 _ _ ?_)
  clear hK2
  refine wp_seq_k fun K4 hK4 => ?_
  -- region 3 (law.go:122)
  refine Sx.wp_text [(0, .run), (1, .take), (2, .take), (3, .take), (4, .take), (5, .take)] rfl ?_
  refine Sx.st_call hT rfl rfl rfl rfl rfl Try.can8 rfl (New_yes 4096 _ (by omega)) ?_
  rintro _ w2 ⟨p, rfl, hp0, hnet, E⟩
  refine ⟨_, rfl, ?_⟩
  clear hT; intro a hT
  replace H := H.pure E; clear E
  refine Sx.st_take hT rfl rfl rfl rfl (Sx.x_move hT rfl rfl) ?_
  clear hT; intro a hT
  refine Sx.st_take hT rfl rfl rfl rfl (Sx.x_extractL hT rfl rfl rfl) ?_
  clear hT; intro a hT
  refine Sx.st_take hT rfl rfl rfl rfl (Sx.x_extractL hT rfl rfl rfl) ?_
  clear hT; intro a hT
  refine Sx.st_take hT rfl rfl rfl rfl (Sx.x_assign hT rfl rfl) ?_
  clear hT; intro a hT
  refine Sx.st_take hT rfl rfl rfl rfl (Sx.x_assign hT rfl rfl) ?_
  clear hT; intro a hT
  replace hT := hT.keep [4, 3, 15, 2, 0] rfl
  refine Sx.ser_nil ?_
  refine Sx.then_normal (hK4 _ _ ?_)
  clear hK4
  refine wp_seq_k fun K5 hK5 => ?_
  refine wp_seq_k fun K6 hK6 => ?_
  -- region 4 (law.go:123)
  refine Sx.wp_text [(0, .take), (1, .run), (2, .take)] rfl ?_
  refine Sx.st_take hT rfl rfl rfl rfl (Sx.x_move hT rfl rfl) ?_
  clear hT; intro a hT
  refine Sx.st_call hT rfl rfl rfl rfl rfl Try.can9 rfl (few_is false ad rs0.length c rs0 os _ (hops.ext_no H.ext) rfl hfb) ?_
  rintro _ w3 ⟨rfl, E⟩
  refine ⟨_, rfl, ?_⟩
  clear hT; intro a hT
  replace H := H.pure E; clear E
  refine Sx.st_take hT rfl rfl rfl rfl (Sx.x_not hT rfl rfl) ?_
  clear hT; intro a hT
  replace hT := hT.keep [22, 4, 3, 15, 2, 0] rfl
  refine Sx.ser_nil ?_
  refine Sx.then_normal (hK6 _ _ ?_)
  clear hK6
  refine Sx.wp_if hT rfl (fun _ => ?_) (fun h => by cases h)
  refine wp_seq_k fun K7 hK7 => ?_
  -- region 5 (law.go:124)
  refine Sx.wp_text [(0, .run), (1, .take)] rfl ?_
  refine Sx.st_call hT rfl rfl rfl rfl rfl Try.can7 rfl (first_calls _) ?_
  rintro _ w4 ⟨rfl, E⟩
  refine ⟨_, rfl, ?_⟩
  clear hT; intro a hT
  replace H := H.pure E; clear E
  refine Sx.st_take hT rfl rfl rfl rfl (Sx.x_assign hT rfl rfl) ?_
  clear hT; intro a hT
  replace hT := hT.keep [2, 22, 4, 3, 15, 0] rfl
  refine Sx.ser_nil ?_
  refine Sx.then_normal (hK7 _ _ ?_)
  clear hK7
  refine wp_ret ?_
  refine Sx.then_ret ?_
  refine Sx.done1 (fn := Try.f6) hT rfl (.tmp (hT.get 2 _ rfl)) ?_
  exact ⟨rfl, H.ext⟩

structure SG where
  k : Nat
  ms : List Mail
  F : Nat → Prop
  rs : List RM
  ts : List Mail
  ad2 : Option Addr
  c2 : Nat
  G : Nat → Prop

theorem NetSent_few (ad : Option Addr) (c : Nat) (rs0 : List ROp) (os : List OpV) (w : World) (hops : Ops w ad rs0 os) (hfb : fewB os = true) : Calls Try.prog 6 #[.slice ad rs0.length c] w fun e w' => e = .returned (.bool true) ∧ Ext No w w' := by
  obtain ⟨hfew, hsmall⟩ := few_small hfb
  have hl := hops.all.length
  refine Sx.calls_into Try.func6 rfl Try.ntmps6 rfl fun a hT => ?_
  replace hT := hT.keep [0] rfl
  have H : Sx.Hp w (Sx.No) w [] := Sx.Hp.start _ _
  refine wp_seq_k fun K1 hK1 => ?_
  -- region 0 (law.go:118)
  refine Sx.wp_text [(0, .take)] rfl ?_
  refine Sx.st_take hT rfl rfl rfl rfl (Sx.x_assign hT rfl rfl) ?_
  clear hT; intro a hT
  replace hT := hT.keep [2, 0] rfl
  refine Sx.ser_nil ?_
  refine Sx.then_normal (hK1 _ _ ?_)
  clear hK1
  refine wp_seq_k fun K2 hK2 => ?_
  refine wp_seq_k fun K3 hK3 => ?_
  -- region 1 (law.go:119)
  refine Sx.wp_text [(0, .run), (1, .take)] rfl ?_
  refine Sx.st_call hT rfl rfl rfl rfl rfl Try.can7 rfl (first_calls _) ?_
  rintro _ w1 ⟨rfl, E⟩
  refine ⟨_, rfl, ?_⟩
  clear hT; intro a hT
  replace H := H.pure E; clear E
  refine Sx.st_take hT rfl rfl rfl rfl (Sx.x_not hT rfl rfl) ?_
  clear hT; intro a hT
  replace hT := hT.keep [15, 2, 0] rfl
  refine Sx.ser_nil ?_
  refine Sx.then_normal (hK3 _ _ ?_)
  clear hK3
  refine Sx.wp_if hT rfl (fun h => by cases h) (fun _ => ?_)
  refine wp_skip ?_
  refine Sx.then_normal (hK2 _ _ ?_)
  clear hK2
  refine wp_seq_k fun K4 hK4 => ?_
  -- region 3 (law.go:122)
  refine Sx.wp_text [(0, .run), (1, .take), (2, .take), (3, .take), (4, .take), (5, .take)] rfl ?_
  refine Sx.st_call hT rfl rfl rfl rfl rfl Try.can8 rfl (New_yes 4096 _ (by omega)) ?_
  rintro _ w2 ⟨p, rfl, hp0, hnet, E⟩
  refine ⟨_, rfl, ?_⟩
  clear hT; intro a hT
  replace H := H.cons (c := netC p 4096 [] (Sx.One p)) E hnet.ck (fun k hk => ⟨by have h9 : k = p := hk; omega, hnet.lt k hk⟩)
  clear hnet E
  refine Sx.st_take hT rfl rfl rfl rfl (Sx.x_move hT rfl rfl) ?_
  clear hT; intro a hT
  refine Sx.st_take hT rfl rfl rfl rfl (Sx.x_extractL hT rfl rfl rfl) ?_
  clear hT; intro a hT
  refine Sx.st_take hT rfl rfl rfl rfl (Sx.x_extractL hT rfl rfl rfl) ?_
  clear hT; intro a hT
  refine Sx.st_take hT rfl rfl rfl rfl (Sx.x_assign hT rfl rfl) ?_
  clear hT; intro a hT
  refine Sx.st_take hT rfl rfl rfl rfl (Sx.x_assign hT rfl rfl) ?_
  clear hT; intro a hT
  replace hT := hT.keep [4, 3, 15, 2, 0] rfl
  refine Sx.ser_nil ?_
  refine Sx.then_normal (hK4 _ _ ?_)
  clear hK4
  refine wp_seq_k fun K5 hK5 => ?_
  refine wp_seq_k fun K6 hK6 => ?_
  -- region 4 (law.go:123)
  refine Sx.wp_text [(0, .take), (1, .run), (2, .take)] rfl ?_
  refine Sx.st_take hT rfl rfl rfl rfl (Sx.x_move hT rfl rfl) ?_
  clear hT; intro a hT
  refine Sx.st_call hT rfl rfl rfl rfl rfl Try.can9 rfl (few_is true ad rs0.length c rs0 os _ (hops.ext_no H.ext) rfl hfb) ?_
  rintro _ w3 ⟨rfl, E⟩
  refine ⟨_, rfl, ?_⟩
  clear hT; intro a hT
  replace H := H.pure E; clear E
  refine Sx.st_take hT rfl rfl rfl rfl (Sx.x_not hT rfl rfl) ?_
  clear hT; intro a hT
  replace hT := hT.keep [22, 4, 3, 15, 2, 0] rfl
  refine Sx.ser_nil ?_
  refine Sx.then_normal (hK6 _ _ ?_)
  clear hK6
  refine Sx.wp_if hT rfl (fun h => by cases h) (fun _ => ?_)
  refine wp_skip ?_
  refine Sx.then_normal (hK5 _ _ ?_)
  clear hK5
  refine wp_seq_k fun K7 hK7 => ?_
  refine wp_seq_k fun K8 hK8 => ?_
  -- region 6 (law.go:126)
  refine Sx.wp_text [(0, .take), (1, .take), (2, .take), (3, .take), (4, .take), (5, .take)] rfl ?_
  refine Sx.st_take hT rfl rfl rfl rfl (Sx.x_move hT rfl rfl) ?_
  clear hT; intro a hT
  refine Sx.st_take hT rfl rfl rfl rfl (Sx.x_eqnil_some hT rfl Try.underlying24 rfl rfl) ?_
  clear hT; intro a hT
  refine Sx.st_take hT rfl rfl rfl rfl (Sx.x_move hT rfl rfl) ?_
  clear hT; intro a hT
  refine Sx.st_take hT rfl rfl rfl rfl (Sx.x_move hT rfl rfl) ?_
  clear hT; intro a hT
  refine Sx.st_take hT rfl rfl rfl rfl ((fun w => Sx.x_ne w hT rfl rfl rfl)) ?_
  clear hT; intro a hT
  refine Sx.st_take hT rfl rfl rfl rfl (Sx.x_pick_f hT rfl rfl rfl) ?_
  clear hT; intro a hT
  replace hT := hT.keep [29, 22, 4, 3, 15, 2, 0] rfl
  refine Sx.ser_nil ?_
  refine Sx.then_normal (hK8 _ _ ?_)
  clear hK8
  -- cond 2
  refine Sx.wp_if hT rfl (fun hc9 => ?_) (fun hc9 => ?_)
  · exfalso
    try simp only [decide_eq_true_eq, decide_eq_false_iff_not, Bool.not_eq_true', Bool.not_eq_false', Bool.not_eq_true, Bool.not_eq_false, Bool.and_eq_true, Bool.or_eq_false_iff, beq_iff_eq, bne_iff_ne, Int.not_lt, Int.not_le, ne_eq] at hc9
    first | (simp at hc9; done) | omega | (simp at hc9; omega) | (simp_all; done)
  · try simp only [decide_eq_true_eq, decide_eq_false_iff_not, Bool.not_eq_true', Bool.not_eq_false', Bool.not_eq_true, Bool.not_eq_false, Bool.and_eq_true, Bool.or_eq_false_iff, beq_iff_eq, bne_iff_ne, Int.not_lt, Int.not_le, ne_eq] at hc9
    refine wp_skip ?_
    refine Sx.then_normal (hK7 _ _ ?_)
    clear hK7
    refine wp_seq_k fun K10 hK10 => ?_
    -- region 8 (law.go:129)
    refine Sx.wp_text [(0, .take)] rfl ?_
    refine Sx.st_take hT rfl rfl rfl rfl (Sx.x_assign hT rfl rfl) ?_
    clear hT; intro a hT
    replace hT := hT.keep [5, 29, 22, 4, 3, 15, 2, 0] rfl
    refine Sx.ser_nil ?_
    refine Sx.then_normal (hK10 _ _ ?_)
    clear hK10
    refine wp_seq_k fun K11 hK11 => ?_
    refine wp_seq_k fun K12 hK12 => ?_
    -- region 9 (law.go:130)
    refine Sx.wp_text [(0, .take)] rfl ?_
    refine Sx.st_take hT rfl rfl rfl rfl (Sx.x_assign hT rfl rfl) ?_
    clear hT; intro a hT
    replace hT := hT.keep [6, 5, 29, 22, 4, 3, 15, 2, 0] rfl
    refine Sx.ser_nil ?_
    refine Sx.then_normal (hK12 _ _ ?_)
    clear hK12
    refine wp_block ?_
    replace H := H.nilR 34 3
    replace H := H.free (fun w9 => Ext No w w9 → All2 (RM.is w9) [] []) (fun _ _ => trivial)
    -- loop 0
    refine Sx.wp_loopH (G := SG) (fun ⟨k, ms, F, rs, ts, ad2, c2, G⟩ => [(6, .int .i64 (k : Int)), (5, .slice ad2 rs.length c2)]) (fun ⟨k, ms, F, rs, ts, ad2, c2, G⟩ => [netC p 4096 ms F, cR 34 3 ad2 rs.length c2 (rs.flatMap RM.cells), (G, fun w9 => Ext No w w9 → All2 (RM.is w9) rs ts)]) (fun ⟨k, ms, F, rs, ts, ad2, c2, G⟩ => k ≤ os.length ∧ ts.Perm ms ∧ ts.length ≤ k ∧ rs.length = ts.length) (fun ⟨k, ms, F, rs, ts, ad2, c2, G⟩ => os.length - k) (⟨0, [], Sx.One p, [], [], none, 0, No⟩ : SG) (hT.keep [6, 5, 29, 22, 4, 3, 15, 0] rfl) (H.keep [2, 1, 0] rfl rfl) (⟨Nat.zero_le _, List.Perm.refl _, Nat.zero_le _, rfl⟩) ?_
    clear hT H
    rintro ⟨k, ms, F, rs, ts, ad2, c2, G⟩ a w4 hJ hT H
    replace hT := hT.keep [6, 5, 29, 22, 4, 3, 15, 0] rfl
    replace H := H.keep [0, 1, 2] rfl rfl
    obtain ⟨hk, hperm, htk, hrl⟩ := hJ
    have hpl := hperm.length_eq
    refine wp_seq_k fun K13 hK13 => ?_
    refine wp_seq_k fun K14 hK14 => ?_
    -- region 10 (law.go:130)
    refine Sx.wp_text [(0, .take), (1, .take), (2, .take), (3, .take)] rfl ?_
    refine Sx.st_take hT rfl rfl rfl rfl (Sx.x_move hT rfl rfl) ?_
    clear hT; intro a hT
    refine Sx.st_take hT rfl rfl rfl rfl (Sx.x_move hT rfl rfl) ?_
    clear hT; intro a hT
    refine Sx.st_take hT rfl rfl rfl rfl (Sx.x_len_slice hT rfl rfl Try.underlying22 rfl) ?_
    clear hT; intro a hT
    refine Sx.st_take hT rfl rfl rfl rfl ((fun w => Sx.x_lt w hT rfl rfl rfl)) ?_
    clear hT; intro a hT
    replace hT := hT.keep [33, 6, 5, 29, 22, 4, 3, 15, 0] rfl
    refine Sx.ser_nil ?_
    refine Sx.then_normal (hK14 _ _ ?_)
    clear hK14
    -- cond 3
    refine Sx.wp_if hT rfl (fun hc15 => ?_) (fun hc15 => ?_)
    · try simp only [decide_eq_true_eq, decide_eq_false_iff_not, Bool.not_eq_true', Bool.not_eq_false', Bool.not_eq_true, Bool.not_eq_false, Bool.and_eq_true, Bool.or_eq_false_iff, beq_iff_eq, bne_iff_ne, Int.not_lt, Int.not_le, ne_eq] at hc15
      obtain ⟨o, ho⟩ : ∃ o, os[k]? = some o := ⟨_, List.getElem?_eq_getElem (by omega)⟩
      obtain ⟨r, hr, hor⟩ := hops.all.get ho
      have hsm0 := hsmall o (List.mem_of_getElem? ho)
      have hrn := hor.n
      refine wp_skip ?_
      refine Sx.then_normal (hK13 _ _ ?_)
      clear hK13
      refine wp_seq_k fun K16 hK16 => ?_
      refine wp_block ?_
      refine wp_seq_k fun K17 hK17 => ?_
      -- region 12 (law.go:131)
      refine Sx.wp_text [(0, .take), (1, .take), (2, .take), (3, .run), (4, .run), (5, .run)] rfl ?_
      refine Sx.st_take hT rfl rfl rfl rfl (Sx.x_move hT rfl rfl) ?_
      clear hT; intro a hT
      refine Sx.st_take hT rfl rfl rfl rfl (Sx.x_move hT rfl rfl) ?_
      clear hT; intro a hT
      refine Sx.st_take hT rfl rfl rfl rfl (Sx.x_index hT rfl Try.underlying22 Try.ti32 ((hops.ext_no H.ext).ss.sv) rfl rfl rfl (by omega)) ?_
      clear hT; intro a hT
      refine Sx.st_run hT rfl rfl rfl rfl (Sx.y_loadS hT rfl Try.underlying32 Try.ti32 rfl ((hops.ext_no H.ext).ss.cs ROp.len hr) (by rfl)) ?_
      clear hT; intro a hT
      refine Sx.st_eff hT rfl rfl rfl rfl (Sx.y_alloc hT rfl Try.ti32 rfl _) ?_
      clear hT; rintro _ w5 ⟨b1, rfl, N⟩ a hT
      replace H := H.new N; clear N
      refine Sx.st_act hT rfl rfl rfl (Sx.y_storeS hT rfl Try.ti32 rfl rfl rfl rfl rfl (H.blk 0 rfl) rfl) ?_
      rintro w6 ⟨hb, E, _⟩
      replace H := H.setB 0 rfl hb E rfl; clear hb E
      replace hT := hT.keep [7, 33, 6, 5, 29, 22, 4, 3, 15, 0] rfl
      refine Sx.ser_nil ?_
      refine Sx.then_normal (hK17 _ _ ?_)
      clear hK17
      refine wp_seq_k fun K18 hK18 => ?_
      by_cases hi : 0 ≤ r.a ∧ r.a < (ms.length : Int)
      · skip
        obtain ⟨k0, hk0⟩ : ∃ k0 : Nat, r.a = k0 := ⟨r.a.toNat, by omega⟩
        obtain ⟨m, hm⟩ : ∃ o, ms[k0]? = some o := ⟨_, List.getElem?_eq_getElem (by omega)⟩
        have hmem : m ∈ ts := hperm.mem_iff.2 (List.mem_of_getElem? hm)
        have hsm := (hn_of H 1 rfl).small hm
        -- region 13 (law.go:132)
        refine Sx.wp_text [(0, .take), (1, .take), (2, .run), (3, .run), (4, .take), (5, .take), (6, .take), (7, .run), (8, .run), (9, .take)] rfl ?_
        refine Sx.st_take hT rfl rfl rfl rfl (Sx.x_move hT rfl rfl) ?_
        clear hT; intro a hT
        refine Sx.st_take hT rfl rfl rfl rfl (Sx.x_fieldAddr hT rfl Try.fa32_1 rfl) ?_
        clear hT; intro a hT
        refine Sx.st_run hT rfl rfl rfl rfl (Sx.x_load1 hT rfl Try.fl3 rfl ((H.blk 0 rfl).nth rfl)) ?_
        clear hT; intro a hT
        refine Sx.st_call hT rfl rfl rfl rfl rfl Try.can11 rfl (hAt_yes (hn_of H 1 rfl) _ k0 m hk0 hm) ?_
        rintro _ w7 ⟨ad4, c4, G4, rfl, hnil4, K⟩
        refine ⟨_, rfl, ?_⟩
        clear hT; intro a hT
        replace H := H.more K rfl; clear K
        refine Sx.st_take hT rfl rfl rfl rfl (Sx.x_move hT rfl rfl) ?_
        clear hT; intro a hT
        refine Sx.st_take hT rfl rfl rfl rfl (Sx.x_extractL hT rfl rfl rfl) ?_
        clear hT; intro a hT
        refine Sx.st_take hT rfl rfl rfl rfl (Sx.x_extractL hT rfl rfl rfl) ?_
        clear hT; intro a hT
        refine Sx.st_eff hT rfl rfl rfl rfl (Sx.y_alloc hT rfl Try.ti34 rfl _) ?_
        clear hT; rintro _ w8 ⟨b2, rfl, N⟩ a hT
        replace H := H.new N; clear N
        refine Sx.st_act hT rfl rfl rfl (Sx.y_storeS hT rfl Try.ti34 rfl rfl rfl rfl rfl (H.blk 0 rfl) rfl) ?_
        rintro w9 ⟨hb, E, _⟩
        replace H := H.setB 0 rfl hb E rfl; clear hb E
        refine Sx.st_take hT rfl rfl rfl rfl (Sx.x_assign hT rfl rfl) ?_
        clear hT; intro a hT
        replace hT := hT.keep [9, 8, 7, 33, 6, 5, 29, 22, 4, 3, 15, 0] rfl
        refine Sx.ser_nil ?_
        refine Sx.then_normal (hK18 _ _ ?_)
        clear hK18
        refine wp_seq_k fun K19 hK19 => ?_
        -- region 14 (law.go:133)
        refine Sx.wp_text [(0, .take)] rfl ?_
        refine Sx.st_take hT rfl rfl rfl rfl (Sx.x_assign hT rfl rfl) ?_
        clear hT; intro a hT
        replace hT := hT.keep [10, 9, 8, 7, 33, 6, 5, 29, 22, 4, 3, 15, 0] rfl
        refine Sx.ser_nil ?_
        refine Sx.then_normal (hK19 _ _ ?_)
        clear hK19
        refine wp_seq_k fun K20 hK20 => ?_
        refine wp_seq_k fun K21 hK21 => ?_
        -- region 15 (law.go:134)
        refine Sx.wp_text [(0, .take), (1, .run)] rfl ?_
        refine Sx.st_take hT rfl rfl rfl rfl (Sx.x_fieldAddr hT rfl Try.fa32_0 rfl) ?_
        clear hT; intro a hT
        refine Sx.st_run hT rfl rfl rfl rfl (Sx.x_load1 hT rfl Try.fl3 rfl ((H.blk 2 rfl).nth rfl)) ?_
        clear hT; intro a hT
        replace hT := hT.keep [48, 10, 9, 8, 7, 33, 6, 5, 29, 22, 4, 3, 15, 0] rfl
        refine Sx.ser_nil ?_
        refine Sx.then_normal (hK21 _ _ ?_)
        clear hK21
        refine wp_block ?_
        refine wp_seq_k fun K22 hK22 => ?_
        -- region 16 (law.go:135)
        refine Sx.wp_text [(0, .take), (1, .take)] rfl ?_
        refine Sx.st_take hT rfl rfl rfl rfl ((fun w => Sx.x_eq w hT rfl rfl rfl)) ?_
        clear hT; intro a hT
        refine Sx.st_take hT rfl rfl rfl rfl (Sx.x_assign hT rfl rfl) ?_
        clear hT; intro a hT
        replace hT := hT.keep [49, 48, 10, 9, 8, 7, 33, 6, 5, 29, 22, 4, 3, 15, 0] rfl
        refine Sx.ser_nil ?_
        refine Sx.then_normal (hK22 _ _ ?_)
        clear hK22
        -- cond 4
        refine Sx.wp_if hT rfl (fun hc23 => ?_) (fun hc23 => ?_)
        · try simp only [decide_eq_true_eq, decide_eq_false_iff_not, Bool.not_eq_true', Bool.not_eq_false', Bool.not_eq_true, Bool.not_eq_false, Bool.and_eq_true, Bool.or_eq_false_iff, beq_iff_eq, bne_iff_ne, Int.not_lt, Int.not_le, ne_eq] at hc23
          refine wp_seq_k fun K24 hK24 => ?_
          refine wp_seq_k fun K25 hK25 => ?_
          -- region 17 (law.go:136)
          refine Sx.wp_text [(0, .take), (1, .take), (2, .run), (3, .take), (4, .run), (5, .take), (6, .run), (7, .run), (8, .take)] rfl ?_
          refine Sx.st_take hT rfl rfl rfl rfl (Sx.x_move hT rfl rfl) ?_
          clear hT; intro a hT
          refine Sx.st_take hT rfl rfl rfl rfl (Sx.x_fieldAddr hT rfl Try.fa32_1 rfl) ?_
          clear hT; intro a hT
          refine Sx.st_run hT rfl rfl rfl rfl (Sx.x_load1 hT rfl Try.fl3 rfl ((H.blk 2 rfl).nth rfl)) ?_
          clear hT; intro a hT
          refine Sx.st_take hT rfl rfl rfl rfl (Sx.x_fieldAddr hT rfl Try.fa32_2 rfl) ?_
          clear hT; intro a hT
          refine Sx.st_run hT rfl rfl rfl rfl (Sx.x_load1 hT rfl Try.fl3 rfl ((H.blk 2 rfl).nth rfl)) ?_
          clear hT; intro a hT
          refine Sx.st_take hT rfl rfl rfl rfl (Sx.x_fieldAddr hT rfl Try.fa32_3 rfl) ?_
          clear hT; intro a hT
          refine Sx.st_run hT rfl rfl rfl rfl (Sx.x_load1 hT rfl Try.fl30 rfl ((H.blk 2 rfl).nth rfl)) ?_
          clear hT; intro a hT
          refine Sx.st_call hT rfl rfl rfl rfl rfl Try.can10 rfl (hSend_ok (H.pre [3] rfl rfl) r.a r.b r.ad r.n r.c o.data (by omega) (hor.bs.ext_no H.ext) hor.n hor.nil (by omega)) ?_
          rintro _ w10 ⟨F2, rfl, K⟩
          refine ⟨_, rfl, ?_⟩
          clear hT; intro a hT
          replace H := H.back [3] [0, 1, 2, 4, 5] rfl rfl rfl K rfl; clear K
          refine Sx.st_take hT rfl rfl rfl rfl ((fun w => Sx.x_ne w hT rfl rfl rfl)) ?_
          clear hT; intro a hT
          replace hT := hT.keep [59, 49, 48, 10, 9, 8, 7, 33, 6, 5, 29, 22, 4, 3, 15, 0] rfl
          refine Sx.ser_nil ?_
          refine Sx.then_normal (hK25 _ _ ?_)
          clear hK25
          -- cond 5
          refine Sx.wp_if hT rfl (fun hc26 => ?_) (fun hc26 => ?_)
          · exfalso
            try simp only [decide_eq_true_eq, decide_eq_false_iff_not, Bool.not_eq_true', Bool.not_eq_false', Bool.not_eq_true, Bool.not_eq_false, Bool.and_eq_true, Bool.or_eq_false_iff, beq_iff_eq, bne_iff_ne, Int.not_lt, Int.not_le, ne_eq] at hc26
            first | (simp at hc26; done) | omega | (simp at hc26; omega) | (simp_all; done)
          · try simp only [decide_eq_true_eq, decide_eq_false_iff_not, Bool.not_eq_true', Bool.not_eq_false', Bool.not_eq_true, Bool.not_eq_false, Bool.and_eq_true, Bool.or_eq_false_iff, beq_iff_eq, bne_iff_ne, Int.not_lt, Int.not_le, ne_eq] at hc26
            refine wp_skip ?_
            refine Sx.then_normal (hK24 _ _ ?_)
            clear hK24
            -- region 19 (law.go:139)
            refine Sx.wp_text [(0, .take), (1, .take), (2, .run), (3, .take), (4, .run), (5, .take), (6, .run), (7, .take), (8, .run), (9, .run), (10, .take)] rfl ?_
            refine Sx.st_take hT rfl rfl rfl rfl (Sx.x_move hT rfl rfl) ?_
            clear hT; intro a hT
            refine Sx.st_take hT rfl rfl rfl rfl (Sx.x_fieldAddr hT rfl Try.fa32_1 rfl) ?_
            clear hT; intro a hT
            refine Sx.st_run hT rfl rfl rfl rfl (Sx.x_load1 hT rfl Try.fl3 rfl ((H.blk 3 rfl).nth rfl)) ?_
            clear hT; intro a hT
            refine Sx.st_take hT rfl rfl rfl rfl (Sx.x_fieldAddr hT rfl Try.fa32_2 rfl) ?_
            clear hT; intro a hT
            refine Sx.st_run hT rfl rfl rfl rfl (Sx.x_load1 hT rfl Try.fl3 rfl ((H.blk 3 rfl).nth rfl)) ?_
            clear hT; intro a hT
            refine Sx.st_take hT rfl rfl rfl rfl (Sx.x_fieldAddr hT rfl Try.fa32_3 rfl) ?_
            clear hT; intro a hT
            refine Sx.st_run hT rfl rfl rfl rfl (Sx.x_load1 hT rfl Try.fl30 rfl ((H.blk 3 rfl).nth rfl)) ?_
            clear hT; intro a hT
            refine Sx.st_take hT rfl rfl rfl rfl (Sx.x_bld hT rfl Try.bld34 rfl rfl) ?_
            clear hT; intro a hT
            refine Sx.st_eff hT rfl rfl rfl rfl (Sx.y_slice1 hT rfl Try.underlying52 Try.ti34 rfl rfl rfl rfl rfl rfl _) ?_
            clear hT; rintro _ w11 ⟨b3, rfl, N⟩ a hT
            replace H := H.new N; clear N
            refine Sx.st_eff hT rfl rfl rfl rfl (Sx.x_append hT rfl rfl Try.underlying52 Try.ti34 rfl (by decide) rfl rfl (H.row 5 rfl) ((H.blk 0 rfl).sv1 rfl) (by simp [Value.oneCell']) (fun h => by cases h) (by unfold maxLen; omega) (by omega)) ?_
            rintro _ w12 ⟨ad12, c12, rfl, hr, E, hown, -⟩
            clear hT; intro a hT
            replace H := H.setR 5 rfl hr E hown rfl; clear hr E hown
            have hxs : rs.flatMap RM.cells ++ RM.cells (⟨r.a, r.b, r.ad, r.n, r.c⟩ : RM) = (rs ++ [(⟨r.a, r.b, r.ad, r.n, r.c⟩ : RM)]).flatMap RM.cells := by simp
            have hnl : rs.length + 1 = (rs ++ [((⟨r.a, r.b, r.ad, r.n, r.c⟩ : RM) : RM)]).length := by simp
            simp only [RM.cells] at hxs
            rw [hxs, hnl] at H
            rw [hnl] at hT
            replace H := H.turn 6 rfl (fun w9 hp x => (hp x).append (All2.single (R := RM.is w9) (a := (⟨r.a, r.b, r.ad, r.n, r.c⟩ : RM)) (b := (⟨r.a, r.b, o.data⟩ : Mail)) ⟨rfl, rfl, hor.n, hor.bs.ext_no x, hor.nil, by show r.n ≤ _; omega⟩)) rfl
            refine Sx.st_take hT rfl rfl rfl rfl (Sx.x_assign hT rfl rfl) ?_
            clear hT; intro a hT
            replace hT := hT.keep [5, 59, 49, 48, 10, 9, 8, 7, 33, 6, 29, 22, 4, 3, 15, 0] rfl
            refine Sx.ser_nil ?_
            refine Sx.block_normal ?_
            refine Sx.then_normal (hK20 _ _ ?_)
            clear hK20
            refine wp_seq_k fun K27 hK27 => ?_
            refine wp_seq_k fun K28 hK28 => ?_
            -- region 37 (law.go:163)
            refine Sx.wp_text [(0, .take)] rfl ?_
            refine Sx.st_take hT rfl rfl rfl rfl (Sx.x_move hT rfl rfl) ?_
            clear hT; intro a hT
            replace hT := hT.keep [125, 5, 59, 49, 48, 10, 9, 8, 7, 33, 6, 29, 22, 4, 3, 15, 0] rfl
            refine Sx.ser_nil ?_
            refine Sx.then_normal (hK28 _ _ ?_)
            clear hK28
            refine Sx.wp_if hT rfl (fun h => by cases h) (fun _ => ?_)
            refine wp_skip ?_
            refine Sx.then_normal (hK27 _ _ ?_)
            clear hK27
            refine wp_seq_k fun K29 hK29 => ?_
            -- region 42 (law.go:170)
            refine Sx.wp_text [(0, .take), (1, .run), (2, .take), (3, .take), (4, .take), (5, .take), (6, .take), (7, .take), (8, .take), (9, .run), (10, .run), (11, .take), (12, .take), (13, .take), (14, .take), (15, .take), (16, .take), (17, .take)] rfl ?_
            refine Sx.st_take hT rfl rfl rfl rfl (Sx.x_move hT rfl rfl) ?_
            clear hT; intro a hT
            refine Sx.st_call hT rfl rfl rfl rfl rfl Try.can13 rfl (nLen_calls (hn_of H 1 rfl)) ?_
            rintro _ w13 ⟨rfl, E⟩
            refine ⟨_, rfl, ?_⟩
            clear hT; intro a hT
            replace H := H.pure E; clear E
            refine Sx.st_take hT rfl rfl rfl rfl (Sx.x_move hT rfl rfl) ?_
            clear hT; intro a hT
            refine Sx.st_take hT rfl rfl rfl rfl (Sx.x_len_slice hT rfl rfl Try.underlying52 rfl) ?_
            clear hT; intro a hT
            refine Sx.st_take hT rfl rfl rfl rfl ((fun w => Sx.x_ne w hT rfl rfl rfl)) ?_
            clear hT; intro a hT
            refine Sx.st_take hT rfl rfl rfl rfl (Sx.x_move hT rfl rfl) ?_
            clear hT; intro a hT
            -- guard (42, 5)
            refine Sx.Sl.two hT 146 rfl (fun hc30 hT => ?_) (fun hc30 hT => ?_)
            · exfalso
              try simp only [decide_eq_true_eq, decide_eq_false_iff_not, Bool.not_eq_true', Bool.not_eq_false', Bool.not_eq_true, Bool.not_eq_false, Bool.and_eq_true, Bool.or_eq_false_iff, beq_iff_eq, bne_iff_ne, Int.not_lt, Int.not_le, ne_eq] at hc30
              first | (simp at hc30; done) | omega | (simp at hc30; omega) | (simp_all; done)
            · try simp only [decide_eq_true_eq, decide_eq_false_iff_not, Bool.not_eq_true', Bool.not_eq_false', Bool.not_eq_true, Bool.not_eq_false, Bool.and_eq_true, Bool.or_eq_false_iff, beq_iff_eq, bne_iff_ne, Int.not_lt, Int.not_le, ne_eq] at hc30
              refine Sx.st_take hT rfl rfl rfl rfl (Sx.x_move hT rfl rfl) ?_
              clear hT; intro a hT
              refine Sx.st_take hT rfl rfl rfl rfl (Sx.x_move hT rfl rfl) ?_
              clear hT; intro a hT
              refine Sx.st_take hT rfl rfl rfl rfl (Sx.x_move hT rfl rfl) ?_
              clear hT; intro a hT
              refine Sx.st_run hT rfl rfl rfl rfl (Sx.y_loadS hT rfl Try.underlying34 Try.ti34 rfl ((H.blk 2 rfl).seg (k := 3) rfl) (by rfl)) ?_
              clear hT; intro a hT
              refine Sx.st_call hT rfl rfl rfl rfl rfl Try.can23 rfl (place_calls _ _ (rs ++ [(⟨r.a, r.b, r.ad, r.n, r.c⟩ : RM)]) (ts ++ [⟨r.a, r.b, o.data⟩]) _ (H.rowss 5 rfl rfl) ((H.at 6 rfl) H.ext) (by first | omega | (simp; omega)) m ad4 _ c4 (H.at 3 rfl) rfl) ?_
              rintro _ w14 ⟨j2, rfl, hj2, E⟩
              refine ⟨_, rfl, ?_⟩
              clear hT; intro a hT
              replace H := H.pure E; clear E
              refine Sx.st_take hT rfl rfl rfl rfl ((fun w => Sx.x_lt w hT rfl rfl rfl)) ?_
              clear hT; intro a hT
              refine Sx.st_take hT rfl rfl rfl rfl (Sx.x_pick_t hT rfl rfl rfl) ?_
              clear hT; intro a hT
              refine Sx.st_take hT rfl rfl rfl rfl (Sx.x_move hT rfl rfl) ?_
              clear hT; intro a hT
              -- guard (42, 13)
              refine Sx.Sl.two hT 154 rfl (fun hc31 hT => ?_) (fun hc31 hT => ?_)
              · exfalso
                try simp only [decide_eq_true_eq, decide_eq_false_iff_not, Bool.not_eq_true', Bool.not_eq_false', Bool.not_eq_true, Bool.not_eq_false, Bool.and_eq_true, Bool.or_eq_false_iff, beq_iff_eq, bne_iff_ne, Int.not_lt, Int.not_le, ne_eq] at hc31
                (rcases hj2 with ⟨i9, rfl, h8⟩ | ⟨h7, h8⟩ <;> first | omega | exact h8 (List.mem_append_left _ hmem))
              · try simp only [decide_eq_true_eq, decide_eq_false_iff_not, Bool.not_eq_true', Bool.not_eq_false', Bool.not_eq_true, Bool.not_eq_false, Bool.and_eq_true, Bool.or_eq_false_iff, beq_iff_eq, bne_iff_ne, Int.not_lt, Int.not_le, ne_eq] at hc31
                refine Sx.st_skip hT rfl rfl rfl rfl ?_
                clear hT; intro a hT
                refine Sx.st_skip hT rfl rfl rfl rfl ?_
                clear hT; intro a hT
                refine Sx.st_take hT rfl rfl rfl rfl (Sx.x_pick_f hT rfl rfl rfl) ?_
                clear hT; intro a hT
                refine Sx.st_take hT rfl rfl rfl rfl (Sx.x_pick_f hT rfl rfl rfl) ?_
                clear hT; intro a hT
                replace hT := hT.keep [158, 125, 5, 59, 49, 48, 10, 9, 8, 7, 33, 6, 29, 22, 4, 3, 15, 0] rfl
                refine Sx.ser_nil ?_
                refine Sx.then_normal (hK29 _ _ ?_)
                clear hK29
                refine Sx.wp_if hT rfl (fun h => by cases h) (fun _ => ?_)
                refine wp_skip ?_
                refine Sx.block_normal ?_
                refine Sx.then_normal (hK16 _ _ ?_)
                clear hK16
                -- region 11 (law.go:130)
                refine Sx.wp_text [(0, .take), (1, .take), (2, .take)] rfl ?_
                refine Sx.st_take hT rfl rfl rfl rfl (Sx.x_move hT rfl rfl) ?_
                clear hT; intro a hT
                refine Sx.st_take hT rfl rfl rfl rfl ((fun w => Sx.x_add w hT rfl rfl rfl (Sx.wrap64 (by omega)))) ?_
                clear hT; intro a hT
                refine Sx.st_take hT rfl rfl rfl rfl (Sx.x_assign hT rfl rfl) ?_
                clear hT; intro a hT
                replace hT := hT.keep [6, 158, 125, 5, 59, 49, 48, 10, 9, 8, 7, 33, 29, 22, 4, 3, 15, 0] rfl
                refine Sx.ser_nil ?_
                refine Sx.then_normal ?_
                try clear hj2
                skip
                exact ⟨(⟨k + 1, ms ++ [⟨r.a, r.b, o.data⟩], _, rs ++ [(⟨r.a, r.b, r.ad, r.n, r.c⟩ : RM)], ts ++ [⟨r.a, r.b, o.data⟩], _, _, _⟩ : SG), ⟨by show k + 1 ≤ _; omega, hperm.append_right _, by show List.length _ ≤ k + 1; first | omega | (simp; omega), by show List.length _ = List.length _; first | omega | (simp; omega)⟩, (hT.keep [6, 5, 29, 22, 4, 3, 15, 0] rfl), (H.keep [1, 5, 6] rfl rfl), by show _ - (k + 1) < _ - k; omega⟩
        · try simp only [decide_eq_true_eq, decide_eq_false_iff_not, Bool.not_eq_true', Bool.not_eq_false', Bool.not_eq_true, Bool.not_eq_false, Bool.and_eq_true, Bool.or_eq_false_iff, beq_iff_eq, bne_iff_ne, Int.not_lt, Int.not_le, ne_eq] at hc23
          refine wp_seq_k fun K32 hK32 => ?_
          -- region 20 (law.go:140)
          refine Sx.wp_text [(0, .take), (1, .take)] rfl ?_
          refine Sx.st_take hT rfl rfl rfl rfl ((fun w => Sx.x_eq w hT rfl rfl rfl)) ?_
          clear hT; intro a hT
          refine Sx.st_take hT rfl rfl rfl rfl (Sx.x_assign hT rfl rfl) ?_
          clear hT; intro a hT
          replace hT := hT.keep [70, 49, 48, 10, 9, 8, 7, 33, 6, 5, 29, 22, 4, 3, 15, 0] rfl
          refine Sx.ser_nil ?_
          refine Sx.then_normal (hK32 _ _ ?_)
          clear hK32
          -- cond 6
          refine Sx.wp_if hT rfl (fun hc33 => ?_) (fun hc33 => ?_)
          · try simp only [decide_eq_true_eq, decide_eq_false_iff_not, Bool.not_eq_true', Bool.not_eq_false', Bool.not_eq_true, Bool.not_eq_false, Bool.and_eq_true, Bool.or_eq_false_iff, beq_iff_eq, bne_iff_ne, Int.not_lt, Int.not_le, ne_eq] at hc33
            refine wp_seq_k fun K34 hK34 => ?_
            -- region 21 (law.go:141)
            refine Sx.wp_text [(0, .take), (1, .take), (2, .run), (3, .run), (4, .take), (5, .take), (6, .take), (7, .run), (8, .run), (9, .take)] rfl ?_
            refine Sx.st_take hT rfl rfl rfl rfl (Sx.x_move hT rfl rfl) ?_
            clear hT; intro a hT
            refine Sx.st_take hT rfl rfl rfl rfl (Sx.x_fieldAddr hT rfl Try.fa32_1 rfl) ?_
            clear hT; intro a hT
            refine Sx.st_run hT rfl rfl rfl rfl (Sx.x_load1 hT rfl Try.fl3 rfl ((H.blk 2 rfl).nth rfl)) ?_
            clear hT; intro a hT
            refine Sx.st_call hT rfl rfl rfl rfl rfl Try.can16 rfl (hTake_yes (H.pre [3] rfl rfl) _ k0 m hk0 hm) ?_
            rintro _ w15 ⟨ad5, c5, G5, F2, rfl, K⟩
            refine ⟨_, rfl, ?_⟩
            clear hT; intro a hT
            replace H := H.back [3] [0, 1, 2, 4, 5] rfl rfl rfl K rfl; clear K
            refine Sx.st_take hT rfl rfl rfl rfl (Sx.x_move hT rfl rfl) ?_
            clear hT; intro a hT
            refine Sx.st_take hT rfl rfl rfl rfl (Sx.x_extractL hT rfl rfl rfl) ?_
            clear hT; intro a hT
            refine Sx.st_take hT rfl rfl rfl rfl (Sx.x_extractL hT rfl rfl rfl) ?_
            clear hT; intro a hT
            refine Sx.st_eff hT rfl rfl rfl rfl (Sx.y_alloc hT rfl Try.ti34 rfl _) ?_
            clear hT; rintro _ w16 ⟨b4, rfl, N⟩ a hT
            replace H := H.new N; clear N
            refine Sx.st_act hT rfl rfl rfl (Sx.y_storeS hT rfl Try.ti34 rfl rfl rfl rfl rfl (H.blk 0 rfl) rfl) ?_
            rintro w17 ⟨hb, E, _⟩
            replace H := H.setB 0 rfl hb E rfl; clear hb E
            refine Sx.st_take hT rfl rfl rfl rfl (Sx.x_assign hT rfl rfl) ?_
            clear hT; intro a hT
            replace hT := hT.keep [12, 11, 70, 49, 48, 10, 9, 8, 7, 33, 6, 5, 29, 22, 4, 3, 15, 0] rfl
            refine Sx.ser_nil ?_
            refine Sx.then_normal (hK34 _ _ ?_)
            clear hK34
            refine wp_seq_k fun K35 hK35 => ?_
            refine wp_seq_k fun K36 hK36 => ?_
            -- region 22 (law.go:142)
            refine Sx.wp_text [(0, .take), (1, .take), (2, .take), (3, .take), (4, .take), (5, .take), (6, .run), (7, .run), (8, .run), (9, .take), (10, .take), (11, .take)] rfl ?_
            refine Sx.st_take hT rfl rfl rfl rfl (Sx.x_move hT rfl rfl) ?_
            clear hT; intro a hT
            refine Sx.st_take hT rfl rfl rfl rfl (Sx.x_move hT rfl rfl) ?_
            clear hT; intro a hT
            refine Sx.st_take hT rfl rfl rfl rfl (Sx.x_neb hT rfl Try.underlying4 rfl rfl) ?_
            clear hT; intro a hT
            refine Sx.st_take hT rfl rfl rfl rfl (Sx.x_move hT rfl rfl) ?_
            clear hT; intro a hT
            -- guard (22, 3)
            refine Sx.Sl.two hT 82 rfl (fun hc37 hT => ?_) (fun hc37 hT => ?_)
            · exfalso
              try simp only [decide_eq_true_eq, decide_eq_false_iff_not, Bool.not_eq_true', Bool.not_eq_false', Bool.not_eq_true, Bool.not_eq_false, Bool.and_eq_true, Bool.or_eq_false_iff, beq_iff_eq, bne_iff_ne, Int.not_lt, Int.not_le, ne_eq] at hc37
              first | (simp at hc37; done) | omega | (simp at hc37; omega) | (simp_all; done)
            · try simp only [decide_eq_true_eq, decide_eq_false_iff_not, Bool.not_eq_true', Bool.not_eq_false', Bool.not_eq_true, Bool.not_eq_false, Bool.and_eq_true, Bool.or_eq_false_iff, beq_iff_eq, bne_iff_ne, Int.not_lt, Int.not_le, ne_eq] at hc37
              refine Sx.st_take hT rfl rfl rfl rfl (Sx.x_move hT rfl rfl) ?_
              clear hT; intro a hT
              refine Sx.st_take hT rfl rfl rfl rfl (Sx.x_move hT rfl rfl) ?_
              clear hT; intro a hT
              refine Sx.st_run hT rfl rfl rfl rfl (Sx.y_loadS hT rfl Try.underlying34 Try.ti34 rfl ((H.blk 0 rfl).seg (k := 3) rfl) (by rfl)) ?_
              clear hT; intro a hT
              refine Sx.st_run hT rfl rfl rfl rfl (Sx.y_loadS hT rfl Try.underlying34 Try.ti34 rfl ((H.blk 3 rfl).seg (k := 3) rfl) (by rfl)) ?_
              clear hT; intro a hT
              refine Sx.st_call hT rfl rfl rfl rfl rfl Try.can14 rfl (alike_is true _ _ _ _ ad5 ad4 _ _ c5 c4 m.data m.data _ (H.at 1 rfl) (H.at 4 rfl) rfl rfl (by simp)) ?_
              rintro _ w18 ⟨rfl, E⟩
              refine ⟨_, rfl, ?_⟩
              clear hT; intro a hT
              replace H := H.pure E; clear E
              refine Sx.st_take hT rfl rfl rfl rfl (Sx.x_not hT rfl rfl) ?_
              clear hT; intro a hT
              refine Sx.st_take hT rfl rfl rfl rfl (Sx.x_pick_t hT rfl rfl rfl) ?_
              clear hT; intro a hT
              refine Sx.st_take hT rfl rfl rfl rfl (Sx.x_pick_f hT rfl rfl rfl) ?_
              clear hT; intro a hT
              replace hT := hT.keep [90, 12, 11, 70, 49, 48, 10, 9, 8, 7, 33, 6, 5, 29, 22, 4, 3, 15, 0] rfl
              refine Sx.ser_nil ?_
              refine Sx.then_normal (hK36 _ _ ?_)
              clear hK36
              refine Sx.wp_if hT rfl (fun h => by cases h) (fun _ => ?_)
              refine wp_skip ?_
              refine Sx.then_normal (hK35 _ _ ?_)
              clear hK35
              -- region 24 (law.go:145)
              refine Sx.wp_text [(0, .take), (1, .take)] rfl ?_
              refine Sx.st_take hT rfl rfl rfl rfl (Sx.x_move hT rfl rfl) ?_
              clear hT; intro a hT
              refine Sx.st_take hT rfl rfl rfl rfl (Sx.x_assign hT rfl rfl) ?_
              clear hT; intro a hT
              replace hT := hT.keep [10, 90, 12, 11, 70, 49, 48, 9, 8, 7, 33, 6, 5, 29, 22, 4, 3, 15, 0] rfl
              refine Sx.ser_nil ?_
              refine Sx.block_normal ?_
              refine Sx.then_normal (hK20 _ _ ?_)
              clear hK20
              refine wp_seq_k fun K38 hK38 => ?_
              refine wp_seq_k fun K39 hK39 => ?_
              -- region 37 (law.go:163)
              refine Sx.wp_text [(0, .take)] rfl ?_
              refine Sx.st_take hT rfl rfl rfl rfl (Sx.x_move hT rfl rfl) ?_
              clear hT; intro a hT
              replace hT := hT.keep [125, 10, 90, 12, 11, 70, 49, 48, 9, 8, 7, 33, 6, 5, 29, 22, 4, 3, 15, 0] rfl
              refine Sx.ser_nil ?_
              refine Sx.then_normal (hK39 _ _ ?_)
              clear hK39
              refine Sx.wp_if hT rfl (fun _ => ?_) (fun h => by cases h)
              refine wp_seq_k fun K40 hK40 => ?_
              -- region 38 (law.go:164)
              refine Sx.wp_text [(0, .take), (1, .run), (2, .run), (3, .take)] rfl ?_
              refine Sx.st_take hT rfl rfl rfl rfl (Sx.x_move hT rfl rfl) ?_
              clear hT; intro a hT
              refine Sx.st_run hT rfl rfl rfl rfl (Sx.y_loadS hT rfl Try.underlying34 Try.ti34 rfl ((H.blk 3 rfl).seg (k := 3) rfl) (by rfl)) ?_
              clear hT; intro a hT
              refine Sx.st_call hT rfl rfl rfl rfl rfl Try.can23 rfl (place_calls ad2 c2 rs ts _ (H.rowss 6 rfl rfl) ((H.at 7 rfl) H.ext) (by omega) m ad4 _ c4 (H.at 4 rfl) rfl) ?_
              rintro _ w19 ⟨j, rfl, hj, E⟩
              refine ⟨_, rfl, ?_⟩
              clear hT; intro a hT
              replace H := H.pure E; clear E
              refine Sx.st_take hT rfl rfl rfl rfl (Sx.x_assign hT rfl rfl) ?_
              clear hT; intro a hT
              replace hT := hT.keep [13, 125, 10, 90, 12, 11, 70, 49, 48, 9, 8, 7, 33, 6, 5, 29, 22, 4, 3, 15, 0] rfl
              refine Sx.ser_nil ?_
              refine Sx.then_normal (hK40 _ _ ?_)
              clear hK40
              refine wp_seq_k fun K41 hK41 => ?_
              refine wp_seq_k fun K42 hK42 => ?_
              -- region 39 (law.go:165)
              refine Sx.wp_text [(0, .take), (1, .take)] rfl ?_
              refine Sx.st_take hT rfl rfl rfl rfl (Sx.x_move hT rfl rfl) ?_
              clear hT; intro a hT
              refine Sx.st_take hT rfl rfl rfl rfl ((fun w => Sx.x_lt w hT rfl rfl rfl)) ?_
              clear hT; intro a hT
              replace hT := hT.keep [130, 13, 125, 10, 90, 12, 11, 70, 49, 48, 9, 8, 7, 33, 6, 5, 29, 22, 4, 3, 15, 0] rfl
              refine Sx.ser_nil ?_
              refine Sx.then_normal (hK42 _ _ ?_)
              clear hK42
              -- cond 16
              refine Sx.wp_if hT rfl (fun hc43 => ?_) (fun hc43 => ?_)
              · exfalso
                try simp only [decide_eq_true_eq, decide_eq_false_iff_not, Bool.not_eq_true', Bool.not_eq_false', Bool.not_eq_true, Bool.not_eq_false, Bool.and_eq_true, Bool.or_eq_false_iff, beq_iff_eq, bne_iff_ne, Int.not_lt, Int.not_le, ne_eq] at hc43
                (rcases hj with ⟨i9, rfl, h8⟩ | ⟨h7, h8⟩ <;> first | omega | exact h8 hmem)
              · try simp only [decide_eq_true_eq, decide_eq_false_iff_not, Bool.not_eq_true', Bool.not_eq_false', Bool.not_eq_true, Bool.not_eq_false, Bool.and_eq_true, Bool.or_eq_false_iff, beq_iff_eq, bne_iff_ne, Int.not_lt, Int.not_le, ne_eq] at hc43
                obtain ⟨jk, rfl, hjk⟩ : ∃ i : Nat, j = i ∧ ts[i]? = some m := hj.resolve_right (fun h9 => h9.2 hmem)
                have hjl := (List.getElem?_eq_some_iff.1 hjk).1
                have hkl := (List.getElem?_eq_some_iff.1 hm).1
                clear hj
                refine wp_skip ?_
                refine Sx.then_normal (hK41 _ _ ?_)
                clear hK41
                -- region 41 (law.go:168)
                have hle := (H.row 6 rfl).le
                refine Sx.wp_draws (fun u => Sx.Ext (Sx.No) u) [(1, .take), (2, .take), (3, .take), (5, .take), (6, .take), (7, .take), (8, .take), (0, .run), (4, .run), (9, .run), (10, .take)] (by kernel_rfl) (by kernel_rfl) (fun u E _ => ?_)
                replace H := H.pure E; clear E
                refine Sx.st_take hT rfl rfl rfl rfl (Sx.x_move hT rfl rfl) ?_
                clear hT; intro a hT
                refine Sx.st_take hT rfl rfl rfl rfl (Sx.x_move hT rfl rfl) ?_
                clear hT; intro a hT
                refine Sx.st_take hT rfl rfl rfl rfl (Sx.x_slice_h hT rfl Try.underlying52 Try.ti34 rfl rfl rfl (by omega)) ?_
                clear hT; intro a hT
                refine Sx.st_take hT rfl rfl rfl rfl (Sx.x_move hT rfl rfl) ?_
                clear hT; intro a hT
                refine Sx.st_take hT rfl rfl rfl rfl (Sx.x_move hT rfl rfl) ?_
                clear hT; intro a hT
                refine Sx.st_take hT rfl rfl rfl rfl ((fun w => Sx.x_add w hT rfl rfl rfl (Sx.wrap64 (by omega)))) ?_
                clear hT; intro a hT
                refine Sx.st_take hT rfl rfl rfl rfl (Sx.x_slice_l (p := jk + 1) hT rfl Try.underlying52 Try.ti34 rfl rfl (by omega) (by omega)) ?_
                clear hT; intro a hT
                refine Sx.st_eff hT rfl rfl rfl rfl (Sx.y_slice0 hT rfl Try.underlying52 Try.ti34 _) ?_
                clear hT; rintro _ w20 ⟨b5, rfl, N⟩ a hT
                replace H := H.new N; clear N
                replace H := H.rowB 3 0 rfl rfl
                refine Sx.st_eff hT rfl rfl rfl rfl (Sx.x_append hT rfl rfl Try.underlying52 Try.ti34 rfl (by decide) rfl rfl (H.row 0 rfl) (((H.row 7 rfl).take (k := jk) (by omega)).sv) (fun u hu => flat_one RM.one rs u (List.mem_of_mem_take hu)) (fun h9 => by have := (H.row 7 rfl).nil' h9; omega) (by unfold maxLen; omega) (by omega)) ?_
                rintro _ w21 ⟨ad21, c21, rfl, hr, E, hown, -⟩
                clear hT; intro a hT
                replace H := H.setR 0 rfl hr E hown rfl; clear hr E hown
                refine Sx.st_eff hT rfl rfl rfl rfl (Sx.x_append hT rfl rfl Try.underlying52 Try.ti34 rfl (by decide) rfl rfl (H.row 0 rfl) ((H.row 7 rfl).sv.cut (lo := jk + 1) (hi := rs.length) (by omega) (Nat.le_refl _) (H.row 7 rfl).le.1) (fun u hu => flat_one RM.one rs u (List.mem_of_mem_drop (List.mem_of_mem_take hu))) (fun h9 => (H.row 7 rfl).nilcut h9) (by unfold maxLen; omega) (by omega)) ?_
                rintro _ w22 ⟨ad22, c22, rfl, hr, E, hown, -⟩
                clear hT; intro a hT
                replace H := H.setR 0 rfl hr E hown rfl; clear hr E hown
                have hx1 : ((rs.flatMap RM.cells).drop ((jk + 1) * 3)).take ((rs.length - (jk + 1)) * 3) = (rs.drop (jk + 1)).flatMap RM.cells := by
                  rw [flat_drop RM.len, List.take_of_length_le]
                  rw [flat_len RM.len, List.length_drop]
                  exact Nat.le_refl _
                have hxs : ([] ++ (rs.flatMap RM.cells).take (jk * 3)) ++ ((rs.flatMap RM.cells).drop ((jk + 1) * 3)).take ((rs.length - (jk + 1)) * 3) = (rs.take jk ++ rs.drop (jk + 1)).flatMap RM.cells := by rw [List.nil_append, hx1, flat_take RM.len, List.flatMap_append]
                have hnl : 0 + jk + (rs.length - (jk + 1)) = (rs.take jk ++ rs.drop (jk + 1)).length := by simp; omega
                rw [hxs, hnl] at H
                rw [hnl] at hT
                replace H := H.turn 8 rfl (fun w9 hp x => ((hp x).take jk).append ((hp x).drop (jk + 1))) rfl
                refine Sx.st_take hT rfl rfl rfl rfl (Sx.x_assign hT rfl rfl) ?_
                clear hT; intro a hT
                replace hT := hT.keep [5, 130, 13, 125, 10, 90, 12, 11, 70, 49, 48, 9, 8, 7, 33, 6, 29, 22, 4, 3, 15, 0] rfl
                refine Sx.ser_calm ?_
                refine Sx.then_normal (hK38 _ _ ?_)
                clear hK38
                refine wp_seq_k fun K44 hK44 => ?_
                -- region 42 (law.go:170)
                refine Sx.wp_text [(0, .take), (1, .run), (2, .take), (3, .take), (4, .take), (5, .take), (6, .take), (7, .take), (8, .take), (9, .run), (10, .run), (11, .take), (12, .take), (13, .take), (14, .take), (15, .take), (16, .take), (17, .take)] rfl ?_
                refine Sx.st_take hT rfl rfl rfl rfl (Sx.x_move hT rfl rfl) ?_
                clear hT; intro a hT
                refine Sx.st_call hT rfl rfl rfl rfl rfl Try.can13 rfl (nLen_calls (hn_of H 3 rfl)) ?_
                rintro _ w23 ⟨rfl, E⟩
                refine ⟨_, rfl, ?_⟩
                clear hT; intro a hT
                replace H := H.pure E; clear E
                refine Sx.st_take hT rfl rfl rfl rfl (Sx.x_move hT rfl rfl) ?_
                clear hT; intro a hT
                refine Sx.st_take hT rfl rfl rfl rfl (Sx.x_len_slice hT rfl rfl Try.underlying52 rfl) ?_
                clear hT; intro a hT
                refine Sx.st_take hT rfl rfl rfl rfl ((fun w => Sx.x_ne w hT rfl rfl rfl)) ?_
                clear hT; intro a hT
                refine Sx.st_take hT rfl rfl rfl rfl (Sx.x_move hT rfl rfl) ?_
                clear hT; intro a hT
                -- guard (42, 5)
                refine Sx.Sl.two hT 146 rfl (fun hc45 hT => ?_) (fun hc45 hT => ?_)
                · exfalso
                  try simp only [decide_eq_true_eq, decide_eq_false_iff_not, Bool.not_eq_true', Bool.not_eq_false', Bool.not_eq_true, Bool.not_eq_false, Bool.and_eq_true, Bool.or_eq_false_iff, beq_iff_eq, bne_iff_ne, Int.not_lt, Int.not_le, ne_eq] at hc45
                  first | (simp at hc45; done) | omega | (simp at hc45; omega) | (simp_all; done)
                · try simp only [decide_eq_true_eq, decide_eq_false_iff_not, Bool.not_eq_true', Bool.not_eq_false', Bool.not_eq_true, Bool.not_eq_false, Bool.and_eq_true, Bool.or_eq_false_iff, beq_iff_eq, bne_iff_ne, Int.not_lt, Int.not_le, ne_eq] at hc45
                  refine Sx.st_take hT rfl rfl rfl rfl (Sx.x_move hT rfl rfl) ?_
                  clear hT; intro a hT
                  refine Sx.st_take hT rfl rfl rfl rfl (Sx.x_move hT rfl rfl) ?_
                  clear hT; intro a hT
                  refine Sx.st_take hT rfl rfl rfl rfl (Sx.x_move hT rfl rfl) ?_
                  clear hT; intro a hT
                  refine Sx.st_run hT rfl rfl rfl rfl (Sx.y_loadS hT rfl Try.underlying34 Try.ti34 rfl ((H.blk 4 rfl).seg (k := 3) rfl) (by rfl)) ?_
                  clear hT; intro a hT
                  refine Sx.st_call hT rfl rfl rfl rfl rfl Try.can23 rfl (place_calls _ _ (rs.take jk ++ rs.drop (jk + 1)) (ts.take jk ++ ts.drop (jk + 1)) _ (H.rowss 0 rfl rfl) ((H.at 8 rfl) H.ext) (by first | omega | (simp; omega)) m ad4 _ c4 (H.at 5 rfl) rfl) ?_
                  rintro _ w24 ⟨j2, rfl, hj2, E⟩
                  refine ⟨_, rfl, ?_⟩
                  clear hT; intro a hT
                  replace H := H.pure E; clear E
                  refine Sx.st_take hT rfl rfl rfl rfl ((fun w => Sx.x_lt w hT rfl rfl rfl)) ?_
                  clear hT; intro a hT
                  refine Sx.st_take hT rfl rfl rfl rfl (Sx.x_pick_t hT rfl rfl rfl) ?_
                  clear hT; intro a hT
                  refine Sx.st_take hT rfl rfl rfl rfl (Sx.x_move hT rfl rfl) ?_
                  clear hT; intro a hT
                  -- guard (42, 13)
                  refine Sx.Sl.two hT 154 rfl (fun hc46 hT => ?_) (fun hc46 hT => ?_)
                  · try simp only [decide_eq_true_eq, decide_eq_false_iff_not, Bool.not_eq_true', Bool.not_eq_false', Bool.not_eq_true, Bool.not_eq_false, Bool.and_eq_true, Bool.or_eq_false_iff, beq_iff_eq, bne_iff_ne, Int.not_lt, Int.not_le, ne_eq] at hc46
                    refine Sx.st_take hT rfl rfl rfl rfl (Sx.x_move hT rfl rfl) ?_
                    clear hT; intro a hT
                    refine Sx.st_take hT rfl rfl rfl rfl (Sx.x_not hT rfl rfl) ?_
                    clear hT; intro a hT
                    refine Sx.st_take hT rfl rfl rfl rfl (Sx.x_pick_t hT rfl rfl rfl) ?_
                    clear hT; intro a hT
                    refine Sx.st_take hT rfl rfl rfl rfl (Sx.x_pick_f hT rfl rfl rfl) ?_
                    clear hT; intro a hT
                    replace hT := hT.keep [158, 5, 130, 13, 125, 10, 90, 12, 11, 70, 49, 48, 9, 8, 7, 33, 6, 29, 22, 4, 3, 15, 0] rfl
                    refine Sx.ser_nil ?_
                    refine Sx.then_normal (hK44 _ _ ?_)
                    clear hK44
                    refine Sx.wp_if hT rfl (fun h => by cases h) (fun _ => ?_)
                    refine wp_skip ?_
                    refine Sx.block_normal ?_
                    refine Sx.then_normal (hK16 _ _ ?_)
                    clear hK16
                    -- region 11 (law.go:130)
                    refine Sx.wp_text [(0, .take), (1, .take), (2, .take)] rfl ?_
                    refine Sx.st_take hT rfl rfl rfl rfl (Sx.x_move hT rfl rfl) ?_
                    clear hT; intro a hT
                    refine Sx.st_take hT rfl rfl rfl rfl ((fun w => Sx.x_add w hT rfl rfl rfl (Sx.wrap64 (by omega)))) ?_
                    clear hT; intro a hT
                    refine Sx.st_take hT rfl rfl rfl rfl (Sx.x_assign hT rfl rfl) ?_
                    clear hT; intro a hT
                    replace hT := hT.keep [6, 158, 5, 130, 13, 125, 10, 90, 12, 11, 70, 49, 48, 9, 8, 7, 33, 29, 22, 4, 3, 15, 0] rfl
                    refine Sx.ser_nil ?_
                    refine Sx.then_normal ?_
                    try clear hj2
                    skip
                    exact ⟨(⟨k + 1, ms.take k0 ++ ms.drop (k0 + 1), _, rs.take jk ++ rs.drop (jk + 1), ts.take jk ++ ts.drop (jk + 1), _, _, _⟩ : SG), ⟨by show k + 1 ≤ _; omega, out_both hperm hjk hm, by show List.length _ ≤ k + 1; first | omega | (simp; omega), by show List.length _ = List.length _; first | omega | (simp; omega)⟩, (hT.keep [6, 5, 29, 22, 4, 3, 15, 0] rfl), (H.keep [3, 0, 8] rfl rfl), by show _ - (k + 1) < _ - k; omega⟩
                  · try simp only [decide_eq_true_eq, decide_eq_false_iff_not, Bool.not_eq_true', Bool.not_eq_false', Bool.not_eq_true, Bool.not_eq_false, Bool.and_eq_true, Bool.or_eq_false_iff, beq_iff_eq, bne_iff_ne, Int.not_lt, Int.not_le, ne_eq] at hc46
                    refine Sx.st_skip hT rfl rfl rfl rfl ?_
                    clear hT; intro a hT
                    refine Sx.st_skip hT rfl rfl rfl rfl ?_
                    clear hT; intro a hT
                    refine Sx.st_take hT rfl rfl rfl rfl (Sx.x_pick_f hT rfl rfl rfl) ?_
                    clear hT; intro a hT
                    refine Sx.st_take hT rfl rfl rfl rfl (Sx.x_pick_f hT rfl rfl rfl) ?_
                    clear hT; intro a hT
                    replace hT := hT.keep [158, 5, 130, 13, 125, 10, 90, 12, 11, 70, 49, 48, 9, 8, 7, 33, 6, 29, 22, 4, 3, 15, 0] rfl
                    refine Sx.ser_nil ?_
                    refine Sx.then_normal (hK44 _ _ ?_)
                    clear hK44
                    refine Sx.wp_if hT rfl (fun h => by cases h) (fun _ => ?_)
                    refine wp_skip ?_
                    refine Sx.block_normal ?_
                    refine Sx.then_normal (hK16 _ _ ?_)
                    clear hK16
                    -- region 11 (law.go:130)
                    refine Sx.wp_text [(0, .take), (1, .take), (2, .take)] rfl ?_
                    refine Sx.st_take hT rfl rfl rfl rfl (Sx.x_move hT rfl rfl) ?_
                    clear hT; intro a hT
                    refine Sx.st_take hT rfl rfl rfl rfl ((fun w => Sx.x_add w hT rfl rfl rfl (Sx.wrap64 (by omega)))) ?_
                    clear hT; intro a hT
                    refine Sx.st_take hT rfl rfl rfl rfl (Sx.x_assign hT rfl rfl) ?_
                    clear hT; intro a hT
                    replace hT := hT.keep [6, 158, 5, 130, 13, 125, 10, 90, 12, 11, 70, 49, 48, 9, 8, 7, 33, 29, 22, 4, 3, 15, 0] rfl
                    refine Sx.ser_nil ?_
                    refine Sx.then_normal ?_
                    try clear hj2
                    skip
                    exact ⟨(⟨k + 1, ms.take k0 ++ ms.drop (k0 + 1), _, rs.take jk ++ rs.drop (jk + 1), ts.take jk ++ ts.drop (jk + 1), _, _, _⟩ : SG), ⟨by show k + 1 ≤ _; omega, out_both hperm hjk hm, by show List.length _ ≤ k + 1; first | omega | (simp; omega), by show List.length _ = List.length _; first | omega | (simp; omega)⟩, (hT.keep [6, 5, 29, 22, 4, 3, 15, 0] rfl), (H.keep [3, 0, 8] rfl rfl), by show _ - (k + 1) < _ - k; omega⟩
          · try simp only [decide_eq_true_eq, decide_eq_false_iff_not, Bool.not_eq_true', Bool.not_eq_false', Bool.not_eq_true, Bool.not_eq_false, Bool.and_eq_true, Bool.or_eq_false_iff, beq_iff_eq, bne_iff_ne, Int.not_lt, Int.not_le, ne_eq] at hc33
            refine wp_seq_k fun K47 hK47 => ?_
            -- region 25 (law.go:146)
            refine Sx.wp_text [(0, .take), (1, .take)] rfl ?_
            refine Sx.st_take hT rfl rfl rfl rfl ((fun w => Sx.x_eq w hT rfl rfl rfl)) ?_
            clear hT; intro a hT
            refine Sx.st_take hT rfl rfl rfl rfl (Sx.x_assign hT rfl rfl) ?_
            clear hT; intro a hT
            replace hT := hT.keep [92, 70, 49, 48, 10, 9, 8, 7, 33, 6, 5, 29, 22, 4, 3, 15, 0] rfl
            refine Sx.ser_nil ?_
            refine Sx.then_normal (hK47 _ _ ?_)
            clear hK47
            -- cond 8
            refine Sx.wp_if hT rfl (fun hc48 => ?_) (fun hc48 => ?_)
            · try simp only [decide_eq_true_eq, decide_eq_false_iff_not, Bool.not_eq_true', Bool.not_eq_false', Bool.not_eq_true, Bool.not_eq_false, Bool.and_eq_true, Bool.or_eq_false_iff, beq_iff_eq, bne_iff_ne, Int.not_lt, Int.not_le, ne_eq] at hc48
              refine wp_seq_k fun K49 hK49 => ?_
              refine wp_seq_k fun K50 hK50 => ?_
              -- region 26 (law.go:147)
              refine Sx.wp_text [(0, .take), (1, .take), (2, .run), (3, .run), (4, .take), (5, .take)] rfl ?_
              refine Sx.st_take hT rfl rfl rfl rfl (Sx.x_move hT rfl rfl) ?_
              clear hT; intro a hT
              refine Sx.st_take hT rfl rfl rfl rfl (Sx.x_fieldAddr hT rfl Try.fa32_1 rfl) ?_
              clear hT; intro a hT
              refine Sx.st_run hT rfl rfl rfl rfl (Sx.x_load1 hT rfl Try.fl3 rfl ((H.blk 2 rfl).nth rfl)) ?_
              clear hT; intro a hT
              refine Sx.st_call hT rfl rfl rfl rfl rfl Try.can21 rfl (hDrop_yes (H.pre [3] rfl rfl) _ k0 m hk0 hm) ?_
              rintro _ w25 ⟨F2, rfl, K⟩
              refine ⟨_, rfl, ?_⟩
              clear hT; intro a hT
              replace H := H.back [3] [0, 1, 2, 4, 5] rfl rfl rfl K rfl; clear K
              refine Sx.st_take hT rfl rfl rfl rfl (Sx.x_move hT rfl rfl) ?_
              clear hT; intro a hT
              refine Sx.st_take hT rfl rfl rfl rfl (Sx.x_neb hT rfl Try.underlying4 rfl rfl) ?_
              clear hT; intro a hT
              replace hT := hT.keep [99, 92, 70, 49, 48, 10, 9, 8, 7, 33, 6, 5, 29, 22, 4, 3, 15, 0] rfl
              refine Sx.ser_nil ?_
              refine Sx.then_normal (hK50 _ _ ?_)
              clear hK50
              -- cond 9
              refine Sx.wp_if hT rfl (fun hc51 => ?_) (fun hc51 => ?_)
              · exfalso
                try simp only [decide_eq_true_eq, decide_eq_false_iff_not, Bool.not_eq_true', Bool.not_eq_false', Bool.not_eq_true, Bool.not_eq_false, Bool.and_eq_true, Bool.or_eq_false_iff, beq_iff_eq, bne_iff_ne, Int.not_lt, Int.not_le, ne_eq] at hc51
                first | (simp at hc51; done) | omega | (simp at hc51; omega) | (simp_all; done)
              · try simp only [decide_eq_true_eq, decide_eq_false_iff_not, Bool.not_eq_true', Bool.not_eq_false', Bool.not_eq_true, Bool.not_eq_false, Bool.and_eq_true, Bool.or_eq_false_iff, beq_iff_eq, bne_iff_ne, Int.not_lt, Int.not_le, ne_eq] at hc51
                refine wp_skip ?_
                refine Sx.then_normal (hK49 _ _ ?_)
                clear hK49
                -- region 28 (law.go:150)
                refine Sx.wp_text [(0, .take), (1, .take)] rfl ?_
                refine Sx.st_take hT rfl rfl rfl rfl (Sx.x_move hT rfl rfl) ?_
                clear hT; intro a hT
                refine Sx.st_take hT rfl rfl rfl rfl (Sx.x_assign hT rfl rfl) ?_
                clear hT; intro a hT
                replace hT := hT.keep [10, 99, 92, 70, 49, 48, 9, 8, 7, 33, 6, 5, 29, 22, 4, 3, 15, 0] rfl
                refine Sx.ser_nil ?_
                refine Sx.block_normal ?_
                refine Sx.then_normal (hK20 _ _ ?_)
                clear hK20
                refine wp_seq_k fun K52 hK52 => ?_
                refine wp_seq_k fun K53 hK53 => ?_
                -- region 37 (law.go:163)
                refine Sx.wp_text [(0, .take)] rfl ?_
                refine Sx.st_take hT rfl rfl rfl rfl (Sx.x_move hT rfl rfl) ?_
                clear hT; intro a hT
                replace hT := hT.keep [125, 10, 99, 92, 70, 49, 48, 9, 8, 7, 33, 6, 5, 29, 22, 4, 3, 15, 0] rfl
                refine Sx.ser_nil ?_
                refine Sx.then_normal (hK53 _ _ ?_)
                clear hK53
                refine Sx.wp_if hT rfl (fun _ => ?_) (fun h => by cases h)
                refine wp_seq_k fun K54 hK54 => ?_
                -- region 38 (law.go:164)
                refine Sx.wp_text [(0, .take), (1, .run), (2, .run), (3, .take)] rfl ?_
                refine Sx.st_take hT rfl rfl rfl rfl (Sx.x_move hT rfl rfl) ?_
                clear hT; intro a hT
                refine Sx.st_run hT rfl rfl rfl rfl (Sx.y_loadS hT rfl Try.underlying34 Try.ti34 rfl ((H.blk 1 rfl).seg (k := 3) rfl) (by rfl)) ?_
                clear hT; intro a hT
                refine Sx.st_call hT rfl rfl rfl rfl rfl Try.can23 rfl (place_calls ad2 c2 rs ts _ (H.rowss 4 rfl rfl) ((H.at 5 rfl) H.ext) (by omega) m ad4 _ c4 (H.at 2 rfl) rfl) ?_
                rintro _ w26 ⟨j, rfl, hj, E⟩
                refine ⟨_, rfl, ?_⟩
                clear hT; intro a hT
                replace H := H.pure E; clear E
                refine Sx.st_take hT rfl rfl rfl rfl (Sx.x_assign hT rfl rfl) ?_
                clear hT; intro a hT
                replace hT := hT.keep [13, 125, 10, 99, 92, 70, 49, 48, 9, 8, 7, 33, 6, 5, 29, 22, 4, 3, 15, 0] rfl
                refine Sx.ser_nil ?_
                refine Sx.then_normal (hK54 _ _ ?_)
                clear hK54
                refine wp_seq_k fun K55 hK55 => ?_
                refine wp_seq_k fun K56 hK56 => ?_
                -- region 39 (law.go:165)
                refine Sx.wp_text [(0, .take), (1, .take)] rfl ?_
                refine Sx.st_take hT rfl rfl rfl rfl (Sx.x_move hT rfl rfl) ?_
                clear hT; intro a hT
                refine Sx.st_take hT rfl rfl rfl rfl ((fun w => Sx.x_lt w hT rfl rfl rfl)) ?_
                clear hT; intro a hT
                replace hT := hT.keep [130, 13, 125, 10, 99, 92, 70, 49, 48, 9, 8, 7, 33, 6, 5, 29, 22, 4, 3, 15, 0] rfl
                refine Sx.ser_nil ?_
                refine Sx.then_normal (hK56 _ _ ?_)
                clear hK56
                -- cond 16
                refine Sx.wp_if hT rfl (fun hc57 => ?_) (fun hc57 => ?_)
                · exfalso
                  try simp only [decide_eq_true_eq, decide_eq_false_iff_not, Bool.not_eq_true', Bool.not_eq_false', Bool.not_eq_true, Bool.not_eq_false, Bool.and_eq_true, Bool.or_eq_false_iff, beq_iff_eq, bne_iff_ne, Int.not_lt, Int.not_le, ne_eq] at hc57
                  (rcases hj with ⟨i9, rfl, h8⟩ | ⟨h7, h8⟩ <;> first | omega | exact h8 hmem)
                · try simp only [decide_eq_true_eq, decide_eq_false_iff_not, Bool.not_eq_true', Bool.not_eq_false', Bool.not_eq_true, Bool.not_eq_false, Bool.and_eq_true, Bool.or_eq_false_iff, beq_iff_eq, bne_iff_ne, Int.not_lt, Int.not_le, ne_eq] at hc57
                  obtain ⟨jk, rfl, hjk⟩ : ∃ i : Nat, j = i ∧ ts[i]? = some m := hj.resolve_right (fun h9 => h9.2 hmem)
                  have hjl := (List.getElem?_eq_some_iff.1 hjk).1
                  have hkl := (List.getElem?_eq_some_iff.1 hm).1
                  clear hj
                  refine wp_skip ?_
                  refine Sx.then_normal (hK55 _ _ ?_)
                  clear hK55
                  -- region 41 (law.go:168)
                  have hle := (H.row 4 rfl).le
                  refine Sx.wp_draws (fun u => Sx.Ext (Sx.No) u) [(1, .take), (2, .take), (3, .take), (5, .take), (6, .take), (7, .take), (8, .take), (0, .run), (4, .run), (9, .run), (10, .take)] (by kernel_rfl) (by kernel_rfl) (fun u E _ => ?_)
                  replace H := H.pure E; clear E
                  refine Sx.st_take hT rfl rfl rfl rfl (Sx.x_move hT rfl rfl) ?_
                  clear hT; intro a hT
                  refine Sx.st_take hT rfl rfl rfl rfl (Sx.x_move hT rfl rfl) ?_
                  clear hT; intro a hT
                  refine Sx.st_take hT rfl rfl rfl rfl (Sx.x_slice_h hT rfl Try.underlying52 Try.ti34 rfl rfl rfl (by omega)) ?_
                  clear hT; intro a hT
                  refine Sx.st_take hT rfl rfl rfl rfl (Sx.x_move hT rfl rfl) ?_
                  clear hT; intro a hT
                  refine Sx.st_take hT rfl rfl rfl rfl (Sx.x_move hT rfl rfl) ?_
                  clear hT; intro a hT
                  refine Sx.st_take hT rfl rfl rfl rfl ((fun w => Sx.x_add w hT rfl rfl rfl (Sx.wrap64 (by omega)))) ?_
                  clear hT; intro a hT
                  refine Sx.st_take hT rfl rfl rfl rfl (Sx.x_slice_l (p := jk + 1) hT rfl Try.underlying52 Try.ti34 rfl rfl (by omega) (by omega)) ?_
                  clear hT; intro a hT
                  refine Sx.st_eff hT rfl rfl rfl rfl (Sx.y_slice0 hT rfl Try.underlying52 Try.ti34 _) ?_
                  clear hT; rintro _ w27 ⟨b6, rfl, N⟩ a hT
                  replace H := H.new N; clear N
                  replace H := H.rowB 3 0 rfl rfl
                  refine Sx.st_eff hT rfl rfl rfl rfl (Sx.x_append hT rfl rfl Try.underlying52 Try.ti34 rfl (by decide) rfl rfl (H.row 0 rfl) (((H.row 5 rfl).take (k := jk) (by omega)).sv) (fun u hu => flat_one RM.one rs u (List.mem_of_mem_take hu)) (fun h9 => by have := (H.row 5 rfl).nil' h9; omega) (by unfold maxLen; omega) (by omega)) ?_
                  rintro _ w28 ⟨ad28, c28, rfl, hr, E, hown, -⟩
                  clear hT; intro a hT
                  replace H := H.setR 0 rfl hr E hown rfl; clear hr E hown
                  refine Sx.st_eff hT rfl rfl rfl rfl (Sx.x_append hT rfl rfl Try.underlying52 Try.ti34 rfl (by decide) rfl rfl (H.row 0 rfl) ((H.row 5 rfl).sv.cut (lo := jk + 1) (hi := rs.length) (by omega) (Nat.le_refl _) (H.row 5 rfl).le.1) (fun u hu => flat_one RM.one rs u (List.mem_of_mem_drop (List.mem_of_mem_take hu))) (fun h9 => (H.row 5 rfl).nilcut h9) (by unfold maxLen; omega) (by omega)) ?_
                  rintro _ w29 ⟨ad29, c29, rfl, hr, E, hown, -⟩
                  clear hT; intro a hT
                  replace H := H.setR 0 rfl hr E hown rfl; clear hr E hown
                  have hx1 : ((rs.flatMap RM.cells).drop ((jk + 1) * 3)).take ((rs.length - (jk + 1)) * 3) = (rs.drop (jk + 1)).flatMap RM.cells := by
                    rw [flat_drop RM.len, List.take_of_length_le]
                    rw [flat_len RM.len, List.length_drop]
                    exact Nat.le_refl _
                  have hxs : ([] ++ (rs.flatMap RM.cells).take (jk * 3)) ++ ((rs.flatMap RM.cells).drop ((jk + 1) * 3)).take ((rs.length - (jk + 1)) * 3) = (rs.take jk ++ rs.drop (jk + 1)).flatMap RM.cells := by rw [List.nil_append, hx1, flat_take RM.len, List.flatMap_append]
                  have hnl : 0 + jk + (rs.length - (jk + 1)) = (rs.take jk ++ rs.drop (jk + 1)).length := by simp; omega
                  rw [hxs, hnl] at H
                  rw [hnl] at hT
                  replace H := H.turn 6 rfl (fun w9 hp x => ((hp x).take jk).append ((hp x).drop (jk + 1))) rfl
                  refine Sx.st_take hT rfl rfl rfl rfl (Sx.x_assign hT rfl rfl) ?_
                  clear hT; intro a hT
                  replace hT := hT.keep [5, 130, 13, 125, 10, 99, 92, 70, 49, 48, 9, 8, 7, 33, 6, 29, 22, 4, 3, 15, 0] rfl
                  refine Sx.ser_calm ?_
                  refine Sx.then_normal (hK52 _ _ ?_)
                  clear hK52
                  refine wp_seq_k fun K58 hK58 => ?_
                  -- region 42 (law.go:170)
                  refine Sx.wp_text [(0, .take), (1, .run), (2, .take), (3, .take), (4, .take), (5, .take), (6, .take), (7, .take), (8, .take), (9, .run), (10, .run), (11, .take), (12, .take), (13, .take), (14, .take), (15, .take), (16, .take), (17, .take)] rfl ?_
                  refine Sx.st_take hT rfl rfl rfl rfl (Sx.x_move hT rfl rfl) ?_
                  clear hT; intro a hT
                  refine Sx.st_call hT rfl rfl rfl rfl rfl Try.can13 rfl (nLen_calls (hn_of H 1 rfl)) ?_
                  rintro _ w30 ⟨rfl, E⟩
                  refine ⟨_, rfl, ?_⟩
                  clear hT; intro a hT
                  replace H := H.pure E; clear E
                  refine Sx.st_take hT rfl rfl rfl rfl (Sx.x_move hT rfl rfl) ?_
                  clear hT; intro a hT
                  refine Sx.st_take hT rfl rfl rfl rfl (Sx.x_len_slice hT rfl rfl Try.underlying52 rfl) ?_
                  clear hT; intro a hT
                  refine Sx.st_take hT rfl rfl rfl rfl ((fun w => Sx.x_ne w hT rfl rfl rfl)) ?_
                  clear hT; intro a hT
                  refine Sx.st_take hT rfl rfl rfl rfl (Sx.x_move hT rfl rfl) ?_
                  clear hT; intro a hT
                  -- guard (42, 5)
                  refine Sx.Sl.two hT 146 rfl (fun hc59 hT => ?_) (fun hc59 hT => ?_)
                  · exfalso
                    try simp only [decide_eq_true_eq, decide_eq_false_iff_not, Bool.not_eq_true', Bool.not_eq_false', Bool.not_eq_true, Bool.not_eq_false, Bool.and_eq_true, Bool.or_eq_false_iff, beq_iff_eq, bne_iff_ne, Int.not_lt, Int.not_le, ne_eq] at hc59
                    first | (simp at hc59; done) | omega | (simp at hc59; omega) | (simp_all; done)
                  · try simp only [decide_eq_true_eq, decide_eq_false_iff_not, Bool.not_eq_true', Bool.not_eq_false', Bool.not_eq_true, Bool.not_eq_false, Bool.and_eq_true, Bool.or_eq_false_iff, beq_iff_eq, bne_iff_ne, Int.not_lt, Int.not_le, ne_eq] at hc59
                    refine Sx.st_take hT rfl rfl rfl rfl (Sx.x_move hT rfl rfl) ?_
                    clear hT; intro a hT
                    refine Sx.st_take hT rfl rfl rfl rfl (Sx.x_move hT rfl rfl) ?_
                    clear hT; intro a hT
                    refine Sx.st_take hT rfl rfl rfl rfl (Sx.x_move hT rfl rfl) ?_
                    clear hT; intro a hT
                    refine Sx.st_run hT rfl rfl rfl rfl (Sx.y_loadS hT rfl Try.underlying34 Try.ti34 rfl ((H.blk 2 rfl).seg (k := 3) rfl) (by rfl)) ?_
                    clear hT; intro a hT
                    refine Sx.st_call hT rfl rfl rfl rfl rfl Try.can23 rfl (place_calls _ _ (rs.take jk ++ rs.drop (jk + 1)) (ts.take jk ++ ts.drop (jk + 1)) _ (H.rowss 0 rfl rfl) ((H.at 6 rfl) H.ext) (by first | omega | (simp; omega)) m ad4 _ c4 (H.at 3 rfl) rfl) ?_
                    rintro _ w31 ⟨j2, rfl, hj2, E⟩
                    refine ⟨_, rfl, ?_⟩
                    clear hT; intro a hT
                    replace H := H.pure E; clear E
                    refine Sx.st_take hT rfl rfl rfl rfl ((fun w => Sx.x_lt w hT rfl rfl rfl)) ?_
                    clear hT; intro a hT
                    refine Sx.st_take hT rfl rfl rfl rfl (Sx.x_pick_t hT rfl rfl rfl) ?_
                    clear hT; intro a hT
                    refine Sx.st_take hT rfl rfl rfl rfl (Sx.x_move hT rfl rfl) ?_
                    clear hT; intro a hT
                    -- guard (42, 13)
                    refine Sx.Sl.two hT 154 rfl (fun hc60 hT => ?_) (fun hc60 hT => ?_)
                    · try simp only [decide_eq_true_eq, decide_eq_false_iff_not, Bool.not_eq_true', Bool.not_eq_false', Bool.not_eq_true, Bool.not_eq_false, Bool.and_eq_true, Bool.or_eq_false_iff, beq_iff_eq, bne_iff_ne, Int.not_lt, Int.not_le, ne_eq] at hc60
                      refine Sx.st_take hT rfl rfl rfl rfl (Sx.x_move hT rfl rfl) ?_
                      clear hT; intro a hT
                      refine Sx.st_take hT rfl rfl rfl rfl (Sx.x_not hT rfl rfl) ?_
                      clear hT; intro a hT
                      refine Sx.st_take hT rfl rfl rfl rfl (Sx.x_pick_t hT rfl rfl rfl) ?_
                      clear hT; intro a hT
                      refine Sx.st_take hT rfl rfl rfl rfl (Sx.x_pick_f hT rfl rfl rfl) ?_
                      clear hT; intro a hT
                      replace hT := hT.keep [158, 5, 130, 13, 125, 10, 99, 92, 70, 49, 48, 9, 8, 7, 33, 6, 29, 22, 4, 3, 15, 0] rfl
                      refine Sx.ser_nil ?_
                      refine Sx.then_normal (hK58 _ _ ?_)
                      clear hK58
                      refine Sx.wp_if hT rfl (fun h => by cases h) (fun _ => ?_)
                      refine wp_skip ?_
                      refine Sx.block_normal ?_
                      refine Sx.then_normal (hK16 _ _ ?_)
                      clear hK16
                      -- region 11 (law.go:130)
                      refine Sx.wp_text [(0, .take), (1, .take), (2, .take)] rfl ?_
                      refine Sx.st_take hT rfl rfl rfl rfl (Sx.x_move hT rfl rfl) ?_
                      clear hT; intro a hT
                      refine Sx.st_take hT rfl rfl rfl rfl ((fun w => Sx.x_add w hT rfl rfl rfl (Sx.wrap64 (by omega)))) ?_
                      clear hT; intro a hT
                      refine Sx.st_take hT rfl rfl rfl rfl (Sx.x_assign hT rfl rfl) ?_
                      clear hT; intro a hT
                      replace hT := hT.keep [6, 158, 5, 130, 13, 125, 10, 99, 92, 70, 49, 48, 9, 8, 7, 33, 29, 22, 4, 3, 15, 0] rfl
                      refine Sx.ser_nil ?_
                      refine Sx.then_normal ?_
                      try clear hj2
                      skip
                      exact ⟨(⟨k + 1, ms.take k0 ++ ms.drop (k0 + 1), _, rs.take jk ++ rs.drop (jk + 1), ts.take jk ++ ts.drop (jk + 1), _, _, _⟩ : SG), ⟨by show k + 1 ≤ _; omega, out_both hperm hjk hm, by show List.length _ ≤ k + 1; first | omega | (simp; omega), by show List.length _ = List.length _; first | omega | (simp; omega)⟩, (hT.keep [6, 5, 29, 22, 4, 3, 15, 0] rfl), (H.keep [1, 0, 6] rfl rfl), by show _ - (k + 1) < _ - k; omega⟩
                    · try simp only [decide_eq_true_eq, decide_eq_false_iff_not, Bool.not_eq_true', Bool.not_eq_false', Bool.not_eq_true, Bool.not_eq_false, Bool.and_eq_true, Bool.or_eq_false_iff, beq_iff_eq, bne_iff_ne, Int.not_lt, Int.not_le, ne_eq] at hc60
                      refine Sx.st_skip hT rfl rfl rfl rfl ?_
                      clear hT; intro a hT
                      refine Sx.st_skip hT rfl rfl rfl rfl ?_
                      clear hT; intro a hT
                      refine Sx.st_take hT rfl rfl rfl rfl (Sx.x_pick_f hT rfl rfl rfl) ?_
                      clear hT; intro a hT
                      refine Sx.st_take hT rfl rfl rfl rfl (Sx.x_pick_f hT rfl rfl rfl) ?_
                      clear hT; intro a hT
                      replace hT := hT.keep [158, 5, 130, 13, 125, 10, 99, 92, 70, 49, 48, 9, 8, 7, 33, 6, 29, 22, 4, 3, 15, 0] rfl
                      refine Sx.ser_nil ?_
                      refine Sx.then_normal (hK58 _ _ ?_)
                      clear hK58
                      refine Sx.wp_if hT rfl (fun h => by cases h) (fun _ => ?_)
                      refine wp_skip ?_
                      refine Sx.block_normal ?_
                      refine Sx.then_normal (hK16 _ _ ?_)
                      clear hK16
                      -- region 11 (law.go:130)
                      refine Sx.wp_text [(0, .take), (1, .take), (2, .take)] rfl ?_
                      refine Sx.st_take hT rfl rfl rfl rfl (Sx.x_move hT rfl rfl) ?_
                      clear hT; intro a hT
                      refine Sx.st_take hT rfl rfl rfl rfl ((fun w => Sx.x_add w hT rfl rfl rfl (Sx.wrap64 (by omega)))) ?_
                      clear hT; intro a hT
                      refine Sx.st_take hT rfl rfl rfl rfl (Sx.x_assign hT rfl rfl) ?_
                      clear hT; intro a hT
                      replace hT := hT.keep [6, 158, 5, 130, 13, 125, 10, 99, 92, 70, 49, 48, 9, 8, 7, 33, 29, 22, 4, 3, 15, 0] rfl
                      refine Sx.ser_nil ?_
                      refine Sx.then_normal ?_
                      try clear hj2
                      skip
                      exact ⟨(⟨k + 1, ms.take k0 ++ ms.drop (k0 + 1), _, rs.take jk ++ rs.drop (jk + 1), ts.take jk ++ ts.drop (jk + 1), _, _, _⟩ : SG), ⟨by show k + 1 ≤ _; omega, out_both hperm hjk hm, by show List.length _ ≤ k + 1; first | omega | (simp; omega), by show List.length _ = List.length _; first | omega | (simp; omega)⟩, (hT.keep [6, 5, 29, 22, 4, 3, 15, 0] rfl), (H.keep [1, 0, 6] rfl rfl), by show _ - (k + 1) < _ - k; omega⟩
            · try simp only [decide_eq_true_eq, decide_eq_false_iff_not, Bool.not_eq_true', Bool.not_eq_false', Bool.not_eq_true, Bool.not_eq_false, Bool.and_eq_true, Bool.or_eq_false_iff, beq_iff_eq, bne_iff_ne, Int.not_lt, Int.not_le, ne_eq] at hc48
              refine wp_seq_k fun K61 hK61 => ?_
              -- region 29 (law.go:151)
              refine Sx.wp_text [(0, .take), (1, .take)] rfl ?_
              refine Sx.st_take hT rfl rfl rfl rfl ((fun w => Sx.x_eq w hT rfl rfl rfl)) ?_
              clear hT; intro a hT
              refine Sx.st_take hT rfl rfl rfl rfl (Sx.x_assign hT rfl rfl) ?_
              clear hT; intro a hT
              replace hT := hT.keep [101, 92, 70, 49, 48, 10, 9, 8, 7, 33, 6, 5, 29, 22, 4, 3, 15, 0] rfl
              refine Sx.ser_nil ?_
              refine Sx.then_normal (hK61 _ _ ?_)
              clear hK61
              -- cond 10
              refine Sx.wp_if hT rfl (fun hc62 => ?_) (fun hc62 => ?_)
              · try simp only [decide_eq_true_eq, decide_eq_false_iff_not, Bool.not_eq_true', Bool.not_eq_false', Bool.not_eq_true, Bool.not_eq_false, Bool.and_eq_true, Bool.or_eq_false_iff, beq_iff_eq, bne_iff_ne, Int.not_lt, Int.not_le, ne_eq] at hc62
                refine wp_seq_k fun K63 hK63 => ?_
                refine wp_seq_k fun K64 hK64 => ?_
                -- region 30 (law.go:152)
                refine Sx.wp_text [(0, .take), (1, .take), (2, .run), (3, .run), (4, .take), (5, .take), (6, .take)] rfl ?_
                refine Sx.st_take hT rfl rfl rfl rfl (Sx.x_move hT rfl rfl) ?_
                clear hT; intro a hT
                refine Sx.st_take hT rfl rfl rfl rfl (Sx.x_fieldAddr hT rfl Try.fa32_1 rfl) ?_
                clear hT; intro a hT
                refine Sx.st_run hT rfl rfl rfl rfl (Sx.x_load1 hT rfl Try.fl3 rfl ((H.blk 2 rfl).nth rfl)) ?_
                clear hT; intro a hT
                refine Sx.st_call hT rfl rfl rfl rfl rfl Try.can22 rfl (hTwice_ok (H.pre [3] rfl rfl) _ k0 m hk0 hm (by omega)) ?_
                rintro _ w32 ⟨F2, rfl, K⟩
                refine ⟨_, rfl, ?_⟩
                clear hT; intro a hT
                replace H := H.back [3] [0, 1, 2, 4, 5] rfl rfl rfl K rfl; clear K
                refine Sx.st_take hT rfl rfl rfl rfl ((fun w => Sx.x_eq w hT rfl rfl rfl)) ?_
                clear hT; intro a hT
                refine Sx.st_take hT rfl rfl rfl rfl (Sx.x_move hT rfl rfl) ?_
                clear hT; intro a hT
                refine Sx.st_take hT rfl rfl rfl rfl (Sx.x_neb hT rfl Try.underlying4 rfl rfl) ?_
                clear hT; intro a hT
                replace hT := hT.keep [109, 101, 92, 70, 49, 48, 10, 9, 8, 7, 33, 6, 5, 29, 22, 4, 3, 15, 0] rfl
                refine Sx.ser_nil ?_
                refine Sx.then_normal (hK64 _ _ ?_)
                clear hK64
                -- cond 11
                refine Sx.wp_if hT rfl (fun hc65 => ?_) (fun hc65 => ?_)
                · exfalso
                  try simp only [decide_eq_true_eq, decide_eq_false_iff_not, Bool.not_eq_true', Bool.not_eq_false', Bool.not_eq_true, Bool.not_eq_false, Bool.and_eq_true, Bool.or_eq_false_iff, beq_iff_eq, bne_iff_ne, Int.not_lt, Int.not_le, ne_eq] at hc65
                  first | (simp at hc65; done) | omega | (simp at hc65; omega) | (simp_all; done)
                · try simp only [decide_eq_true_eq, decide_eq_false_iff_not, Bool.not_eq_true', Bool.not_eq_false', Bool.not_eq_true, Bool.not_eq_false, Bool.and_eq_true, Bool.or_eq_false_iff, beq_iff_eq, bne_iff_ne, Int.not_lt, Int.not_le, ne_eq] at hc65
                  refine wp_skip ?_
                  refine Sx.then_normal (hK63 _ _ ?_)
                  clear hK63
                  refine wp_seq_k fun K66 hK66 => ?_
                  -- region 32 (law.go:155)
                  refine Sx.wp_text [(0, .take)] rfl ?_
                  refine Sx.st_take hT rfl rfl rfl rfl (Sx.x_move hT rfl rfl) ?_
                  clear hT; intro a hT
                  replace hT := hT.keep [110, 109, 101, 92, 70, 49, 48, 10, 9, 8, 7, 33, 6, 5, 29, 22, 4, 3, 15, 0] rfl
                  refine Sx.ser_nil ?_
                  refine Sx.then_normal (hK66 _ _ ?_)
                  clear hK66
                  refine Sx.wp_if hT rfl (fun _ => ?_) (fun h => by cases h)
                  -- region 33 (law.go:156)
                  refine Sx.wp_text [(0, .take), (1, .run), (2, .run), (3, .run), (4, .take)] rfl ?_
                  refine Sx.st_take hT rfl rfl rfl rfl (Sx.x_move hT rfl rfl) ?_
                  clear hT; intro a hT
                  refine Sx.st_run hT rfl rfl rfl rfl (Sx.y_loadS hT rfl Try.underlying34 Try.ti34 rfl ((H.blk 1 rfl).seg (k := 3) rfl) (by rfl)) ?_
                  clear hT; intro a hT
                  refine Sx.st_eff hT rfl rfl rfl rfl (Sx.y_slice1 hT rfl Try.underlying52 Try.ti34 rfl rfl rfl rfl rfl rfl _) ?_
                  clear hT; rintro _ w33 ⟨b7, rfl, N⟩ a hT
                  replace H := H.new N; clear N
                  refine Sx.st_eff hT rfl rfl rfl rfl (Sx.x_append hT rfl rfl Try.underlying52 Try.ti34 rfl (by decide) rfl rfl (H.row 5 rfl) ((H.blk 0 rfl).sv1 rfl) (by simp [Value.oneCell']) (fun h => by cases h) (by unfold maxLen; omega) (by omega)) ?_
                  rintro _ w34 ⟨ad34, c34, rfl, hr, E, hown, -⟩
                  clear hT; intro a hT
                  replace H := H.setR 5 rfl hr E hown rfl; clear hr E hown
                  have hxs : rs.flatMap RM.cells ++ RM.cells (⟨m.src, m.dst, ad4, m.data.length, c4⟩ : RM) = (rs ++ [(⟨m.src, m.dst, ad4, m.data.length, c4⟩ : RM)]).flatMap RM.cells := by simp
                  have hnl : rs.length + 1 = (rs ++ [((⟨m.src, m.dst, ad4, m.data.length, c4⟩ : RM) : RM)]).length := by simp
                  simp only [RM.cells] at hxs
                  rw [hxs, hnl] at H
                  rw [hnl] at hT
                  refine Sx.st_take hT rfl rfl rfl rfl (Sx.x_assign hT rfl rfl) ?_
                  clear hT; intro a hT
                  replace hT := hT.keep [5, 110, 109, 101, 92, 70, 49, 48, 10, 9, 8, 7, 33, 6, 29, 22, 4, 3, 15, 0] rfl
                  refine Sx.ser_nil ?_
                  refine Sx.block_normal ?_
                  refine Sx.then_normal (hK20 _ _ ?_)
                  clear hK20
                  refine wp_seq_k fun K67 hK67 => ?_
                  refine wp_seq_k fun K68 hK68 => ?_
                  -- region 37 (law.go:163)
                  refine Sx.wp_text [(0, .take)] rfl ?_
                  refine Sx.st_take hT rfl rfl rfl rfl (Sx.x_move hT rfl rfl) ?_
                  clear hT; intro a hT
                  replace hT := hT.keep [125, 5, 110, 109, 101, 92, 70, 49, 48, 10, 9, 8, 7, 33, 6, 29, 22, 4, 3, 15, 0] rfl
                  refine Sx.ser_nil ?_
                  refine Sx.then_normal (hK68 _ _ ?_)
                  clear hK68
                  refine Sx.wp_if hT rfl (fun h => by cases h) (fun _ => ?_)
                  refine wp_skip ?_
                  refine Sx.then_normal (hK67 _ _ ?_)
                  clear hK67
                  refine wp_seq_k fun K69 hK69 => ?_
                  -- region 42 (law.go:170)
                  refine Sx.wp_text [(0, .take), (1, .run), (2, .take), (3, .take), (4, .take), (5, .take), (6, .take), (7, .take), (8, .take), (9, .run), (10, .run), (11, .take), (12, .take), (13, .take), (14, .take), (15, .take), (16, .take), (17, .take)] rfl ?_
                  refine Sx.st_take hT rfl rfl rfl rfl (Sx.x_move hT rfl rfl) ?_
                  clear hT; intro a hT
                  refine Sx.st_call hT rfl rfl rfl rfl rfl Try.can13 rfl (nLen_calls (hn_of H 1 rfl)) ?_
                  rintro _ w35 ⟨rfl, E⟩
                  refine ⟨_, rfl, ?_⟩
                  clear hT; intro a hT
                  replace H := H.pure E; clear E
                  refine Sx.st_take hT rfl rfl rfl rfl (Sx.x_move hT rfl rfl) ?_
                  clear hT; intro a hT
                  refine Sx.st_take hT rfl rfl rfl rfl (Sx.x_len_slice hT rfl rfl Try.underlying52 rfl) ?_
                  clear hT; intro a hT
                  refine Sx.st_take hT rfl rfl rfl rfl ((fun w => Sx.x_ne w hT rfl rfl rfl)) ?_
                  clear hT; intro a hT
                  refine Sx.st_take hT rfl rfl rfl rfl (Sx.x_move hT rfl rfl) ?_
                  clear hT; intro a hT
                  -- guard (42, 5)
                  refine Sx.Sl.two hT 146 rfl (fun hc70 hT => ?_) (fun hc70 hT => ?_)
                  · exfalso
                    try simp only [decide_eq_true_eq, decide_eq_false_iff_not, Bool.not_eq_true', Bool.not_eq_false', Bool.not_eq_true, Bool.not_eq_false, Bool.and_eq_true, Bool.or_eq_false_iff, beq_iff_eq, bne_iff_ne, Int.not_lt, Int.not_le, ne_eq] at hc70
                    first | (simp at hc70; done) | omega | (simp at hc70; omega) | (simp_all; done)
                  · try simp only [decide_eq_true_eq, decide_eq_false_iff_not, Bool.not_eq_true', Bool.not_eq_false', Bool.not_eq_true, Bool.not_eq_false, Bool.and_eq_true, Bool.or_eq_false_iff, beq_iff_eq, bne_iff_ne, Int.not_lt, Int.not_le, ne_eq] at hc70
                    refine Sx.st_take hT rfl rfl rfl rfl (Sx.x_move hT rfl rfl) ?_
                    clear hT; intro a hT
                    refine Sx.st_take hT rfl rfl rfl rfl (Sx.x_move hT rfl rfl) ?_
                    clear hT; intro a hT
                    refine Sx.st_take hT rfl rfl rfl rfl (Sx.x_move hT rfl rfl) ?_
                    clear hT; intro a hT
                    refine Sx.st_run hT rfl rfl rfl rfl (Sx.y_loadS hT rfl Try.underlying34 Try.ti34 rfl ((H.blk 2 rfl).seg (k := 3) rfl) (by rfl)) ?_
                    clear hT; intro a hT
                    refine Sx.st_call hT rfl rfl rfl rfl rfl Try.can23 rfl (place_calls _ _ (rs ++ [(⟨m.src, m.dst, ad4, m.data.length, c4⟩ : RM)]) (ts ++ [m]) _ (H.rowss 5 rfl rfl) (All2.append ((H.at 6 rfl) H.ext) (All2.single ⟨rfl, rfl, rfl, (H.at 3 rfl), hnil4, hsm⟩)) (by first | omega | (simp; omega)) m ad4 _ c4 (H.at 3 rfl) rfl) ?_
                    rintro _ w36 ⟨j2, rfl, hj2, E⟩
                    refine ⟨_, rfl, ?_⟩
                    clear hT; intro a hT
                    replace H := H.pure E; clear E
                    refine Sx.st_take hT rfl rfl rfl rfl ((fun w => Sx.x_lt w hT rfl rfl rfl)) ?_
                    clear hT; intro a hT
                    refine Sx.st_take hT rfl rfl rfl rfl (Sx.x_pick_t hT rfl rfl rfl) ?_
                    clear hT; intro a hT
                    refine Sx.st_take hT rfl rfl rfl rfl (Sx.x_move hT rfl rfl) ?_
                    clear hT; intro a hT
                    -- guard (42, 13)
                    refine Sx.Sl.two hT 154 rfl (fun hc71 hT => ?_) (fun hc71 hT => ?_)
                    · exfalso
                      try simp only [decide_eq_true_eq, decide_eq_false_iff_not, Bool.not_eq_true', Bool.not_eq_false', Bool.not_eq_true, Bool.not_eq_false, Bool.and_eq_true, Bool.or_eq_false_iff, beq_iff_eq, bne_iff_ne, Int.not_lt, Int.not_le, ne_eq] at hc71
                      (rcases hj2 with ⟨i9, rfl, h8⟩ | ⟨h7, h8⟩ <;> first | omega | exact h8 (List.mem_append_left _ hmem))
                    · try simp only [decide_eq_true_eq, decide_eq_false_iff_not, Bool.not_eq_true', Bool.not_eq_false', Bool.not_eq_true, Bool.not_eq_false, Bool.and_eq_true, Bool.or_eq_false_iff, beq_iff_eq, bne_iff_ne, Int.not_lt, Int.not_le, ne_eq] at hc71
                      refine Sx.st_skip hT rfl rfl rfl rfl ?_
                      clear hT; intro a hT
                      refine Sx.st_skip hT rfl rfl rfl rfl ?_
                      clear hT; intro a hT
                      refine Sx.st_take hT rfl rfl rfl rfl (Sx.x_pick_f hT rfl rfl rfl) ?_
                      clear hT; intro a hT
                      refine Sx.st_take hT rfl rfl rfl rfl (Sx.x_pick_f hT rfl rfl rfl) ?_
                      clear hT; intro a hT
                      replace hT := hT.keep [158, 125, 5, 110, 109, 101, 92, 70, 49, 48, 10, 9, 8, 7, 33, 6, 29, 22, 4, 3, 15, 0] rfl
                      refine Sx.ser_nil ?_
                      refine Sx.then_normal (hK69 _ _ ?_)
                      clear hK69
                      refine Sx.wp_if hT rfl (fun h => by cases h) (fun _ => ?_)
                      refine wp_skip ?_
                      refine Sx.block_normal ?_
                      refine Sx.then_normal (hK16 _ _ ?_)
                      clear hK16
                      -- region 11 (law.go:130)
                      refine Sx.wp_text [(0, .take), (1, .take), (2, .take)] rfl ?_
                      refine Sx.st_take hT rfl rfl rfl rfl (Sx.x_move hT rfl rfl) ?_
                      clear hT; intro a hT
                      refine Sx.st_take hT rfl rfl rfl rfl ((fun w => Sx.x_add w hT rfl rfl rfl (Sx.wrap64 (by omega)))) ?_
                      clear hT; intro a hT
                      refine Sx.st_take hT rfl rfl rfl rfl (Sx.x_assign hT rfl rfl) ?_
                      clear hT; intro a hT
                      replace hT := hT.keep [6, 158, 125, 5, 110, 109, 101, 92, 70, 49, 48, 10, 9, 8, 7, 33, 29, 22, 4, 3, 15, 0] rfl
                      refine Sx.ser_nil ?_
                      refine Sx.then_normal ?_
                      try clear hj2
                      replace H := H.merge 6 3 rfl rfl [0, 1, 2, 4, 5] rfl rfl
                      replace H := H.turn 0 rfl (fun w9 hp x => (hp.1 x).append (All2.single (R := RM.is w9) (a := (⟨m.src, m.dst, ad4, m.data.length, c4⟩ : RM)) (b := m) ⟨rfl, rfl, rfl, hp.2, hnil4, hsm⟩)) rfl
                      exact ⟨(⟨k + 1, ms ++ [m], _, rs ++ [(⟨m.src, m.dst, ad4, m.data.length, c4⟩ : RM)], ts ++ [m], _, _, _⟩ : SG), ⟨by show k + 1 ≤ _; omega, hperm.append_right _, by show List.length _ ≤ k + 1; first | omega | (simp; omega), by show List.length _ = List.length _; first | omega | (simp; omega)⟩, (hT.keep [6, 5, 29, 22, 4, 3, 15, 0] rfl), (H.keep [2, 5, 0] rfl rfl), by show _ - (k + 1) < _ - k; omega⟩
              · try simp only [decide_eq_true_eq, decide_eq_false_iff_not, Bool.not_eq_true', Bool.not_eq_false', Bool.not_eq_true, Bool.not_eq_false, Bool.and_eq_true, Bool.or_eq_false_iff, beq_iff_eq, bne_iff_ne, Int.not_lt, Int.not_le, ne_eq] at hc62
                refine wp_seq_k fun K72 hK72 => ?_
                -- region 34 (law.go:158)
                refine Sx.wp_text [(0, .take), (1, .take)] rfl ?_
                refine Sx.st_take hT rfl rfl rfl rfl ((fun w => Sx.x_eq w hT rfl rfl rfl)) ?_
                clear hT; intro a hT
                refine Sx.st_take hT rfl rfl rfl rfl (Sx.x_assign hT rfl rfl) ?_
                clear hT; intro a hT
                replace hT := hT.keep [115, 101, 92, 70, 49, 48, 10, 9, 8, 7, 33, 6, 5, 29, 22, 4, 3, 15, 0] rfl
                refine Sx.ser_nil ?_
                refine Sx.then_normal (hK72 _ _ ?_)
                clear hK72
                -- cond 13
                refine Sx.wp_if hT rfl (fun hc73 => ?_) (fun hc73 => ?_)
                · try simp only [decide_eq_true_eq, decide_eq_false_iff_not, Bool.not_eq_true', Bool.not_eq_false', Bool.not_eq_true, Bool.not_eq_false, Bool.and_eq_true, Bool.or_eq_false_iff, beq_iff_eq, bne_iff_ne, Int.not_lt, Int.not_le, ne_eq] at hc73
                  refine wp_seq_k fun K74 hK74 => ?_
                  -- region 35 (law.go:159)
                  refine Sx.wp_text [(0, .take), (1, .take), (2, .run), (3, .take), (4, .run), (5, .run), (6, .take), (7, .take)] rfl ?_
                  refine Sx.st_take hT rfl rfl rfl rfl (Sx.x_move hT rfl rfl) ?_
                  clear hT; intro a hT
                  refine Sx.st_take hT rfl rfl rfl rfl (Sx.x_fieldAddr hT rfl Try.fa32_1 rfl) ?_
                  clear hT; intro a hT
                  refine Sx.st_run hT rfl rfl rfl rfl (Sx.x_load1 hT rfl Try.fl3 rfl ((H.blk 2 rfl).nth rfl)) ?_
                  clear hT; intro a hT
                  refine Sx.st_take hT rfl rfl rfl rfl (Sx.x_fieldAddr hT rfl Try.fa32_2 rfl) ?_
                  clear hT; intro a hT
                  refine Sx.st_run hT rfl rfl rfl rfl (Sx.x_load1 hT rfl Try.fl3 rfl ((H.blk 2 rfl).nth rfl)) ?_
                  clear hT; intro a hT
                  refine Sx.st_call hT rfl rfl rfl rfl rfl Try.can12 rfl (hMove_yes (H.pre [3] rfl rfl) _ _ k0 m hk0 hm) ?_
                  rintro _ w37 ⟨ms2, F2, rfl, hmv, K⟩
                  refine ⟨_, rfl, ?_⟩
                  clear hT; intro a hT
                  replace H := H.back [3] [0, 1, 2, 4, 5] rfl rfl rfl K rfl; clear K
                  have hmvl := hmv.length_eq
                  refine Sx.st_take hT rfl rfl rfl rfl (Sx.x_move hT rfl rfl) ?_
                  clear hT; intro a hT
                  refine Sx.st_take hT rfl rfl rfl rfl (Sx.x_neb hT rfl Try.underlying4 rfl rfl) ?_
                  clear hT; intro a hT
                  replace hT := hT.keep [124, 115, 101, 92, 70, 49, 48, 10, 9, 8, 7, 33, 6, 5, 29, 22, 4, 3, 15, 0] rfl
                  refine Sx.ser_nil ?_
                  refine Sx.then_normal (hK74 _ _ ?_)
                  clear hK74
                  -- cond 14
                  refine Sx.wp_if hT rfl (fun hc75 => ?_) (fun hc75 => ?_)
                  · exfalso
                    try simp only [decide_eq_true_eq, decide_eq_false_iff_not, Bool.not_eq_true', Bool.not_eq_false', Bool.not_eq_true, Bool.not_eq_false, Bool.and_eq_true, Bool.or_eq_false_iff, beq_iff_eq, bne_iff_ne, Int.not_lt, Int.not_le, ne_eq] at hc75
                    first | (simp at hc75; done) | omega | (simp at hc75; omega) | (simp_all; done)
                  · try simp only [decide_eq_true_eq, decide_eq_false_iff_not, Bool.not_eq_true', Bool.not_eq_false', Bool.not_eq_true, Bool.not_eq_false, Bool.and_eq_true, Bool.or_eq_false_iff, beq_iff_eq, bne_iff_ne, Int.not_lt, Int.not_le, ne_eq] at hc75
                    refine wp_skip ?_
                    refine Sx.block_normal ?_
                    refine Sx.then_normal (hK20 _ _ ?_)
                    clear hK20
                    refine wp_seq_k fun K76 hK76 => ?_
                    refine wp_seq_k fun K77 hK77 => ?_
                    -- region 37 (law.go:163)
                    refine Sx.wp_text [(0, .take)] rfl ?_
                    refine Sx.st_take hT rfl rfl rfl rfl (Sx.x_move hT rfl rfl) ?_
                    clear hT; intro a hT
                    replace hT := hT.keep [125, 124, 115, 101, 92, 70, 49, 48, 10, 9, 8, 7, 33, 6, 5, 29, 22, 4, 3, 15, 0] rfl
                    refine Sx.ser_nil ?_
                    refine Sx.then_normal (hK77 _ _ ?_)
                    clear hK77
                    refine Sx.wp_if hT rfl (fun h => by cases h) (fun _ => ?_)
                    refine wp_skip ?_
                    refine Sx.then_normal (hK76 _ _ ?_)
                    clear hK76
                    refine wp_seq_k fun K78 hK78 => ?_
                    -- region 42 (law.go:170)
                    refine Sx.wp_text [(0, .take), (1, .run), (2, .take), (3, .take), (4, .take), (5, .take), (6, .take), (7, .take), (8, .take), (9, .run), (10, .run), (11, .take), (12, .take), (13, .take), (14, .take), (15, .take), (16, .take), (17, .take)] rfl ?_
                    refine Sx.st_take hT rfl rfl rfl rfl (Sx.x_move hT rfl rfl) ?_
                    clear hT; intro a hT
                    refine Sx.st_call hT rfl rfl rfl rfl rfl Try.can13 rfl (nLen_calls (hn_of H 0 rfl)) ?_
                    rintro _ w38 ⟨rfl, E⟩
                    refine ⟨_, rfl, ?_⟩
                    clear hT; intro a hT
                    replace H := H.pure E; clear E
                    refine Sx.st_take hT rfl rfl rfl rfl (Sx.x_move hT rfl rfl) ?_
                    clear hT; intro a hT
                    refine Sx.st_take hT rfl rfl rfl rfl (Sx.x_len_slice hT rfl rfl Try.underlying52 rfl) ?_
                    clear hT; intro a hT
                    refine Sx.st_take hT rfl rfl rfl rfl ((fun w => Sx.x_ne w hT rfl rfl rfl)) ?_
                    clear hT; intro a hT
                    refine Sx.st_take hT rfl rfl rfl rfl (Sx.x_move hT rfl rfl) ?_
                    clear hT; intro a hT
                    -- guard (42, 5)
                    refine Sx.Sl.two hT 146 rfl (fun hc79 hT => ?_) (fun hc79 hT => ?_)
                    · exfalso
                      try simp only [decide_eq_true_eq, decide_eq_false_iff_not, Bool.not_eq_true', Bool.not_eq_false', Bool.not_eq_true, Bool.not_eq_false, Bool.and_eq_true, Bool.or_eq_false_iff, beq_iff_eq, bne_iff_ne, Int.not_lt, Int.not_le, ne_eq] at hc79
                      first | (simp at hc79; done) | omega | (simp at hc79; omega) | (simp_all; done)
                    · try simp only [decide_eq_true_eq, decide_eq_false_iff_not, Bool.not_eq_true', Bool.not_eq_false', Bool.not_eq_true, Bool.not_eq_false, Bool.and_eq_true, Bool.or_eq_false_iff, beq_iff_eq, bne_iff_ne, Int.not_lt, Int.not_le, ne_eq] at hc79
                      refine Sx.st_take hT rfl rfl rfl rfl (Sx.x_move hT rfl rfl) ?_
                      clear hT; intro a hT
                      refine Sx.st_take hT rfl rfl rfl rfl (Sx.x_move hT rfl rfl) ?_
                      clear hT; intro a hT
                      refine Sx.st_take hT rfl rfl rfl rfl (Sx.x_move hT rfl rfl) ?_
                      clear hT; intro a hT
                      refine Sx.st_run hT rfl rfl rfl rfl (Sx.y_loadS hT rfl Try.underlying34 Try.ti34 rfl ((H.blk 1 rfl).seg (k := 3) rfl) (by rfl)) ?_
                      clear hT; intro a hT
                      refine Sx.st_call hT rfl rfl rfl rfl rfl Try.can23 rfl (place_calls _ _ (rs) (ts) _ (H.rowss 4 rfl rfl) ((H.at 5 rfl) H.ext) (by first | omega | (simp; omega)) m ad4 _ c4 (H.at 2 rfl) rfl) ?_
                      rintro _ w39 ⟨j2, rfl, hj2, E⟩
                      refine ⟨_, rfl, ?_⟩
                      clear hT; intro a hT
                      replace H := H.pure E; clear E
                      refine Sx.st_take hT rfl rfl rfl rfl ((fun w => Sx.x_lt w hT rfl rfl rfl)) ?_
                      clear hT; intro a hT
                      refine Sx.st_take hT rfl rfl rfl rfl (Sx.x_pick_t hT rfl rfl rfl) ?_
                      clear hT; intro a hT
                      refine Sx.st_take hT rfl rfl rfl rfl (Sx.x_move hT rfl rfl) ?_
                      clear hT; intro a hT
                      -- guard (42, 13)
                      refine Sx.Sl.two hT 154 rfl (fun hc80 hT => ?_) (fun hc80 hT => ?_)
                      · exfalso
                        try simp only [decide_eq_true_eq, decide_eq_false_iff_not, Bool.not_eq_true', Bool.not_eq_false', Bool.not_eq_true, Bool.not_eq_false, Bool.and_eq_true, Bool.or_eq_false_iff, beq_iff_eq, bne_iff_ne, Int.not_lt, Int.not_le, ne_eq] at hc80
                        (rcases hj2 with ⟨i9, rfl, h8⟩ | ⟨h7, h8⟩ <;> first | omega | exact h8 hmem)
                      · try simp only [decide_eq_true_eq, decide_eq_false_iff_not, Bool.not_eq_true', Bool.not_eq_false', Bool.not_eq_true, Bool.not_eq_false, Bool.and_eq_true, Bool.or_eq_false_iff, beq_iff_eq, bne_iff_ne, Int.not_lt, Int.not_le, ne_eq] at hc80
                        refine Sx.st_skip hT rfl rfl rfl rfl ?_
                        clear hT; intro a hT
                        refine Sx.st_skip hT rfl rfl rfl rfl ?_
                        clear hT; intro a hT
                        refine Sx.st_take hT rfl rfl rfl rfl (Sx.x_pick_f hT rfl rfl rfl) ?_
                        clear hT; intro a hT
                        refine Sx.st_take hT rfl rfl rfl rfl (Sx.x_pick_f hT rfl rfl rfl) ?_
                        clear hT; intro a hT
                        replace hT := hT.keep [158, 125, 124, 115, 101, 92, 70, 49, 48, 10, 9, 8, 7, 33, 6, 5, 29, 22, 4, 3, 15, 0] rfl
                        refine Sx.ser_nil ?_
                        refine Sx.then_normal (hK78 _ _ ?_)
                        clear hK78
                        refine Sx.wp_if hT rfl (fun h => by cases h) (fun _ => ?_)
                        refine wp_skip ?_
                        refine Sx.block_normal ?_
                        refine Sx.then_normal (hK16 _ _ ?_)
                        clear hK16
                        -- region 11 (law.go:130)
                        refine Sx.wp_text [(0, .take), (1, .take), (2, .take)] rfl ?_
                        refine Sx.st_take hT rfl rfl rfl rfl (Sx.x_move hT rfl rfl) ?_
                        clear hT; intro a hT
                        refine Sx.st_take hT rfl rfl rfl rfl ((fun w => Sx.x_add w hT rfl rfl rfl (Sx.wrap64 (by omega)))) ?_
                        clear hT; intro a hT
                        refine Sx.st_take hT rfl rfl rfl rfl (Sx.x_assign hT rfl rfl) ?_
                        clear hT; intro a hT
                        replace hT := hT.keep [6, 158, 125, 124, 115, 101, 92, 70, 49, 48, 10, 9, 8, 7, 33, 5, 29, 22, 4, 3, 15, 0] rfl
                        refine Sx.ser_nil ?_
                        refine Sx.then_normal ?_
                        try clear hj2
                        skip
                        exact ⟨(⟨k + 1, ms2, _, rs, ts, _, _, _⟩ : SG), ⟨by show k + 1 ≤ _; omega, hperm.trans hmv.symm, by show List.length _ ≤ k + 1; first | omega | (simp; omega), by show List.length _ = List.length _; first | omega | (simp; omega)⟩, (hT.keep [6, 5, 29, 22, 4, 3, 15, 0] rfl), (H.keep [0, 4, 5] rfl rfl), by show _ - (k + 1) < _ - k; omega⟩
                · try simp only [decide_eq_true_eq, decide_eq_false_iff_not, Bool.not_eq_true', Bool.not_eq_false', Bool.not_eq_true, Bool.not_eq_false, Bool.and_eq_true, Bool.or_eq_false_iff, beq_iff_eq, bne_iff_ne, Int.not_lt, Int.not_le, ne_eq] at hc73
                  refine wp_skip ?_
                  refine Sx.block_normal ?_
                  refine Sx.then_normal (hK20 _ _ ?_)
                  clear hK20
                  refine wp_seq_k fun K81 hK81 => ?_
                  refine wp_seq_k fun K82 hK82 => ?_
                  -- region 37 (law.go:163)
                  refine Sx.wp_text [(0, .take)] rfl ?_
                  refine Sx.st_take hT rfl rfl rfl rfl (Sx.x_move hT rfl rfl) ?_
                  clear hT; intro a hT
                  replace hT := hT.keep [125, 115, 101, 92, 70, 49, 48, 10, 9, 8, 7, 33, 6, 5, 29, 22, 4, 3, 15, 0] rfl
                  refine Sx.ser_nil ?_
                  refine Sx.then_normal (hK82 _ _ ?_)
                  clear hK82
                  refine Sx.wp_if hT rfl (fun h => by cases h) (fun _ => ?_)
                  refine wp_skip ?_
                  refine Sx.then_normal (hK81 _ _ ?_)
                  clear hK81
                  refine wp_seq_k fun K83 hK83 => ?_
                  -- region 42 (law.go:170)
                  refine Sx.wp_text [(0, .take), (1, .run), (2, .take), (3, .take), (4, .take), (5, .take), (6, .take), (7, .take), (8, .take), (9, .run), (10, .run), (11, .take), (12, .take), (13, .take), (14, .take), (15, .take), (16, .take), (17, .take)] rfl ?_
                  refine Sx.st_take hT rfl rfl rfl rfl (Sx.x_move hT rfl rfl) ?_
                  clear hT; intro a hT
                  refine Sx.st_call hT rfl rfl rfl rfl rfl Try.can13 rfl (nLen_calls (hn_of H 3 rfl)) ?_
                  rintro _ w40 ⟨rfl, E⟩
                  refine ⟨_, rfl, ?_⟩
                  clear hT; intro a hT
                  replace H := H.pure E; clear E
                  refine Sx.st_take hT rfl rfl rfl rfl (Sx.x_move hT rfl rfl) ?_
                  clear hT; intro a hT
                  refine Sx.st_take hT rfl rfl rfl rfl (Sx.x_len_slice hT rfl rfl Try.underlying52 rfl) ?_
                  clear hT; intro a hT
                  refine Sx.st_take hT rfl rfl rfl rfl ((fun w => Sx.x_ne w hT rfl rfl rfl)) ?_
                  clear hT; intro a hT
                  refine Sx.st_take hT rfl rfl rfl rfl (Sx.x_move hT rfl rfl) ?_
                  clear hT; intro a hT
                  -- guard (42, 5)
                  refine Sx.Sl.two hT 146 rfl (fun hc84 hT => ?_) (fun hc84 hT => ?_)
                  · exfalso
                    try simp only [decide_eq_true_eq, decide_eq_false_iff_not, Bool.not_eq_true', Bool.not_eq_false', Bool.not_eq_true, Bool.not_eq_false, Bool.and_eq_true, Bool.or_eq_false_iff, beq_iff_eq, bne_iff_ne, Int.not_lt, Int.not_le, ne_eq] at hc84
                    first | (simp at hc84; done) | omega | (simp at hc84; omega) | (simp_all; done)
                  · try simp only [decide_eq_true_eq, decide_eq_false_iff_not, Bool.not_eq_true', Bool.not_eq_false', Bool.not_eq_true, Bool.not_eq_false, Bool.and_eq_true, Bool.or_eq_false_iff, beq_iff_eq, bne_iff_ne, Int.not_lt, Int.not_le, ne_eq] at hc84
                    refine Sx.st_take hT rfl rfl rfl rfl (Sx.x_move hT rfl rfl) ?_
                    clear hT; intro a hT
                    refine Sx.st_take hT rfl rfl rfl rfl (Sx.x_move hT rfl rfl) ?_
                    clear hT; intro a hT
                    refine Sx.st_take hT rfl rfl rfl rfl (Sx.x_move hT rfl rfl) ?_
                    clear hT; intro a hT
                    refine Sx.st_run hT rfl rfl rfl rfl (Sx.y_loadS hT rfl Try.underlying34 Try.ti34 rfl ((H.blk 0 rfl).seg (k := 3) rfl) (by rfl)) ?_
                    clear hT; intro a hT
                    refine Sx.st_call hT rfl rfl rfl rfl rfl Try.can23 rfl (place_calls _ _ (rs) (ts) _ (H.rowss 4 rfl rfl) ((H.at 5 rfl) H.ext) (by first | omega | (simp; omega)) m ad4 _ c4 (H.at 1 rfl) rfl) ?_
                    rintro _ w41 ⟨j2, rfl, hj2, E⟩
                    refine ⟨_, rfl, ?_⟩
                    clear hT; intro a hT
                    replace H := H.pure E; clear E
                    refine Sx.st_take hT rfl rfl rfl rfl ((fun w => Sx.x_lt w hT rfl rfl rfl)) ?_
                    clear hT; intro a hT
                    refine Sx.st_take hT rfl rfl rfl rfl (Sx.x_pick_t hT rfl rfl rfl) ?_
                    clear hT; intro a hT
                    refine Sx.st_take hT rfl rfl rfl rfl (Sx.x_move hT rfl rfl) ?_
                    clear hT; intro a hT
                    -- guard (42, 13)
                    refine Sx.Sl.two hT 154 rfl (fun hc85 hT => ?_) (fun hc85 hT => ?_)
                    · exfalso
                      try simp only [decide_eq_true_eq, decide_eq_false_iff_not, Bool.not_eq_true', Bool.not_eq_false', Bool.not_eq_true, Bool.not_eq_false, Bool.and_eq_true, Bool.or_eq_false_iff, beq_iff_eq, bne_iff_ne, Int.not_lt, Int.not_le, ne_eq] at hc85
                      (rcases hj2 with ⟨i9, rfl, h8⟩ | ⟨h7, h8⟩ <;> first | omega | exact h8 hmem)
                    · try simp only [decide_eq_true_eq, decide_eq_false_iff_not, Bool.not_eq_true', Bool.not_eq_false', Bool.not_eq_true, Bool.not_eq_false, Bool.and_eq_true, Bool.or_eq_false_iff, beq_iff_eq, bne_iff_ne, Int.not_lt, Int.not_le, ne_eq] at hc85
                      refine Sx.st_skip hT rfl rfl rfl rfl ?_
                      clear hT; intro a hT
                      refine Sx.st_skip hT rfl rfl rfl rfl ?_
                      clear hT; intro a hT
                      refine Sx.st_take hT rfl rfl rfl rfl (Sx.x_pick_f hT rfl rfl rfl) ?_
                      clear hT; intro a hT
                      refine Sx.st_take hT rfl rfl rfl rfl (Sx.x_pick_f hT rfl rfl rfl) ?_
                      clear hT; intro a hT
                      replace hT := hT.keep [158, 125, 115, 101, 92, 70, 49, 48, 10, 9, 8, 7, 33, 6, 5, 29, 22, 4, 3, 15, 0] rfl
                      refine Sx.ser_nil ?_
                      refine Sx.then_normal (hK83 _ _ ?_)
                      clear hK83
                      refine Sx.wp_if hT rfl (fun h => by cases h) (fun _ => ?_)
                      refine wp_skip ?_
                      refine Sx.block_normal ?_
                      refine Sx.then_normal (hK16 _ _ ?_)
                      clear hK16
                      -- region 11 (law.go:130)
                      refine Sx.wp_text [(0, .take), (1, .take), (2, .take)] rfl ?_
                      refine Sx.st_take hT rfl rfl rfl rfl (Sx.x_move hT rfl rfl) ?_
                      clear hT; intro a hT
                      refine Sx.st_take hT rfl rfl rfl rfl ((fun w => Sx.x_add w hT rfl rfl rfl (Sx.wrap64 (by omega)))) ?_
                      clear hT; intro a hT
                      refine Sx.st_take hT rfl rfl rfl rfl (Sx.x_assign hT rfl rfl) ?_
                      clear hT; intro a hT
                      replace hT := hT.keep [6, 158, 125, 115, 101, 92, 70, 49, 48, 10, 9, 8, 7, 33, 5, 29, 22, 4, 3, 15, 0] rfl
                      refine Sx.ser_nil ?_
                      refine Sx.then_normal ?_
                      try clear hj2
                      skip
                      exact ⟨(⟨k + 1, ms, _, rs, ts, _, _, _⟩ : SG), ⟨by show k + 1 ≤ _; omega, hperm, by show List.length _ ≤ k + 1; first | omega | (simp; omega), by show List.length _ = List.length _; first | omega | (simp; omega)⟩, (hT.keep [6, 5, 29, 22, 4, 3, 15, 0] rfl), (H.keep [3, 4, 5] rfl rfl), by show _ - (k + 1) < _ - k; omega⟩
      · skip
        -- region 13 (law.go:132)
        refine Sx.wp_text [(0, .take), (1, .take), (2, .run), (3, .run), (4, .take), (5, .take), (6, .take), (7, .run), (8, .run), (9, .take)] rfl ?_
        refine Sx.st_take hT rfl rfl rfl rfl (Sx.x_move hT rfl rfl) ?_
        clear hT; intro a hT
        refine Sx.st_take hT rfl rfl rfl rfl (Sx.x_fieldAddr hT rfl Try.fa32_1 rfl) ?_
        clear hT; intro a hT
        refine Sx.st_run hT rfl rfl rfl rfl (Sx.x_load1 hT rfl Try.fl3 rfl ((H.blk 0 rfl).nth rfl)) ?_
        clear hT; intro a hT
        refine Sx.st_call hT rfl rfl rfl rfl rfl Try.can11 rfl (nAt_no (hn_of H 1 rfl) _ hi) ?_
        rintro _ w42 ⟨rfl, E⟩
        refine ⟨_, rfl, ?_⟩
        clear hT; intro a hT
        replace H := H.pure E; clear E
        refine Sx.st_take hT rfl rfl rfl rfl (Sx.x_move hT rfl rfl) ?_
        clear hT; intro a hT
        refine Sx.st_take hT rfl rfl rfl rfl (Sx.x_extractL hT rfl rfl rfl) ?_
        clear hT; intro a hT
        refine Sx.st_take hT rfl rfl rfl rfl (Sx.x_extractL hT rfl rfl rfl) ?_
        clear hT; intro a hT
        refine Sx.st_eff hT rfl rfl rfl rfl (Sx.y_alloc hT rfl Try.ti34 rfl _) ?_
        clear hT; rintro _ w43 ⟨b8, rfl, N⟩ a hT
        replace H := H.new N; clear N
        refine Sx.st_act hT rfl rfl rfl (Sx.y_storeS hT rfl Try.ti34 rfl rfl rfl rfl rfl (H.blk 0 rfl) rfl) ?_
        rintro w44 ⟨hb, E, _⟩
        replace H := H.setB 0 rfl hb E rfl; clear hb E
        refine Sx.st_take hT rfl rfl rfl rfl (Sx.x_assign hT rfl rfl) ?_
        clear hT; intro a hT
        replace hT := hT.keep [9, 8, 7, 33, 6, 5, 29, 22, 4, 3, 15, 0] rfl
        refine Sx.ser_nil ?_
        refine Sx.then_normal (hK18 _ _ ?_)
        clear hK18
        refine wp_seq_k fun K86 hK86 => ?_
        -- region 14 (law.go:133)
        refine Sx.wp_text [(0, .take)] rfl ?_
        refine Sx.st_take hT rfl rfl rfl rfl (Sx.x_assign hT rfl rfl) ?_
        clear hT; intro a hT
        replace hT := hT.keep [10, 9, 8, 7, 33, 6, 5, 29, 22, 4, 3, 15, 0] rfl
        refine Sx.ser_nil ?_
        refine Sx.then_normal (hK86 _ _ ?_)
        clear hK86
        refine wp_seq_k fun K87 hK87 => ?_
        refine wp_seq_k fun K88 hK88 => ?_
        -- region 15 (law.go:134)
        refine Sx.wp_text [(0, .take), (1, .run)] rfl ?_
        refine Sx.st_take hT rfl rfl rfl rfl (Sx.x_fieldAddr hT rfl Try.fa32_0 rfl) ?_
        clear hT; intro a hT
        refine Sx.st_run hT rfl rfl rfl rfl (Sx.x_load1 hT rfl Try.fl3 rfl ((H.blk 1 rfl).nth rfl)) ?_
        clear hT; intro a hT
        replace hT := hT.keep [48, 10, 9, 8, 7, 33, 6, 5, 29, 22, 4, 3, 15, 0] rfl
        refine Sx.ser_nil ?_
        refine Sx.then_normal (hK88 _ _ ?_)
        clear hK88
        refine wp_block ?_
        refine wp_seq_k fun K89 hK89 => ?_
        -- region 16 (law.go:135)
        refine Sx.wp_text [(0, .take), (1, .take)] rfl ?_
        refine Sx.st_take hT rfl rfl rfl rfl ((fun w => Sx.x_eq w hT rfl rfl rfl)) ?_
        clear hT; intro a hT
        refine Sx.st_take hT rfl rfl rfl rfl (Sx.x_assign hT rfl rfl) ?_
        clear hT; intro a hT
        replace hT := hT.keep [49, 48, 10, 9, 8, 7, 33, 6, 5, 29, 22, 4, 3, 15, 0] rfl
        refine Sx.ser_nil ?_
        refine Sx.then_normal (hK89 _ _ ?_)
        clear hK89
        -- cond 4
        refine Sx.wp_if hT rfl (fun hc90 => ?_) (fun hc90 => ?_)
        · try simp only [decide_eq_true_eq, decide_eq_false_iff_not, Bool.not_eq_true', Bool.not_eq_false', Bool.not_eq_true, Bool.not_eq_false, Bool.and_eq_true, Bool.or_eq_false_iff, beq_iff_eq, bne_iff_ne, Int.not_lt, Int.not_le, ne_eq] at hc90
          refine wp_seq_k fun K91 hK91 => ?_
          refine wp_seq_k fun K92 hK92 => ?_
          -- region 17 (law.go:136)
          refine Sx.wp_text [(0, .take), (1, .take), (2, .run), (3, .take), (4, .run), (5, .take), (6, .run), (7, .run), (8, .take)] rfl ?_
          refine Sx.st_take hT rfl rfl rfl rfl (Sx.x_move hT rfl rfl) ?_
          clear hT; intro a hT
          refine Sx.st_take hT rfl rfl rfl rfl (Sx.x_fieldAddr hT rfl Try.fa32_1 rfl) ?_
          clear hT; intro a hT
          refine Sx.st_run hT rfl rfl rfl rfl (Sx.x_load1 hT rfl Try.fl3 rfl ((H.blk 1 rfl).nth rfl)) ?_
          clear hT; intro a hT
          refine Sx.st_take hT rfl rfl rfl rfl (Sx.x_fieldAddr hT rfl Try.fa32_2 rfl) ?_
          clear hT; intro a hT
          refine Sx.st_run hT rfl rfl rfl rfl (Sx.x_load1 hT rfl Try.fl3 rfl ((H.blk 1 rfl).nth rfl)) ?_
          clear hT; intro a hT
          refine Sx.st_take hT rfl rfl rfl rfl (Sx.x_fieldAddr hT rfl Try.fa32_3 rfl) ?_
          clear hT; intro a hT
          refine Sx.st_run hT rfl rfl rfl rfl (Sx.x_load1 hT rfl Try.fl30 rfl ((H.blk 1 rfl).nth rfl)) ?_
          clear hT; intro a hT
          refine Sx.st_call hT rfl rfl rfl rfl rfl Try.can10 rfl (hSend_ok (H.pre [2] rfl rfl) r.a r.b r.ad r.n r.c o.data (by omega) (hor.bs.ext_no H.ext) hor.n hor.nil (by omega)) ?_
          rintro _ w45 ⟨F2, rfl, K⟩
          refine ⟨_, rfl, ?_⟩
          clear hT; intro a hT
          replace H := H.back [2] [0, 1, 3, 4] rfl rfl rfl K rfl; clear K
          refine Sx.st_take hT rfl rfl rfl rfl ((fun w => Sx.x_ne w hT rfl rfl rfl)) ?_
          clear hT; intro a hT
          replace hT := hT.keep [59, 49, 48, 10, 9, 8, 7, 33, 6, 5, 29, 22, 4, 3, 15, 0] rfl
          refine Sx.ser_nil ?_
          refine Sx.then_normal (hK92 _ _ ?_)
          clear hK92
          -- cond 5
          refine Sx.wp_if hT rfl (fun hc93 => ?_) (fun hc93 => ?_)
          · exfalso
            try simp only [decide_eq_true_eq, decide_eq_false_iff_not, Bool.not_eq_true', Bool.not_eq_false', Bool.not_eq_true, Bool.not_eq_false, Bool.and_eq_true, Bool.or_eq_false_iff, beq_iff_eq, bne_iff_ne, Int.not_lt, Int.not_le, ne_eq] at hc93
            first | (simp at hc93; done) | omega | (simp at hc93; omega) | (simp_all; done)
          · try simp only [decide_eq_true_eq, decide_eq_false_iff_not, Bool.not_eq_true', Bool.not_eq_false', Bool.not_eq_true, Bool.not_eq_false, Bool.and_eq_true, Bool.or_eq_false_iff, beq_iff_eq, bne_iff_ne, Int.not_lt, Int.not_le, ne_eq] at hc93
            refine wp_skip ?_
            refine Sx.then_normal (hK91 _ _ ?_)
            clear hK91
            -- region 19 (law.go:139)
            refine Sx.wp_text [(0, .take), (1, .take), (2, .run), (3, .take), (4, .run), (5, .take), (6, .run), (7, .take), (8, .run), (9, .run), (10, .take)] rfl ?_
            refine Sx.st_take hT rfl rfl rfl rfl (Sx.x_move hT rfl rfl) ?_
            clear hT; intro a hT
            refine Sx.st_take hT rfl rfl rfl rfl (Sx.x_fieldAddr hT rfl Try.fa32_1 rfl) ?_
            clear hT; intro a hT
            refine Sx.st_run hT rfl rfl rfl rfl (Sx.x_load1 hT rfl Try.fl3 rfl ((H.blk 2 rfl).nth rfl)) ?_
            clear hT; intro a hT
            refine Sx.st_take hT rfl rfl rfl rfl (Sx.x_fieldAddr hT rfl Try.fa32_2 rfl) ?_
            clear hT; intro a hT
            refine Sx.st_run hT rfl rfl rfl rfl (Sx.x_load1 hT rfl Try.fl3 rfl ((H.blk 2 rfl).nth rfl)) ?_
            clear hT; intro a hT
            refine Sx.st_take hT rfl rfl rfl rfl (Sx.x_fieldAddr hT rfl Try.fa32_3 rfl) ?_
            clear hT; intro a hT
            refine Sx.st_run hT rfl rfl rfl rfl (Sx.x_load1 hT rfl Try.fl30 rfl ((H.blk 2 rfl).nth rfl)) ?_
            clear hT; intro a hT
            refine Sx.st_take hT rfl rfl rfl rfl (Sx.x_bld hT rfl Try.bld34 rfl rfl) ?_
            clear hT; intro a hT
            refine Sx.st_eff hT rfl rfl rfl rfl (Sx.y_slice1 hT rfl Try.underlying52 Try.ti34 rfl rfl rfl rfl rfl rfl _) ?_
            clear hT; rintro _ w46 ⟨b9, rfl, N⟩ a hT
            replace H := H.new N; clear N
            refine Sx.st_eff hT rfl rfl rfl rfl (Sx.x_append hT rfl rfl Try.underlying52 Try.ti34 rfl (by decide) rfl rfl (H.row 4 rfl) ((H.blk 0 rfl).sv1 rfl) (by simp [Value.oneCell']) (fun h => by cases h) (by unfold maxLen; omega) (by omega)) ?_
            rintro _ w47 ⟨ad47, c47, rfl, hr, E, hown, -⟩
            clear hT; intro a hT
            replace H := H.setR 4 rfl hr E hown rfl; clear hr E hown
            have hxs : rs.flatMap RM.cells ++ RM.cells (⟨r.a, r.b, r.ad, r.n, r.c⟩ : RM) = (rs ++ [(⟨r.a, r.b, r.ad, r.n, r.c⟩ : RM)]).flatMap RM.cells := by simp
            have hnl : rs.length + 1 = (rs ++ [((⟨r.a, r.b, r.ad, r.n, r.c⟩ : RM) : RM)]).length := by simp
            simp only [RM.cells] at hxs
            rw [hxs, hnl] at H
            rw [hnl] at hT
            replace H := H.turn 5 rfl (fun w9 hp x => (hp x).append (All2.single (R := RM.is w9) (a := (⟨r.a, r.b, r.ad, r.n, r.c⟩ : RM)) (b := (⟨r.a, r.b, o.data⟩ : Mail)) ⟨rfl, rfl, hor.n, hor.bs.ext_no x, hor.nil, by show r.n ≤ _; omega⟩)) rfl
            refine Sx.st_take hT rfl rfl rfl rfl (Sx.x_assign hT rfl rfl) ?_
            clear hT; intro a hT
            replace hT := hT.keep [5, 59, 49, 48, 10, 9, 8, 7, 33, 6, 29, 22, 4, 3, 15, 0] rfl
            refine Sx.ser_nil ?_
            refine Sx.block_normal ?_
            refine Sx.then_normal (hK87 _ _ ?_)
            clear hK87
            refine wp_seq_k fun K94 hK94 => ?_
            refine wp_seq_k fun K95 hK95 => ?_
            -- region 37 (law.go:163)
            refine Sx.wp_text [(0, .take)] rfl ?_
            refine Sx.st_take hT rfl rfl rfl rfl (Sx.x_move hT rfl rfl) ?_
            clear hT; intro a hT
            replace hT := hT.keep [125, 5, 59, 49, 48, 10, 9, 8, 7, 33, 6, 29, 22, 4, 3, 15, 0] rfl
            refine Sx.ser_nil ?_
            refine Sx.then_normal (hK95 _ _ ?_)
            clear hK95
            refine Sx.wp_if hT rfl (fun h => by cases h) (fun _ => ?_)
            refine wp_skip ?_
            refine Sx.then_normal (hK94 _ _ ?_)
            clear hK94
            refine wp_seq_k fun K96 hK96 => ?_
            -- region 42 (law.go:170)
            refine Sx.wp_text [(0, .take), (1, .run), (2, .take), (3, .take), (4, .take), (5, .take), (6, .take), (7, .take), (8, .take), (9, .run), (10, .run), (11, .take), (12, .take), (13, .take), (14, .take), (15, .take), (16, .take), (17, .take)] rfl ?_
            refine Sx.st_take hT rfl rfl rfl rfl (Sx.x_move hT rfl rfl) ?_
            clear hT; intro a hT
            refine Sx.st_call hT rfl rfl rfl rfl rfl Try.can13 rfl (nLen_calls (hn_of H 1 rfl)) ?_
            rintro _ w48 ⟨rfl, E⟩
            refine ⟨_, rfl, ?_⟩
            clear hT; intro a hT
            replace H := H.pure E; clear E
            refine Sx.st_take hT rfl rfl rfl rfl (Sx.x_move hT rfl rfl) ?_
            clear hT; intro a hT
            refine Sx.st_take hT rfl rfl rfl rfl (Sx.x_len_slice hT rfl rfl Try.underlying52 rfl) ?_
            clear hT; intro a hT
            refine Sx.st_take hT rfl rfl rfl rfl ((fun w => Sx.x_ne w hT rfl rfl rfl)) ?_
            clear hT; intro a hT
            refine Sx.st_take hT rfl rfl rfl rfl (Sx.x_move hT rfl rfl) ?_
            clear hT; intro a hT
            -- guard (42, 5)
            refine Sx.Sl.two hT 146 rfl (fun hc97 hT => ?_) (fun hc97 hT => ?_)
            · exfalso
              try simp only [decide_eq_true_eq, decide_eq_false_iff_not, Bool.not_eq_true', Bool.not_eq_false', Bool.not_eq_true, Bool.not_eq_false, Bool.and_eq_true, Bool.or_eq_false_iff, beq_iff_eq, bne_iff_ne, Int.not_lt, Int.not_le, ne_eq] at hc97
              first | (simp at hc97; done) | omega | (simp at hc97; omega) | (simp_all; done)
            · try simp only [decide_eq_true_eq, decide_eq_false_iff_not, Bool.not_eq_true', Bool.not_eq_false', Bool.not_eq_true, Bool.not_eq_false, Bool.and_eq_true, Bool.or_eq_false_iff, beq_iff_eq, bne_iff_ne, Int.not_lt, Int.not_le, ne_eq] at hc97
              refine Sx.st_take hT rfl rfl rfl rfl (Sx.x_move hT rfl rfl) ?_
              clear hT; intro a hT
              refine Sx.st_take hT rfl rfl rfl rfl (Sx.x_move hT rfl rfl) ?_
              clear hT; intro a hT
              refine Sx.st_skip hT rfl rfl rfl rfl ?_
              clear hT; intro a hT
              refine Sx.st_runskip hT rfl rfl rfl rfl ?_
              clear hT; intro a hT
              refine Sx.st_runskip hT rfl rfl rfl rfl ?_
              clear hT; intro a hT
              refine Sx.st_skip hT rfl rfl rfl rfl ?_
              clear hT; intro a hT
              refine Sx.st_take hT rfl rfl rfl rfl (Sx.x_pick_f hT rfl rfl rfl) ?_
              clear hT; intro a hT
              refine Sx.st_take hT rfl rfl rfl rfl (Sx.x_move hT rfl rfl) ?_
              clear hT; intro a hT
              refine Sx.st_skip hT rfl rfl rfl rfl ?_
              clear hT; intro a hT
              refine Sx.st_skip hT rfl rfl rfl rfl ?_
              clear hT; intro a hT
              refine Sx.st_take hT rfl rfl rfl rfl (Sx.x_pick_f hT rfl rfl rfl) ?_
              clear hT; intro a hT
              refine Sx.st_take hT rfl rfl rfl rfl (Sx.x_pick_f hT rfl rfl rfl) ?_
              clear hT; intro a hT
              replace hT := hT.keep [158, 125, 5, 59, 49, 48, 10, 9, 8, 7, 33, 6, 29, 22, 4, 3, 15, 0] rfl
              refine Sx.ser_nil ?_
              refine Sx.then_normal (hK96 _ _ ?_)
              clear hK96
              refine Sx.wp_if hT rfl (fun h => by cases h) (fun _ => ?_)
              refine wp_skip ?_
              refine Sx.block_normal ?_
              refine Sx.then_normal (hK16 _ _ ?_)
              clear hK16
              -- region 11 (law.go:130)
              refine Sx.wp_text [(0, .take), (1, .take), (2, .take)] rfl ?_
              refine Sx.st_take hT rfl rfl rfl rfl (Sx.x_move hT rfl rfl) ?_
              clear hT; intro a hT
              refine Sx.st_take hT rfl rfl rfl rfl ((fun w => Sx.x_add w hT rfl rfl rfl (Sx.wrap64 (by omega)))) ?_
              clear hT; intro a hT
              refine Sx.st_take hT rfl rfl rfl rfl (Sx.x_assign hT rfl rfl) ?_
              clear hT; intro a hT
              replace hT := hT.keep [6, 158, 125, 5, 59, 49, 48, 10, 9, 8, 7, 33, 29, 22, 4, 3, 15, 0] rfl
              refine Sx.ser_nil ?_
              refine Sx.then_normal ?_
              try clear hj2
              skip
              exact ⟨(⟨k + 1, ms ++ [⟨r.a, r.b, o.data⟩], _, rs ++ [(⟨r.a, r.b, r.ad, r.n, r.c⟩ : RM)], ts ++ [⟨r.a, r.b, o.data⟩], _, _, _⟩ : SG), ⟨by show k + 1 ≤ _; omega, hperm.append_right _, by show List.length _ ≤ k + 1; first | omega | (simp; omega), by show List.length _ = List.length _; first | omega | (simp; omega)⟩, (hT.keep [6, 5, 29, 22, 4, 3, 15, 0] rfl), (H.keep [1, 4, 5] rfl rfl), by show _ - (k + 1) < _ - k; omega⟩
        · try simp only [decide_eq_true_eq, decide_eq_false_iff_not, Bool.not_eq_true', Bool.not_eq_false', Bool.not_eq_true, Bool.not_eq_false, Bool.and_eq_true, Bool.or_eq_false_iff, beq_iff_eq, bne_iff_ne, Int.not_lt, Int.not_le, ne_eq] at hc90
          refine wp_seq_k fun K98 hK98 => ?_
          -- region 20 (law.go:140)
          refine Sx.wp_text [(0, .take), (1, .take)] rfl ?_
          refine Sx.st_take hT rfl rfl rfl rfl ((fun w => Sx.x_eq w hT rfl rfl rfl)) ?_
          clear hT; intro a hT
          refine Sx.st_take hT rfl rfl rfl rfl (Sx.x_assign hT rfl rfl) ?_
          clear hT; intro a hT
          replace hT := hT.keep [70, 49, 48, 10, 9, 8, 7, 33, 6, 5, 29, 22, 4, 3, 15, 0] rfl
          refine Sx.ser_nil ?_
          refine Sx.then_normal (hK98 _ _ ?_)
          clear hK98
          -- cond 6
          refine Sx.wp_if hT rfl (fun hc99 => ?_) (fun hc99 => ?_)
          · try simp only [decide_eq_true_eq, decide_eq_false_iff_not, Bool.not_eq_true', Bool.not_eq_false', Bool.not_eq_true, Bool.not_eq_false, Bool.and_eq_true, Bool.or_eq_false_iff, beq_iff_eq, bne_iff_ne, Int.not_lt, Int.not_le, ne_eq] at hc99
            refine wp_seq_k fun K100 hK100 => ?_
            -- region 21 (law.go:141)
            refine Sx.wp_text [(0, .take), (1, .take), (2, .run), (3, .run), (4, .take), (5, .take), (6, .take), (7, .run), (8, .run), (9, .take)] rfl ?_
            refine Sx.st_take hT rfl rfl rfl rfl (Sx.x_move hT rfl rfl) ?_
            clear hT; intro a hT
            refine Sx.st_take hT rfl rfl rfl rfl (Sx.x_fieldAddr hT rfl Try.fa32_1 rfl) ?_
            clear hT; intro a hT
            refine Sx.st_run hT rfl rfl rfl rfl (Sx.x_load1 hT rfl Try.fl3 rfl ((H.blk 1 rfl).nth rfl)) ?_
            clear hT; intro a hT
            refine Sx.st_call hT rfl rfl rfl rfl rfl Try.can16 rfl (nTake_no (hn_of H 2 rfl) _ hi) ?_
            rintro _ w49 ⟨rfl, E⟩
            refine ⟨_, rfl, ?_⟩
            clear hT; intro a hT
            replace H := H.pure E; clear E
            refine Sx.st_take hT rfl rfl rfl rfl (Sx.x_move hT rfl rfl) ?_
            clear hT; intro a hT
            refine Sx.st_take hT rfl rfl rfl rfl (Sx.x_extractL hT rfl rfl rfl) ?_
            clear hT; intro a hT
            refine Sx.st_take hT rfl rfl rfl rfl (Sx.x_extractL hT rfl rfl rfl) ?_
            clear hT; intro a hT
            refine Sx.st_eff hT rfl rfl rfl rfl (Sx.y_alloc hT rfl Try.ti34 rfl _) ?_
            clear hT; rintro _ w50 ⟨b10, rfl, N⟩ a hT
            replace H := H.new N; clear N
            refine Sx.st_act hT rfl rfl rfl (Sx.y_storeS hT rfl Try.ti34 rfl rfl rfl rfl rfl (H.blk 0 rfl) rfl) ?_
            rintro w51 ⟨hb, E, _⟩
            replace H := H.setB 0 rfl hb E rfl; clear hb E
            refine Sx.st_take hT rfl rfl rfl rfl (Sx.x_assign hT rfl rfl) ?_
            clear hT; intro a hT
            replace hT := hT.keep [12, 11, 70, 49, 48, 10, 9, 8, 7, 33, 6, 5, 29, 22, 4, 3, 15, 0] rfl
            refine Sx.ser_nil ?_
            refine Sx.then_normal (hK100 _ _ ?_)
            clear hK100
            refine wp_seq_k fun K101 hK101 => ?_
            refine wp_seq_k fun K102 hK102 => ?_
            -- region 22 (law.go:142)
            refine Sx.wp_text [(0, .take), (1, .take), (2, .take), (3, .take), (4, .take), (5, .take), (6, .run), (7, .run), (8, .run), (9, .take), (10, .take), (11, .take)] rfl ?_
            refine Sx.st_take hT rfl rfl rfl rfl (Sx.x_move hT rfl rfl) ?_
            clear hT; intro a hT
            refine Sx.st_take hT rfl rfl rfl rfl (Sx.x_move hT rfl rfl) ?_
            clear hT; intro a hT
            refine Sx.st_take hT rfl rfl rfl rfl (Sx.x_neb hT rfl Try.underlying4 rfl rfl) ?_
            clear hT; intro a hT
            refine Sx.st_take hT rfl rfl rfl rfl (Sx.x_move hT rfl rfl) ?_
            clear hT; intro a hT
            -- guard (22, 3)
            refine Sx.Sl.two hT 82 rfl (fun hc103 hT => ?_) (fun hc103 hT => ?_)
            · exfalso
              try simp only [decide_eq_true_eq, decide_eq_false_iff_not, Bool.not_eq_true', Bool.not_eq_false', Bool.not_eq_true, Bool.not_eq_false, Bool.and_eq_true, Bool.or_eq_false_iff, beq_iff_eq, bne_iff_ne, Int.not_lt, Int.not_le, ne_eq] at hc103
              first | (simp at hc103; done) | omega | (simp at hc103; omega) | (simp_all; done)
            · try simp only [decide_eq_true_eq, decide_eq_false_iff_not, Bool.not_eq_true', Bool.not_eq_false', Bool.not_eq_true, Bool.not_eq_false, Bool.and_eq_true, Bool.or_eq_false_iff, beq_iff_eq, bne_iff_ne, Int.not_lt, Int.not_le, ne_eq] at hc103
              refine Sx.st_take hT rfl rfl rfl rfl (Sx.x_move hT rfl rfl) ?_
              clear hT; intro a hT
              refine Sx.st_take hT rfl rfl rfl rfl (Sx.x_move hT rfl rfl) ?_
              clear hT; intro a hT
              refine Sx.st_runskip hT rfl rfl rfl rfl ?_
              clear hT; intro a hT
              refine Sx.st_runskip hT rfl rfl rfl rfl ?_
              clear hT; intro a hT
              refine Sx.st_runskip hT rfl rfl rfl rfl ?_
              clear hT; intro a hT
              refine Sx.st_skip hT rfl rfl rfl rfl ?_
              clear hT; intro a hT
              refine Sx.st_take hT rfl rfl rfl rfl (Sx.x_pick_f hT rfl rfl rfl) ?_
              clear hT; intro a hT
              refine Sx.st_take hT rfl rfl rfl rfl (Sx.x_pick_f hT rfl rfl rfl) ?_
              clear hT; intro a hT
              replace hT := hT.keep [90, 12, 11, 70, 49, 48, 10, 9, 8, 7, 33, 6, 5, 29, 22, 4, 3, 15, 0] rfl
              refine Sx.ser_nil ?_
              refine Sx.then_normal (hK102 _ _ ?_)
              clear hK102
              refine Sx.wp_if hT rfl (fun h => by cases h) (fun _ => ?_)
              refine wp_skip ?_
              refine Sx.then_normal (hK101 _ _ ?_)
              clear hK101
              -- region 24 (law.go:145)
              refine Sx.wp_text [(0, .take), (1, .take)] rfl ?_
              refine Sx.st_take hT rfl rfl rfl rfl (Sx.x_move hT rfl rfl) ?_
              clear hT; intro a hT
              refine Sx.st_take hT rfl rfl rfl rfl (Sx.x_assign hT rfl rfl) ?_
              clear hT; intro a hT
              replace hT := hT.keep [10, 90, 12, 11, 70, 49, 48, 9, 8, 7, 33, 6, 5, 29, 22, 4, 3, 15, 0] rfl
              refine Sx.ser_nil ?_
              refine Sx.block_normal ?_
              refine Sx.then_normal (hK87 _ _ ?_)
              clear hK87
              refine wp_seq_k fun K104 hK104 => ?_
              refine wp_seq_k fun K105 hK105 => ?_
              -- region 37 (law.go:163)
              refine Sx.wp_text [(0, .take)] rfl ?_
              refine Sx.st_take hT rfl rfl rfl rfl (Sx.x_move hT rfl rfl) ?_
              clear hT; intro a hT
              replace hT := hT.keep [125, 10, 90, 12, 11, 70, 49, 48, 9, 8, 7, 33, 6, 5, 29, 22, 4, 3, 15, 0] rfl
              refine Sx.ser_nil ?_
              refine Sx.then_normal (hK105 _ _ ?_)
              clear hK105
              refine Sx.wp_if hT rfl (fun h => by cases h) (fun _ => ?_)
              refine wp_skip ?_
              refine Sx.then_normal (hK104 _ _ ?_)
              clear hK104
              refine wp_seq_k fun K106 hK106 => ?_
              -- region 42 (law.go:170)
              refine Sx.wp_text [(0, .take), (1, .run), (2, .take), (3, .take), (4, .take), (5, .take), (6, .take), (7, .take), (8, .take), (9, .run), (10, .run), (11, .take), (12, .take), (13, .take), (14, .take), (15, .take), (16, .take), (17, .take)] rfl ?_
              refine Sx.st_take hT rfl rfl rfl rfl (Sx.x_move hT rfl rfl) ?_
              clear hT; intro a hT
              refine Sx.st_call hT rfl rfl rfl rfl rfl Try.can13 rfl (nLen_calls (hn_of H 3 rfl)) ?_
              rintro _ w52 ⟨rfl, E⟩
              refine ⟨_, rfl, ?_⟩
              clear hT; intro a hT
              replace H := H.pure E; clear E
              refine Sx.st_take hT rfl rfl rfl rfl (Sx.x_move hT rfl rfl) ?_
              clear hT; intro a hT
              refine Sx.st_take hT rfl rfl rfl rfl (Sx.x_len_slice hT rfl rfl Try.underlying52 rfl) ?_
              clear hT; intro a hT
              refine Sx.st_take hT rfl rfl rfl rfl ((fun w => Sx.x_ne w hT rfl rfl rfl)) ?_
              clear hT; intro a hT
              refine Sx.st_take hT rfl rfl rfl rfl (Sx.x_move hT rfl rfl) ?_
              clear hT; intro a hT
              -- guard (42, 5)
              refine Sx.Sl.two hT 146 rfl (fun hc107 hT => ?_) (fun hc107 hT => ?_)
              · exfalso
                try simp only [decide_eq_true_eq, decide_eq_false_iff_not, Bool.not_eq_true', Bool.not_eq_false', Bool.not_eq_true, Bool.not_eq_false, Bool.and_eq_true, Bool.or_eq_false_iff, beq_iff_eq, bne_iff_ne, Int.not_lt, Int.not_le, ne_eq] at hc107
                first | (simp at hc107; done) | omega | (simp at hc107; omega) | (simp_all; done)
              · try simp only [decide_eq_true_eq, decide_eq_false_iff_not, Bool.not_eq_true', Bool.not_eq_false', Bool.not_eq_true, Bool.not_eq_false, Bool.and_eq_true, Bool.or_eq_false_iff, beq_iff_eq, bne_iff_ne, Int.not_lt, Int.not_le, ne_eq] at hc107
                refine Sx.st_take hT rfl rfl rfl rfl (Sx.x_move hT rfl rfl) ?_
                clear hT; intro a hT
                refine Sx.st_take hT rfl rfl rfl rfl (Sx.x_move hT rfl rfl) ?_
                clear hT; intro a hT
                refine Sx.st_skip hT rfl rfl rfl rfl ?_
                clear hT; intro a hT
                refine Sx.st_runskip hT rfl rfl rfl rfl ?_
                clear hT; intro a hT
                refine Sx.st_runskip hT rfl rfl rfl rfl ?_
                clear hT; intro a hT
                refine Sx.st_skip hT rfl rfl rfl rfl ?_
                clear hT; intro a hT
                refine Sx.st_take hT rfl rfl rfl rfl (Sx.x_pick_f hT rfl rfl rfl) ?_
                clear hT; intro a hT
                refine Sx.st_take hT rfl rfl rfl rfl (Sx.x_move hT rfl rfl) ?_
                clear hT; intro a hT
                refine Sx.st_skip hT rfl rfl rfl rfl ?_
                clear hT; intro a hT
                refine Sx.st_skip hT rfl rfl rfl rfl ?_
                clear hT; intro a hT
                refine Sx.st_take hT rfl rfl rfl rfl (Sx.x_pick_f hT rfl rfl rfl) ?_
                clear hT; intro a hT
                refine Sx.st_take hT rfl rfl rfl rfl (Sx.x_pick_f hT rfl rfl rfl) ?_
                clear hT; intro a hT
                replace hT := hT.keep [158, 125, 10, 90, 12, 11, 70, 49, 48, 9, 8, 7, 33, 6, 5, 29, 22, 4, 3, 15, 0] rfl
                refine Sx.ser_nil ?_
                refine Sx.then_normal (hK106 _ _ ?_)
                clear hK106
                refine Sx.wp_if hT rfl (fun h => by cases h) (fun _ => ?_)
                refine wp_skip ?_
                refine Sx.block_normal ?_
                refine Sx.then_normal (hK16 _ _ ?_)
                clear hK16
                -- region 11 (law.go:130)
                refine Sx.wp_text [(0, .take), (1, .take), (2, .take)] rfl ?_
                refine Sx.st_take hT rfl rfl rfl rfl (Sx.x_move hT rfl rfl) ?_
                clear hT; intro a hT
                refine Sx.st_take hT rfl rfl rfl rfl ((fun w => Sx.x_add w hT rfl rfl rfl (Sx.wrap64 (by omega)))) ?_
                clear hT; intro a hT
                refine Sx.st_take hT rfl rfl rfl rfl (Sx.x_assign hT rfl rfl) ?_
                clear hT; intro a hT
                replace hT := hT.keep [6, 158, 125, 10, 90, 12, 11, 70, 49, 48, 9, 8, 7, 33, 5, 29, 22, 4, 3, 15, 0] rfl
                refine Sx.ser_nil ?_
                refine Sx.then_normal ?_
                try clear hj2
                skip
                exact ⟨(⟨k + 1, ms, _, rs, ts, _, _, _⟩ : SG), ⟨by show k + 1 ≤ _; omega, hperm, by show List.length _ ≤ k + 1; first | omega | (simp; omega), by show List.length _ = List.length _; first | omega | (simp; omega)⟩, (hT.keep [6, 5, 29, 22, 4, 3, 15, 0] rfl), (H.keep [3, 4, 5] rfl rfl), by show _ - (k + 1) < _ - k; omega⟩
          · try simp only [decide_eq_true_eq, decide_eq_false_iff_not, Bool.not_eq_true', Bool.not_eq_false', Bool.not_eq_true, Bool.not_eq_false, Bool.and_eq_true, Bool.or_eq_false_iff, beq_iff_eq, bne_iff_ne, Int.not_lt, Int.not_le, ne_eq] at hc99
            refine wp_seq_k fun K108 hK108 => ?_
            -- region 25 (law.go:146)
            refine Sx.wp_text [(0, .take), (1, .take)] rfl ?_
            refine Sx.st_take hT rfl rfl rfl rfl ((fun w => Sx.x_eq w hT rfl rfl rfl)) ?_
            clear hT; intro a hT
            refine Sx.st_take hT rfl rfl rfl rfl (Sx.x_assign hT rfl rfl) ?_
            clear hT; intro a hT
            replace hT := hT.keep [92, 70, 49, 48, 10, 9, 8, 7, 33, 6, 5, 29, 22, 4, 3, 15, 0] rfl
            refine Sx.ser_nil ?_
            refine Sx.then_normal (hK108 _ _ ?_)
            clear hK108
            -- cond 8
            refine Sx.wp_if hT rfl (fun hc109 => ?_) (fun hc109 => ?_)
            · try simp only [decide_eq_true_eq, decide_eq_false_iff_not, Bool.not_eq_true', Bool.not_eq_false', Bool.not_eq_true, Bool.not_eq_false, Bool.and_eq_true, Bool.or_eq_false_iff, beq_iff_eq, bne_iff_ne, Int.not_lt, Int.not_le, ne_eq] at hc109
              refine wp_seq_k fun K110 hK110 => ?_
              refine wp_seq_k fun K111 hK111 => ?_
              -- region 26 (law.go:147)
              refine Sx.wp_text [(0, .take), (1, .take), (2, .run), (3, .run), (4, .take), (5, .take)] rfl ?_
              refine Sx.st_take hT rfl rfl rfl rfl (Sx.x_move hT rfl rfl) ?_
              clear hT; intro a hT
              refine Sx.st_take hT rfl rfl rfl rfl (Sx.x_fieldAddr hT rfl Try.fa32_1 rfl) ?_
              clear hT; intro a hT
              refine Sx.st_run hT rfl rfl rfl rfl (Sx.x_load1 hT rfl Try.fl3 rfl ((H.blk 1 rfl).nth rfl)) ?_
              clear hT; intro a hT
              refine Sx.st_call hT rfl rfl rfl rfl rfl Try.can21 rfl (nDrop_no (hn_of H 2 rfl) _ hi) ?_
              rintro _ w53 ⟨rfl, E⟩
              refine ⟨_, rfl, ?_⟩
              clear hT; intro a hT
              replace H := H.pure E; clear E
              refine Sx.st_take hT rfl rfl rfl rfl (Sx.x_move hT rfl rfl) ?_
              clear hT; intro a hT
              refine Sx.st_take hT rfl rfl rfl rfl (Sx.x_neb hT rfl Try.underlying4 rfl rfl) ?_
              clear hT; intro a hT
              replace hT := hT.keep [99, 92, 70, 49, 48, 10, 9, 8, 7, 33, 6, 5, 29, 22, 4, 3, 15, 0] rfl
              refine Sx.ser_nil ?_
              refine Sx.then_normal (hK111 _ _ ?_)
              clear hK111
              -- cond 9
              refine Sx.wp_if hT rfl (fun hc112 => ?_) (fun hc112 => ?_)
              · exfalso
                try simp only [decide_eq_true_eq, decide_eq_false_iff_not, Bool.not_eq_true', Bool.not_eq_false', Bool.not_eq_true, Bool.not_eq_false, Bool.and_eq_true, Bool.or_eq_false_iff, beq_iff_eq, bne_iff_ne, Int.not_lt, Int.not_le, ne_eq] at hc112
                first | (simp at hc112; done) | omega | (simp at hc112; omega) | (simp_all; done)
              · try simp only [decide_eq_true_eq, decide_eq_false_iff_not, Bool.not_eq_true', Bool.not_eq_false', Bool.not_eq_true, Bool.not_eq_false, Bool.and_eq_true, Bool.or_eq_false_iff, beq_iff_eq, bne_iff_ne, Int.not_lt, Int.not_le, ne_eq] at hc112
                refine wp_skip ?_
                refine Sx.then_normal (hK110 _ _ ?_)
                clear hK110
                -- region 28 (law.go:150)
                refine Sx.wp_text [(0, .take), (1, .take)] rfl ?_
                refine Sx.st_take hT rfl rfl rfl rfl (Sx.x_move hT rfl rfl) ?_
                clear hT; intro a hT
                refine Sx.st_take hT rfl rfl rfl rfl (Sx.x_assign hT rfl rfl) ?_
                clear hT; intro a hT
                replace hT := hT.keep [10, 99, 92, 70, 49, 48, 9, 8, 7, 33, 6, 5, 29, 22, 4, 3, 15, 0] rfl
                refine Sx.ser_nil ?_
                refine Sx.block_normal ?_
                refine Sx.then_normal (hK87 _ _ ?_)
                clear hK87
                refine wp_seq_k fun K113 hK113 => ?_
                refine wp_seq_k fun K114 hK114 => ?_
                -- region 37 (law.go:163)
                refine Sx.wp_text [(0, .take)] rfl ?_
                refine Sx.st_take hT rfl rfl rfl rfl (Sx.x_move hT rfl rfl) ?_
                clear hT; intro a hT
                replace hT := hT.keep [125, 10, 99, 92, 70, 49, 48, 9, 8, 7, 33, 6, 5, 29, 22, 4, 3, 15, 0] rfl
                refine Sx.ser_nil ?_
                refine Sx.then_normal (hK114 _ _ ?_)
                clear hK114
                refine Sx.wp_if hT rfl (fun h => by cases h) (fun _ => ?_)
                refine wp_skip ?_
                refine Sx.then_normal (hK113 _ _ ?_)
                clear hK113
                refine wp_seq_k fun K115 hK115 => ?_
                -- region 42 (law.go:170)
                refine Sx.wp_text [(0, .take), (1, .run), (2, .take), (3, .take), (4, .take), (5, .take), (6, .take), (7, .take), (8, .take), (9, .run), (10, .run), (11, .take), (12, .take), (13, .take), (14, .take), (15, .take), (16, .take), (17, .take)] rfl ?_
                refine Sx.st_take hT rfl rfl rfl rfl (Sx.x_move hT rfl rfl) ?_
                clear hT; intro a hT
                refine Sx.st_call hT rfl rfl rfl rfl rfl Try.can13 rfl (nLen_calls (hn_of H 2 rfl)) ?_
                rintro _ w54 ⟨rfl, E⟩
                refine ⟨_, rfl, ?_⟩
                clear hT; intro a hT
                replace H := H.pure E; clear E
                refine Sx.st_take hT rfl rfl rfl rfl (Sx.x_move hT rfl rfl) ?_
                clear hT; intro a hT
                refine Sx.st_take hT rfl rfl rfl rfl (Sx.x_len_slice hT rfl rfl Try.underlying52 rfl) ?_
                clear hT; intro a hT
                refine Sx.st_take hT rfl rfl rfl rfl ((fun w => Sx.x_ne w hT rfl rfl rfl)) ?_
                clear hT; intro a hT
                refine Sx.st_take hT rfl rfl rfl rfl (Sx.x_move hT rfl rfl) ?_
                clear hT; intro a hT
                -- guard (42, 5)
                refine Sx.Sl.two hT 146 rfl (fun hc116 hT => ?_) (fun hc116 hT => ?_)
                · exfalso
                  try simp only [decide_eq_true_eq, decide_eq_false_iff_not, Bool.not_eq_true', Bool.not_eq_false', Bool.not_eq_true, Bool.not_eq_false, Bool.and_eq_true, Bool.or_eq_false_iff, beq_iff_eq, bne_iff_ne, Int.not_lt, Int.not_le, ne_eq] at hc116
                  first | (simp at hc116; done) | omega | (simp at hc116; omega) | (simp_all; done)
                · try simp only [decide_eq_true_eq, decide_eq_false_iff_not, Bool.not_eq_true', Bool.not_eq_false', Bool.not_eq_true, Bool.not_eq_false, Bool.and_eq_true, Bool.or_eq_false_iff, beq_iff_eq, bne_iff_ne, Int.not_lt, Int.not_le, ne_eq] at hc116
                  refine Sx.st_take hT rfl rfl rfl rfl (Sx.x_move hT rfl rfl) ?_
                  clear hT; intro a hT
                  refine Sx.st_take hT rfl rfl rfl rfl (Sx.x_move hT rfl rfl) ?_
                  clear hT; intro a hT
                  refine Sx.st_skip hT rfl rfl rfl rfl ?_
                  clear hT; intro a hT
                  refine Sx.st_runskip hT rfl rfl rfl rfl ?_
                  clear hT; intro a hT
                  refine Sx.st_runskip hT rfl rfl rfl rfl ?_
                  clear hT; intro a hT
                  refine Sx.st_skip hT rfl rfl rfl rfl ?_
                  clear hT; intro a hT
                  refine Sx.st_take hT rfl rfl rfl rfl (Sx.x_pick_f hT rfl rfl rfl) ?_
                  clear hT; intro a hT
                  refine Sx.st_take hT rfl rfl rfl rfl (Sx.x_move hT rfl rfl) ?_
                  clear hT; intro a hT
                  refine Sx.st_skip hT rfl rfl rfl rfl ?_
                  clear hT; intro a hT
                  refine Sx.st_skip hT rfl rfl rfl rfl ?_
                  clear hT; intro a hT
                  refine Sx.st_take hT rfl rfl rfl rfl (Sx.x_pick_f hT rfl rfl rfl) ?_
                  clear hT; intro a hT
                  refine Sx.st_take hT rfl rfl rfl rfl (Sx.x_pick_f hT rfl rfl rfl) ?_
                  clear hT; intro a hT
                  replace hT := hT.keep [158, 125, 10, 99, 92, 70, 49, 48, 9, 8, 7, 33, 6, 5, 29, 22, 4, 3, 15, 0] rfl
                  refine Sx.ser_nil ?_
                  refine Sx.then_normal (hK115 _ _ ?_)
                  clear hK115
                  refine Sx.wp_if hT rfl (fun h => by cases h) (fun _ => ?_)
                  refine wp_skip ?_
                  refine Sx.block_normal ?_
                  refine Sx.then_normal (hK16 _ _ ?_)
                  clear hK16
                  -- region 11 (law.go:130)
                  refine Sx.wp_text [(0, .take), (1, .take), (2, .take)] rfl ?_
                  refine Sx.st_take hT rfl rfl rfl rfl (Sx.x_move hT rfl rfl) ?_
                  clear hT; intro a hT
                  refine Sx.st_take hT rfl rfl rfl rfl ((fun w => Sx.x_add w hT rfl rfl rfl (Sx.wrap64 (by omega)))) ?_
                  clear hT; intro a hT
                  refine Sx.st_take hT rfl rfl rfl rfl (Sx.x_assign hT rfl rfl) ?_
                  clear hT; intro a hT
                  replace hT := hT.keep [6, 158, 125, 10, 99, 92, 70, 49, 48, 9, 8, 7, 33, 5, 29, 22, 4, 3, 15, 0] rfl
                  refine Sx.ser_nil ?_
                  refine Sx.then_normal ?_
                  try clear hj2
                  skip
                  exact ⟨(⟨k + 1, ms, _, rs, ts, _, _, _⟩ : SG), ⟨by show k + 1 ≤ _; omega, hperm, by show List.length _ ≤ k + 1; first | omega | (simp; omega), by show List.length _ = List.length _; first | omega | (simp; omega)⟩, (hT.keep [6, 5, 29, 22, 4, 3, 15, 0] rfl), (H.keep [2, 3, 4] rfl rfl), by show _ - (k + 1) < _ - k; omega⟩
            · try simp only [decide_eq_true_eq, decide_eq_false_iff_not, Bool.not_eq_true', Bool.not_eq_false', Bool.not_eq_true, Bool.not_eq_false, Bool.and_eq_true, Bool.or_eq_false_iff, beq_iff_eq, bne_iff_ne, Int.not_lt, Int.not_le, ne_eq] at hc109
              refine wp_seq_k fun K117 hK117 => ?_
              -- region 29 (law.go:151)
              refine Sx.wp_text [(0, .take), (1, .take)] rfl ?_
              refine Sx.st_take hT rfl rfl rfl rfl ((fun w => Sx.x_eq w hT rfl rfl rfl)) ?_
              clear hT; intro a hT
              refine Sx.st_take hT rfl rfl rfl rfl (Sx.x_assign hT rfl rfl) ?_
              clear hT; intro a hT
              replace hT := hT.keep [101, 92, 70, 49, 48, 10, 9, 8, 7, 33, 6, 5, 29, 22, 4, 3, 15, 0] rfl
              refine Sx.ser_nil ?_
              refine Sx.then_normal (hK117 _ _ ?_)
              clear hK117
              -- cond 10
              refine Sx.wp_if hT rfl (fun hc118 => ?_) (fun hc118 => ?_)
              · try simp only [decide_eq_true_eq, decide_eq_false_iff_not, Bool.not_eq_true', Bool.not_eq_false', Bool.not_eq_true, Bool.not_eq_false, Bool.and_eq_true, Bool.or_eq_false_iff, beq_iff_eq, bne_iff_ne, Int.not_lt, Int.not_le, ne_eq] at hc118
                refine wp_seq_k fun K119 hK119 => ?_
                refine wp_seq_k fun K120 hK120 => ?_
                -- region 30 (law.go:152)
                refine Sx.wp_text [(0, .take), (1, .take), (2, .run), (3, .run), (4, .take), (5, .take), (6, .take)] rfl ?_
                refine Sx.st_take hT rfl rfl rfl rfl (Sx.x_move hT rfl rfl) ?_
                clear hT; intro a hT
                refine Sx.st_take hT rfl rfl rfl rfl (Sx.x_fieldAddr hT rfl Try.fa32_1 rfl) ?_
                clear hT; intro a hT
                refine Sx.st_run hT rfl rfl rfl rfl (Sx.x_load1 hT rfl Try.fl3 rfl ((H.blk 1 rfl).nth rfl)) ?_
                clear hT; intro a hT
                refine Sx.st_call hT rfl rfl rfl rfl rfl Try.can22 rfl (nTwice_no (hn_of H 2 rfl) _ hi) ?_
                rintro _ w55 ⟨rfl, E⟩
                refine ⟨_, rfl, ?_⟩
                clear hT; intro a hT
                replace H := H.pure E; clear E
                refine Sx.st_take hT rfl rfl rfl rfl ((fun w => Sx.x_eq w hT rfl rfl rfl)) ?_
                clear hT; intro a hT
                refine Sx.st_take hT rfl rfl rfl rfl (Sx.x_move hT rfl rfl) ?_
                clear hT; intro a hT
                refine Sx.st_take hT rfl rfl rfl rfl (Sx.x_neb hT rfl Try.underlying4 rfl rfl) ?_
                clear hT; intro a hT
                replace hT := hT.keep [109, 101, 92, 70, 49, 48, 10, 9, 8, 7, 33, 6, 5, 29, 22, 4, 3, 15, 0] rfl
                refine Sx.ser_nil ?_
                refine Sx.then_normal (hK120 _ _ ?_)
                clear hK120
                -- cond 11
                refine Sx.wp_if hT rfl (fun hc121 => ?_) (fun hc121 => ?_)
                · exfalso
                  try simp only [decide_eq_true_eq, decide_eq_false_iff_not, Bool.not_eq_true', Bool.not_eq_false', Bool.not_eq_true, Bool.not_eq_false, Bool.and_eq_true, Bool.or_eq_false_iff, beq_iff_eq, bne_iff_ne, Int.not_lt, Int.not_le, ne_eq] at hc121
                  first | (simp at hc121; done) | omega | (simp at hc121; omega) | (simp_all; done)
                · try simp only [decide_eq_true_eq, decide_eq_false_iff_not, Bool.not_eq_true', Bool.not_eq_false', Bool.not_eq_true, Bool.not_eq_false, Bool.and_eq_true, Bool.or_eq_false_iff, beq_iff_eq, bne_iff_ne, Int.not_lt, Int.not_le, ne_eq] at hc121
                  refine wp_skip ?_
                  refine Sx.then_normal (hK119 _ _ ?_)
                  clear hK119
                  refine wp_seq_k fun K122 hK122 => ?_
                  -- region 32 (law.go:155)
                  refine Sx.wp_text [(0, .take)] rfl ?_
                  refine Sx.st_take hT rfl rfl rfl rfl (Sx.x_move hT rfl rfl) ?_
                  clear hT; intro a hT
                  replace hT := hT.keep [110, 109, 101, 92, 70, 49, 48, 10, 9, 8, 7, 33, 6, 5, 29, 22, 4, 3, 15, 0] rfl
                  refine Sx.ser_nil ?_
                  refine Sx.then_normal (hK122 _ _ ?_)
                  clear hK122
                  refine Sx.wp_if hT rfl (fun h => by cases h) (fun _ => ?_)
                  refine wp_skip ?_
                  refine Sx.block_normal ?_
                  refine Sx.then_normal (hK87 _ _ ?_)
                  clear hK87
                  refine wp_seq_k fun K123 hK123 => ?_
                  refine wp_seq_k fun K124 hK124 => ?_
                  -- region 37 (law.go:163)
                  refine Sx.wp_text [(0, .take)] rfl ?_
                  refine Sx.st_take hT rfl rfl rfl rfl (Sx.x_move hT rfl rfl) ?_
                  clear hT; intro a hT
                  replace hT := hT.keep [125, 110, 109, 101, 92, 70, 49, 48, 10, 9, 8, 7, 33, 6, 5, 29, 22, 4, 3, 15, 0] rfl
                  refine Sx.ser_nil ?_
                  refine Sx.then_normal (hK124 _ _ ?_)
                  clear hK124
                  refine Sx.wp_if hT rfl (fun h => by cases h) (fun _ => ?_)
                  refine wp_skip ?_
                  refine Sx.then_normal (hK123 _ _ ?_)
                  clear hK123
                  refine wp_seq_k fun K125 hK125 => ?_
                  -- region 42 (law.go:170)
                  refine Sx.wp_text [(0, .take), (1, .run), (2, .take), (3, .take), (4, .take), (5, .take), (6, .take), (7, .take), (8, .take), (9, .run), (10, .run), (11, .take), (12, .take), (13, .take), (14, .take), (15, .take), (16, .take), (17, .take)] rfl ?_
                  refine Sx.st_take hT rfl rfl rfl rfl (Sx.x_move hT rfl rfl) ?_
                  clear hT; intro a hT
                  refine Sx.st_call hT rfl rfl rfl rfl rfl Try.can13 rfl (nLen_calls (hn_of H 2 rfl)) ?_
                  rintro _ w56 ⟨rfl, E⟩
                  refine ⟨_, rfl, ?_⟩
                  clear hT; intro a hT
                  replace H := H.pure E; clear E
                  refine Sx.st_take hT rfl rfl rfl rfl (Sx.x_move hT rfl rfl) ?_
                  clear hT; intro a hT
                  refine Sx.st_take hT rfl rfl rfl rfl (Sx.x_len_slice hT rfl rfl Try.underlying52 rfl) ?_
                  clear hT; intro a hT
                  refine Sx.st_take hT rfl rfl rfl rfl ((fun w => Sx.x_ne w hT rfl rfl rfl)) ?_
                  clear hT; intro a hT
                  refine Sx.st_take hT rfl rfl rfl rfl (Sx.x_move hT rfl rfl) ?_
                  clear hT; intro a hT
                  -- guard (42, 5)
                  refine Sx.Sl.two hT 146 rfl (fun hc126 hT => ?_) (fun hc126 hT => ?_)
                  · exfalso
                    try simp only [decide_eq_true_eq, decide_eq_false_iff_not, Bool.not_eq_true', Bool.not_eq_false', Bool.not_eq_true, Bool.not_eq_false, Bool.and_eq_true, Bool.or_eq_false_iff, beq_iff_eq, bne_iff_ne, Int.not_lt, Int.not_le, ne_eq] at hc126
                    first | (simp at hc126; done) | omega | (simp at hc126; omega) | (simp_all; done)
                  · try simp only [decide_eq_true_eq, decide_eq_false_iff_not, Bool.not_eq_true', Bool.not_eq_false', Bool.not_eq_true, Bool.not_eq_false, Bool.and_eq_true, Bool.or_eq_false_iff, beq_iff_eq, bne_iff_ne, Int.not_lt, Int.not_le, ne_eq] at hc126
                    refine Sx.st_take hT rfl rfl rfl rfl (Sx.x_move hT rfl rfl) ?_
                    clear hT; intro a hT
                    refine Sx.st_take hT rfl rfl rfl rfl (Sx.x_move hT rfl rfl) ?_
                    clear hT; intro a hT
                    refine Sx.st_skip hT rfl rfl rfl rfl ?_
                    clear hT; intro a hT
                    refine Sx.st_runskip hT rfl rfl rfl rfl ?_
                    clear hT; intro a hT
                    refine Sx.st_runskip hT rfl rfl rfl rfl ?_
                    clear hT; intro a hT
                    refine Sx.st_skip hT rfl rfl rfl rfl ?_
                    clear hT; intro a hT
                    refine Sx.st_take hT rfl rfl rfl rfl (Sx.x_pick_f hT rfl rfl rfl) ?_
                    clear hT; intro a hT
                    refine Sx.st_take hT rfl rfl rfl rfl (Sx.x_move hT rfl rfl) ?_
                    clear hT; intro a hT
                    refine Sx.st_skip hT rfl rfl rfl rfl ?_
                    clear hT; intro a hT
                    refine Sx.st_skip hT rfl rfl rfl rfl ?_
                    clear hT; intro a hT
                    refine Sx.st_take hT rfl rfl rfl rfl (Sx.x_pick_f hT rfl rfl rfl) ?_
                    clear hT; intro a hT
                    refine Sx.st_take hT rfl rfl rfl rfl (Sx.x_pick_f hT rfl rfl rfl) ?_
                    clear hT; intro a hT
                    replace hT := hT.keep [158, 125, 110, 109, 101, 92, 70, 49, 48, 10, 9, 8, 7, 33, 6, 5, 29, 22, 4, 3, 15, 0] rfl
                    refine Sx.ser_nil ?_
                    refine Sx.then_normal (hK125 _ _ ?_)
                    clear hK125
                    refine Sx.wp_if hT rfl (fun h => by cases h) (fun _ => ?_)
                    refine wp_skip ?_
                    refine Sx.block_normal ?_
                    refine Sx.then_normal (hK16 _ _ ?_)
                    clear hK16
                    -- region 11 (law.go:130)
                    refine Sx.wp_text [(0, .take), (1, .take), (2, .take)] rfl ?_
                    refine Sx.st_take hT rfl rfl rfl rfl (Sx.x_move hT rfl rfl) ?_
                    clear hT; intro a hT
                    refine Sx.st_take hT rfl rfl rfl rfl ((fun w => Sx.x_add w hT rfl rfl rfl (Sx.wrap64 (by omega)))) ?_
                    clear hT; intro a hT
                    refine Sx.st_take hT rfl rfl rfl rfl (Sx.x_assign hT rfl rfl) ?_
                    clear hT; intro a hT
                    replace hT := hT.keep [6, 158, 125, 110, 109, 101, 92, 70, 49, 48, 10, 9, 8, 7, 33, 5, 29, 22, 4, 3, 15, 0] rfl
                    refine Sx.ser_nil ?_
                    refine Sx.then_normal ?_
                    try clear hj2
                    skip
                    exact ⟨(⟨k + 1, ms, _, rs, ts, _, _, _⟩ : SG), ⟨by show k + 1 ≤ _; omega, hperm, by show List.length _ ≤ k + 1; first | omega | (simp; omega), by show List.length _ = List.length _; first | omega | (simp; omega)⟩, (hT.keep [6, 5, 29, 22, 4, 3, 15, 0] rfl), (H.keep [2, 3, 4] rfl rfl), by show _ - (k + 1) < _ - k; omega⟩
              · try simp only [decide_eq_true_eq, decide_eq_false_iff_not, Bool.not_eq_true', Bool.not_eq_false', Bool.not_eq_true, Bool.not_eq_false, Bool.and_eq_true, Bool.or_eq_false_iff, beq_iff_eq, bne_iff_ne, Int.not_lt, Int.not_le, ne_eq] at hc118
                refine wp_seq_k fun K127 hK127 => ?_
                -- region 34 (law.go:158)
                refine Sx.wp_text [(0, .take), (1, .take)] rfl ?_
                refine Sx.st_take hT rfl rfl rfl rfl ((fun w => Sx.x_eq w hT rfl rfl rfl)) ?_
                clear hT; intro a hT
                refine Sx.st_take hT rfl rfl rfl rfl (Sx.x_assign hT rfl rfl) ?_
                clear hT; intro a hT
                replace hT := hT.keep [115, 101, 92, 70, 49, 48, 10, 9, 8, 7, 33, 6, 5, 29, 22, 4, 3, 15, 0] rfl
                refine Sx.ser_nil ?_
                refine Sx.then_normal (hK127 _ _ ?_)
                clear hK127
                -- cond 13
                refine Sx.wp_if hT rfl (fun hc128 => ?_) (fun hc128 => ?_)
                · try simp only [decide_eq_true_eq, decide_eq_false_iff_not, Bool.not_eq_true', Bool.not_eq_false', Bool.not_eq_true, Bool.not_eq_false, Bool.and_eq_true, Bool.or_eq_false_iff, beq_iff_eq, bne_iff_ne, Int.not_lt, Int.not_le, ne_eq] at hc128
                  refine wp_seq_k fun K129 hK129 => ?_
                  -- region 35 (law.go:159)
                  refine Sx.wp_text [(0, .take), (1, .take), (2, .run), (3, .take), (4, .run), (5, .run), (6, .take), (7, .take)] rfl ?_
                  refine Sx.st_take hT rfl rfl rfl rfl (Sx.x_move hT rfl rfl) ?_
                  clear hT; intro a hT
                  refine Sx.st_take hT rfl rfl rfl rfl (Sx.x_fieldAddr hT rfl Try.fa32_1 rfl) ?_
                  clear hT; intro a hT
                  refine Sx.st_run hT rfl rfl rfl rfl (Sx.x_load1 hT rfl Try.fl3 rfl ((H.blk 1 rfl).nth rfl)) ?_
                  clear hT; intro a hT
                  refine Sx.st_take hT rfl rfl rfl rfl (Sx.x_fieldAddr hT rfl Try.fa32_2 rfl) ?_
                  clear hT; intro a hT
                  refine Sx.st_run hT rfl rfl rfl rfl (Sx.x_load1 hT rfl Try.fl3 rfl ((H.blk 1 rfl).nth rfl)) ?_
                  clear hT; intro a hT
                  refine Sx.st_call hT rfl rfl rfl rfl rfl Try.can12 rfl (nMove_no (hn_of H 2 rfl) _ _ hi) ?_
                  rintro _ w57 ⟨rfl, E⟩
                  refine ⟨_, rfl, ?_⟩
                  clear hT; intro a hT
                  replace H := H.pure E; clear E
                  refine Sx.st_take hT rfl rfl rfl rfl (Sx.x_move hT rfl rfl) ?_
                  clear hT; intro a hT
                  refine Sx.st_take hT rfl rfl rfl rfl (Sx.x_neb hT rfl Try.underlying4 rfl rfl) ?_
                  clear hT; intro a hT
                  replace hT := hT.keep [124, 115, 101, 92, 70, 49, 48, 10, 9, 8, 7, 33, 6, 5, 29, 22, 4, 3, 15, 0] rfl
                  refine Sx.ser_nil ?_
                  refine Sx.then_normal (hK129 _ _ ?_)
                  clear hK129
                  -- cond 14
                  refine Sx.wp_if hT rfl (fun hc130 => ?_) (fun hc130 => ?_)
                  · exfalso
                    try simp only [decide_eq_true_eq, decide_eq_false_iff_not, Bool.not_eq_true', Bool.not_eq_false', Bool.not_eq_true, Bool.not_eq_false, Bool.and_eq_true, Bool.or_eq_false_iff, beq_iff_eq, bne_iff_ne, Int.not_lt, Int.not_le, ne_eq] at hc130
                    first | (simp at hc130; done) | omega | (simp at hc130; omega) | (simp_all; done)
                  · try simp only [decide_eq_true_eq, decide_eq_false_iff_not, Bool.not_eq_true', Bool.not_eq_false', Bool.not_eq_true, Bool.not_eq_false, Bool.and_eq_true, Bool.or_eq_false_iff, beq_iff_eq, bne_iff_ne, Int.not_lt, Int.not_le, ne_eq] at hc130
                    refine wp_skip ?_
                    refine Sx.block_normal ?_
                    refine Sx.then_normal (hK87 _ _ ?_)
                    clear hK87
                    refine wp_seq_k fun K131 hK131 => ?_
                    refine wp_seq_k fun K132 hK132 => ?_
                    -- region 37 (law.go:163)
                    refine Sx.wp_text [(0, .take)] rfl ?_
                    refine Sx.st_take hT rfl rfl rfl rfl (Sx.x_move hT rfl rfl) ?_
                    clear hT; intro a hT
                    replace hT := hT.keep [125, 124, 115, 101, 92, 70, 49, 48, 10, 9, 8, 7, 33, 6, 5, 29, 22, 4, 3, 15, 0] rfl
                    refine Sx.ser_nil ?_
                    refine Sx.then_normal (hK132 _ _ ?_)
                    clear hK132
                    refine Sx.wp_if hT rfl (fun h => by cases h) (fun _ => ?_)
                    refine wp_skip ?_
                    refine Sx.then_normal (hK131 _ _ ?_)
                    clear hK131
                    refine wp_seq_k fun K133 hK133 => ?_
                    -- region 42 (law.go:170)
                    refine Sx.wp_text [(0, .take), (1, .run), (2, .take), (3, .take), (4, .take), (5, .take), (6, .take), (7, .take), (8, .take), (9, .run), (10, .run), (11, .take), (12, .take), (13, .take), (14, .take), (15, .take), (16, .take), (17, .take)] rfl ?_
                    refine Sx.st_take hT rfl rfl rfl rfl (Sx.x_move hT rfl rfl) ?_
                    clear hT; intro a hT
                    refine Sx.st_call hT rfl rfl rfl rfl rfl Try.can13 rfl (nLen_calls (hn_of H 2 rfl)) ?_
                    rintro _ w58 ⟨rfl, E⟩
                    refine ⟨_, rfl, ?_⟩
                    clear hT; intro a hT
                    replace H := H.pure E; clear E
                    refine Sx.st_take hT rfl rfl rfl rfl (Sx.x_move hT rfl rfl) ?_
                    clear hT; intro a hT
                    refine Sx.st_take hT rfl rfl rfl rfl (Sx.x_len_slice hT rfl rfl Try.underlying52 rfl) ?_
                    clear hT; intro a hT
                    refine Sx.st_take hT rfl rfl rfl rfl ((fun w => Sx.x_ne w hT rfl rfl rfl)) ?_
                    clear hT; intro a hT
                    refine Sx.st_take hT rfl rfl rfl rfl (Sx.x_move hT rfl rfl) ?_
                    clear hT; intro a hT
                    -- guard (42, 5)
                    refine Sx.Sl.two hT 146 rfl (fun hc134 hT => ?_) (fun hc134 hT => ?_)
                    · exfalso
                      try simp only [decide_eq_true_eq, decide_eq_false_iff_not, Bool.not_eq_true', Bool.not_eq_false', Bool.not_eq_true, Bool.not_eq_false, Bool.and_eq_true, Bool.or_eq_false_iff, beq_iff_eq, bne_iff_ne, Int.not_lt, Int.not_le, ne_eq] at hc134
                      first | (simp at hc134; done) | omega | (simp at hc134; omega) | (simp_all; done)
                    · try simp only [decide_eq_true_eq, decide_eq_false_iff_not, Bool.not_eq_true', Bool.not_eq_false', Bool.not_eq_true, Bool.not_eq_false, Bool.and_eq_true, Bool.or_eq_false_iff, beq_iff_eq, bne_iff_ne, Int.not_lt, Int.not_le, ne_eq] at hc134
                      refine Sx.st_take hT rfl rfl rfl rfl (Sx.x_move hT rfl rfl) ?_
                      clear hT; intro a hT
                      refine Sx.st_take hT rfl rfl rfl rfl (Sx.x_move hT rfl rfl) ?_
                      clear hT; intro a hT
                      refine Sx.st_skip hT rfl rfl rfl rfl ?_
                      clear hT; intro a hT
                      refine Sx.st_runskip hT rfl rfl rfl rfl ?_
                      clear hT; intro a hT
                      refine Sx.st_runskip hT rfl rfl rfl rfl ?_
                      clear hT; intro a hT
                      refine Sx.st_skip hT rfl rfl rfl rfl ?_
                      clear hT; intro a hT
                      refine Sx.st_take hT rfl rfl rfl rfl (Sx.x_pick_f hT rfl rfl rfl) ?_
                      clear hT; intro a hT
                      refine Sx.st_take hT rfl rfl rfl rfl (Sx.x_move hT rfl rfl) ?_
                      clear hT; intro a hT
                      refine Sx.st_skip hT rfl rfl rfl rfl ?_
                      clear hT; intro a hT
                      refine Sx.st_skip hT rfl rfl rfl rfl ?_
                      clear hT; intro a hT
                      refine Sx.st_take hT rfl rfl rfl rfl (Sx.x_pick_f hT rfl rfl rfl) ?_
                      clear hT; intro a hT
                      refine Sx.st_take hT rfl rfl rfl rfl (Sx.x_pick_f hT rfl rfl rfl) ?_
                      clear hT; intro a hT
                      replace hT := hT.keep [158, 125, 124, 115, 101, 92, 70, 49, 48, 10, 9, 8, 7, 33, 6, 5, 29, 22, 4, 3, 15, 0] rfl
                      refine Sx.ser_nil ?_
                      refine Sx.then_normal (hK133 _ _ ?_)
                      clear hK133
                      refine Sx.wp_if hT rfl (fun h => by cases h) (fun _ => ?_)
                      refine wp_skip ?_
                      refine Sx.block_normal ?_
                      refine Sx.then_normal (hK16 _ _ ?_)
                      clear hK16
                      -- region 11 (law.go:130)
                      refine Sx.wp_text [(0, .take), (1, .take), (2, .take)] rfl ?_
                      refine Sx.st_take hT rfl rfl rfl rfl (Sx.x_move hT rfl rfl) ?_
                      clear hT; intro a hT
                      refine Sx.st_take hT rfl rfl rfl rfl ((fun w => Sx.x_add w hT rfl rfl rfl (Sx.wrap64 (by omega)))) ?_
                      clear hT; intro a hT
                      refine Sx.st_take hT rfl rfl rfl rfl (Sx.x_assign hT rfl rfl) ?_
                      clear hT; intro a hT
                      replace hT := hT.keep [6, 158, 125, 124, 115, 101, 92, 70, 49, 48, 10, 9, 8, 7, 33, 5, 29, 22, 4, 3, 15, 0] rfl
                      refine Sx.ser_nil ?_
                      refine Sx.then_normal ?_
                      try clear hj2
                      skip
                      exact ⟨(⟨k + 1, ms, _, rs, ts, _, _, _⟩ : SG), ⟨by show k + 1 ≤ _; omega, hperm, by show List.length _ ≤ k + 1; first | omega | (simp; omega), by show List.length _ = List.length _; first | omega | (simp; omega)⟩, (hT.keep [6, 5, 29, 22, 4, 3, 15, 0] rfl), (H.keep [2, 3, 4] rfl rfl), by show _ - (k + 1) < _ - k; omega⟩
                · try simp only [decide_eq_true_eq, decide_eq_false_iff_not, Bool.not_eq_true', Bool.not_eq_false', Bool.not_eq_true, Bool.not_eq_false, Bool.and_eq_true, Bool.or_eq_false_iff, beq_iff_eq, bne_iff_ne, Int.not_lt, Int.not_le, ne_eq] at hc128
                  refine wp_skip ?_
                  refine Sx.block_normal ?_
                  refine Sx.then_normal (hK87 _ _ ?_)
                  clear hK87
                  refine wp_seq_k fun K135 hK135 => ?_
                  refine wp_seq_k fun K136 hK136 => ?_
                  -- region 37 (law.go:163)
                  refine Sx.wp_text [(0, .take)] rfl ?_
                  refine Sx.st_take hT rfl rfl rfl rfl (Sx.x_move hT rfl rfl) ?_
                  clear hT; intro a hT
                  replace hT := hT.keep [125, 115, 101, 92, 70, 49, 48, 10, 9, 8, 7, 33, 6, 5, 29, 22, 4, 3, 15, 0] rfl
                  refine Sx.ser_nil ?_
                  refine Sx.then_normal (hK136 _ _ ?_)
                  clear hK136
                  refine Sx.wp_if hT rfl (fun h => by cases h) (fun _ => ?_)
                  refine wp_skip ?_
                  refine Sx.then_normal (hK135 _ _ ?_)
                  clear hK135
                  refine wp_seq_k fun K137 hK137 => ?_
                  -- region 42 (law.go:170)
                  refine Sx.wp_text [(0, .take), (1, .run), (2, .take), (3, .take), (4, .take), (5, .take), (6, .take), (7, .take), (8, .take), (9, .run), (10, .run), (11, .take), (12, .take), (13, .take), (14, .take), (15, .take), (16, .take), (17, .take)] rfl ?_
                  refine Sx.st_take hT rfl rfl rfl rfl (Sx.x_move hT rfl rfl) ?_
                  clear hT; intro a hT
                  refine Sx.st_call hT rfl rfl rfl rfl rfl Try.can13 rfl (nLen_calls (hn_of H 2 rfl)) ?_
                  rintro _ w59 ⟨rfl, E⟩
                  refine ⟨_, rfl, ?_⟩
                  clear hT; intro a hT
                  replace H := H.pure E; clear E
                  refine Sx.st_take hT rfl rfl rfl rfl (Sx.x_move hT rfl rfl) ?_
                  clear hT; intro a hT
                  refine Sx.st_take hT rfl rfl rfl rfl (Sx.x_len_slice hT rfl rfl Try.underlying52 rfl) ?_
                  clear hT; intro a hT
                  refine Sx.st_take hT rfl rfl rfl rfl ((fun w => Sx.x_ne w hT rfl rfl rfl)) ?_
                  clear hT; intro a hT
                  refine Sx.st_take hT rfl rfl rfl rfl (Sx.x_move hT rfl rfl) ?_
                  clear hT; intro a hT
                  -- guard (42, 5)
                  refine Sx.Sl.two hT 146 rfl (fun hc138 hT => ?_) (fun hc138 hT => ?_)
                  · exfalso
                    try simp only [decide_eq_true_eq, decide_eq_false_iff_not, Bool.not_eq_true', Bool.not_eq_false', Bool.not_eq_true, Bool.not_eq_false, Bool.and_eq_true, Bool.or_eq_false_iff, beq_iff_eq, bne_iff_ne, Int.not_lt, Int.not_le, ne_eq] at hc138
                    first | (simp at hc138; done) | omega | (simp at hc138; omega) | (simp_all; done)
                  · try simp only [decide_eq_true_eq, decide_eq_false_iff_not, Bool.not_eq_true', Bool.not_eq_false', Bool.not_eq_true, Bool.not_eq_false, Bool.and_eq_true, Bool.or_eq_false_iff, beq_iff_eq, bne_iff_ne, Int.not_lt, Int.not_le, ne_eq] at hc138
                    refine Sx.st_take hT rfl rfl rfl rfl (Sx.x_move hT rfl rfl) ?_
                    clear hT; intro a hT
                    refine Sx.st_take hT rfl rfl rfl rfl (Sx.x_move hT rfl rfl) ?_
                    clear hT; intro a hT
                    refine Sx.st_skip hT rfl rfl rfl rfl ?_
                    clear hT; intro a hT
                    refine Sx.st_runskip hT rfl rfl rfl rfl ?_
                    clear hT; intro a hT
                    refine Sx.st_runskip hT rfl rfl rfl rfl ?_
                    clear hT; intro a hT
                    refine Sx.st_skip hT rfl rfl rfl rfl ?_
                    clear hT; intro a hT
                    refine Sx.st_take hT rfl rfl rfl rfl (Sx.x_pick_f hT rfl rfl rfl) ?_
                    clear hT; intro a hT
                    refine Sx.st_take hT rfl rfl rfl rfl (Sx.x_move hT rfl rfl) ?_
                    clear hT; intro a hT
                    refine Sx.st_skip hT rfl rfl rfl rfl ?_
                    clear hT; intro a hT
                    refine Sx.st_skip hT rfl rfl rfl rfl ?_
                    clear hT; intro a hT
                    refine Sx.st_take hT rfl rfl rfl rfl (Sx.x_pick_f hT rfl rfl rfl) ?_
                    clear hT; intro a hT
                    refine Sx.st_take hT rfl rfl rfl rfl (Sx.x_pick_f hT rfl rfl rfl) ?_
                    clear hT; intro a hT
                    replace hT := hT.keep [158, 125, 115, 101, 92, 70, 49, 48, 10, 9, 8, 7, 33, 6, 5, 29, 22, 4, 3, 15, 0] rfl
                    refine Sx.ser_nil ?_
                    refine Sx.then_normal (hK137 _ _ ?_)
                    clear hK137
                    refine Sx.wp_if hT rfl (fun h => by cases h) (fun _ => ?_)
                    refine wp_skip ?_
                    refine Sx.block_normal ?_
                    refine Sx.then_normal (hK16 _ _ ?_)
                    clear hK16
                    -- region 11 (law.go:130)
                    refine Sx.wp_text [(0, .take), (1, .take), (2, .take)] rfl ?_
                    refine Sx.st_take hT rfl rfl rfl rfl (Sx.x_move hT rfl rfl) ?_
                    clear hT; intro a hT
                    refine Sx.st_take hT rfl rfl rfl rfl ((fun w => Sx.x_add w hT rfl rfl rfl (Sx.wrap64 (by omega)))) ?_
                    clear hT; intro a hT
                    refine Sx.st_take hT rfl rfl rfl rfl (Sx.x_assign hT rfl rfl) ?_
                    clear hT; intro a hT
                    replace hT := hT.keep [6, 158, 125, 115, 101, 92, 70, 49, 48, 10, 9, 8, 7, 33, 5, 29, 22, 4, 3, 15, 0] rfl
                    refine Sx.ser_nil ?_
                    refine Sx.then_normal ?_
                    try clear hj2
                    skip
                    exact ⟨(⟨k + 1, ms, _, rs, ts, _, _, _⟩ : SG), ⟨by show k + 1 ≤ _; omega, hperm, by show List.length _ ≤ k + 1; first | omega | (simp; omega), by show List.length _ = List.length _; first | omega | (simp; omega)⟩, (hT.keep [6, 5, 29, 22, 4, 3, 15, 0] rfl), (H.keep [2, 3, 4] rfl rfl), by show _ - (k + 1) < _ - k; omega⟩
    · try simp only [decide_eq_true_eq, decide_eq_false_iff_not, Bool.not_eq_true', Bool.not_eq_false', Bool.not_eq_true, Bool.not_eq_false, Bool.and_eq_true, Bool.or_eq_false_iff, beq_iff_eq, bne_iff_ne, Int.not_lt, Int.not_le, ne_eq] at hc15
      refine wp_exit ?_
      refine Sx.then_exit ?_
      refine Sx.then_exit ?_
      refine Sx.block_exit ?_
      refine Sx.then_normal (hK11 _ _ ?_)
      clear hK11
      refine wp_seq_k fun K139 hK139 => ?_
      -- region 44 (law.go:174)
      refine Sx.wp_text [(0, .run), (1, .take)] rfl ?_
      refine Sx.st_call hT rfl rfl rfl rfl rfl Try.can7 rfl (first_calls _) ?_
      rintro _ w60 ⟨rfl, E⟩
      refine ⟨_, rfl, ?_⟩
      clear hT; intro a hT
      replace H := H.pure E; clear E
      refine Sx.st_take hT rfl rfl rfl rfl (Sx.x_assign hT rfl rfl) ?_
      clear hT; intro a hT
      replace hT := hT.keep [2, 33, 6, 5, 29, 22, 4, 3, 15, 0] rfl
      refine Sx.ser_nil ?_
      refine Sx.then_normal (hK139 _ _ ?_)
      clear hK139
      refine wp_ret ?_
      refine Sx.done1 (fn := Try.f6) hT rfl (.tmp (hT.get 2 _ rfl)) ?_
      first | exact ⟨rfl, H.ext⟩ | exact ⟨congrArg (fun b => Ending.returned (.bool b)) (by simp), H.ext⟩

end Go.Proofs.Ytgcelppbbjokeaa
