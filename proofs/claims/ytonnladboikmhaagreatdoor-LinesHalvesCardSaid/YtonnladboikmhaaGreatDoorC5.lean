/- Entries, a write among pairs, plainly. -/
import Derived.Test.YtonnladboikmhaaGreatDoorC0
import Derived.Test.YtonnladboikmhaaGreatDoorC1
set_option linter.unusedSimpArgs false
set_option linter.unusedVariables false
namespace Go.Proofs.YtonnladboikmhaaGreatDoor
open Sx
theorem Tryz.ti31 : Sx.TI Tryz.prog 31 (.agg #[.int .i64 0, .int .i64 0, .int .i64 0, .int .i64 0, .int .i64 0, .int .i64 0, .slice none 0 0]) 7 72 := .mk' (by kernel_rfl)
theorem Tryz.fa31_0 : Sx.FA Tryz.prog 31 0 0 := ⟨_, _, _, _, _, Tryz.underlying31, rfl, rfl, Tryz.ti26, by decide⟩
theorem Tryz.fa31_1 : Sx.FA Tryz.prog 31 1 3 := ⟨_, _, _, _, _, Tryz.underlying31, rfl, rfl, Tryz.ti28, by decide⟩
theorem Tryz.fa31_2 : Sx.FA Tryz.prog 31 2 6 := ⟨_, _, _, _, _, Tryz.underlying31, rfl, rfl, Tryz.ti29, by decide⟩
theorem Tryz.can9 : Sx.Can Tryz.prog 9 := ⟨_, Tryz.func9, by kernel_rfl, rfl⟩
/-! entries; a write among pairs -/
structure En where
  t : Tn
  s : Stp
  ad : Option Addr
  c : Nat
  ws : List Wt
def En.cells (x : En) : List Value := [.int .i64 x.t.co, .int .i64 x.t.li, .int .i64 x.t.sq, .int .i64 x.s.w, .int .i64 x.s.l, .int .i64 x.s.n, .slice x.ad x.ws.length x.c]
theorem En.len (x : En) : x.cells.length = 7 := rfl
theorem En.one (x : En) : ∀ u ∈ x.cells, u.oneCell' = true := by
  intro u hu
  simp only [En.cells, List.mem_cons, List.not_mem_nil, or_false] at hu
  rcases hu with rfl | rfl | rfl | rfl | rfl | rfl | rfl <;> rfl
def En.rw (x : En) : Rw := ⟨x.ad, x.ws.length, x.c, x.ws.flatMap Wt.cells⟩
structure Ep where
  t : Tn
  s : Stp
  ws : List Wt
  deriving DecidableEq
def En.p (x : En) : Ep := ⟨x.t, x.s, x.ws⟩
theorem rownil {w : World} {e : TypeId} {sz n c : Nat} {ad : Option Addr} {xs : List Value} (h : Row w e sz ad n c xs) : ad = none → n = 0 ∧ c = 0 := fun hn => by
  subst hn
  have := h.nilcut (lo := 0) (cutAt_zero _ _ _)
  omega
def lead (k : Key) : List Wt → Nat
  | [] => 0
  | y :: r => if slt y.key k then lead k r + 1 else 0
def behind (k : Key) (l : List Wt) : Nat := if (l[lead k l]?).map Wt.key = some k then lead k l + 1 else lead k l
/-! weights -/
theorem few2_max (a b c : Nat) : few2F a b c ≤ 2 * c + 1 := by unfold few2F; split <;> omega
theorem ww_max {m : Nat} : ∀ (l : List Wt) (n : Nat), wwF m l n ≤ max n (2 * m + 1)
  | [], n => by unfold wwF; omega
  | x :: r, n => by
    unfold wwF
    split
    · have h1 := ww_max (m := m) r (few2F (few2F n (1 + x.key.length) m) x.v.tx.length m)
      have h2 := few2_max (few2F n (1 + x.key.length) m) x.v.tx.length m
      omega
    · omega
def sumN {α : Type} (f : α → Nat) : List α → Nat
  | [] => 0
  | x :: l => f x + sumN f l
theorem sumN_app {α : Type} (f : α → Nat) : ∀ l m : List α, sumN f (l ++ m) = sumN f l + sumN f m
  | [], m => by simp [sumN]
  | x :: l, m => by simp only [List.cons_append, sumN, sumN_app f l m]; omega
theorem sumN_snoc {α : Type} (f : α → Nat) {l : List α} {k : Nat} {o : α} (h : l[k]? = some o) : sumN f (l.take (k + 1)) = sumN f (l.take k) + f o := by
  rw [take_app h, sumN_app]; simp [sumN]
theorem sumN_mem {α : Type} {f : α → Nat} : ∀ {l : List α} {x : α}, x ∈ l → f x ≤ sumN f l
  | y :: l, x, h => by
    simp only [sumN]
    rcases List.mem_cons.1 h with rfl | h
    · omega
    · have := sumN_mem (f := f) h; omega
theorem few_calls {ad : Option Addr} {c : Nat} (l : List En) {w : World} (hs : Ss w ad En.cells 7 l) (hw : ∀ x ∈ l, Ss w x.ad Wt.cells 4 x.ws ∧ (∀ y ∈ x.ws, y.wf) ∧ x.ws.length ≤ 9223372036854775806) (hl : l.length ≤ 9223372036854775806) : Calls Tryz.prog 9 #[.slice ad l.length c] w fun e w' => ∃ b : Bool, e = .returned (.bool b) ∧ (b = true → l.length ≤ 100 ∧ sumN (fun x => wwF 20000 x.ws 0) l ≤ 20000) ∧ Ext No w w' := by
  have R : Ro w No _ := Ro.of fun w' x => hs.ext_no x; have RM : Ro w No (fun u => ∀ x ∈ l, Ss u x.ad Wt.cells 4 x.ws) := Ro.of fun w' x y hy => ((hw y hy).1).ext_no x; refine calls_into Tryz.func9 rfl Tryz.ntmps9 rfl fun a hT => ?_; replace hT := hT.keep [0] rfl; have H : Sx.Hp w (Sx.No) w [] := Sx.Hp.start _ _; refine sj (zz 0 [tt]) rfl fun K1 hK1 => ?_; refine asn hT rfl fun a hT => ?_; revert hT; revert hK1; refine rg [2,0] (zz 0 [tt]) rfl fun K2 hK2 hT => ?_; refine asn hT rfl fun a hT => ?_; revert hT; revert hK2; refine rq [3,2,0] rfl fun K3 hK3 hT => ?_; refine sj (zz 0 [tt]) rfl fun K4 hK4 => ?_; refine asn hT rfl fun a hT => ?_; revert hT; revert hK4; refine rp [4,3,2,0] rfl fun hT => ?_; refine wp_block ?_; refine wp_loopH (G := Nat × Nat) (fun ⟨i, n⟩ => [(4, .int .i64 (i : Int)), (3, .int .i64 (n : Int))]) (fun ⟨i, n⟩ => []) (fun ⟨i, n⟩ => i ≤ l.length ∧ i ≤ 100 ∧ n ≤ 60001 ∧ n = sumN (fun x => wwF 20000 x.ws 0) (l.take i)) (fun ⟨i, n⟩ => l.length - i) (0, 0) (hT.keep [4,3,2,0] rfl) (H.keep [] rfl rfl) (⟨Nat.zero_le _, by decide, by decide, by rw [List.take_zero]; rfl⟩) ?_
  clear hT H; rintro ⟨i, n⟩ a w1 hJ hT H; replace hT := hT.keep [4,3,2,0] rfl; replace H := H.keep [] rfl rfl; obtain ⟨hi, hi1, hn, hns⟩ := hJ; refine wp_seq_k fun K5 hK5 => ?_; refine sj (zz 0 [tt,tt,tt,tt,tt,tt,tt,tt,tt,tt,tt,tt]) rfl fun K6 hK6 => ?_; refine mv hT rfl fun a hT => mv hT rfl fun a hT => ?_; refine tk hT rfl (x_len_slice hT rfl rfl Tryz.underlying22 rfl) fun a hT => ?_; refine tk hT rfl ((fun w => x_lt w hT rfl rfl rfl)) fun a hT => mv hT rfl fun a hT => ?_; refine Sl.two hT 9 rfl (fun hc7 hT => ?_) (fun hc7 hT => ?_)
  · try simp only [bq] at hc7
    refine mv hT rfl fun a hT => ?_; refine tk hT rfl ((fun w => x_lt w hT rfl rfl rfl)) fun a hT => ?_; refine tk hT rfl (x_pick_t hT rfl rfl rfl) fun a hT => mv hT rfl fun a hT => ?_; refine Sl.two hT 13 rfl (fun hc8 hT => ?_) (fun hc8 hT => ?_)
    · try simp only [bq] at hc8
      refine mv hT rfl fun a hT => ?_; refine tk hT rfl ((fun w => x_le w hT rfl rfl rfl)) fun a hT => ?_; refine tk hT rfl (x_pick_t hT rfl rfl rfl) fun a hT => ?_; revert hT; revert hK6; refine rif [16,4,3,2,0] rfl (fun hT hc9 => ?_) (fun hT hc9 => ?_)
      · try simp only [bq] at hc9
        obtain ⟨o, ho⟩ : ∃ q9, l[i]? = some q9 := ⟨_, List.getElem?_eq_getElem (by omega)⟩; have hom := List.mem_of_getElem? ho; obtain ⟨-, hw2, hw3⟩ := hw o hom; have hmx := ww_max (m := 20000) o.ws 0; refine wp_skip ?_; revert hK5; refine nx fun K10 hK10 => ?_; refine wp_block ?_; refine wp_text (zz 0 [tt,tt,tt,tt,tt,uu,uu,tt,tt]) rfl ?_; refine mv hT rfl fun a hT => mv hT rfl fun a hT => mv hT rfl fun a hT => ?_; refine tk hT rfl (x_index (k := i) hT rfl Tryz.underlying22 Tryz.ti31 (R.at H.ext).sv rfl rfl (by first | rfl | omega) (by omega)) fun a hT => fad hT Tryz.fa31_2 rfl fun a hT => ?_; refine rn hT rfl (x_load1 hT rfl Tryz.fl29 rfl ((R.at H.ext).cell (j := 6) En.len ho rfl)) fun a hT => ?_; refine st_call hT rfl rfl rfl rfl rfl Tryz.can23 rfl (WeighWrites_calls o.ws ((RM.at H.ext) o hom) hw3 20000 (by decide) hw2) ?_; rintro _ w2 ⟨rfl, E⟩; refine ⟨_, rfl, ?_⟩; clear hT; intro a hT; replace H := H.pure E; clear E; refine tk hT rfl ((fun w => x_add w hT rfl rfl rfl (wrap64 (by omega)))) fun a hT => asn hT rfl fun a hT => ?_
        replace hT := hT.keep [3,16,4,2,0] rfl; refine ser_nil ?_; refine block_normal ?_; refine then_normal (hK10 _ _ ?_); clear hK10; refine wp_text (zz 0 [tt,tt,tt]) rfl ?_; refine mv hT rfl fun a hT => ?_; refine tk hT rfl ((fun w => x_add w hT rfl rfl rfl (wrap64 (by omega)))) fun a hT => asn hT rfl fun a hT => ?_; replace hT := hT.keep [4,3,16,2,0] rfl; refine ser_nil ?_; refine then_normal ?_; exact ⟨(i + 1, n + wwF 20000 o.ws 0), ⟨by show i + 1 ≤ _; omega, by show i + 1 ≤ _; omega, by show n + _ ≤ _; omega, by show n + _ = _; rw [sumN_snoc _ ho, ← hns]⟩, (hT.keep [4,3,2,0] rfl), (H.keep [] rfl rfl), by show _ - (i + 1) < _ - i; omega⟩
      · try simp only [bq] at hc9
        refine wp_exit <| then_exit ?_; refine then_exit <| block_exit ?_; revert hK3; refine nx fun K11 hK11 => ?_; refine wp_text (zz 0 [tt,tt,tt,tt,tt,tt,tt,tt]) rfl ?_; refine mv hT rfl fun a hT => ?_; refine tk hT rfl (x_len_slice hT rfl rfl Tryz.underlying22 rfl) fun a hT => ?_; refine tk hT rfl ((fun w => x_le w hT rfl rfl rfl)) fun a hT => mv hT rfl fun a hT => ?_; refine Sl.two hT 30 rfl (fun hc12 hT => ?_) (fun hc12 hT => ?_)
        · try simp only [bq] at hc12
          refine mv hT rfl fun a hT => ?_; refine tk hT rfl ((fun w => x_le w hT rfl rfl rfl)) fun a hT => ?_; refine tk hT rfl (x_pick_t hT rfl rfl rfl) fun a hT => asn hT rfl fun a hT => ?_; revert hT; revert hK11; refine rp [2,16,4,3,0] rfl fun hT => ?_; refine wp_ret ?_; refine dn Tryz.f9 hT rfl ?_; refine ⟨_, rfl, fun h9 => ?_, H.ext⟩
          first
            | (cases h9; done)
            | (have h9 := of_decide_eq_true h9
               have hil : i = l.length := by omega
               rw [hil, List.take_length] at hns; exact ⟨by omega, by omega⟩)
        · try simp only [bq] at hc12
          refine sk hT rfl fun a hT => sk hT rfl fun a hT => ?_; refine tk hT rfl (x_pick_f hT rfl rfl rfl) fun a hT => asn hT rfl fun a hT => ?_; revert hT; revert hK11; refine rp [2,16,4,3,0] rfl fun hT => ?_; refine wp_ret ?_; refine dn Tryz.f9 hT rfl ?_; refine ⟨_, rfl, fun h9 => ?_, H.ext⟩
          first
            | (cases h9; done)
            | (have h9 := of_decide_eq_true h9
               have hil : i = l.length := by omega
               rw [hil, List.take_length] at hns; exact ⟨by omega, by omega⟩)
    · try simp only [bq] at hc8
      refine sk hT rfl fun a hT => sk hT rfl fun a hT => ?_; refine tk hT rfl (x_pick_f hT rfl rfl rfl) fun a hT => ?_; replace hT := hT.keep [16,4,3,2,0] rfl; refine ser_nil ?_; refine then_normal (hK6 _ _ ?_); clear hK6; refine wp_if hT rfl (fun h => by cases h) (fun _ => ?_); refine wp_exit <| then_exit ?_; refine then_exit <| block_exit ?_; revert hK3; refine nx fun K13 hK13 => ?_; refine wp_text (zz 0 [tt,tt,tt,tt,tt,tt,tt,tt]) rfl ?_; refine mv hT rfl fun a hT => ?_; refine tk hT rfl (x_len_slice hT rfl rfl Tryz.underlying22 rfl) fun a hT => ?_; refine tk hT rfl ((fun w => x_le w hT rfl rfl rfl)) fun a hT => mv hT rfl fun a hT => ?_; refine Sl.two hT 30 rfl (fun hc14 hT => ?_) (fun hc14 hT => ?_)
      · try simp only [bq] at hc14
        refine mv hT rfl fun a hT => ?_; refine tk hT rfl ((fun w => x_le w hT rfl rfl rfl)) fun a hT => ?_; refine tk hT rfl (x_pick_t hT rfl rfl rfl) fun a hT => asn hT rfl fun a hT => ?_; revert hT; revert hK13; refine rp [2,16,4,3,0] rfl fun hT => ?_; refine wp_ret ?_; refine dn Tryz.f9 hT rfl ?_; refine ⟨_, rfl, fun h9 => ?_, H.ext⟩
        first
          | (cases h9; done)
          | (have h9 := of_decide_eq_true h9
             have hil : i = l.length := by omega
             rw [hil, List.take_length] at hns; exact ⟨by omega, by omega⟩)
      · try simp only [bq] at hc14
        refine sk hT rfl fun a hT => sk hT rfl fun a hT => ?_; refine tk hT rfl (x_pick_f hT rfl rfl rfl) fun a hT => asn hT rfl fun a hT => ?_; revert hT; revert hK13; refine rp [2,16,4,3,0] rfl fun hT => ?_; refine wp_ret ?_; refine dn Tryz.f9 hT rfl ?_; refine ⟨_, rfl, fun h9 => ?_, H.ext⟩
        first
          | (cases h9; done)
          | (have h9 := of_decide_eq_true h9
             have hil : i = l.length := by omega
             rw [hil, List.take_length] at hns; exact ⟨by omega, by omega⟩)
  · try simp only [bq] at hc7
    refine sk hT rfl fun a hT => sk hT rfl fun a hT => ?_; refine tk hT rfl (x_pick_f hT rfl rfl rfl) fun a hT => mv hT rfl fun a hT => sk hT rfl fun a hT => sk hT rfl fun a hT => ?_; refine tk hT rfl (x_pick_f hT rfl rfl rfl) fun a hT => ?_; replace hT := hT.keep [16,4,3,2,0] rfl; refine ser_nil ?_; refine then_normal (hK6 _ _ ?_); clear hK6; refine wp_if hT rfl (fun h => by cases h) (fun _ => ?_); refine wp_exit <| then_exit ?_; refine then_exit <| block_exit ?_; revert hK3; refine nx fun K15 hK15 => ?_; refine wp_text (zz 0 [tt,tt,tt,tt,tt,tt,tt,tt]) rfl ?_; refine mv hT rfl fun a hT => ?_; refine tk hT rfl (x_len_slice hT rfl rfl Tryz.underlying22 rfl) fun a hT => ?_; refine tk hT rfl ((fun w => x_le w hT rfl rfl rfl)) fun a hT => mv hT rfl fun a hT => ?_; refine Sl.two hT 30 rfl (fun hc16 hT => ?_) (fun hc16 hT => ?_)
    · try simp only [bq] at hc16
      refine mv hT rfl fun a hT => ?_; refine tk hT rfl ((fun w => x_le w hT rfl rfl rfl)) fun a hT => ?_; refine tk hT rfl (x_pick_t hT rfl rfl rfl) fun a hT => asn hT rfl fun a hT => ?_; revert hT; revert hK15; refine rp [2,16,4,3,0] rfl fun hT => ?_; refine wp_ret ?_; refine dn Tryz.f9 hT rfl ?_; refine ⟨_, rfl, fun h9 => ?_, H.ext⟩
      first
        | (cases h9; done)
        | (have h9 := of_decide_eq_true h9
           have hil : i = l.length := by omega
           rw [hil, List.take_length] at hns; exact ⟨by omega, by omega⟩)
    · try simp only [bq] at hc16
      refine sk hT rfl fun a hT => sk hT rfl fun a hT => ?_; refine tk hT rfl (x_pick_f hT rfl rfl rfl) fun a hT => asn hT rfl fun a hT => ?_; revert hT; revert hK15; refine rp [2,16,4,3,0] rfl fun hT => ?_; refine wp_ret ?_; refine dn Tryz.f9 hT rfl ?_; refine ⟨_, rfl, fun h9 => ?_, H.ext⟩
      first
        | (cases h9; done)
        | (have h9 := of_decide_eq_true h9
           have hil : i = l.length := by omega
           rw [hil, List.take_length] at hns; exact ⟨by omega, by omega⟩)
end Go.Proofs.YtonnladboikmhaaGreatDoor
