/- Walks: groups. -/
import Derived.Test.YtakjfnckbidbcaaC4
import Derived.Test.YtakjfnckbidbcaaV0
set_option linter.unusedSimpArgs false
set_option linter.unusedVariables false
namespace Go.Proofs.Ytakjfnckbidbcaa
open Sx
theorem Try.fa56_2 : Sx.FA Try.prog 56 2 2 := ⟨_, _, _, _, _, Try.underlying56, rfl, rfl, Try.ti3, by decide⟩
theorem Try.fa56_4 : Sx.FA Try.prog 56 4 4 := ⟨_, _, _, _, _, Try.underlying56, rfl, rfl, Try.ti46, by decide⟩
theorem Try.fa56_5 : Sx.FA Try.prog 56 5 5 := ⟨_, _, _, _, _, Try.underlying56, rfl, rfl, Try.ti46, by decide⟩
theorem Try.can46 : Sx.Can Try.prog 46 := ⟨_, Try.func46, by kernel_rfl, rfl⟩
theorem set_at {α : Type} {L : List α} {k : Nat} {g x : α} (hg : L[k]? = some g) : (L.set k x)[k]? = some x := by
  rw [List.getElem?_set_self (List.getElem?_eq_some_iff.1 hg).1]

theorem Ends_calls {S : Nat → Prop} {ad : Option Addr} {c k : Nat} (L : List G6) {n : Nat} {g : G6} (p q : Nat) {w : World} (H : Hp w S w [cR 56 6 ad n c (L.flatMap G6.cells)]) (hg : L[k]? = some g) (hn : n = L.length) : Calls Try.prog 46 #[.pointer (some ⟨ab ad, ao ad + k * 6, none⟩), .float .f64 p, .float .f64 q] w fun e w' => e = .returned (.tuple #[]) ∧ Hp w S w' [cR 56 6 ad n c ((L.set k (endsG g p q)).flatMap G6.cells)] := by
  refine Sx.calls_into Try.func46 rfl Try.ntmps46 rfl fun a hT => ?_
  replace hT := hT.keep [0, 1, 2] rfl
  refine wp_seq_k fun K1 hK1 => ?_
  refine wp_seq_k fun K2 hK2 => ?_
  -- region 0 (view.go:94)
  refine Sx.wp_text [(0, .take), (1, .take), (2, .take), (3, .run), (4, .take)] rfl ?_
  refine Sx.st_take hT rfl rfl rfl rfl (Sx.x_move hT rfl rfl) ?_
  clear hT; intro a hT
  refine Sx.st_take hT rfl rfl rfl rfl (Sx.x_nilCheck hT rfl rfl) ?_
  clear hT; intro a hT
  refine Sx.st_take hT rfl rfl rfl rfl (Sx.x_fieldAddr hT rfl Try.fa56_2 rfl) ?_
  clear hT; intro a hT
  refine Sx.st_run hT rfl rfl rfl rfl (Sx.x_load1 hT rfl Try.fl3 rfl (by first | exact (((H.row 0 rfl).ssn hn).cell (j := 2) G6.len hg rfl) | exact (((H.row 0 rfl).ssn hn).cell (j := 4) G6.len hg rfl) | exact (((H.row 0 rfl).ssn hn).cell (j := 5) G6.len hg rfl))) ?_
  clear hT; intro a hT
  refine Sx.st_take hT rfl rfl rfl rfl ((fun w => Sx.x_eq w hT rfl rfl rfl)) ?_
  clear hT; intro a hT
  replace hT := hT.keep [10, 0, 1, 2] rfl
  refine Sx.ser_nil ?_
  refine Sx.then_normal (hK2 _ _ ?_)
  clear hK2
  -- cond 0
  refine Sx.wp_if hT rfl (fun hc3 => ?_) (fun hc3 => ?_)
  · try simp only [decide_eq_true_eq, decide_eq_false_iff_not, Bool.not_eq_true', Bool.not_eq_false', Bool.not_eq_true, Bool.not_eq_false, Bool.and_eq_true, Bool.or_eq_false_iff, beq_iff_eq, bne_iff_ne, Int.not_lt, Int.not_le, ne_eq] at hc3
    have hn0 : g.nums = 0 := hc3
    refine wp_seq_k fun K4 hK4 => ?_
    -- region 1 (view.go:95)
    refine Sx.wp_text [(0, .take), (1, .take), (2, .take), (3, .run), (4, .take), (5, .run), (6, .take), (7, .take), (8, .run), (9, .take), (10, .take), (11, .run)] rfl ?_
    refine Sx.st_take hT rfl rfl rfl rfl (Sx.x_move hT rfl rfl) ?_
    clear hT; intro a hT
    refine Sx.st_take hT rfl rfl rfl rfl (Sx.x_move hT rfl rfl) ?_
    clear hT; intro a hT
    refine Sx.st_take hT rfl rfl rfl rfl (Sx.x_move hT rfl rfl) ?_
    clear hT; intro a hT
    refine Sx.st_call hT rfl rfl rfl rfl rfl Try.can68 rfl (Canon_calls _ _) ?_
    rintro _ w1 ⟨rfl, E⟩
    refine ⟨_, rfl, ?_⟩
    clear hT; intro a hT
    replace H := H.pure E; clear E
    refine Sx.st_take hT rfl rfl rfl rfl (Sx.x_move hT rfl rfl) ?_
    clear hT; intro a hT
    refine Sx.st_call hT rfl rfl rfl rfl rfl Try.can68 rfl (Canon_calls _ _) ?_
    rintro _ w2 ⟨rfl, E⟩
    refine ⟨_, rfl, ?_⟩
    clear hT; intro a hT
    replace H := H.pure E; clear E
    refine Sx.st_take hT rfl rfl rfl rfl (Sx.x_nilCheck hT rfl rfl) ?_
    clear hT; intro a hT
    refine Sx.st_take hT rfl rfl rfl rfl (Sx.x_fieldAddr hT rfl Try.fa56_4 rfl) ?_
    clear hT; intro a hT
    refine Sx.st_act hT rfl rfl rfl (Sx.x_storeRowF (k := k) (j := 4) (enc := G6.cells) (xs := L) (r := g) (r' := { g with least := fcan p }) hT rfl Try.ti46 rfl rfl rfl G6.len (H.row 0 rfl) hg hn (by decide) rfl) ?_
    rintro w3 ⟨hr, E, _⟩
    replace H := H.setR 0 rfl hr E (fun _ hk => .inl hk) rfl; clear hr E
    refine Sx.st_take hT rfl rfl rfl rfl (Sx.x_nilCheck hT rfl rfl) ?_
    clear hT; intro a hT
    refine Sx.st_take hT rfl rfl rfl rfl (Sx.x_fieldAddr hT rfl Try.fa56_5 rfl) ?_
    clear hT; intro a hT
    refine Sx.st_act hT rfl rfl rfl (Sx.x_storeRowF (k := k) (j := 5) (enc := G6.cells) (xs := (L.set k { g with least := fcan p })) (r := { g with least := fcan p }) (r' := { g with least := fcan p, most := fcan q }) hT rfl Try.ti46 rfl rfl rfl G6.len (H.row 0 rfl) (set_at hg) (by rw [List.length_set]; exact hn) (by decide) rfl) ?_
    rintro w4 ⟨hr, E, _⟩
    replace H := H.setR 0 rfl hr E (fun _ hk => .inl hk) rfl; clear hr E
    replace hT := hT.keep [10, 0, 1, 2] rfl
    refine Sx.ser_nil ?_
    refine Sx.then_normal (hK4 _ _ ?_)
    clear hK4
    refine wp_ret ?_
    refine Sx.then_ret ?_
    refine Sx.done0 (fn := Try.f46) hT rfl  ?_
    unfold endsG
    rw [if_pos hn0]
    rw [List.set_set] at H
    exact ⟨rfl, H⟩
  · try simp only [decide_eq_true_eq, decide_eq_false_iff_not, Bool.not_eq_true', Bool.not_eq_false', Bool.not_eq_true, Bool.not_eq_false, Bool.and_eq_true, Bool.or_eq_false_iff, beq_iff_eq, bne_iff_ne, Int.not_lt, Int.not_le, ne_eq] at hc3
    have hn0 : g.nums ≠ 0 := hc3
    refine wp_skip ?_
    refine Sx.then_normal (hK1 _ _ ?_)
    clear hK1
    -- region 2 (view.go:98)
    refine Sx.wp_draws (fun u => Sx.Ext (Sx.No) u) [(0, .take), (1, .take), (2, .take), (3, .take), (4, .take), (5, .held), (6, .take), (8, .take), (9, .take), (10, .take), (11, .held), (12, .take), (7, .keep), (13, .run), (14, .take), (15, .take), (16, .run), (17, .take), (18, .take), (19, .run)] (by kernel_rfl) (by kernel_rfl) (fun u E _ => ?_)
    replace H := H.pure E; clear E
    have hH : Sx.Ext (Sx.No) u u := Sx.Ext.refl _ _
    have Hu := H
    refine Sx.st_take hT rfl rfl rfl rfl (Sx.x_move hT rfl rfl) ?_
    clear hT; intro a hT
    refine Sx.st_take hT rfl rfl rfl rfl (Sx.x_move hT rfl rfl) ?_
    clear hT; intro a hT
    refine Sx.st_take hT rfl rfl rfl rfl (Sx.x_move hT rfl rfl) ?_
    clear hT; intro a hT
    refine Sx.st_take hT rfl rfl rfl rfl (Sx.x_nilCheck hT rfl rfl) ?_
    clear hT; intro a hT
    refine Sx.st_take hT rfl rfl rfl rfl (Sx.x_fieldAddr hT rfl Try.fa56_4 rfl) ?_
    clear hT; intro a hT
    refine Sx.st_held hT rfl rfl rfl rfl hH (fun w' h' => Sx.x_load1 hT rfl Try.fl46 rfl (by first | exact (((Hu.heldR 0 rfl h' Sx.off_No).ssn hn).cell (j := 2) G6.len hg rfl) | exact (((Hu.heldR 0 rfl h' Sx.off_No).ssn hn).cell (j := 4) G6.len hg rfl) | exact (((Hu.heldR 0 rfl h' Sx.off_No).ssn hn).cell (j := 5) G6.len hg rfl))) ?_
    clear hT; intro a hT
    refine Sx.st_take hT rfl rfl rfl rfl (Sx.x_move hT rfl rfl) ?_
    clear hT; intro a hT
    refine Sx.st_take hT rfl rfl rfl rfl (Sx.x_move hT rfl rfl) ?_
    clear hT; intro a hT
    refine Sx.st_take hT rfl rfl rfl rfl (Sx.x_nilCheck hT rfl rfl) ?_
    clear hT; intro a hT
    refine Sx.st_take hT rfl rfl rfl rfl (Sx.x_fieldAddr hT rfl Try.fa56_5 rfl) ?_
    clear hT; intro a hT
    refine Sx.st_held hT rfl rfl rfl rfl hH (fun w' h' => Sx.x_load1 hT rfl Try.fl46 rfl (by first | exact (((Hu.heldR 0 rfl h' Sx.off_No).ssn hn).cell (j := 2) G6.len hg rfl) | exact (((Hu.heldR 0 rfl h' Sx.off_No).ssn hn).cell (j := 4) G6.len hg rfl) | exact (((Hu.heldR 0 rfl h' Sx.off_No).ssn hn).cell (j := 5) G6.len hg rfl))) ?_
    clear hT; intro a hT
    refine Sx.st_take hT rfl rfl rfl rfl (Sx.x_move hT rfl rfl) ?_
    clear hT; intro a hT
    refine Sx.st_callkeep hT rfl rfl rfl rfl rfl Try.can69 rfl (Least_calls _ _ _) ?_
    rintro _ w5 ⟨rfl, E⟩
    refine ⟨_, rfl, hH.step E, ?_⟩
    replace hH := hH.step E
    clear hT; intro a hT
    replace H := H.pure E; clear E
    refine Sx.st_call hT rfl rfl rfl rfl rfl Try.can70 rfl (Most_calls _ _ _) ?_
    rintro _ w6 ⟨rfl, E⟩
    refine ⟨_, rfl, ?_⟩
    clear hT; intro a hT
    replace H := H.pure E; clear E
    refine Sx.st_take hT rfl rfl rfl rfl (Sx.x_nilCheck hT rfl rfl) ?_
    clear hT; intro a hT
    refine Sx.st_take hT rfl rfl rfl rfl (Sx.x_fieldAddr hT rfl Try.fa56_4 rfl) ?_
    clear hT; intro a hT
    refine Sx.st_act hT rfl rfl rfl (Sx.x_storeRowF (k := k) (j := 4) (enc := G6.cells) (xs := L) (r := g) (r' := { g with least := leastF g.least p }) hT rfl Try.ti46 rfl rfl rfl G6.len (H.row 0 rfl) hg hn (by decide) rfl) ?_
    rintro w7 ⟨hr, E, _⟩
    replace H := H.setR 0 rfl hr E (fun _ hk => .inl hk) rfl; clear hr E
    refine Sx.st_take hT rfl rfl rfl rfl (Sx.x_nilCheck hT rfl rfl) ?_
    clear hT; intro a hT
    refine Sx.st_take hT rfl rfl rfl rfl (Sx.x_fieldAddr hT rfl Try.fa56_5 rfl) ?_
    clear hT; intro a hT
    refine Sx.st_act hT rfl rfl rfl (Sx.x_storeRowF (k := k) (j := 5) (enc := G6.cells) (xs := (L.set k { g with least := leastF g.least p })) (r := { g with least := leastF g.least p }) (r' := { g with least := leastF g.least p, most := mostF g.most q }) hT rfl Try.ti46 rfl rfl rfl G6.len (H.row 0 rfl) (set_at hg) (by rw [List.length_set]; exact hn) (by decide) rfl) ?_
    rintro w8 ⟨hr, E, _⟩
    replace H := H.setR 0 rfl hr E (fun _ hk => .inl hk) rfl; clear hr E
    replace hT := hT.keep [10, 0, 1, 2] rfl
    clear Hu hH
    refine Sx.ser_calm ?_
    refine Sx.done_end ?_
    refine Sx.done0 (fn := Try.f46) hT rfl  ?_
    unfold endsG
    rw [if_neg hn0]
    rw [List.set_set] at H
    exact ⟨rfl, H⟩

end Go.Proofs.Ytakjfnckbidbcaa
