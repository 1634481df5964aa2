/- Walks: texts between quotes, joined. -/
import Derived.Test.YtainemoobhkeiaaDoorW9
import Derived.Test.YtainemoobhkeiaaDoorW6
import Derived.Test.YtainemoobhkeiaaDoorShelf
set_option linter.unusedSimpArgs false
set_option linter.unusedVariables false
namespace Go.Proofs.YtainemoobhkeiaaDoor
open Sx
theorem Tryd.ti5 : Sx.TI Tryd.prog 5 (.int .u8 0) 1 1 := .mk' (by kernel_rfl)
theorem Tryd.can38 : Sx.Can Tryd.prog 38 := ⟨_, Tryd.func38, by kernel_rfl, rfl⟩
def qb (s : List UInt8) (k : Nat) : List UInt8 := 34 :: (s.take k).flatMap esc
theorem qb_len (s : List UInt8) (k : Nat) : (qb s k).length ≤ 1 + 3 * s.length := by
  have h1 := flat_len (s.take k)
  have h2 := List.length_take_le' k s
  unfold qb
  rw [List.length_cons]
  omega
theorem qb_plain {s : List UInt8} {k : Nat} {c : UInt8} (h : s[k]? = some c) (hp : plainB c = true) : qb s (k + 1) = qb s k ++ [c] := by
  unfold qb
  rw [flat_snoc h, esc, if_pos hp]
  rfl
theorem qb_esc {s : List UInt8} {k : Nat} {c : UInt8} (h : s[k]? = some c) (hp : plainB c = false) : qb s (k + 1) = qb s k ++ [92, hexd.getD (c.toNat / 16) 0, hexd.getD (c.toNat % 16) 0] := by
  unfold qb
  rw [flat_snoc h, esc, if_neg (by simp [hp])]
  rfl
theorem qb_len1 {s : List UInt8} {k : Nat} {c : UInt8} (h : s[k]? = some c) (hp : plainB c = true) : (qb s k).length + 1 = (qb s (k + 1)).length := by rw [qb_plain h hp]; simp
theorem qb_len3 {s : List UInt8} {k : Nat} {c : UInt8} (h : s[k]? = some c) (hp : plainB c = false) : (qb s k).length + 3 = (qb s (k + 1)).length := by rw [qb_esc h hp]; simp
theorem qb_cells1 {s : List UInt8} {k : Nat} {c : UInt8} (h : s[k]? = some c) (hp : plainB c = true) : bcells (qb s k) ++ [.int .u8 c.toNat] = bcells (qb s (k + 1)) := by rw [qb_plain h hp, bcells_append]; rfl
theorem qb_cells3 {s : List UInt8} {k : Nat} {c : UInt8} (h : s[k]? = some c) (hp : plainB c = false) : bcells (qb s k) ++ [.int .u8 92, .int .u8 (hexd.getD (c.toNat / 16) 0).toNat, .int .u8 (hexd.getD (c.toNat % 16) 0).toNat] = bcells (qb s (k + 1)) := by rw [qb_esc h hp, bcells_append]; rfl
theorem qb_end (s : List UInt8) : qb s s.length ++ [34] = quote s := by unfold qb quote; rw [List.take_length]
theorem qb_endl (s : List UInt8) : (qb s s.length).length + 1 = (quote s).length := by rw [← qb_end]; simp
theorem qb_endc (s : List UInt8) : bcells (qb s s.length) ++ [.int .u8 34] = bcells (quote s) := by rw [← qb_end, bcells_append]; rfl
theorem byte_lt (c : UInt8) : c.toNat < 256 := c.toNat_lt

theorem Quote_calls (s : List UInt8) (w : World) (hl : s.length ≤ 100000) : Calls Tryd.prog 38 #[.string ⟨s.toArray⟩] w fun e w' => e = .returned (.string ⟨(quote s).toArray⟩) ∧ Ext No w w' := by
  refine Sx.calls_into Tryd.func38 rfl Tryd.ntmps38 rfl fun a hT => ?_
  replace hT := hT.keep [0] rfl
  have H : Sx.Hp w (Sx.No) w [] := Sx.Hp.start _ _
  refine wp_seq_k fun K1 hK1 => ?_
  -- region 0 (datum.go:106)
  refine Sx.wp_text [(0, .take)] rfl ?_
  refine Sx.st_take hT rfl rfl rfl rfl (Sx.x_assign hT rfl rfl) ?_
  clear hT; intro a hT
  replace hT := hT.keep [2, 0] rfl
  refine Sx.ser_nil ?_
  refine Sx.then_normal (hK1 _ _ ?_)
  clear hK1
  refine wp_seq_k fun K2 hK2 => ?_
  -- region 1 (datum.go:107)
  refine Sx.wp_text [(0, .run), (1, .take)] rfl ?_
  refine Sx.st_eff hT rfl rfl rfl rfl (Sx.y_slice1 hT rfl Tryd.underlying83 Tryd.ti5 rfl rfl rfl rfl rfl rfl _) ?_
  clear hT; rintro _ w1 ⟨b1, rfl, N⟩ a hT
  replace H := H.new N; clear N
  refine Sx.st_take hT rfl rfl rfl rfl (Sx.x_assign hT rfl rfl) ?_
  clear hT; intro a hT
  replace hT := hT.keep [3, 2, 0] rfl
  refine Sx.ser_nil ?_
  refine Sx.then_normal (hK2 _ _ ?_)
  clear hK2
  refine wp_seq_k fun K3 hK3 => ?_
  refine wp_seq_k fun K4 hK4 => ?_
  -- region 2 (datum.go:108)
  refine Sx.wp_text [(0, .take), (1, .take), (2, .take)] rfl ?_
  refine Sx.st_take hT rfl rfl rfl rfl (Sx.x_move hT rfl rfl) ?_
  clear hT; intro a hT
  refine Sx.st_take hT rfl rfl rfl rfl (Sx.x_lenStr hT rfl rfl Tryd.underlying9 rfl) ?_
  clear hT; intro a hT
  refine Sx.st_take hT rfl rfl rfl rfl (Sx.x_move hT rfl rfl) ?_
  clear hT; intro a hT
  replace hT := hT.keep [9, 8, 3, 2, 0] rfl
  refine Sx.ser_nil ?_
  refine Sx.then_normal (hK4 _ _ ?_)
  clear hK4
  refine wp_block ?_
  replace H := H.rowN 1 1 0 rfl rfl (by unfold maxLen; omega) rfl
  -- loop 0
  refine Sx.wp_loopH (G := Nat × Option Addr × Nat) (fun ⟨k, ad2, c2⟩ => [(9, .int .i64 (k : Int)), (3, .slice ad2 (qb s k).length c2)]) (fun ⟨k, ad2, c2⟩ => [cR 5 1 ad2 (qb s k).length c2 (bcells (qb s k))]) (fun ⟨k, ad2, c2⟩ => k ≤ s.length) (fun ⟨k, ad2, c2⟩ => s.length - k) (0, _, _) (hT.keep [9, 3, 8, 2, 0] rfl) (H.keep [0] rfl rfl) ((Nat.zero_le _)) ?_
  clear hT H
  rintro ⟨k, ad2, c2⟩ a w2 hJ hT H
  replace hT := hT.keep [9, 3, 8, 2, 0] rfl
  replace H := H.keep [0] rfl rfl
  have hk : k ≤ s.length := hJ
  have hql := qb_len s k
  refine wp_seq_k fun K5 hK5 => ?_
  -- region 3 (datum.go:108)
  refine Sx.wp_text [(0, .take)] rfl ?_
  refine Sx.st_take hT rfl rfl rfl rfl ((fun w => Sx.x_lt w hT rfl rfl rfl)) ?_
  clear hT; intro a hT
  replace hT := hT.keep [10, 9, 3, 8, 2, 0] rfl
  refine Sx.ser_nil ?_
  refine Sx.then_normal (hK5 _ _ ?_)
  clear hK5
  refine wp_seq_k fun K6 hK6 => ?_
  -- cond 0
  refine Sx.wp_if hT rfl (fun hc7 => ?_) (fun hc7 => ?_)
  · try simp only [decide_eq_true_eq, decide_eq_false_iff_not, Bool.not_eq_true', Bool.not_eq_false', Bool.not_eq_true, Bool.not_eq_false, Bool.and_eq_true, Bool.or_eq_false_iff, beq_iff_eq, bne_iff_ne, Int.not_lt, Int.not_le, ne_eq] at hc7
    obtain ⟨o, ho⟩ : ∃ o, s[k]? = some o := ⟨_, List.getElem?_eq_getElem (by omega)⟩
    refine wp_skip ?_
    refine Sx.then_normal (hK6 _ _ ?_)
    clear hK6
    refine wp_seq_k fun K8 hK8 => ?_
    refine wp_block ?_
    refine wp_seq_k fun K9 hK9 => ?_
    -- region 4 (datum.go:108)
    refine Sx.wp_text [(0, .take), (1, .take)] rfl ?_
    refine Sx.st_take hT rfl rfl rfl rfl (Sx.x_move hT rfl rfl) ?_
    clear hT; intro a hT
    refine Sx.st_take hT rfl rfl rfl rfl (Sx.x_assign hT rfl rfl) ?_
    clear hT; intro a hT
    replace hT := hT.keep [4, 10, 9, 3, 8, 2, 0] rfl
    refine Sx.ser_nil ?_
    refine Sx.then_normal (hK9 _ _ ?_)
    clear hK9
    refine wp_seq_k fun K10 hK10 => ?_
    -- region 5 (datum.go:109)
    refine Sx.wp_text [(0, .take), (1, .take), (2, .take), (3, .take)] rfl ?_
    refine Sx.st_take hT rfl rfl rfl rfl (Sx.x_move hT rfl rfl) ?_
    clear hT; intro a hT
    refine Sx.st_take hT rfl rfl rfl rfl (Sx.x_move hT rfl rfl) ?_
    clear hT; intro a hT
    refine Sx.st_take hT rfl rfl rfl rfl (Sx.x_indexStr hT rfl Tryd.underlying9 rfl rfl rfl ho) ?_
    clear hT; intro a hT
    refine Sx.st_take hT rfl rfl rfl rfl (Sx.x_assign hT rfl rfl) ?_
    clear hT; intro a hT
    replace hT := hT.keep [5, 4, 10, 9, 3, 8, 2, 0] rfl
    refine Sx.ser_nil ?_
    refine Sx.then_normal (hK10 _ _ ?_)
    clear hK10
    refine wp_seq_k fun K11 hK11 => ?_
    refine wp_seq_k fun K12 hK12 => ?_
    -- region 6 (datum.go:110)
    refine Sx.wp_text [(0, .take), (1, .run)] rfl ?_
    refine Sx.st_take hT rfl rfl rfl rfl (Sx.x_move hT rfl rfl) ?_
    clear hT; intro a hT
    refine Sx.st_call hT rfl rfl rfl rfl rfl Tryd.can50 rfl (plain_calls _ _) ?_
    rintro _ w3 ⟨rfl, E⟩
    refine ⟨_, rfl, ?_⟩
    clear hT; intro a hT
    replace H := H.pure E; clear E
    replace hT := hT.keep [16, 5, 4, 10, 9, 3, 8, 2, 0] rfl
    refine Sx.ser_nil ?_
    refine Sx.then_normal (hK12 _ _ ?_)
    clear hK12
    -- cond 1
    refine Sx.wp_if hT rfl (fun hc13 => ?_) (fun hc13 => ?_)
    · try simp only [decide_eq_true_eq, decide_eq_false_iff_not, Bool.not_eq_true', Bool.not_eq_false', Bool.not_eq_true, Bool.not_eq_false, Bool.and_eq_true, Bool.or_eq_false_iff, beq_iff_eq, bne_iff_ne, Int.not_lt, Int.not_le, ne_eq] at hc13
      have hpl := hc13
      refine wp_seq_k fun K14 hK14 => ?_
      -- region 7 (datum.go:111)
      refine Sx.wp_text [(0, .take), (1, .take), (2, .run), (3, .run), (4, .take)] rfl ?_
      refine Sx.st_take hT rfl rfl rfl rfl (Sx.x_move hT rfl rfl) ?_
      clear hT; intro a hT
      refine Sx.st_take hT rfl rfl rfl rfl (Sx.x_move hT rfl rfl) ?_
      clear hT; intro a hT
      refine Sx.st_eff hT rfl rfl rfl rfl (Sx.y_slice1 hT rfl Tryd.underlying83 Tryd.ti5 rfl rfl rfl rfl rfl rfl _) ?_
      clear hT; rintro _ w4 ⟨b2, rfl, N⟩ a hT
      replace H := H.new N; clear N
      refine Sx.st_eff hT rfl rfl rfl rfl (Sx.x_append hT rfl rfl Tryd.underlying83 Tryd.ti5 rfl (by decide) rfl rfl (H.row 1 rfl) ((H.blk 0 rfl).sv1 rfl) (by simp [Value.oneCell']) (fun h => by cases h) (by unfold maxLen; omega) (by omega)) ?_
      rintro _ w5 ⟨ad5, c5, rfl, hr, E, hown, -⟩
      clear hT; intro a hT
      replace H := H.setR 1 rfl hr E hown rfl; clear hr E hown
      refine Sx.st_take hT rfl rfl rfl rfl (Sx.x_assign hT rfl rfl) ?_
      clear hT; intro a hT
      replace hT := hT.keep [3, 16, 5, 4, 10, 9, 8, 2, 0] rfl
      refine Sx.ser_nil ?_
      refine Sx.then_normal (hK14 _ _ ?_)
      clear hK14
      refine wp_exit ?_
      refine Sx.then_exit ?_
      refine Sx.block_exit ?_
      refine Sx.then_normal (hK8 _ _ ?_)
      clear hK8
      -- region 9 (datum.go:108)
      refine Sx.wp_text [(0, .take), (1, .take)] rfl ?_
      refine Sx.st_take hT rfl rfl rfl rfl ((fun w => Sx.x_add w hT rfl rfl rfl (Sx.wrap64 (by omega)))) ?_
      clear hT; intro a hT
      refine Sx.st_take hT rfl rfl rfl rfl (Sx.x_move hT rfl rfl) ?_
      clear hT; intro a hT
      replace hT := hT.keep [9, 3, 16, 5, 4, 10, 8, 2, 0] rfl
      refine Sx.ser_nil ?_
      refine Sx.then_normal ?_
      rw [qb_len1 ho hpl] at hT H
      rw [qb_cells1 ho hpl] at H
      exact ⟨(k + 1, ad5, c5), (show k + 1 ≤ _ by omega), (hT.keep [9, 3, 8, 2, 0] rfl), (H.keep [1] rfl rfl), by show _ - (k + 1) < _ - k; omega⟩
    · try simp only [decide_eq_true_eq, decide_eq_false_iff_not, Bool.not_eq_true', Bool.not_eq_false', Bool.not_eq_true, Bool.not_eq_false, Bool.and_eq_true, Bool.or_eq_false_iff, beq_iff_eq, bne_iff_ne, Int.not_lt, Int.not_le, ne_eq] at hc13
      have hpl := hc13
      refine wp_skip ?_
      refine Sx.then_normal (hK11 _ _ ?_)
      clear hK11
      -- region 8 (datum.go:114)
      refine Sx.wp_draws (fun u => Sx.Ext (Sx.No) u) [(0, .take), (1, .take), (2, .take), (3, .take), (4, .take), (5, .take), (6, .take), (7, .run), (8, .run), (9, .take)] (by kernel_rfl) (by kernel_rfl) (fun u E _ => ?_)
      replace H := H.pure E; clear E
      refine Sx.st_take hT rfl rfl rfl rfl (Sx.x_move hT rfl rfl) ?_
      clear hT; intro a hT
      refine Sx.st_take hT rfl rfl rfl rfl (Sx.x_move hT rfl rfl) ?_
      clear hT; intro a hT
      refine Sx.st_take hT rfl rfl rfl rfl (Sx.x_shr4 hT rfl rfl rfl) ?_
      clear hT; intro a hT
      refine Sx.st_take hT rfl rfl rfl rfl (Sx.x_indexStr hT rfl Tryd.underlying9 rfl rfl rfl (hex_get (o.toNat / 16) (by have := byte_lt o; omega))) ?_
      clear hT; intro a hT
      refine Sx.st_take hT rfl rfl rfl rfl (Sx.x_move hT rfl rfl) ?_
      clear hT; intro a hT
      refine Sx.st_take hT rfl rfl rfl rfl ((Sx.x_and15 hT rfl rfl rfl (byte_lt o))) ?_
      clear hT; intro a hT
      refine Sx.st_take hT rfl rfl rfl rfl (Sx.x_indexStr hT rfl Tryd.underlying9 rfl rfl rfl (hex_get (o.toNat % 16) (by omega))) ?_
      clear hT; intro a hT
      refine Sx.st_eff hT rfl rfl rfl rfl (Sx.x_bldS hT rfl Tryd.underlying83 Tryd.ti5 rfl rfl rfl rfl rfl rfl rfl _) ?_
      clear hT; rintro _ w6 ⟨b3, rfl, N⟩ a hT
      replace H := H.new N; clear N
      refine Sx.st_eff hT rfl rfl rfl rfl (Sx.x_append hT rfl rfl Tryd.underlying83 Tryd.ti5 rfl (by decide) rfl rfl (H.row 1 rfl) (Blk.svn (m := 3) (sz := 1) (vs := [.int .u8 92, .int .u8 (hexd.getD (o.toNat / 16) 0).toNat, .int .u8 (hexd.getD (o.toNat % 16) 0).toNat]) (H.blk 0 rfl) rfl) (by simp [Value.oneCell']) (fun h => by cases h) (by unfold maxLen; omega) (by omega)) ?_
      rintro _ w7 ⟨ad7, c7, rfl, hr, E, hown, -⟩
      clear hT; intro a hT
      replace H := H.setR 1 rfl hr E hown rfl; clear hr E hown
      refine Sx.st_take hT rfl rfl rfl rfl (Sx.x_assign hT rfl rfl) ?_
      clear hT; intro a hT
      replace hT := hT.keep [3, 16, 5, 4, 10, 9, 8, 2, 0] rfl
      refine Sx.ser_calm ?_
      refine Sx.block_normal ?_
      refine Sx.then_normal (hK8 _ _ ?_)
      clear hK8
      -- region 9 (datum.go:108)
      refine Sx.wp_text [(0, .take), (1, .take)] rfl ?_
      refine Sx.st_take hT rfl rfl rfl rfl ((fun w => Sx.x_add w hT rfl rfl rfl (Sx.wrap64 (by omega)))) ?_
      clear hT; intro a hT
      refine Sx.st_take hT rfl rfl rfl rfl (Sx.x_move hT rfl rfl) ?_
      clear hT; intro a hT
      replace hT := hT.keep [9, 3, 16, 5, 4, 10, 8, 2, 0] rfl
      refine Sx.ser_nil ?_
      refine Sx.then_normal ?_
      rw [qb_len3 ho hpl] at hT H
      rw [qb_cells3 ho hpl] at H
      exact ⟨(k + 1, ad7, c7), (show k + 1 ≤ _ by omega), (hT.keep [9, 3, 8, 2, 0] rfl), (H.keep [1] rfl rfl), by show _ - (k + 1) < _ - k; omega⟩
  · try simp only [decide_eq_true_eq, decide_eq_false_iff_not, Bool.not_eq_true', Bool.not_eq_false', Bool.not_eq_true, Bool.not_eq_false, Bool.and_eq_true, Bool.or_eq_false_iff, beq_iff_eq, bne_iff_ne, Int.not_lt, Int.not_le, ne_eq] at hc7
    obtain rfl : k = s.length := by omega
    refine wp_exit ?_
    refine Sx.then_exit ?_
    refine Sx.then_exit ?_
    refine Sx.block_exit ?_
    refine Sx.then_normal (hK3 _ _ ?_)
    clear hK3
    refine wp_seq_k fun K15 hK15 => ?_
    -- region 10 (datum.go:116)
    refine Sx.wp_text [(0, .take), (1, .run), (2, .run), (3, .run), (4, .take)] rfl ?_
    refine Sx.st_take hT rfl rfl rfl rfl (Sx.x_move hT rfl rfl) ?_
    clear hT; intro a hT
    refine Sx.st_eff hT rfl rfl rfl rfl (Sx.y_slice1 hT rfl Tryd.underlying83 Tryd.ti5 rfl rfl rfl rfl rfl rfl _) ?_
    clear hT; rintro _ w8 ⟨b4, rfl, N⟩ a hT
    replace H := H.new N; clear N
    refine Sx.st_eff hT rfl rfl rfl rfl (Sx.x_append hT rfl rfl Tryd.underlying83 Tryd.ti5 rfl (by decide) rfl rfl (H.row 1 rfl) ((H.blk 0 rfl).sv1 rfl) (by simp [Value.oneCell']) (fun h => by cases h) (by unfold maxLen; omega) (by omega)) ?_
    rintro _ w9 ⟨ad9, c9, rfl, hr, E, hown, -⟩
    clear hT; intro a hT
    replace H := H.setR 1 rfl hr E hown rfl; clear hr E hown
    rw [qb_endl] at hT H
    rw [qb_endc] at H
    refine Sx.st_run hT rfl rfl rfl rfl (Sx.x_bytes_string hT rfl ((H.row 1 rfl).bs) Tryd.underlying83 Tryd.underlying5 Tryd.underlying9 rfl rfl) ?_
    clear hT; intro a hT
    refine Sx.st_take hT rfl rfl rfl rfl (Sx.x_assign hT rfl rfl) ?_
    clear hT; intro a hT
    replace hT := hT.keep [2, 10, 9, 3, 8, 0] rfl
    refine Sx.ser_nil ?_
    refine Sx.then_normal (hK15 _ _ ?_)
    clear hK15
    refine wp_ret ?_
    refine Sx.done1 (fn := Tryd.f38) hT rfl (.tmp (hT.get 2 _ rfl)) ?_
    exact ⟨rfl, H.ext⟩

end Go.Proofs.YtainemoobhkeiaaDoor
