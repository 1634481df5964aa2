/- Walks: what the chapter fixes. -/
import Derived.Test.YtainemoobhkeiaaDoorW10
set_option linter.unusedSimpArgs false
set_option linter.unusedVariables false
namespace Go.Proofs.YtainemoobhkeiaaDoor
open Sx
theorem Tryd.bld25 : Sx.Bld Tryd.prog 25 #[.int .i64 0, .float .f64 0, .string .empty] #[(0, 1), (1, 1), (2, 1)] := ⟨_, _, _, _, Tryd.ti25, rfl, Tryd.underlying25, fun w => by simp [Sx.placesOf, Sx.run_sizeOf Tryd.ti23, Sx.run_sizeOf Tryd.ti3, Sx.run_sizeOf Tryd.ti9]⟩
theorem Tryd.bld27 : Sx.Bld Tryd.prog 27 #[.string .empty, .string .empty, .int .i64 0, .int .i64 0, .float .f64 0, .string .empty, .int .i64 0, .float .f64 0, .string .empty, .bool false, .int .i64 0, .string .empty] #[(0, 1), (1, 1), (2, 1), (3, 3), (6, 3), (9, 1), (10, 1), (11, 1)] := ⟨_, _, _, _, Tryd.ti27, rfl, Tryd.underlying27, fun w => by simp [Sx.placesOf, Sx.run_sizeOf Tryd.ti25, Sx.run_sizeOf Tryd.ti3, Sx.run_sizeOf Tryd.ti4, Sx.run_sizeOf Tryd.ti9]⟩
theorem Tryd.bld45 : Sx.Bld Tryd.prog 45 #[.string .empty, .int .i64 0, .float .f64 0, .string .empty] #[(0, 1), (1, 3)] := ⟨_, _, _, _, Tryd.ti45, rfl, Tryd.underlying45, fun w => by simp [Sx.placesOf, Sx.run_sizeOf Tryd.ti25, Sx.run_sizeOf Tryd.ti9]⟩
theorem Tryd.can8 : Sx.Can Tryd.prog 8 := ⟨_, Tryd.func8, by kernel_rfl, rfl⟩
theorem Tryd.can23 : Sx.Can Tryd.prog 23 := ⟨_, Tryd.func23, by kernel_rfl, rfl⟩
theorem Tryd.can25 : Sx.Can Tryd.prog 25 := ⟨_, Tryd.func25, by kernel_rfl, rfl⟩
theorem Tryd.can39 : Sx.Can Tryd.prog 39 := ⟨_, Tryd.func39, by kernel_rfl, rfl⟩
theorem Tryd.can40 : Sx.Can Tryd.prog 40 := ⟨_, Tryd.func40, by kernel_rfl, rfl⟩
theorem Tryd.can41 : Sx.Can Tryd.prog 41 := ⟨_, Tryd.func41, by kernel_rfl, rfl⟩
theorem ext_below {w w' : World} (h : Go.RowKit.Below w.heap.size w w') : Ext No w w' := ⟨h.os, h.tape, h.output, h.size, fun k hk _ => h.block k hk⟩
def scell (s : List UInt8) : Value := .string ⟨s.toArray⟩
theorem Join_calls (ss : List (List UInt8)) (sep : List UInt8) {ad : Option Addr} {c : Nat} (w : World) (hr : Row w 9 1 ad ss.length c (ss.map scell)) (h0 : 0 < ss.length) (hlen : (Lib.join ss sep).length ≤ 140737488355328) (hN : ss.length ≤ 140737488355328) : Calls Tryd.prog 41 #[.slice ad ss.length c, .string ⟨sep.toArray⟩] w fun e w' => e = .returned (.string ⟨(Lib.join ss sep).toArray⟩) ∧ Ext No w w' := by
  have hle := hr.le
  obtain ⟨junk, ha, hB, -⟩ := hr.at_ (by omega)
  have e1 : (ss.map fun s => (⟨s.toArray⟩ : ByteArray)).length = ss.length := by simp
  have e2 : (ss.map fun s => (⟨s.toArray⟩ : ByteArray)).map (·.data.toList) = ss := by
    rw [List.map_map]
    conv => rhs; rw [← List.map_id ss]
    rfl
  have key := Tryd.strings_Join (ab ad) 0 c (ss.map fun s => (⟨s.toArray⟩ : ByteArray)) ⟨sep.toArray⟩ w (fun j x hx => by
    rw [Nat.zero_add]
    refine hB.cell ?_
    have hj : j < ss.length := by have := (List.getElem?_eq_some_iff.1 hx).1; rwa [e1] at this
    rw [List.getElem?_append_left (by simpa using hj), List.getElem?_map]
    rw [List.getElem?_map] at hx
    cases hs : ss[j]? with
    | none => rw [hs] at hx; cases hx
    | some s => rw [hs] at hx; cases hx; rfl) hB.lt (by rw [e1]; exact hN) (by rw [e1]; exact hle.1) (by rw [e2]; exact hlen)
  rw [e1, e2, ← ha] at key
  exact key.mono fun e w' h => ⟨h.1, ext_below h.2⟩

theorem Print_none (w : World) : Calls Tryd.prog 40 #[.agg #[.int .i64 0, .float .f64 0, .string ⟨([] : List UInt8).toArray⟩]] w fun e w' => e = .returned (.string ⟨([110, 111, 110, 101] : List UInt8).toArray⟩) ∧ Ext No w w' := by
  refine Sx.calls_into Tryd.func40 rfl Tryd.ntmps40 rfl fun a hT => ?_
  replace hT := hT.keep [0] rfl
  have H : Sx.Hp w (Sx.No) w [] := Sx.Hp.start _ _
  refine wp_seq_k fun K1 hK1 => ?_
  -- region 0 (datum.go:156)
  refine Sx.wp_text [(0, .run), (1, .take)] rfl ?_
  refine Sx.st_eff hT rfl rfl rfl rfl (Sx.y_box hT rfl rfl rfl _) ?_
  clear hT; rintro _ w1 ⟨b1, rfl, N⟩ a hT
  replace H := H.new N; clear N
  refine Sx.st_take hT rfl rfl rfl rfl (Sx.x_assign hT rfl rfl) ?_
  clear hT; intro a hT
  replace hT := hT.keep [2, 1, 0] rfl
  refine Sx.ser_nil ?_
  refine Sx.then_normal (hK1 _ _ ?_)
  clear hK1
  refine wp_seq_k fun K2 hK2 => ?_
  refine wp_block ?_
  refine wp_seq_k fun K3 hK3 => ?_
  -- region 1 (datum.go:158)
  refine Sx.wp_text [(0, .run), (1, .run), (2, .take), (3, .take)] rfl ?_
  refine Sx.st_run hT rfl rfl rfl rfl (Sx.y_loadS hT rfl Tryd.underlying25 Tryd.ti25 rfl ((H.blk 0 rfl).seg (k := 3) rfl) (by rfl)) ?_
  clear hT; intro a hT
  refine Sx.st_call hT rfl rfl rfl rfl rfl Tryd.can27 rfl (May_calls 0 0 [] _) ?_
  rintro _ w2 ⟨rfl, E⟩
  refine ⟨_, rfl, ?_⟩
  clear hT; intro a hT
  replace H := H.pure E; clear E
  refine Sx.st_take hT rfl rfl rfl rfl (Sx.x_not hT rfl rfl) ?_
  clear hT; intro a hT
  refine Sx.st_take hT rfl rfl rfl rfl (Sx.x_assign hT rfl rfl) ?_
  clear hT; intro a hT
  replace hT := hT.keep [3, 2, 1, 0] rfl
  refine Sx.ser_nil ?_
  refine Sx.then_normal (hK3 _ _ ?_)
  clear hK3
  -- cond 0
  refine Sx.wp_if hT rfl (fun hc4 => ?_) (fun hc4 => ?_)
  · exfalso
    try simp only [decide_eq_true_eq, decide_eq_false_iff_not, Bool.not_eq_true', Bool.not_eq_false', Bool.not_eq_true, Bool.not_eq_false, Bool.and_eq_true, Bool.or_eq_false_iff, beq_iff_eq, bne_iff_ne, Int.not_lt, Int.not_le, ne_eq] at hc4
    revert hc4; decide +kernel
  · try simp only [decide_eq_true_eq, decide_eq_false_iff_not, Bool.not_eq_true', Bool.not_eq_false', Bool.not_eq_true, Bool.not_eq_false, Bool.and_eq_true, Bool.or_eq_false_iff, beq_iff_eq, bne_iff_ne, Int.not_lt, Int.not_le, ne_eq] at hc4
    refine wp_seq_k fun K5 hK5 => ?_
    -- region 3 (datum.go:160)
    refine Sx.wp_text [(0, .take), (1, .run), (2, .take), (3, .take)] rfl ?_
    refine Sx.st_take hT rfl rfl rfl rfl (Sx.x_fieldAddr hT rfl Tryd.fa25_0 rfl) ?_
    clear hT; intro a hT
    refine Sx.st_run hT rfl rfl rfl rfl (Sx.x_load1 hT rfl Tryd.fl3 rfl ((H.blk 0 rfl).nth rfl)) ?_
    clear hT; intro a hT
    refine Sx.st_take hT rfl rfl rfl rfl ((fun w => Sx.x_eq w hT rfl rfl rfl)) ?_
    clear hT; intro a hT
    refine Sx.st_take hT rfl rfl rfl rfl (Sx.x_assign hT rfl rfl) ?_
    clear hT; intro a hT
    replace hT := hT.keep [7, 3, 2, 1, 0] rfl
    refine Sx.ser_nil ?_
    refine Sx.then_normal (hK5 _ _ ?_)
    clear hK5
    -- cond 1
    refine Sx.wp_if hT rfl (fun hc6 => ?_) (fun hc6 => ?_)
    · exfalso
      try simp only [decide_eq_true_eq, decide_eq_false_iff_not, Bool.not_eq_true', Bool.not_eq_false', Bool.not_eq_true, Bool.not_eq_false, Bool.and_eq_true, Bool.or_eq_false_iff, beq_iff_eq, bne_iff_ne, Int.not_lt, Int.not_le, ne_eq] at hc6
      revert hc6; decide
    · try simp only [decide_eq_true_eq, decide_eq_false_iff_not, Bool.not_eq_true', Bool.not_eq_false', Bool.not_eq_true, Bool.not_eq_false, Bool.and_eq_true, Bool.or_eq_false_iff, beq_iff_eq, bne_iff_ne, Int.not_lt, Int.not_le, ne_eq] at hc6
      refine wp_seq_k fun K7 hK7 => ?_
      -- region 5 (datum.go:162)
      refine Sx.wp_text [(0, .take), (1, .run), (2, .take), (3, .take)] rfl ?_
      refine Sx.st_take hT rfl rfl rfl rfl (Sx.x_fieldAddr hT rfl Tryd.fa25_0 rfl) ?_
      clear hT; intro a hT
      refine Sx.st_run hT rfl rfl rfl rfl (Sx.x_load1 hT rfl Tryd.fl3 rfl ((H.blk 0 rfl).nth rfl)) ?_
      clear hT; intro a hT
      refine Sx.st_take hT rfl rfl rfl rfl ((fun w => Sx.x_eq w hT rfl rfl rfl)) ?_
      clear hT; intro a hT
      refine Sx.st_take hT rfl rfl rfl rfl (Sx.x_assign hT rfl rfl) ?_
      clear hT; intro a hT
      replace hT := hT.keep [14, 7, 3, 2, 1, 0] rfl
      refine Sx.ser_nil ?_
      refine Sx.then_normal (hK7 _ _ ?_)
      clear hK7
      -- cond 2
      refine Sx.wp_if hT rfl (fun hc8 => ?_) (fun hc8 => ?_)
      · exfalso
        try simp only [decide_eq_true_eq, decide_eq_false_iff_not, Bool.not_eq_true', Bool.not_eq_false', Bool.not_eq_true, Bool.not_eq_false, Bool.and_eq_true, Bool.or_eq_false_iff, beq_iff_eq, bne_iff_ne, Int.not_lt, Int.not_le, ne_eq] at hc8
        revert hc8; decide
      · try simp only [decide_eq_true_eq, decide_eq_false_iff_not, Bool.not_eq_true', Bool.not_eq_false', Bool.not_eq_true, Bool.not_eq_false, Bool.and_eq_true, Bool.or_eq_false_iff, beq_iff_eq, bne_iff_ne, Int.not_lt, Int.not_le, ne_eq] at hc8
        refine wp_skip ?_
        refine Sx.block_normal ?_
        refine Sx.then_normal (hK2 _ _ ?_)
        clear hK2
        refine wp_seq_k fun K9 hK9 => ?_
        -- region 7 (datum.go:165)
        refine Sx.wp_text [(0, .take)] rfl ?_
        refine Sx.st_take hT rfl rfl rfl rfl (Sx.x_assign hT rfl rfl) ?_
        clear hT; intro a hT
        replace hT := hT.keep [2, 14, 7, 3, 1, 0] rfl
        refine Sx.ser_nil ?_
        refine Sx.then_normal (hK9 _ _ ?_)
        clear hK9
        refine wp_ret ?_
        refine Sx.done1 (fn := Tryd.f40) hT rfl (.tmp (hT.get 2 _ rfl)) ?_
        exact ⟨rfl, H.ext⟩

theorem Quote_nil (w : World) : Calls Tryd.prog 38 #[.string ⟨([] : List UInt8).toArray⟩] w fun e w' => e = .returned (.string ⟨([34, 34] : List UInt8).toArray⟩) ∧ Ext No w w' := by
  refine (Quote_calls [] w (by decide)).mono fun e w' h => ?_
  exact h
theorem Itoa_at (i : Nat) (hi : i < 10) (s : List UInt8) (hs : s = [UInt8.ofNat (48 + i)]) (w : World) : Calls Tryd.prog 39 #[.int .i64 (i : Int)] w fun e w' => e = .returned (.string ⟨s.toArray⟩) ∧ Ext No w w' := by
  refine (Tryd.strconv_Itoa_small i (by omega) w).mono fun e w' h => ?_
  rw [Lib.decDigits_one hi, ← hs] at h
  exact ⟨h.1, h.2 ▸ Ext.refl _ _⟩
def text2 : List UInt8 := [102, 114, 111, 109, 32, 34, 34, 32, 116, 111, 32, 34, 34, 32, 107, 105, 110, 100, 32, 48, 32, 108, 111, 32, 110, 111, 110, 101, 32, 104, 105, 32, 110, 111, 110, 101, 32, 109, 111, 115, 116, 32, 50, 32, 97, 102, 116, 101, 114, 32, 34, 34]
def words2 : List (List UInt8) := [[102, 114, 111, 109], [34, 34], [116, 111], [34, 34], [107, 105, 110, 100], [48], [108, 111], [110, 111, 110, 101], [104, 105], [110, 111, 110, 101], [109, 111, 115, 116], [50], [97, 102, 116, 101, 114], [34, 34]]
theorem join2 : Lib.join words2 [32] = text2 := by decide +kernel

theorem Print_two (w : World) : Calls Tryd.prog 23 #[.agg #[.string ⟨([] : List UInt8).toArray⟩, .string ⟨([] : List UInt8).toArray⟩, .int .i64 0, .int .i64 0, .float .f64 0, .string ⟨([] : List UInt8).toArray⟩, .int .i64 0, .float .f64 0, .string ⟨([] : List UInt8).toArray⟩, .bool false, .int .i64 2, .string ⟨([] : List UInt8).toArray⟩]] w fun e w' => e = .returned (.string ⟨text2.toArray⟩) ∧ Ext No w w' := by
  refine Sx.calls_into Tryd.func23 rfl Tryd.ntmps23 rfl fun a hT => ?_
  replace hT := hT.keep [0] rfl
  have H : Sx.Hp w (Sx.No) w [] := Sx.Hp.start _ _
  refine wp_seq_k fun K1 hK1 => ?_
  -- region 0 (scan.go:94)
  refine Sx.wp_text [(0, .run), (1, .take)] rfl ?_
  refine Sx.st_eff hT rfl rfl rfl rfl (Sx.y_box hT rfl rfl rfl _) ?_
  clear hT; rintro _ w1 ⟨b1, rfl, N⟩ a hT
  replace H := H.new N; clear N
  refine Sx.st_take hT rfl rfl rfl rfl (Sx.x_assign hT rfl rfl) ?_
  clear hT; intro a hT
  replace hT := hT.keep [2, 1, 0] rfl
  refine Sx.ser_nil ?_
  refine Sx.then_normal (hK1 _ _ ?_)
  clear hK1
  refine wp_seq_k fun K2 hK2 => ?_
  -- region 1 (scan.go:95)
  refine Sx.wp_draws (fun u => Sx.Ext (Sx.No) u) [(0, .take), (1, .held), (3, .take), (4, .held), (6, .take), (7, .held), (9, .take), (10, .held), (12, .take), (13, .held), (2, .keep), (5, .keep), (8, .keep), (11, .keep), (14, .run), (15, .run), (16, .take)] (by kernel_rfl) (by kernel_rfl) (fun u E _ => ?_)
  replace H := H.pure E; clear E
  have hH : Sx.Ext (Sx.No) u u := Sx.Ext.refl _ _
  have Hu := H
  refine Sx.st_take hT rfl rfl rfl rfl (Sx.x_fieldAddr hT rfl Tryd.fa27_0 rfl) ?_
  clear hT; intro a hT
  refine Sx.st_held hT rfl rfl rfl rfl hH (fun w' h' => Sx.x_load1 hT rfl Tryd.fl9 rfl ((Hu.heldB 0 rfl h' Sx.off_No).nth rfl)) ?_
  clear hT; intro a hT
  refine Sx.st_take hT rfl rfl rfl rfl (Sx.x_fieldAddr hT rfl Tryd.fa27_1 rfl) ?_
  clear hT; intro a hT
  refine Sx.st_held hT rfl rfl rfl rfl hH (fun w' h' => Sx.x_load1 hT rfl Tryd.fl9 rfl ((Hu.heldB 0 rfl h' Sx.off_No).nth rfl)) ?_
  clear hT; intro a hT
  refine Sx.st_take hT rfl rfl rfl rfl (Sx.x_fieldAddr hT rfl Tryd.fa27_2 rfl) ?_
  clear hT; intro a hT
  refine Sx.st_held hT rfl rfl rfl rfl hH (fun w' h' => Sx.x_load1 hT rfl Tryd.fl3 rfl ((Hu.heldB 0 rfl h' Sx.off_No).nth rfl)) ?_
  clear hT; intro a hT
  refine Sx.st_take hT rfl rfl rfl rfl (Sx.x_fieldAddr hT rfl Tryd.fa27_3 rfl) ?_
  clear hT; intro a hT
  refine Sx.st_held hT rfl rfl rfl rfl hH (fun w' h' => Sx.y_loadS hT rfl Tryd.underlying25 Tryd.ti25 rfl ((Hu.heldB 0 rfl h' Sx.off_No).seg (k := 3) rfl) (by rfl)) ?_
  clear hT; intro a hT
  refine Sx.st_take hT rfl rfl rfl rfl (Sx.x_fieldAddr hT rfl Tryd.fa27_4 rfl) ?_
  clear hT; intro a hT
  refine Sx.st_held hT rfl rfl rfl rfl hH (fun w' h' => Sx.y_loadS hT rfl Tryd.underlying25 Tryd.ti25 rfl ((Hu.heldB 0 rfl h' Sx.off_No).seg (k := 3) rfl) (by rfl)) ?_
  clear hT; intro a hT
  refine Sx.st_callkeep hT rfl rfl rfl rfl rfl Tryd.can38 rfl (Quote_nil _) ?_
  rintro _ w2 ⟨rfl, E⟩
  refine ⟨_, rfl, hH.step E, ?_⟩
  replace hH := hH.step E
  clear hT; intro a hT
  replace H := H.pure E; clear E
  refine Sx.st_callkeep hT rfl rfl rfl rfl rfl Tryd.can38 rfl (Quote_nil _) ?_
  rintro _ w3 ⟨rfl, E⟩
  refine ⟨_, rfl, hH.step E, ?_⟩
  replace hH := hH.step E
  clear hT; intro a hT
  replace H := H.pure E; clear E
  refine Sx.st_callkeep hT rfl rfl rfl rfl rfl Tryd.can39 rfl (Itoa_at 0 (by decide) [48] rfl _) ?_
  rintro _ w4 ⟨rfl, E⟩
  refine ⟨_, rfl, hH.step E, ?_⟩
  replace hH := hH.step E
  clear hT; intro a hT
  replace H := H.pure E; clear E
  refine Sx.st_callkeep hT rfl rfl rfl rfl rfl Tryd.can40 rfl (Print_none _) ?_
  rintro _ w5 ⟨rfl, E⟩
  refine ⟨_, rfl, hH.step E, ?_⟩
  replace hH := hH.step E
  clear hT; intro a hT
  replace H := H.pure E; clear E
  refine Sx.st_call hT rfl rfl rfl rfl rfl Tryd.can40 rfl (Print_none _) ?_
  rintro _ w6 ⟨rfl, E⟩
  refine ⟨_, rfl, ?_⟩
  clear hT; intro a hT
  replace H := H.pure E; clear E
  refine Sx.st_eff hT rfl rfl rfl rfl (Sx.x_bldS hT rfl Tryd.underlying74 Tryd.ti9 rfl rfl rfl rfl rfl rfl rfl _) ?_
  clear hT; rintro _ w7 ⟨b2, rfl, N⟩ a hT
  replace H := H.new N; clear N
  refine Sx.st_take hT rfl rfl rfl rfl (Sx.x_assign hT rfl rfl) ?_
  clear hT; intro a hT
  replace hT := hT.keep [3, 2, 1, 0] rfl
  clear Hu hH
  refine Sx.ser_calm ?_
  refine Sx.then_normal (hK2 _ _ ?_)
  clear hK2
  refine wp_seq_k fun K3 hK3 => ?_
  refine wp_seq_k fun K4 hK4 => ?_
  -- region 2 (scan.go:96)
  replace H := H.rowN 1 10 0 rfl rfl (by unfold maxLen; omega) rfl
  refine Sx.wp_text [(0, .take), (1, .run)] rfl ?_
  refine Sx.st_take hT rfl rfl rfl rfl (Sx.x_fieldAddr hT rfl Tryd.fa27_5 rfl) ?_
  clear hT; intro a hT
  refine Sx.st_run hT rfl rfl rfl rfl (Sx.x_load1 hT rfl Tryd.fl4 rfl ((H.blk 1 rfl).nth rfl)) ?_
  clear hT; intro a hT
  replace hT := hT.keep [21, 3, 2, 1, 0] rfl
  refine Sx.ser_nil ?_
  refine Sx.then_normal (hK4 _ _ ?_)
  clear hK4
  -- cond 0
  refine Sx.wp_if hT rfl (fun hc5 => ?_) (fun hc5 => ?_)
  · exfalso
    try simp only [decide_eq_true_eq, decide_eq_false_iff_not, Bool.not_eq_true', Bool.not_eq_false', Bool.not_eq_true, Bool.not_eq_false, Bool.and_eq_true, Bool.or_eq_false_iff, beq_iff_eq, bne_iff_ne, Int.not_lt, Int.not_le, ne_eq] at hc5
    cases hc5
  · try simp only [decide_eq_true_eq, decide_eq_false_iff_not, Bool.not_eq_true', Bool.not_eq_false', Bool.not_eq_true, Bool.not_eq_false, Bool.and_eq_true, Bool.or_eq_false_iff, beq_iff_eq, bne_iff_ne, Int.not_lt, Int.not_le, ne_eq] at hc5
    refine wp_skip ?_
    refine Sx.then_normal (hK3 _ _ ?_)
    clear hK3
    refine wp_seq_k fun K6 hK6 => ?_
    -- region 4 (scan.go:99)
    refine Sx.wp_draws (fun u => Sx.Ext (Sx.No) u) [(0, .take), (1, .take), (2, .held), (4, .take), (5, .held), (3, .keep), (6, .run), (7, .run), (8, .run), (9, .take)] (by kernel_rfl) (by kernel_rfl) (fun u E _ => ?_)
    replace H := H.pure E; clear E
    have hH : Sx.Ext (Sx.No) u u := Sx.Ext.refl _ _
    have Hu := H
    refine Sx.st_take hT rfl rfl rfl rfl (Sx.x_move hT rfl rfl) ?_
    clear hT; intro a hT
    refine Sx.st_take hT rfl rfl rfl rfl (Sx.x_fieldAddr hT rfl Tryd.fa27_6 rfl) ?_
    clear hT; intro a hT
    refine Sx.st_held hT rfl rfl rfl rfl hH (fun w' h' => Sx.x_load1 hT rfl Tryd.fl3 rfl ((Hu.heldB 1 rfl h' Sx.off_No).nth rfl)) ?_
    clear hT; intro a hT
    refine Sx.st_take hT rfl rfl rfl rfl (Sx.x_fieldAddr hT rfl Tryd.fa27_7 rfl) ?_
    clear hT; intro a hT
    refine Sx.st_held hT rfl rfl rfl rfl hH (fun w' h' => Sx.x_load1 hT rfl Tryd.fl9 rfl ((Hu.heldB 1 rfl h' Sx.off_No).nth rfl)) ?_
    clear hT; intro a hT
    refine Sx.st_callkeep hT rfl rfl rfl rfl rfl Tryd.can39 rfl (Itoa_at 2 (by decide) [50] rfl _) ?_
    rintro _ w8 ⟨rfl, E⟩
    refine ⟨_, rfl, hH.step E, ?_⟩
    replace hH := hH.step E
    clear hT; intro a hT
    replace H := H.pure E; clear E
    refine Sx.st_call hT rfl rfl rfl rfl rfl Tryd.can38 rfl (Quote_nil _) ?_
    rintro _ w9 ⟨rfl, E⟩
    refine ⟨_, rfl, ?_⟩
    clear hT; intro a hT
    replace H := H.pure E; clear E
    refine Sx.st_eff hT rfl rfl rfl rfl (Sx.x_bldS hT rfl Tryd.underlying74 Tryd.ti9 rfl rfl rfl rfl rfl rfl rfl _) ?_
    clear hT; rintro _ w10 ⟨b3, rfl, N⟩ a hT
    replace H := H.new N; clear N
    refine Sx.st_eff hT rfl rfl rfl rfl (Sx.x_append hT rfl rfl Tryd.underlying74 Tryd.ti9 rfl (by decide) rfl rfl (H.row 1 rfl) (Blk.svn (m := 4) (sz := 1) (vs := [scell [109, 111, 115, 116], scell [50], scell [97, 102, 116, 101, 114], scell [34, 34]]) (H.blk 0 rfl) rfl) (by intro u hu; simp only [List.mem_cons, List.not_mem_nil, or_false] at hu; rcases hu with rfl | rfl | rfl | rfl <;> rfl) (fun h => by cases h) (by unfold maxLen; omega) (by omega)) ?_
    rintro _ w11 ⟨ad11, c11, rfl, hr, E, hown, -⟩
    clear hT; intro a hT
    replace H := H.setR 1 rfl hr E hown rfl; clear hr E hown
    refine Sx.st_take hT rfl rfl rfl rfl (Sx.x_assign hT rfl rfl) ?_
    clear hT; intro a hT
    replace hT := hT.keep [3, 21, 2, 1, 0] rfl
    clear Hu hH
    refine Sx.ser_calm ?_
    refine Sx.then_normal (hK6 _ _ ?_)
    clear hK6
    refine wp_seq_k fun K7 hK7 => ?_
    -- region 5 (scan.go:100)
    refine Sx.wp_text [(0, .take), (1, .run), (2, .take)] rfl ?_
    refine Sx.st_take hT rfl rfl rfl rfl (Sx.x_move hT rfl rfl) ?_
    clear hT; intro a hT
    refine Sx.st_call hT rfl rfl rfl rfl rfl Tryd.can41 rfl (Join_calls words2 [32] _ (H.row 1 rfl) (by decide) (by decide +kernel) (by decide)) ?_
    rintro _ w12 ⟨rfl, E⟩
    refine ⟨_, rfl, ?_⟩
    clear hT; intro a hT
    replace H := H.pure E; clear E
    refine Sx.st_take hT rfl rfl rfl rfl (Sx.x_assign hT rfl rfl) ?_
    clear hT; intro a hT
    replace hT := hT.keep [2, 3, 21, 1, 0] rfl
    refine Sx.ser_nil ?_
    refine Sx.then_normal (hK7 _ _ ?_)
    clear hK7
    refine wp_ret ?_
    refine Sx.done1 (fn := Tryd.f23) hT rfl (.tmp (hT.get 2 _ rfl)) ?_
    rw [join2]
    exact ⟨rfl, H.ext⟩

def L3 : List Pair := [⟨[97], ⟨1, 4607182418800017408, []⟩⟩, ⟨[98], ⟨1, 4611686018427387904, []⟩⟩, ⟨[99], ⟨2, 0, [120]⟩⟩]
def Q3 (kind most : Int) (after : List UInt8) : Query := ⟨[], [], kind, ⟨0, 0, []⟩, ⟨0, 0, []⟩, false, most, after⟩
theorem Run_at (o : List Pair) (at_ : List UInt8) (r : Int) (ad : Option Addr) (c : Nat) (l : List Pair) (q : Query) (w : World) (hs : Ss w ad Pair.cells 4 l) (hl : l.length ≤ 1000) (h : runQ q l = (o, at_, r)) : Calls Tryd.prog 10 #[.slice ad l.length c, .agg #[.string ⟨q.fr.toArray⟩, .string ⟨q.to.toArray⟩, .int .i64 q.kind, .int .i64 q.lo.kind, .float .f64 q.lo.num, .string ⟨q.lo.text.toArray⟩, .int .i64 q.hi.kind, .float .f64 q.hi.num, .string ⟨q.hi.text.toArray⟩, .bool q.back, .int .i64 q.most, .string ⟨q.after.toArray⟩]] w fun e w' => ∃ ad' c', e = .returned (.tuple #[.slice ad' o.length c', .string ⟨at_.toArray⟩, .int .i64 r]) ∧ (ad' = none → o.length = 0 ∧ c' = 0) ∧ Hp w No w' [cW 45 4 ad' o.length (o.flatMap Pair.cells)] := by
  refine (Run_calls ad c l q w hs hl).mono fun e w' h9 => ?_
  rw [h] at h9
  exact h9
theorem Count_at (n : Nat) (r : Int) (ad : Option Addr) (c : Nat) (l : List Pair) (q : Query) (w : World) (hs : Ss w ad Pair.cells 4 l) (hl : l.length ≤ 1000) (h : ((allQ q [] l).1.length, (allQ q [] l).2) = (n, r)) : Calls Tryd.prog 15 #[.slice ad l.length c, .agg #[.string ⟨q.fr.toArray⟩, .string ⟨q.to.toArray⟩, .int .i64 q.kind, .int .i64 q.lo.kind, .float .f64 q.lo.num, .string ⟨q.lo.text.toArray⟩, .int .i64 q.hi.kind, .float .f64 q.hi.num, .string ⟨q.hi.text.toArray⟩, .bool q.back, .int .i64 q.most, .string ⟨q.after.toArray⟩]] w fun e w' => e = .returned (.tuple #[.int .i64 n, .int .i64 r]) ∧ Ext No w w' := by
  refine (Count_calls ad c l q w hs hl).mono fun e w' h9 => ?_
  obtain ⟨h1, h2⟩ := Prod.mk.inj h
  rw [h1, h2] at h9
  exact h9

theorem Number_two (w : World) : Calls Tryd.prog 25 #[.float .f64 4611686018427387904] w fun e w' => e = .returned (.agg #[.int .i64 1, .float .f64 4611686018427387904, .string ⟨([] : List UInt8).toArray⟩]) ∧ Ext No w w' := by
  refine Sx.calls_into Tryd.func25 rfl Tryd.ntmps25 rfl fun a hT => ?_
  replace hT := hT.keep [0] rfl
  have H : Sx.Hp w (Sx.No) w [] := Sx.Hp.start _ _
  refine wp_seq_k fun K1 hK1 => ?_
  -- region 0 (ref.go:50)
  refine Sx.wp_text [(0, .run)] rfl ?_
  refine Sx.st_eff hT rfl rfl rfl rfl (Sx.y_alloc hT rfl Tryd.ti25 rfl _) ?_
  clear hT; rintro _ w1 ⟨b1, rfl, N⟩ a hT
  replace H := H.new N; clear N
  replace hT := hT.keep [2, 0] rfl
  refine Sx.ser_nil ?_
  refine Sx.then_normal (hK1 _ _ ?_)
  clear hK1
  refine wp_seq_k fun K2 hK2 => ?_
  -- region 1 (ref.go:50)
  refine Sx.wp_text [(0, .take), (1, .run), (2, .take), (3, .run)] rfl ?_
  refine Sx.st_take hT rfl rfl rfl rfl (Sx.x_move hT rfl rfl) ?_
  clear hT; intro a hT
  refine Sx.st_call hT rfl rfl rfl rfl rfl Tryd.can42 rfl (xCanon_calls _ _) ?_
  rintro _ w2 ⟨rfl, E⟩
  refine ⟨_, rfl, ?_⟩
  clear hT; intro a hT
  replace H := H.pure E; clear E
  refine Sx.st_take hT rfl rfl rfl rfl (Sx.x_bld hT rfl Tryd.bld25 rfl rfl) ?_
  clear hT; intro a hT
  refine Sx.st_act hT rfl rfl rfl (Sx.y_storeS hT rfl Tryd.ti25 rfl rfl rfl rfl rfl (H.blk 0 rfl) rfl) ?_
  rintro w3 ⟨hb, E, _⟩
  replace H := H.setB 0 rfl hb E rfl; clear hb E
  replace hT := hT.keep [2, 0] rfl
  refine Sx.ser_nil ?_
  refine Sx.then_normal (hK2 _ _ ?_)
  clear hK2
  refine wp_ret ?_
  refine Sx.done1 (fn := Tryd.f25) hT rfl (.cell (hT.get 2 _ rfl) (Sx.run_resS Tryd.underlying25 Tryd.ti25 ((H.blk 0 rfl).seg (k := 3) rfl) (by rfl))) ?_
  rw [show bits 4611686018427387904 = 4611686018427387904 from by decide +kernel]
  exact ⟨rfl, H.ext⟩

theorem first_calls (w : World) : Calls Tryd.prog 8 #[] w fun e w' => e = .returned (.bool true) ∧ Ext No w w' := by
  show Calls Tryd.prog 8 ([] : List Value).toArray w _
  refine Sx.calls_into Tryd.func8 rfl Tryd.ntmps8 rfl fun a hT => ?_
  replace hT := hT.keep [] rfl
  have H : Sx.Hp w (Sx.No) w [] := Sx.Hp.start _ _
  refine wp_seq_k fun K1 hK1 => ?_
  -- region 0 (law.go:15)
  refine Sx.wp_text [(0, .take)] rfl ?_
  refine Sx.st_take hT rfl rfl rfl rfl (Sx.x_assign hT rfl rfl) ?_
  clear hT; intro a hT
  replace hT := hT.keep [0] rfl
  refine Sx.ser_nil ?_
  refine Sx.then_normal (hK1 _ _ ?_)
  clear hK1
  refine wp_seq_k fun K2 hK2 => ?_
  -- region 1 (law.go:16)
  refine Sx.wp_text [(0, .take), (1, .run), (2, .run)] rfl ?_
  refine Sx.st_take hT rfl rfl rfl rfl (Sx.x_bld hT rfl Tryd.bld25 rfl rfl) ?_
  clear hT; intro a hT
  refine Sx.st_eff hT rfl rfl rfl rfl (Sx.y_alloc hT rfl Tryd.ti25 rfl _) ?_
  clear hT; rintro _ w1 ⟨b1, rfl, N⟩ a hT
  replace H := H.new N; clear N
  refine Sx.st_act hT rfl rfl rfl (Sx.y_storeS hT rfl Tryd.ti25 rfl rfl rfl rfl rfl (H.blk 0 rfl) rfl) ?_
  rintro w2 ⟨hb, E, _⟩
  replace H := H.setB 0 rfl hb E rfl; clear hb E
  replace hT := hT.keep [1, 0] rfl
  refine Sx.ser_nil ?_
  refine Sx.then_normal (hK2 _ _ ?_)
  clear hK2
  refine wp_seq_k fun K3 hK3 => ?_
  -- region 2 (law.go:17)
  refine Sx.wp_draws (fun u => Sx.Ext (Sx.No) u) [(0, .held), (1, .take), (4, .take), (5, .take), (2, .keep), (3, .take), (6, .run), (7, .take)] (by kernel_rfl) (by kernel_rfl) (fun u E _ => ?_)
  replace H := H.pure E; clear E
  have hH : Sx.Ext (Sx.No) u u := Sx.Ext.refl _ _
  have Hu := H
  refine Sx.st_held hT rfl rfl rfl rfl hH (fun w' h' => Sx.y_loadS hT rfl Tryd.underlying25 Tryd.ti25 rfl ((Hu.heldB 0 rfl h' Sx.off_No).seg (k := 3) rfl) (by rfl)) ?_
  clear hT; intro a hT
  refine Sx.st_take hT rfl rfl rfl rfl (Sx.x_bld hT rfl Tryd.bld45 rfl rfl) ?_
  clear hT; intro a hT
  refine Sx.st_take hT rfl rfl rfl rfl (Sx.x_bld hT rfl Tryd.bld25 rfl rfl) ?_
  clear hT; intro a hT
  refine Sx.st_take hT rfl rfl rfl rfl (Sx.x_bld hT rfl Tryd.bld45 rfl rfl) ?_
  clear hT; intro a hT
  refine Sx.st_callkeep hT rfl rfl rfl rfl rfl Tryd.can25 rfl (Number_two _) ?_
  rintro _ w3 ⟨rfl, E⟩
  refine ⟨_, rfl, hH.step E, ?_⟩
  replace hH := hH.step E
  clear hT; intro a hT
  replace H := H.pure E; clear E
  refine Sx.st_take hT rfl rfl rfl rfl (Sx.x_bld hT rfl Tryd.bld45 rfl rfl) ?_
  clear hT; intro a hT
  refine Sx.st_eff hT rfl rfl rfl rfl (Sx.x_bldS hT rfl Tryd.underlying22 Tryd.ti45 rfl rfl rfl rfl rfl rfl rfl _) ?_
  clear hT; rintro _ w4 ⟨b2, rfl, N⟩ a hT
  replace H := H.new N; clear N
  refine Sx.st_take hT rfl rfl rfl rfl (Sx.x_assign hT rfl rfl) ?_
  clear hT; intro a hT
  replace hT := hT.keep [2, 1, 0] rfl
  clear Hu hH
  refine Sx.ser_calm ?_
  refine Sx.then_normal (hK3 _ _ ?_)
  clear hK3
  refine wp_seq_k fun K4 hK4 => ?_
  -- region 3 (law.go:18)
  refine Sx.wp_text [(0, .take), (1, .take), (2, .run), (3, .take), (4, .take), (5, .take), (6, .take), (7, .take), (8, .take), (9, .take)] rfl ?_
  refine Sx.st_take hT rfl rfl rfl rfl (Sx.x_move hT rfl rfl) ?_
  clear hT; intro a hT
  refine Sx.st_take hT rfl rfl rfl rfl (Sx.x_bld hT rfl Tryd.bld27 rfl rfl) ?_
  clear hT; intro a hT
  refine Sx.st_call hT rfl rfl rfl rfl rfl Tryd.can10 rfl (Run_at [⟨[97], ⟨1, 4607182418800017408, []⟩⟩, ⟨[98], ⟨1, 4611686018427387904, []⟩⟩] [98] 0 _ _ L3 (Q3 0 2 []) _ (Blk.svn (m := 3) (sz := 4) (H.blk 0 rfl) rfl) (by decide) (by decide +kernel)) ?_
  rintro _ w5 ⟨ad93, c93, rfl, -, K⟩
  refine ⟨_, rfl, ?_⟩
  clear hT; intro a hT
  replace H := H.more K rfl; clear K
  refine Sx.st_take hT rfl rfl rfl rfl (Sx.x_move hT rfl rfl) ?_
  clear hT; intro a hT
  refine Sx.st_take hT rfl rfl rfl rfl (Sx.x_extractL hT rfl rfl rfl) ?_
  clear hT; intro a hT
  refine Sx.st_take hT rfl rfl rfl rfl (Sx.x_extractL hT rfl rfl rfl) ?_
  clear hT; intro a hT
  refine Sx.st_take hT rfl rfl rfl rfl (Sx.x_extractL hT rfl rfl rfl) ?_
  clear hT; intro a hT
  refine Sx.st_take hT rfl rfl rfl rfl (Sx.x_assign hT rfl rfl) ?_
  clear hT; intro a hT
  refine Sx.st_take hT rfl rfl rfl rfl (Sx.x_assign hT rfl rfl) ?_
  clear hT; intro a hT
  refine Sx.st_take hT rfl rfl rfl rfl (Sx.x_assign hT rfl rfl) ?_
  clear hT; intro a hT
  replace hT := hT.keep [5, 4, 3, 2, 1, 0] rfl
  refine Sx.ser_nil ?_
  refine Sx.then_normal (hK4 _ _ ?_)
  clear hK4
  refine wp_seq_k fun K5 hK5 => ?_
  -- region 4 (law.go:19)
  refine Sx.wp_text [(0, .take), (1, .take), (2, .run), (3, .take), (4, .take), (5, .take), (6, .take), (7, .take), (8, .take), (9, .take)] rfl ?_
  refine Sx.st_take hT rfl rfl rfl rfl (Sx.x_move hT rfl rfl) ?_
  clear hT; intro a hT
  refine Sx.st_take hT rfl rfl rfl rfl (Sx.x_bld hT rfl Tryd.bld27 rfl rfl) ?_
  clear hT; intro a hT
  refine Sx.st_call hT rfl rfl rfl rfl rfl Tryd.can10 rfl (Run_at [⟨[99], ⟨2, 0, [120]⟩⟩] [] 0 _ _ L3 (Q3 0 2 [98]) _ (Blk.svn (m := 3) (sz := 4) (H.blk 1 rfl) rfl) (by decide) (by decide +kernel)) ?_
  rintro _ w6 ⟨ad94, c94, rfl, -, K⟩
  refine ⟨_, rfl, ?_⟩
  clear hT; intro a hT
  replace H := H.more K rfl; clear K
  refine Sx.st_take hT rfl rfl rfl rfl (Sx.x_move hT rfl rfl) ?_
  clear hT; intro a hT
  refine Sx.st_take hT rfl rfl rfl rfl (Sx.x_extractL hT rfl rfl rfl) ?_
  clear hT; intro a hT
  refine Sx.st_take hT rfl rfl rfl rfl (Sx.x_extractL hT rfl rfl rfl) ?_
  clear hT; intro a hT
  refine Sx.st_take hT rfl rfl rfl rfl (Sx.x_extractL hT rfl rfl rfl) ?_
  clear hT; intro a hT
  refine Sx.st_take hT rfl rfl rfl rfl (Sx.x_assign hT rfl rfl) ?_
  clear hT; intro a hT
  refine Sx.st_take hT rfl rfl rfl rfl (Sx.x_assign hT rfl rfl) ?_
  clear hT; intro a hT
  refine Sx.st_take hT rfl rfl rfl rfl (Sx.x_assign hT rfl rfl) ?_
  clear hT; intro a hT
  replace hT := hT.keep [8, 7, 6, 5, 4, 3, 2, 1, 0] rfl
  refine Sx.ser_nil ?_
  refine Sx.then_normal (hK5 _ _ ?_)
  clear hK5
  refine wp_seq_k fun K6 hK6 => ?_
  -- region 5 (law.go:20)
  refine Sx.wp_text [(0, .take), (1, .take), (2, .run), (3, .take), (4, .take), (5, .take), (6, .take), (7, .take)] rfl ?_
  refine Sx.st_take hT rfl rfl rfl rfl (Sx.x_move hT rfl rfl) ?_
  clear hT; intro a hT
  refine Sx.st_take hT rfl rfl rfl rfl (Sx.x_bld hT rfl Tryd.bld27 rfl rfl) ?_
  clear hT; intro a hT
  refine Sx.st_call hT rfl rfl rfl rfl rfl Tryd.can15 rfl (Count_at 2 0 _ _ L3 (Q3 1 1 []) _ (Blk.svn (m := 3) (sz := 4) (H.blk 2 rfl) rfl) (by decide) (by decide +kernel)) ?_
  rintro _ w7 ⟨rfl, E⟩
  refine ⟨_, rfl, ?_⟩
  clear hT; intro a hT
  replace H := H.pure E; clear E
  refine Sx.st_take hT rfl rfl rfl rfl (Sx.x_move hT rfl rfl) ?_
  clear hT; intro a hT
  refine Sx.st_take hT rfl rfl rfl rfl (Sx.x_extractL hT rfl rfl rfl) ?_
  clear hT; intro a hT
  refine Sx.st_take hT rfl rfl rfl rfl (Sx.x_extractL hT rfl rfl rfl) ?_
  clear hT; intro a hT
  refine Sx.st_take hT rfl rfl rfl rfl (Sx.x_assign hT rfl rfl) ?_
  clear hT; intro a hT
  refine Sx.st_take hT rfl rfl rfl rfl (Sx.x_assign hT rfl rfl) ?_
  clear hT; intro a hT
  replace hT := hT.keep [10, 9, 8, 7, 6, 5, 4, 3, 2, 1, 0] rfl
  refine Sx.ser_nil ?_
  refine Sx.then_normal (hK6 _ _ ?_)
  clear hK6
  refine wp_seq_k fun K7 hK7 => ?_
  -- region 6 (law.go:21)
  refine Sx.wp_text [(0, .take), (1, .take), (2, .run), (3, .take), (4, .take), (5, .take), (6, .take), (7, .take), (8, .take), (9, .take)] rfl ?_
  refine Sx.st_take hT rfl rfl rfl rfl (Sx.x_move hT rfl rfl) ?_
  clear hT; intro a hT
  refine Sx.st_take hT rfl rfl rfl rfl (Sx.x_bld hT rfl Tryd.bld27 rfl rfl) ?_
  clear hT; intro a hT
  refine Sx.st_call hT rfl rfl rfl rfl rfl Tryd.can10 rfl (Run_at [] [] 1 _ _ L3 (Q3 0 0 []) _ (Blk.svn (m := 3) (sz := 4) (H.blk 2 rfl) rfl) (by decide) (by decide +kernel)) ?_
  rintro _ w8 ⟨ad96, c96, rfl, -, K⟩
  refine ⟨_, rfl, ?_⟩
  clear hT; intro a hT
  replace H := H.more K rfl; clear K
  refine Sx.st_take hT rfl rfl rfl rfl (Sx.x_move hT rfl rfl) ?_
  clear hT; intro a hT
  refine Sx.st_take hT rfl rfl rfl rfl (Sx.x_extractL hT rfl rfl rfl) ?_
  clear hT; intro a hT
  refine Sx.st_take hT rfl rfl rfl rfl (Sx.x_extractL hT rfl rfl rfl) ?_
  clear hT; intro a hT
  refine Sx.st_take hT rfl rfl rfl rfl (Sx.x_extractL hT rfl rfl rfl) ?_
  clear hT; intro a hT
  refine Sx.st_take hT rfl rfl rfl rfl (Sx.x_assign hT rfl rfl) ?_
  clear hT; intro a hT
  refine Sx.st_take hT rfl rfl rfl rfl (Sx.x_assign hT rfl rfl) ?_
  clear hT; intro a hT
  refine Sx.st_take hT rfl rfl rfl rfl (Sx.x_assign hT rfl rfl) ?_
  clear hT; intro a hT
  replace hT := hT.keep [13, 10, 9, 8, 7, 6, 5, 4, 3, 2, 1, 0] rfl
  refine Sx.ser_nil ?_
  refine Sx.then_normal (hK7 _ _ ?_)
  clear hK7
  refine wp_seq_k fun K8 hK8 => ?_
  -- region 7 (law.go:22)
  refine Sx.wp_text [(0, .take), (1, .take), (2, .take), (3, .take), (4, .take), (5, .take), (6, .take), (7, .take), (8, .take), (9, .take), (10, .take), (11, .take), (12, .take), (13, .take), (14, .take), (15, .take), (16, .take), (17, .take), (18, .take), (19, .take), (20, .take), (21, .take), (22, .take), (23, .take), (24, .take), (25, .take), (26, .take), (27, .take), (28, .take), (29, .take), (30, .take), (31, .take), (32, .take), (33, .take), (34, .take), (35, .take), (36, .take), (37, .take), (38, .run), (39, .take), (40, .take), (41, .take)] rfl ?_
  refine Sx.st_take hT rfl rfl rfl rfl (Sx.x_move hT rfl rfl) ?_
  clear hT; intro a hT
  refine Sx.st_take hT rfl rfl rfl rfl (Sx.x_len_slice hT rfl rfl Tryd.underlying22 rfl) ?_
  clear hT; intro a hT
  refine Sx.st_take hT rfl rfl rfl rfl ((fun w => Sx.x_eq w hT rfl rfl rfl)) ?_
  clear hT; intro a hT
  refine Sx.st_take hT rfl rfl rfl rfl (Sx.x_move hT rfl rfl) ?_
  clear hT; intro a hT
  -- guard (7, 3)
  refine Sx.Sl.two hT 52 rfl (fun hc9 hT => ?_) (fun hc9 hT => ?_)
  · try simp only [decide_eq_true_eq, decide_eq_false_iff_not, Bool.not_eq_true', Bool.not_eq_false', Bool.not_eq_true, Bool.not_eq_false, Bool.and_eq_true, Bool.or_eq_false_iff, beq_iff_eq, bne_iff_ne, Int.not_lt, Int.not_le, ne_eq] at hc9
    refine Sx.st_take hT rfl rfl rfl rfl (Sx.x_move hT rfl rfl) ?_
    clear hT; intro a hT
    refine Sx.st_take hT rfl rfl rfl rfl ((fun w => Sx.x_streq w hT rfl rfl rfl)) ?_
    clear hT; intro a hT
    refine Sx.st_take hT rfl rfl rfl rfl (Sx.x_pick_t hT rfl rfl rfl) ?_
    clear hT; intro a hT
    refine Sx.st_take hT rfl rfl rfl rfl (Sx.x_move hT rfl rfl) ?_
    clear hT; intro a hT
    -- guard (7, 7)
    refine Sx.Sl.two hT 56 rfl (fun hc10 hT => ?_) (fun hc10 hT => ?_)
    · try simp only [decide_eq_true_eq, decide_eq_false_iff_not, Bool.not_eq_true', Bool.not_eq_false', Bool.not_eq_true, Bool.not_eq_false, Bool.and_eq_true, Bool.or_eq_false_iff, beq_iff_eq, bne_iff_ne, Int.not_lt, Int.not_le, ne_eq] at hc10
      refine Sx.st_take hT rfl rfl rfl rfl (Sx.x_move hT rfl rfl) ?_
      clear hT; intro a hT
      refine Sx.st_take hT rfl rfl rfl rfl ((fun w => Sx.x_eq w hT rfl rfl rfl)) ?_
      clear hT; intro a hT
      refine Sx.st_take hT rfl rfl rfl rfl (Sx.x_pick_t hT rfl rfl rfl) ?_
      clear hT; intro a hT
      refine Sx.st_take hT rfl rfl rfl rfl (Sx.x_move hT rfl rfl) ?_
      clear hT; intro a hT
      -- guard (7, 11)
      refine Sx.Sl.two hT 60 rfl (fun hc11 hT => ?_) (fun hc11 hT => ?_)
      · try simp only [decide_eq_true_eq, decide_eq_false_iff_not, Bool.not_eq_true', Bool.not_eq_false', Bool.not_eq_true, Bool.not_eq_false, Bool.and_eq_true, Bool.or_eq_false_iff, beq_iff_eq, bne_iff_ne, Int.not_lt, Int.not_le, ne_eq] at hc11
        refine Sx.st_take hT rfl rfl rfl rfl (Sx.x_move hT rfl rfl) ?_
        clear hT; intro a hT
        refine Sx.st_take hT rfl rfl rfl rfl (Sx.x_len_slice hT rfl rfl Tryd.underlying22 rfl) ?_
        clear hT; intro a hT
        refine Sx.st_take hT rfl rfl rfl rfl ((fun w => Sx.x_eq w hT rfl rfl rfl)) ?_
        clear hT; intro a hT
        refine Sx.st_take hT rfl rfl rfl rfl (Sx.x_pick_t hT rfl rfl rfl) ?_
        clear hT; intro a hT
        refine Sx.st_take hT rfl rfl rfl rfl (Sx.x_move hT rfl rfl) ?_
        clear hT; intro a hT
        -- guard (7, 16)
        refine Sx.Sl.two hT 65 rfl (fun hc12 hT => ?_) (fun hc12 hT => ?_)
        · try simp only [decide_eq_true_eq, decide_eq_false_iff_not, Bool.not_eq_true', Bool.not_eq_false', Bool.not_eq_true, Bool.not_eq_false, Bool.and_eq_true, Bool.or_eq_false_iff, beq_iff_eq, bne_iff_ne, Int.not_lt, Int.not_le, ne_eq] at hc12
          refine Sx.st_take hT rfl rfl rfl rfl (Sx.x_move hT rfl rfl) ?_
          clear hT; intro a hT
          refine Sx.st_take hT rfl rfl rfl rfl ((fun w => Sx.x_streq w hT rfl rfl rfl)) ?_
          clear hT; intro a hT
          refine Sx.st_take hT rfl rfl rfl rfl (Sx.x_pick_t hT rfl rfl rfl) ?_
          clear hT; intro a hT
          refine Sx.st_take hT rfl rfl rfl rfl (Sx.x_move hT rfl rfl) ?_
          clear hT; intro a hT
          -- guard (7, 20)
          refine Sx.Sl.two hT 69 rfl (fun hc13 hT => ?_) (fun hc13 hT => ?_)
          · try simp only [decide_eq_true_eq, decide_eq_false_iff_not, Bool.not_eq_true', Bool.not_eq_false', Bool.not_eq_true, Bool.not_eq_false, Bool.and_eq_true, Bool.or_eq_false_iff, beq_iff_eq, bne_iff_ne, Int.not_lt, Int.not_le, ne_eq] at hc13
            refine Sx.st_take hT rfl rfl rfl rfl (Sx.x_move hT rfl rfl) ?_
            clear hT; intro a hT
            refine Sx.st_take hT rfl rfl rfl rfl ((fun w => Sx.x_eq w hT rfl rfl rfl)) ?_
            clear hT; intro a hT
            refine Sx.st_take hT rfl rfl rfl rfl (Sx.x_pick_t hT rfl rfl rfl) ?_
            clear hT; intro a hT
            refine Sx.st_take hT rfl rfl rfl rfl (Sx.x_move hT rfl rfl) ?_
            clear hT; intro a hT
            -- guard (7, 24)
            refine Sx.Sl.two hT 73 rfl (fun hc14 hT => ?_) (fun hc14 hT => ?_)
            · try simp only [decide_eq_true_eq, decide_eq_false_iff_not, Bool.not_eq_true', Bool.not_eq_false', Bool.not_eq_true, Bool.not_eq_false, Bool.and_eq_true, Bool.or_eq_false_iff, beq_iff_eq, bne_iff_ne, Int.not_lt, Int.not_le, ne_eq] at hc14
              refine Sx.st_take hT rfl rfl rfl rfl (Sx.x_move hT rfl rfl) ?_
              clear hT; intro a hT
              refine Sx.st_take hT rfl rfl rfl rfl ((fun w => Sx.x_eq w hT rfl rfl rfl)) ?_
              clear hT; intro a hT
              refine Sx.st_take hT rfl rfl rfl rfl (Sx.x_pick_t hT rfl rfl rfl) ?_
              clear hT; intro a hT
              refine Sx.st_take hT rfl rfl rfl rfl (Sx.x_move hT rfl rfl) ?_
              clear hT; intro a hT
              -- guard (7, 28)
              refine Sx.Sl.two hT 77 rfl (fun hc15 hT => ?_) (fun hc15 hT => ?_)
              · try simp only [decide_eq_true_eq, decide_eq_false_iff_not, Bool.not_eq_true', Bool.not_eq_false', Bool.not_eq_true, Bool.not_eq_false, Bool.and_eq_true, Bool.or_eq_false_iff, beq_iff_eq, bne_iff_ne, Int.not_lt, Int.not_le, ne_eq] at hc15
                refine Sx.st_take hT rfl rfl rfl rfl (Sx.x_move hT rfl rfl) ?_
                clear hT; intro a hT
                refine Sx.st_take hT rfl rfl rfl rfl ((fun w => Sx.x_eq w hT rfl rfl rfl)) ?_
                clear hT; intro a hT
                refine Sx.st_take hT rfl rfl rfl rfl (Sx.x_pick_t hT rfl rfl rfl) ?_
                clear hT; intro a hT
                refine Sx.st_take hT rfl rfl rfl rfl (Sx.x_move hT rfl rfl) ?_
                clear hT; intro a hT
                -- guard (7, 32)
                refine Sx.Sl.two hT 81 rfl (fun hc16 hT => ?_) (fun hc16 hT => ?_)
                · try simp only [decide_eq_true_eq, decide_eq_false_iff_not, Bool.not_eq_true', Bool.not_eq_false', Bool.not_eq_true, Bool.not_eq_false, Bool.and_eq_true, Bool.or_eq_false_iff, beq_iff_eq, bne_iff_ne, Int.not_lt, Int.not_le, ne_eq] at hc16
                  refine Sx.st_take hT rfl rfl rfl rfl (Sx.x_move hT rfl rfl) ?_
                  clear hT; intro a hT
                  refine Sx.st_take hT rfl rfl rfl rfl ((fun w => Sx.x_eq w hT rfl rfl rfl)) ?_
                  clear hT; intro a hT
                  refine Sx.st_take hT rfl rfl rfl rfl (Sx.x_pick_t hT rfl rfl rfl) ?_
                  clear hT; intro a hT
                  refine Sx.st_take hT rfl rfl rfl rfl (Sx.x_move hT rfl rfl) ?_
                  clear hT; intro a hT
                  -- guard (7, 36)
                  refine Sx.Sl.two hT 85 rfl (fun hc17 hT => ?_) (fun hc17 hT => ?_)
                  · try simp only [decide_eq_true_eq, decide_eq_false_iff_not, Bool.not_eq_true', Bool.not_eq_false', Bool.not_eq_true, Bool.not_eq_false, Bool.and_eq_true, Bool.or_eq_false_iff, beq_iff_eq, bne_iff_ne, Int.not_lt, Int.not_le, ne_eq] at hc17
                    refine Sx.st_take hT rfl rfl rfl rfl (Sx.x_bld hT rfl Tryd.bld27 rfl rfl) ?_
                    clear hT; intro a hT
                    refine Sx.st_call hT rfl rfl rfl rfl rfl Tryd.can23 rfl (Print_two _) ?_
                    rintro _ w9 ⟨rfl, E⟩
                    refine ⟨_, rfl, ?_⟩
                    clear hT; intro a hT
                    replace H := H.pure E; clear E
                    refine Sx.st_take hT rfl rfl rfl rfl ((fun w => Sx.x_streq w hT rfl rfl rfl)) ?_
                    clear hT; intro a hT
                    refine Sx.st_take hT rfl rfl rfl rfl (Sx.x_pick_t hT rfl rfl rfl) ?_
                    clear hT; intro a hT
                    refine Sx.st_take hT rfl rfl rfl rfl (Sx.x_assign hT rfl rfl) ?_
                    clear hT; intro a hT
                    replace hT := hT.keep [0, 13, 10, 9, 8, 7, 6, 5, 4, 3, 2, 1] rfl
                    refine Sx.ser_nil ?_
                    refine Sx.then_normal (hK8 _ _ ?_)
                    clear hK8
                    refine wp_ret ?_
                    refine Sx.done1 (fn := Tryd.f8) hT rfl (.tmp (hT.get 0 _ rfl)) ?_
                    exact ⟨ret_b (by decide +kernel), H.ext⟩
                  · exfalso
                    try simp only [decide_eq_true_eq, decide_eq_false_iff_not, Bool.not_eq_true', Bool.not_eq_false', Bool.not_eq_true, Bool.not_eq_false, Bool.and_eq_true, Bool.or_eq_false_iff, beq_iff_eq, bne_iff_ne, Int.not_lt, Int.not_le, ne_eq] at hc17
                    revert hc17; decide +kernel
                · exfalso
                  try simp only [decide_eq_true_eq, decide_eq_false_iff_not, Bool.not_eq_true', Bool.not_eq_false', Bool.not_eq_true, Bool.not_eq_false, Bool.and_eq_true, Bool.or_eq_false_iff, beq_iff_eq, bne_iff_ne, Int.not_lt, Int.not_le, ne_eq] at hc16
                  revert hc16; decide +kernel
              · exfalso
                try simp only [decide_eq_true_eq, decide_eq_false_iff_not, Bool.not_eq_true', Bool.not_eq_false', Bool.not_eq_true, Bool.not_eq_false, Bool.and_eq_true, Bool.or_eq_false_iff, beq_iff_eq, bne_iff_ne, Int.not_lt, Int.not_le, ne_eq] at hc15
                revert hc15; decide +kernel
            · exfalso
              try simp only [decide_eq_true_eq, decide_eq_false_iff_not, Bool.not_eq_true', Bool.not_eq_false', Bool.not_eq_true, Bool.not_eq_false, Bool.and_eq_true, Bool.or_eq_false_iff, beq_iff_eq, bne_iff_ne, Int.not_lt, Int.not_le, ne_eq] at hc14
              revert hc14; decide +kernel
          · exfalso
            try simp only [decide_eq_true_eq, decide_eq_false_iff_not, Bool.not_eq_true', Bool.not_eq_false', Bool.not_eq_true, Bool.not_eq_false, Bool.and_eq_true, Bool.or_eq_false_iff, beq_iff_eq, bne_iff_ne, Int.not_lt, Int.not_le, ne_eq] at hc13
            revert hc13; decide +kernel
        · exfalso
          try simp only [decide_eq_true_eq, decide_eq_false_iff_not, Bool.not_eq_true', Bool.not_eq_false', Bool.not_eq_true, Bool.not_eq_false, Bool.and_eq_true, Bool.or_eq_false_iff, beq_iff_eq, bne_iff_ne, Int.not_lt, Int.not_le, ne_eq] at hc12
          revert hc12; decide +kernel
      · exfalso
        try simp only [decide_eq_true_eq, decide_eq_false_iff_not, Bool.not_eq_true', Bool.not_eq_false', Bool.not_eq_true, Bool.not_eq_false, Bool.and_eq_true, Bool.or_eq_false_iff, beq_iff_eq, bne_iff_ne, Int.not_lt, Int.not_le, ne_eq] at hc11
        revert hc11; decide +kernel
    · exfalso
      try simp only [decide_eq_true_eq, decide_eq_false_iff_not, Bool.not_eq_true', Bool.not_eq_false', Bool.not_eq_true, Bool.not_eq_false, Bool.and_eq_true, Bool.or_eq_false_iff, beq_iff_eq, bne_iff_ne, Int.not_lt, Int.not_le, ne_eq] at hc10
      revert hc10; decide +kernel
  · exfalso
    try simp only [decide_eq_true_eq, decide_eq_false_iff_not, Bool.not_eq_true', Bool.not_eq_false', Bool.not_eq_true, Bool.not_eq_false, Bool.and_eq_true, Bool.or_eq_false_iff, beq_iff_eq, bne_iff_ne, Int.not_lt, Int.not_le, ne_eq] at hc9
    revert hc9; decide +kernel

end Go.Proofs.YtainemoobhkeiaaDoor
