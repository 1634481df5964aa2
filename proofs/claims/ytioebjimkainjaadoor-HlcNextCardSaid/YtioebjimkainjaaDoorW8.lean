/- Walks: a text as a stamp. -/
import Derived.Test.YtioebjimkainjaaDoorW7
import Derived.Test.YtioebjimkainjaaDoorP0
set_option linter.unusedSimpArgs false
set_option linter.unusedVariables false
namespace Go.Proofs.YtioebjimkainjaaDoor
open Sx
theorem Tryd.ti61 : Sx.TI Tryd.prog 61 (.agg #[.int .i64 0, .int .i64 0, .int .i64 0]) 3 24 := .mk' (by kernel_rfl)
theorem Tryd.can31 : Sx.Can Tryd.prog 31 := ⟨_, Tryd.func31, by kernel_rfl, rfl⟩
theorem Tryd.can36 : Sx.Can Tryd.prog 36 := ⟨_, Tryd.func36, by kernel_rfl, rfl⟩
theorem var_ext {w w' : World} {name : String} {x : Array Value} (h : w.var? Tryd.prog name = some x) (X : Ext No w w') : w'.var? Tryd.prog name = some x := by
  unfold World.var? at *
  cases hg : Tryd.prog.globalNamed name with
  | none => simp [hg] at h
  | some g =>
    simp only [hg, Option.bind_some] at h ⊢
    cases hb : w.heap[g]? with
    | none => simp [hb] at h
    | some o =>
      have hlt := (Array.getElem?_eq_some_iff.1 hb).1
      rw [X.block g hlt (not_No g), hb]
      rw [hb] at h
      exact h
/-- the two errors' variables hold something -/
def Errs (w : World) : Prop := (∃ t p, w.var? Tryd.prog "strconv.ErrSyntax" = some #[.iface t p]) ∧ ∃ t p, w.var? Tryd.prog "strconv.ErrRange" = some #[.iface t p]
theorem Errs.ext {w w' : World} (h : Errs w) (x : Ext No w w') : Errs w' := by
  obtain ⟨⟨t, p, h1⟩, u, q, h2⟩ := h
  exact ⟨⟨t, p, var_ext h1 x⟩, u, q, var_ext h2 x⟩
theorem ext_below {w w' : World} (h : Go.RowKit.Below w.heap.size w w') : Ext No w w' := ⟨h.os, h.tape, h.output, h.size, fun k hk _ => h.block k hk⟩
theorem bytes_ext (w : World) (e : TypeId) (s : ByteArray) : Ext No w (Lib.bytesWorld w e s) := by
  refine ((Ext.drew w).step (Ext.alloc w.drew (.cells (Lib.bytesCells w e s) e))).trans (T := Sx.One w.heap.size) ?_ (fun i hi h => by unfold Sx.One at h; omega)
  refine ⟨rfl, rfl, rfl, by simp [Lib.bytesWorld, World.freeze], fun k hk hne => ?_⟩
  simp only [Lib.bytesWorld, World.freeze, Nat.one_ne_zero, if_false]
  rw [Array.getElem?_modify, if_neg (fun e => hne e.symm)]
theorem atoi_in {s : List UInt8} {v : Int} (h : Lib.atoiAll s = .ok v) : inInt v := by
  unfold Lib.atoiAll at h
  split at h
  · cases h
  · dsimp only at h
    split at h
    · cases h
    · cases h
    · rename_i u hu
      have hlt := Lib.parseMag_lt hu
      unfold inInt
      split at h
      · cases h
      · split at h
        · cases h
        · injection h with h
          subst h
          split <;> omega
theorem Atoi_calls (s : List UInt8) (hs : s.length ≤ 100000) (w : World) (he : Errs w) : Calls Tryd.prog 36 #[.string ⟨s.toArray⟩] w fun e w' => ∃ v ev, e = .returned (.tuple #[.int .i64 v, ev]) ∧ inInt v ∧ (ev = .nilIface ∨ ∃ p, ev = .iface 72 p) ∧ (∀ n, inInt n → Lib.itoa n = s → v = n ∧ ev = .nilIface) ∧ Ext No w w' := by
  obtain ⟨⟨t, p, h1⟩, u, q, h2⟩ := he
  have hsz : (⟨s.toArray⟩ : ByteArray).size = s.length := by simp [ByteArray.size]
  cases hr : Lib.atoiAll s
  case ok v =>
    refine (Tryd.strconv_Atoi_ok ⟨s.toArray⟩ (by omega) v hr w).mono fun e w' h => ?_
    obtain ⟨rfl, h⟩ := h
    refine ⟨v, .nilIface, rfl, atoi_in hr, .inl rfl, fun n hn h3 => ⟨?_, rfl⟩, ?_⟩
    · rw [← h3, atoi_itoa n hn] at hr
      injection hr with hr
      exact hr.symm
    · rcases h with rfl | ⟨t, rfl⟩
      · exact Ext.refl _ _
      · exact bytes_ext _ _ _
  case range =>
    refine (Tryd.strconv_Atoi_range_var ⟨s.toArray⟩ (by omega) hr u q w h2).mono fun e w' h => ?_
    obtain ⟨N, rfl, -, -, hb⟩ := h
    exact ⟨_, _, rfl, by unfold inInt Lib.atoiSat; split <;> omega, .inr ⟨_, rfl⟩, (fun n hn h3 => by rw [← h3, atoi_itoa n hn] at hr; cases hr), ext_below hb⟩
  refine (Any.strconv_Atoi_syntax_var Tryd.laysC172 ⟨s.toArray⟩ (by omega) hr t p w h1).mono fun e w' h => ?_
  obtain ⟨N, rfl, -, -, hb⟩ := h
  exact ⟨0, _, rfl, by unfold inInt; omega, .inr ⟨_, rfl⟩, (fun n hn h3 => by rw [← h3, atoi_itoa n hn] at hr; cases hr), ext_below hb⟩
def neNil : Value → Bool
  | .nilIface => false
  | _ => true
theorem x_neNil {n : Nat} {l : List (Nat × Value)} {a : Act} {o : Oper} {x : Operand} {t t' u : TypeId} {ms : Array (String × TypeId)} {ev : Value} (hT : Sl n l a) (hop : o.op = .binOp .neq t x (.const .nilIface) t') (hu : Tryd.prog.underlying t = some (.interface ms)) (hx : opnd l x = some ev) (he : ev = .nilIface ∨ ∃ p, ev = .iface u p) (w : World) :
    (execOp a.eval o).run Tryd.prog w = .ok (.value (.bool (neNil ev))) w := by
  rcases he with rfl | ⟨p, rfl⟩
  · exact x_nenil (c := .nilIface) hT hop hu hx w
  · exact x_neiface hT hop hu hx rfl w

theorem Parse_calls (s : List UInt8) (hs : s.length ≤ 2000) (w : World) (ht : Tab w) (he : Errs w) : Calls Tryd.prog 31 #[.string ⟨s.toArray⟩] w fun e w' => ∃ x y z r, e = .returned (.tuple #[.agg #[.int .i64 x, .int .i64 y, .int .i64 z], .int .i64 r]) ∧ Parsed s x y z r ∧ Ext No w w' := by
  have RT : Ro w No _ := Ro.of fun w' x => Tab.ext ht x
  have RE : Ro w No _ := Ro.of fun w' x => he.ext x
  refine Sx.calls_into Tryd.func31 rfl Tryd.ntmps31 rfl fun a hT => ?_
  replace hT := hT.keep [0] rfl
  have H : Sx.Hp w (Sx.No) w [] := Sx.Hp.start _ _
  refine wp_seq_k fun K1 hK1 => ?_
  -- region 0 (hlc.go:64)
  refine Sx.wp_text [(0, .run), (1, .take)] rfl ?_
  refine Sx.st_eff hT rfl rfl rfl rfl (Sx.y_alloc hT rfl Tryd.ti23 rfl _) ?_
  clear hT; rintro _ w1 ⟨b1, rfl, N⟩ a hT
  replace H := H.new N; clear N
  refine Sx.st_take hT rfl rfl rfl rfl (Sx.x_assign hT rfl rfl) ?_
  clear hT; intro a hT
  replace hT := hT.keep [3, 2, 0] rfl
  refine Sx.ser_nil ?_
  refine Sx.then_normal (hK1 _ _ ?_)
  clear hK1
  refine wp_seq_k fun K2 hK2 => ?_
  -- region 1 (hlc.go:65)
  refine Sx.wp_text [(0, .run)] rfl ?_
  refine Sx.st_eff hT rfl rfl rfl rfl (Sx.y_alloc hT rfl Tryd.ti61 rfl _) ?_
  clear hT; rintro _ w2 ⟨b2, rfl, N⟩ a hT
  replace H := H.new N; clear N
  replace hT := hT.keep [4, 3, 2, 0] rfl
  refine Sx.ser_nil ?_
  refine Sx.then_normal (hK2 _ _ ?_)
  clear hK2
  refine wp_seq_k fun K3 hK3 => ?_
  -- region 2 (hlc.go:66)
  refine Sx.wp_text [(0, .take), (1, .take)] rfl ?_
  refine Sx.st_take hT rfl rfl rfl rfl (Sx.x_assign hT rfl rfl) ?_
  clear hT; intro a hT
  refine Sx.st_take hT rfl rfl rfl rfl (Sx.x_assign hT rfl rfl) ?_
  clear hT; intro a hT
  replace hT := hT.keep [6, 5, 4, 3, 2, 0] rfl
  refine Sx.ser_nil ?_
  refine Sx.then_normal (hK3 _ _ ?_)
  clear hK3
  refine wp_seq_k fun K4 hK4 => ?_
  refine wp_seq_k fun K5 hK5 => ?_
  -- region 3 (hlc.go:67)
  refine Sx.wp_text [(0, .take)] rfl ?_
  refine Sx.st_take hT rfl rfl rfl rfl (Sx.x_assign hT rfl rfl) ?_
  clear hT; intro a hT
  replace hT := hT.keep [7, 6, 5, 4, 3, 2, 0] rfl
  refine Sx.ser_nil ?_
  refine Sx.then_normal (hK5 _ _ ?_)
  clear hK5
  refine wp_block ?_
  -- loop 0
  refine Sx.wp_loopH (G := List Int × Nat × Nat) (fun ⟨vs, f, i⟩ => [(5, .int .i64 (vs.length : Int)), (6, .int .i64 (f : Int)), (7, .int .i64 (i : Int))]) (fun ⟨vs, f, i⟩ => [cB b2 (arr vs) 61]) (fun ⟨vs, f, i⟩ => Got s vs f i ∧ vs.length ≤ 3 ∧ (∀ v ∈ vs, inInt v) ∧ (i = s.length + 1 → f = s.length + 1)) (fun ⟨vs, f, i⟩ => s.length + 1 - i) ([], 0, 0) (hT.keep [5, 6, 7, 4, 2, 0] rfl) (H.keep [0, 1] rfl rfl) (⟨Got.init s, by simp, by simp, by simp⟩) ?_
  clear hT H
  rintro ⟨vs, f, i⟩ a w3 hJ hT H
  replace hT := hT.keep [5, 6, 7, 4, 2, 0] rfl
  replace H := H.keep [0, 1] rfl rfl
  obtain ⟨hg, hv3, hvi, hfe⟩ := hJ
  have hfi := hg.1
  have hil9 := hg.2.1
  refine wp_seq_k fun K6 hK6 => ?_
  refine wp_seq_k fun K7 hK7 => ?_
  -- region 4 (hlc.go:67)
  refine Sx.wp_text [(0, .take), (1, .take), (2, .take), (3, .take)] rfl ?_
  refine Sx.st_take hT rfl rfl rfl rfl (Sx.x_move hT rfl rfl) ?_
  clear hT; intro a hT
  refine Sx.st_take hT rfl rfl rfl rfl (Sx.x_move hT rfl rfl) ?_
  clear hT; intro a hT
  refine Sx.st_take hT rfl rfl rfl rfl (Sx.x_lenStr hT rfl rfl Tryd.underlying9 rfl) ?_
  clear hT; intro a hT
  refine Sx.st_take hT rfl rfl rfl rfl ((fun w => Sx.x_le w hT rfl rfl rfl)) ?_
  clear hT; intro a hT
  replace hT := hT.keep [14, 5, 6, 7, 4, 2, 0] rfl
  refine Sx.ser_nil ?_
  refine Sx.then_normal (hK7 _ _ ?_)
  clear hK7
  -- cond 0
  refine Sx.wp_if hT rfl (fun hc8 => ?_) (fun hc8 => ?_)
  · try simp only [decide_eq_true_eq, decide_eq_false_iff_not, Bool.not_eq_true', Bool.not_eq_false', Bool.not_eq_true, Bool.not_eq_false, Bool.and_eq_true, Bool.or_eq_false_iff, beq_iff_eq, bne_iff_ne, Int.not_lt, Int.not_le, ne_eq] at hc8
    refine wp_skip ?_
    refine Sx.then_normal (hK6 _ _ ?_)
    clear hK6
    refine wp_seq_k fun K9 hK9 => ?_
    refine wp_block ?_
    refine wp_seq_k fun K10 hK10 => ?_
    refine wp_seq_k fun K11 hK11 => ?_
    -- region 6 (hlc.go:68)
    refine Sx.wp_text [(0, .take), (1, .take), (2, .take), (3, .take), (4, .take), (5, .take), (6, .take), (7, .take), (8, .take), (9, .take)] rfl ?_
    refine Sx.st_take hT rfl rfl rfl rfl (Sx.x_move hT rfl rfl) ?_
    clear hT; intro a hT
    refine Sx.st_take hT rfl rfl rfl rfl (Sx.x_move hT rfl rfl) ?_
    clear hT; intro a hT
    refine Sx.st_take hT rfl rfl rfl rfl (Sx.x_lenStr hT rfl rfl Tryd.underlying9 rfl) ?_
    clear hT; intro a hT
    refine Sx.st_take hT rfl rfl rfl rfl ((fun w => Sx.x_lt w hT rfl rfl rfl)) ?_
    clear hT; intro a hT
    refine Sx.st_take hT rfl rfl rfl rfl (Sx.x_move hT rfl rfl) ?_
    clear hT; intro a hT
    -- guard (6, 4)
    refine Sx.Sl.two hT 21 rfl (fun hc12 hT => ?_) (fun hc12 hT => ?_)
    · try simp only [decide_eq_true_eq, decide_eq_false_iff_not, Bool.not_eq_true', Bool.not_eq_false', Bool.not_eq_true, Bool.not_eq_false, Bool.and_eq_true, Bool.or_eq_false_iff, beq_iff_eq, bne_iff_ne, Int.not_lt, Int.not_le, ne_eq] at hc12
      obtain ⟨ch, hix⟩ : ∃ o, s[i]? = some o := ⟨_, List.getElem?_eq_getElem (by omega)⟩
      refine Sx.st_take hT rfl rfl rfl rfl (Sx.x_move hT rfl rfl) ?_
      clear hT; intro a hT
      refine Sx.st_take hT rfl rfl rfl rfl (Sx.x_move hT rfl rfl) ?_
      clear hT; intro a hT
      refine Sx.st_take hT rfl rfl rfl rfl (Sx.x_indexStr hT rfl Tryd.underlying9 rfl rfl rfl hix) ?_
      clear hT; intro a hT
      refine Sx.st_take hT rfl rfl rfl rfl ((fun w => Sx.x_ne w hT rfl rfl rfl)) ?_
      clear hT; intro a hT
      refine Sx.st_take hT rfl rfl rfl rfl (Sx.x_pick_t hT rfl rfl rfl) ?_
      clear hT; intro a hT
      replace hT := hT.keep [26, 14, 5, 6, 7, 4, 2, 0] rfl
      refine Sx.ser_nil ?_
      refine Sx.then_normal (hK11 _ _ ?_)
      clear hK11
      -- cond 1
      refine Sx.wp_if hT rfl (fun hc13 => ?_) (fun hc13 => ?_)
      · try simp only [decide_eq_true_eq, decide_eq_false_iff_not, Bool.not_eq_true', Bool.not_eq_false', Bool.not_eq_true, Bool.not_eq_false, Bool.and_eq_true, Bool.or_eq_false_iff, beq_iff_eq, bne_iff_ne, Int.not_lt, Int.not_le, ne_eq] at hc13
        have hne9 : ch ≠ 46 := fun e9 => by subst e9; exact hc13 rfl
        refine wp_exit ?_
        refine Sx.then_exit ?_
        refine Sx.block_exit ?_
        refine Sx.then_normal (hK9 _ _ ?_)
        clear hK9
        -- region 5 (hlc.go:67)
        refine Sx.wp_text [(0, .take), (1, .take), (2, .take)] rfl ?_
        refine Sx.st_take hT rfl rfl rfl rfl (Sx.x_move hT rfl rfl) ?_
        clear hT; intro a hT
        refine Sx.st_take hT rfl rfl rfl rfl ((fun w => Sx.x_add w hT rfl rfl rfl (Sx.wrap64 (by omega)))) ?_
        clear hT; intro a hT
        refine Sx.st_take hT rfl rfl rfl rfl (Sx.x_assign hT rfl rfl) ?_
        clear hT; intro a hT
        replace hT := hT.keep [7, 26, 14, 5, 6, 4, 2, 0] rfl
        refine Sx.ser_nil ?_
        refine Sx.then_normal ?_
        exact ⟨(vs, f, i + 1), ⟨hg.skip hix hne9, hv3, hvi, by omega⟩, (hT.keep [5, 6, 7, 4, 2, 0] rfl), (H.keep [0, 1] rfl rfl), by show _ - (i + 1) < _ - i; omega⟩
      · try simp only [decide_eq_true_eq, decide_eq_false_iff_not, Bool.not_eq_true', Bool.not_eq_false', Bool.not_eq_true, Bool.not_eq_false, Bool.and_eq_true, Bool.or_eq_false_iff, beq_iff_eq, bne_iff_ne, Int.not_lt, Int.not_le, ne_eq] at hc13
        have hd9 : (s ++ [46])[i]? = some 46 := by rw [List.getElem?_append_left (by omega), hix]; exact congrArg some (UInt8.toNat_inj.1 (by have e : (46 : UInt8).toNat = 46 := rfl; omega))
        refine wp_skip ?_
        refine Sx.then_normal (hK10 _ _ ?_)
        clear hK10
        refine wp_seq_k fun K14 hK14 => ?_
        -- region 7 (hlc.go:71)
        refine Sx.wp_text [(0, .take), (1, .take), (2, .take), (3, .take), (4, .run), (5, .take), (6, .take), (7, .take), (8, .take), (9, .take)] rfl ?_
        refine Sx.st_take hT rfl rfl rfl rfl (Sx.x_move hT rfl rfl) ?_
        clear hT; intro a hT
        refine Sx.st_take hT rfl rfl rfl rfl (Sx.x_move hT rfl rfl) ?_
        clear hT; intro a hT
        refine Sx.st_take hT rfl rfl rfl rfl (Sx.x_move hT rfl rfl) ?_
        clear hT; intro a hT
        refine Sx.st_take hT rfl rfl rfl rfl (Sx.x_sliceStr_lh hT rfl Tryd.underlying9 rfl rfl rfl rfl rfl (by omega) (by omega)) ?_
        clear hT; intro a hT
        refine Sx.st_call hT rfl rfl rfl rfl rfl Tryd.can36 rfl (Atoi_calls (pcs s f i) (by simp [pcs]; omega) _ (RE.at H.ext)) ?_
        rintro _ w4 ⟨v, ev, rfl, hvin, hev, hvn, E⟩
        refine ⟨_, rfl, ?_⟩
        clear hT; intro a hT
        replace H := H.pure E; clear E
        refine Sx.st_take hT rfl rfl rfl rfl (Sx.x_move hT rfl rfl) ?_
        clear hT; intro a hT
        refine Sx.st_take hT rfl rfl rfl rfl (Sx.x_extractL hT rfl rfl rfl) ?_
        clear hT; intro a hT
        refine Sx.st_take hT rfl rfl rfl rfl (Sx.x_extractL hT rfl rfl rfl) ?_
        clear hT; intro a hT
        refine Sx.st_take hT rfl rfl rfl rfl (Sx.x_assign hT rfl rfl) ?_
        clear hT; intro a hT
        refine Sx.st_take hT rfl rfl rfl rfl (Sx.x_assign hT rfl rfl) ?_
        clear hT; intro a hT
        replace hT := hT.keep [9, 8, 26, 14, 5, 6, 7, 4, 2, 0] rfl
        refine Sx.ser_nil ?_
        refine Sx.then_normal (hK14 _ _ ?_)
        clear hK14
        refine wp_seq_k fun K15 hK15 => ?_
        refine wp_seq_k fun K16 hK16 => ?_
        -- region 8 (hlc.go:72)
        refine Sx.wp_draws (fun u => Sx.Ext (Sx.No) u) [(0, .take), (1, .take), (2, .take), (3, .take), (4, .take), (5, .take), (6, .take), (7, .take), (9, .take), (10, .take), (11, .take), (12, .take), (8, .run), (13, .take), (14, .take)] (by kernel_rfl) (by kernel_rfl) (fun u E _ => ?_)
        replace H := H.pure E; clear E
        refine Sx.st_take hT rfl rfl rfl rfl (Sx.x_move hT rfl rfl) ?_
        clear hT; intro a hT
        refine Sx.st_take hT rfl rfl rfl rfl ((fun w => Sx.x_gt w hT rfl rfl rfl)) ?_
        clear hT; intro a hT
        refine Sx.st_take hT rfl rfl rfl rfl (Sx.x_move hT rfl rfl) ?_
        clear hT; intro a hT
        -- guard (8, 2)
        refine Sx.Sl.two hT 37 rfl (fun hc17 hT => ?_) (fun hc17 hT => ?_)
        · try simp only [decide_eq_true_eq, decide_eq_false_iff_not, Bool.not_eq_true', Bool.not_eq_false', Bool.not_eq_true, Bool.not_eq_false, Bool.and_eq_true, Bool.or_eq_false_iff, beq_iff_eq, bne_iff_ne, Int.not_lt, Int.not_le, ne_eq] at hc17
          refine Sx.st_skip hT rfl rfl rfl rfl ?_
          clear hT; intro a hT
          refine Sx.st_skip hT rfl rfl rfl rfl ?_
          clear hT; intro a hT
          refine Sx.st_take hT rfl rfl rfl rfl (Sx.x_pick_t hT rfl rfl rfl) ?_
          clear hT; intro a hT
          refine Sx.st_take hT rfl rfl rfl rfl (Sx.x_move hT rfl rfl) ?_
          clear hT; intro a hT
          refine Sx.st_skip hT rfl rfl rfl rfl ?_
          clear hT; intro a hT
          refine Sx.st_skip hT rfl rfl rfl rfl ?_
          clear hT; intro a hT
          refine Sx.st_skip hT rfl rfl rfl rfl ?_
          clear hT; intro a hT
          refine Sx.st_skip hT rfl rfl rfl rfl ?_
          clear hT; intro a hT
          refine Sx.st_skip hT rfl rfl rfl rfl ?_
          clear hT; intro a hT
          refine Sx.st_runskip hT rfl rfl rfl rfl ?_
          clear hT; intro a hT
          refine Sx.st_skip hT rfl rfl rfl rfl ?_
          clear hT; intro a hT
          refine Sx.st_take hT rfl rfl rfl rfl (Sx.x_pick_t hT rfl rfl rfl) ?_
          clear hT; intro a hT
          replace hT := hT.keep [49, 9, 8, 26, 14, 5, 6, 7, 4, 2, 0] rfl
          refine Sx.ser_calm ?_
          refine Sx.then_normal (hK16 _ _ ?_)
          clear hK16
          refine Sx.wp_if hT rfl (fun _ => ?_) (fun h => by cases h)
          refine wp_seq_k fun K18 hK18 => ?_
          -- region 9 (hlc.go:73)
          refine Sx.wp_text [(0, .take), (1, .run), (2, .take)] rfl ?_
          refine Sx.st_take hT rfl rfl rfl rfl (Sx.x_bld hT rfl Tryd.bld23 rfl rfl) ?_
          clear hT; intro a hT
          refine Sx.st_act hT rfl rfl rfl (Sx.y_storeS hT rfl Tryd.ti23 rfl rfl rfl rfl rfl (H.blk 1 rfl) rfl) ?_
          rintro w5 ⟨hb, E, _⟩
          replace H := H.setB 1 rfl hb E rfl; clear hb E
          refine Sx.st_take hT rfl rfl rfl rfl (Sx.x_assign hT rfl rfl) ?_
          clear hT; intro a hT
          replace hT := hT.keep [3, 49, 9, 8, 26, 14, 5, 6, 7, 4, 2, 0] rfl
          refine Sx.ser_nil ?_
          refine Sx.then_normal (hK18 _ _ ?_)
          clear hK18
          refine wp_ret ?_
          refine Sx.then_ret ?_
          refine Sx.block_ret ?_
          refine Sx.then_ret ?_
          refine Sx.then_ret ?_
          refine Sx.block_ret ?_
          refine Sx.then_ret ?_
          refine Sx.done2 (fn := Tryd.f31) hT rfl (.cell (hT.get 2 _ rfl) (Sx.run_resS Tryd.underlying23 Tryd.ti23 ((H.blk 1 rfl).seg (k := 3) rfl) (by rfl))) (.tmp (hT.get 3 _ rfl)) ?_
          exact ⟨0, 0, 0, 4, rfl, .inr ⟨rfl, rfl, rfl, rfl, hg.bad (by omega) hd9 (.inl (by omega))⟩, H.ext⟩
        · try simp only [decide_eq_true_eq, decide_eq_false_iff_not, Bool.not_eq_true', Bool.not_eq_false', Bool.not_eq_true, Bool.not_eq_false, Bool.and_eq_true, Bool.or_eq_false_iff, beq_iff_eq, bne_iff_ne, Int.not_lt, Int.not_le, ne_eq] at hc17
          refine Sx.st_take hT rfl rfl rfl rfl (Sx.x_move hT rfl rfl) ?_
          clear hT; intro a hT
          refine Sx.st_take hT rfl rfl rfl rfl (x_neNil hT rfl Tryd.underlying63 rfl hev) ?_
          clear hT; intro a hT
          refine Sx.st_take hT rfl rfl rfl rfl (Sx.x_pick_f hT rfl rfl rfl) ?_
          clear hT; intro a hT
          refine Sx.st_take hT rfl rfl rfl rfl (Sx.x_move hT rfl rfl) ?_
          clear hT; intro a hT
          -- guard (8, 6)
          refine Sx.Sl.two hT 41 rfl (fun hc19 hT => ?_) (fun hc19 hT => ?_)
          · try simp only [decide_eq_true_eq, decide_eq_false_iff_not, Bool.not_eq_true', Bool.not_eq_false', Bool.not_eq_true, Bool.not_eq_false, Bool.and_eq_true, Bool.or_eq_false_iff, beq_iff_eq, bne_iff_ne, Int.not_lt, Int.not_le, ne_eq] at hc19
            have hnn := hc19
            refine Sx.st_skip hT rfl rfl rfl rfl ?_
            clear hT; intro a hT
            refine Sx.st_skip hT rfl rfl rfl rfl ?_
            clear hT; intro a hT
            refine Sx.st_skip hT rfl rfl rfl rfl ?_
            clear hT; intro a hT
            refine Sx.st_skip hT rfl rfl rfl rfl ?_
            clear hT; intro a hT
            refine Sx.st_skip hT rfl rfl rfl rfl ?_
            clear hT; intro a hT
            refine Sx.st_runskip hT rfl rfl rfl rfl ?_
            clear hT; intro a hT
            refine Sx.st_skip hT rfl rfl rfl rfl ?_
            clear hT; intro a hT
            refine Sx.st_take hT rfl rfl rfl rfl (Sx.x_pick_t hT rfl rfl rfl) ?_
            clear hT; intro a hT
            replace hT := hT.keep [49, 9, 8, 26, 14, 5, 6, 7, 4, 2, 0] rfl
            refine Sx.ser_calm ?_
            refine Sx.then_normal (hK16 _ _ ?_)
            clear hK16
            refine Sx.wp_if hT rfl (fun _ => ?_) (fun h => by cases h)
            refine wp_seq_k fun K20 hK20 => ?_
            -- region 9 (hlc.go:73)
            refine Sx.wp_text [(0, .take), (1, .run), (2, .take)] rfl ?_
            refine Sx.st_take hT rfl rfl rfl rfl (Sx.x_bld hT rfl Tryd.bld23 rfl rfl) ?_
            clear hT; intro a hT
            refine Sx.st_act hT rfl rfl rfl (Sx.y_storeS hT rfl Tryd.ti23 rfl rfl rfl rfl rfl (H.blk 1 rfl) rfl) ?_
            rintro w6 ⟨hb, E, _⟩
            replace H := H.setB 1 rfl hb E rfl; clear hb E
            refine Sx.st_take hT rfl rfl rfl rfl (Sx.x_assign hT rfl rfl) ?_
            clear hT; intro a hT
            replace hT := hT.keep [3, 49, 9, 8, 26, 14, 5, 6, 7, 4, 2, 0] rfl
            refine Sx.ser_nil ?_
            refine Sx.then_normal (hK20 _ _ ?_)
            clear hK20
            refine wp_ret ?_
            refine Sx.then_ret ?_
            refine Sx.block_ret ?_
            refine Sx.then_ret ?_
            refine Sx.then_ret ?_
            refine Sx.block_ret ?_
            refine Sx.then_ret ?_
            refine Sx.done2 (fn := Tryd.f31) hT rfl (.cell (hT.get 2 _ rfl) (Sx.run_resS Tryd.underlying23 Tryd.ti23 ((H.blk 1 rfl).seg (k := 3) rfl) (by rfl))) (.tmp (hT.get 3 _ rfl)) ?_
            exact ⟨0, 0, 0, 4, rfl, .inr ⟨rfl, rfl, rfl, rfl, hg.bad (by omega) hd9 (.inr (fun n h1 h2 => by obtain ⟨-, rfl⟩ := hvn n h1 h2; exact absurd hnn (by decide)))⟩, H.ext⟩
          · try simp only [decide_eq_true_eq, decide_eq_false_iff_not, Bool.not_eq_true', Bool.not_eq_false', Bool.not_eq_true, Bool.not_eq_false, Bool.and_eq_true, Bool.or_eq_false_iff, beq_iff_eq, bne_iff_ne, Int.not_lt, Int.not_le, ne_eq] at hc19
            refine Sx.st_take hT rfl rfl rfl rfl (Sx.x_move hT rfl rfl) ?_
            clear hT; intro a hT
            refine Sx.st_take hT rfl rfl rfl rfl (Sx.x_move hT rfl rfl) ?_
            clear hT; intro a hT
            refine Sx.st_take hT rfl rfl rfl rfl (Sx.x_move hT rfl rfl) ?_
            clear hT; intro a hT
            refine Sx.st_take hT rfl rfl rfl rfl (Sx.x_move hT rfl rfl) ?_
            clear hT; intro a hT
            refine Sx.st_take hT rfl rfl rfl rfl (Sx.x_sliceStr_lh hT rfl Tryd.underlying9 rfl rfl rfl rfl rfl (by omega) (by omega)) ?_
            clear hT; intro a hT
            refine Sx.st_call hT rfl rfl rfl rfl rfl Tryd.can34 rfl (Itoa_calls v hvin.1 hvin.2 _ (RT.at H.ext)) ?_
            rintro _ w7 ⟨rfl, E⟩
            refine ⟨_, rfl, ?_⟩
            clear hT; intro a hT
            replace H := H.pure E; clear E
            refine Sx.st_take hT rfl rfl rfl rfl ((fun w => Sx.x_strne w hT rfl rfl rfl)) ?_
            clear hT; intro a hT
            refine Sx.st_take hT rfl rfl rfl rfl (Sx.x_pick_f hT rfl rfl rfl) ?_
            clear hT; intro a hT
            replace hT := hT.keep [49, 9, 8, 26, 14, 5, 6, 7, 4, 2, 0] rfl
            refine Sx.ser_calm ?_
            refine Sx.then_normal (hK16 _ _ ?_)
            clear hK16
            -- cond 2
            refine Sx.wp_if hT rfl (fun hc21 => ?_) (fun hc21 => ?_)
            · try simp only [decide_eq_true_eq, decide_eq_false_iff_not, Bool.not_eq_true', Bool.not_eq_false', Bool.not_eq_true, Bool.not_eq_false, Bool.and_eq_true, Bool.or_eq_false_iff, beq_iff_eq, bne_iff_ne, Int.not_lt, Int.not_le, ne_eq] at hc21
              try (have hneq := hc21)
              refine wp_seq_k fun K22 hK22 => ?_
              -- region 9 (hlc.go:73)
              refine Sx.wp_text [(0, .take), (1, .run), (2, .take)] rfl ?_
              refine Sx.st_take hT rfl rfl rfl rfl (Sx.x_bld hT rfl Tryd.bld23 rfl rfl) ?_
              clear hT; intro a hT
              refine Sx.st_act hT rfl rfl rfl (Sx.y_storeS hT rfl Tryd.ti23 rfl rfl rfl rfl rfl (H.blk 1 rfl) rfl) ?_
              rintro w8 ⟨hb, E, _⟩
              replace H := H.setB 1 rfl hb E rfl; clear hb E
              refine Sx.st_take hT rfl rfl rfl rfl (Sx.x_assign hT rfl rfl) ?_
              clear hT; intro a hT
              replace hT := hT.keep [3, 49, 9, 8, 26, 14, 5, 6, 7, 4, 2, 0] rfl
              refine Sx.ser_nil ?_
              refine Sx.then_normal (hK22 _ _ ?_)
              clear hK22
              refine wp_ret ?_
              refine Sx.then_ret ?_
              refine Sx.block_ret ?_
              refine Sx.then_ret ?_
              refine Sx.then_ret ?_
              refine Sx.block_ret ?_
              refine Sx.then_ret ?_
              refine Sx.done2 (fn := Tryd.f31) hT rfl (.cell (hT.get 2 _ rfl) (Sx.run_resS Tryd.underlying23 Tryd.ti23 ((H.blk 1 rfl).seg (k := 3) rfl) (by rfl))) (.tmp (hT.get 3 _ rfl)) ?_
              exact ⟨0, 0, 0, 4, rfl, .inr ⟨rfl, rfl, rfl, rfl, hg.bad (by omega) hd9 (.inr (fun n h1 h2 => by obtain ⟨rfl, -⟩ := hvn n h1 h2; exact hneq h2))⟩, H.ext⟩
            · try simp only [decide_eq_true_eq, decide_eq_false_iff_not, Bool.not_eq_true', Bool.not_eq_false', Bool.not_eq_true, Bool.not_eq_false, Bool.and_eq_true, Bool.or_eq_false_iff, beq_iff_eq, bne_iff_ne, Int.not_lt, Int.not_le, ne_eq] at hc21
              have hcan : Lib.itoa v = pcs s f i := hc21
              refine wp_skip ?_
              refine Sx.then_normal (hK15 _ _ ?_)
              clear hK15
              refine wp_seq_k fun K23 hK23 => ?_
              -- region 10 (hlc.go:75)
              refine Sx.wp_text [(0, .take), (1, .take), (2, .take), (3, .run)] rfl ?_
              refine Sx.st_take hT rfl rfl rfl rfl (Sx.x_move hT rfl rfl) ?_
              clear hT; intro a hT
              refine Sx.st_take hT rfl rfl rfl rfl (Sx.x_move hT rfl rfl) ?_
              clear hT; intro a hT
              refine Sx.st_take hT rfl rfl rfl rfl (Sx.x_indexAddr_array (k := vs.length) hT rfl Tryd.underlying61 Tryd.ti3 rfl rfl rfl (by omega)) ?_
              clear hT; intro a hT
              refine Sx.st_act hT rfl rfl rfl (Sx.x_store1 hT rfl Tryd.ti3 rfl rfl rfl (H.blk 0 rfl) (by simp [arr]; omega)) ?_
              rintro w9 ⟨hb, E, _⟩
              replace H := H.setB 0 rfl hb E rfl; clear hb E
              rw [show 0 + vs.length * 1 = vs.length from by omega, arr_set (by omega) v _ rfl] at H
              replace hT := hT.keep [49, 9, 8, 26, 14, 5, 6, 7, 4, 2, 0] rfl
              refine Sx.ser_nil ?_
              refine Sx.then_normal (hK23 _ _ ?_)
              clear hK23
              refine wp_seq_k fun K24 hK24 => ?_
              -- region 11 (hlc.go:76)
              refine Sx.wp_text [(0, .take), (1, .take), (2, .take)] rfl ?_
              refine Sx.st_take hT rfl rfl rfl rfl (Sx.x_move hT rfl rfl) ?_
              clear hT; intro a hT
              refine Sx.st_take hT rfl rfl rfl rfl ((fun w => Sx.x_add w hT rfl rfl rfl (Sx.wrap64 (by omega)))) ?_
              clear hT; intro a hT
              refine Sx.st_take hT rfl rfl rfl rfl (Sx.x_assign hT rfl rfl) ?_
              clear hT; intro a hT
              replace hT := hT.keep [5, 49, 9, 8, 26, 14, 6, 7, 4, 2, 0] rfl
              refine Sx.ser_nil ?_
              refine Sx.then_normal (hK24 _ _ ?_)
              clear hK24
              -- region 12 (hlc.go:77)
              refine Sx.wp_text [(0, .take), (1, .take), (2, .take)] rfl ?_
              refine Sx.st_take hT rfl rfl rfl rfl (Sx.x_move hT rfl rfl) ?_
              clear hT; intro a hT
              refine Sx.st_take hT rfl rfl rfl rfl ((fun w => Sx.x_add w hT rfl rfl rfl (Sx.wrap64 (by omega)))) ?_
              clear hT; intro a hT
              refine Sx.st_take hT rfl rfl rfl rfl (Sx.x_assign hT rfl rfl) ?_
              clear hT; intro a hT
              replace hT := hT.keep [6, 5, 49, 9, 8, 26, 14, 7, 4, 2, 0] rfl
              refine Sx.ser_nil ?_
              refine Sx.block_normal ?_
              refine Sx.then_normal (hK9 _ _ ?_)
              clear hK9
              -- region 5 (hlc.go:67)
              refine Sx.wp_text [(0, .take), (1, .take), (2, .take)] rfl ?_
              refine Sx.st_take hT rfl rfl rfl rfl (Sx.x_move hT rfl rfl) ?_
              clear hT; intro a hT
              refine Sx.st_take hT rfl rfl rfl rfl ((fun w => Sx.x_add w hT rfl rfl rfl (Sx.wrap64 (by omega)))) ?_
              clear hT; intro a hT
              refine Sx.st_take hT rfl rfl rfl rfl (Sx.x_assign hT rfl rfl) ?_
              clear hT; intro a hT
              replace hT := hT.keep [7, 6, 5, 49, 9, 8, 26, 14, 4, 2, 0] rfl
              refine Sx.ser_nil ?_
              refine Sx.then_normal ?_
              exact ⟨(vs ++ [v], i + 1, i + 1), ⟨hg.next (by omega) hd9 hcan, by simp; omega, fun u hu => (List.mem_append.1 hu).elim (hvi u) (fun h9 => by rw [List.mem_singleton] at h9; subst h9; exact hvin), fun h9 => h9⟩, ((hT.keep [5, 6, 7, 4, 2, 0] rfl).conv (by simp)), (H.keep [0, 1] rfl rfl), by show _ - (i + 1) < _ - i; omega⟩
    · try simp only [decide_eq_true_eq, decide_eq_false_iff_not, Bool.not_eq_true', Bool.not_eq_false', Bool.not_eq_true, Bool.not_eq_false, Bool.and_eq_true, Bool.or_eq_false_iff, beq_iff_eq, bne_iff_ne, Int.not_lt, Int.not_le, ne_eq] at hc12
      refine Sx.st_skip hT rfl rfl rfl rfl ?_
      clear hT; intro a hT
      refine Sx.st_skip hT rfl rfl rfl rfl ?_
      clear hT; intro a hT
      refine Sx.st_skip hT rfl rfl rfl rfl ?_
      clear hT; intro a hT
      refine Sx.st_skip hT rfl rfl rfl rfl ?_
      clear hT; intro a hT
      refine Sx.st_take hT rfl rfl rfl rfl (Sx.x_pick_f hT rfl rfl rfl) ?_
      clear hT; intro a hT
      replace hT := hT.keep [26, 14, 5, 6, 7, 4, 2, 0] rfl
      refine Sx.ser_nil ?_
      refine Sx.then_normal (hK11 _ _ ?_)
      clear hK11
      refine Sx.wp_if hT rfl (fun h => by cases h) (fun _ => ?_)
      have hd9 : (s ++ [46])[i]? = some 46 := by rw [show i = s.length from by omega]; simp
      refine wp_skip ?_
      refine Sx.then_normal (hK10 _ _ ?_)
      clear hK10
      refine wp_seq_k fun K25 hK25 => ?_
      -- region 7 (hlc.go:71)
      refine Sx.wp_text [(0, .take), (1, .take), (2, .take), (3, .take), (4, .run), (5, .take), (6, .take), (7, .take), (8, .take), (9, .take)] rfl ?_
      refine Sx.st_take hT rfl rfl rfl rfl (Sx.x_move hT rfl rfl) ?_
      clear hT; intro a hT
      refine Sx.st_take hT rfl rfl rfl rfl (Sx.x_move hT rfl rfl) ?_
      clear hT; intro a hT
      refine Sx.st_take hT rfl rfl rfl rfl (Sx.x_move hT rfl rfl) ?_
      clear hT; intro a hT
      refine Sx.st_take hT rfl rfl rfl rfl (Sx.x_sliceStr_lh hT rfl Tryd.underlying9 rfl rfl rfl rfl rfl (by omega) (by omega)) ?_
      clear hT; intro a hT
      refine Sx.st_call hT rfl rfl rfl rfl rfl Tryd.can36 rfl (Atoi_calls (pcs s f i) (by simp [pcs]; omega) _ (RE.at H.ext)) ?_
      rintro _ w10 ⟨v, ev, rfl, hvin, hev, hvn, E⟩
      refine ⟨_, rfl, ?_⟩
      clear hT; intro a hT
      replace H := H.pure E; clear E
      refine Sx.st_take hT rfl rfl rfl rfl (Sx.x_move hT rfl rfl) ?_
      clear hT; intro a hT
      refine Sx.st_take hT rfl rfl rfl rfl (Sx.x_extractL hT rfl rfl rfl) ?_
      clear hT; intro a hT
      refine Sx.st_take hT rfl rfl rfl rfl (Sx.x_extractL hT rfl rfl rfl) ?_
      clear hT; intro a hT
      refine Sx.st_take hT rfl rfl rfl rfl (Sx.x_assign hT rfl rfl) ?_
      clear hT; intro a hT
      refine Sx.st_take hT rfl rfl rfl rfl (Sx.x_assign hT rfl rfl) ?_
      clear hT; intro a hT
      replace hT := hT.keep [9, 8, 26, 14, 5, 6, 7, 4, 2, 0] rfl
      refine Sx.ser_nil ?_
      refine Sx.then_normal (hK25 _ _ ?_)
      clear hK25
      refine wp_seq_k fun K26 hK26 => ?_
      refine wp_seq_k fun K27 hK27 => ?_
      -- region 8 (hlc.go:72)
      refine Sx.wp_draws (fun u => Sx.Ext (Sx.No) u) [(0, .take), (1, .take), (2, .take), (3, .take), (4, .take), (5, .take), (6, .take), (7, .take), (9, .take), (10, .take), (11, .take), (12, .take), (8, .run), (13, .take), (14, .take)] (by kernel_rfl) (by kernel_rfl) (fun u E _ => ?_)
      replace H := H.pure E; clear E
      refine Sx.st_take hT rfl rfl rfl rfl (Sx.x_move hT rfl rfl) ?_
      clear hT; intro a hT
      refine Sx.st_take hT rfl rfl rfl rfl ((fun w => Sx.x_gt w hT rfl rfl rfl)) ?_
      clear hT; intro a hT
      refine Sx.st_take hT rfl rfl rfl rfl (Sx.x_move hT rfl rfl) ?_
      clear hT; intro a hT
      -- guard (8, 2)
      refine Sx.Sl.two hT 37 rfl (fun hc28 hT => ?_) (fun hc28 hT => ?_)
      · try simp only [decide_eq_true_eq, decide_eq_false_iff_not, Bool.not_eq_true', Bool.not_eq_false', Bool.not_eq_true, Bool.not_eq_false, Bool.and_eq_true, Bool.or_eq_false_iff, beq_iff_eq, bne_iff_ne, Int.not_lt, Int.not_le, ne_eq] at hc28
        refine Sx.st_skip hT rfl rfl rfl rfl ?_
        clear hT; intro a hT
        refine Sx.st_skip hT rfl rfl rfl rfl ?_
        clear hT; intro a hT
        refine Sx.st_take hT rfl rfl rfl rfl (Sx.x_pick_t hT rfl rfl rfl) ?_
        clear hT; intro a hT
        refine Sx.st_take hT rfl rfl rfl rfl (Sx.x_move hT rfl rfl) ?_
        clear hT; intro a hT
        refine Sx.st_skip hT rfl rfl rfl rfl ?_
        clear hT; intro a hT
        refine Sx.st_skip hT rfl rfl rfl rfl ?_
        clear hT; intro a hT
        refine Sx.st_skip hT rfl rfl rfl rfl ?_
        clear hT; intro a hT
        refine Sx.st_skip hT rfl rfl rfl rfl ?_
        clear hT; intro a hT
        refine Sx.st_skip hT rfl rfl rfl rfl ?_
        clear hT; intro a hT
        refine Sx.st_runskip hT rfl rfl rfl rfl ?_
        clear hT; intro a hT
        refine Sx.st_skip hT rfl rfl rfl rfl ?_
        clear hT; intro a hT
        refine Sx.st_take hT rfl rfl rfl rfl (Sx.x_pick_t hT rfl rfl rfl) ?_
        clear hT; intro a hT
        replace hT := hT.keep [49, 9, 8, 26, 14, 5, 6, 7, 4, 2, 0] rfl
        refine Sx.ser_calm ?_
        refine Sx.then_normal (hK27 _ _ ?_)
        clear hK27
        refine Sx.wp_if hT rfl (fun _ => ?_) (fun h => by cases h)
        refine wp_seq_k fun K29 hK29 => ?_
        -- region 9 (hlc.go:73)
        refine Sx.wp_text [(0, .take), (1, .run), (2, .take)] rfl ?_
        refine Sx.st_take hT rfl rfl rfl rfl (Sx.x_bld hT rfl Tryd.bld23 rfl rfl) ?_
        clear hT; intro a hT
        refine Sx.st_act hT rfl rfl rfl (Sx.y_storeS hT rfl Tryd.ti23 rfl rfl rfl rfl rfl (H.blk 1 rfl) rfl) ?_
        rintro w11 ⟨hb, E, _⟩
        replace H := H.setB 1 rfl hb E rfl; clear hb E
        refine Sx.st_take hT rfl rfl rfl rfl (Sx.x_assign hT rfl rfl) ?_
        clear hT; intro a hT
        replace hT := hT.keep [3, 49, 9, 8, 26, 14, 5, 6, 7, 4, 2, 0] rfl
        refine Sx.ser_nil ?_
        refine Sx.then_normal (hK29 _ _ ?_)
        clear hK29
        refine wp_ret ?_
        refine Sx.then_ret ?_
        refine Sx.block_ret ?_
        refine Sx.then_ret ?_
        refine Sx.then_ret ?_
        refine Sx.block_ret ?_
        refine Sx.then_ret ?_
        refine Sx.done2 (fn := Tryd.f31) hT rfl (.cell (hT.get 2 _ rfl) (Sx.run_resS Tryd.underlying23 Tryd.ti23 ((H.blk 1 rfl).seg (k := 3) rfl) (by rfl))) (.tmp (hT.get 3 _ rfl)) ?_
        exact ⟨0, 0, 0, 4, rfl, .inr ⟨rfl, rfl, rfl, rfl, hg.bad (by omega) hd9 (.inl (by omega))⟩, H.ext⟩
      · try simp only [decide_eq_true_eq, decide_eq_false_iff_not, Bool.not_eq_true', Bool.not_eq_false', Bool.not_eq_true, Bool.not_eq_false, Bool.and_eq_true, Bool.or_eq_false_iff, beq_iff_eq, bne_iff_ne, Int.not_lt, Int.not_le, ne_eq] at hc28
        refine Sx.st_take hT rfl rfl rfl rfl (Sx.x_move hT rfl rfl) ?_
        clear hT; intro a hT
        refine Sx.st_take hT rfl rfl rfl rfl (x_neNil hT rfl Tryd.underlying63 rfl hev) ?_
        clear hT; intro a hT
        refine Sx.st_take hT rfl rfl rfl rfl (Sx.x_pick_f hT rfl rfl rfl) ?_
        clear hT; intro a hT
        refine Sx.st_take hT rfl rfl rfl rfl (Sx.x_move hT rfl rfl) ?_
        clear hT; intro a hT
        -- guard (8, 6)
        refine Sx.Sl.two hT 41 rfl (fun hc30 hT => ?_) (fun hc30 hT => ?_)
        · try simp only [decide_eq_true_eq, decide_eq_false_iff_not, Bool.not_eq_true', Bool.not_eq_false', Bool.not_eq_true, Bool.not_eq_false, Bool.and_eq_true, Bool.or_eq_false_iff, beq_iff_eq, bne_iff_ne, Int.not_lt, Int.not_le, ne_eq] at hc30
          have hnn := hc30
          refine Sx.st_skip hT rfl rfl rfl rfl ?_
          clear hT; intro a hT
          refine Sx.st_skip hT rfl rfl rfl rfl ?_
          clear hT; intro a hT
          refine Sx.st_skip hT rfl rfl rfl rfl ?_
          clear hT; intro a hT
          refine Sx.st_skip hT rfl rfl rfl rfl ?_
          clear hT; intro a hT
          refine Sx.st_skip hT rfl rfl rfl rfl ?_
          clear hT; intro a hT
          refine Sx.st_runskip hT rfl rfl rfl rfl ?_
          clear hT; intro a hT
          refine Sx.st_skip hT rfl rfl rfl rfl ?_
          clear hT; intro a hT
          refine Sx.st_take hT rfl rfl rfl rfl (Sx.x_pick_t hT rfl rfl rfl) ?_
          clear hT; intro a hT
          replace hT := hT.keep [49, 9, 8, 26, 14, 5, 6, 7, 4, 2, 0] rfl
          refine Sx.ser_calm ?_
          refine Sx.then_normal (hK27 _ _ ?_)
          clear hK27
          refine Sx.wp_if hT rfl (fun _ => ?_) (fun h => by cases h)
          refine wp_seq_k fun K31 hK31 => ?_
          -- region 9 (hlc.go:73)
          refine Sx.wp_text [(0, .take), (1, .run), (2, .take)] rfl ?_
          refine Sx.st_take hT rfl rfl rfl rfl (Sx.x_bld hT rfl Tryd.bld23 rfl rfl) ?_
          clear hT; intro a hT
          refine Sx.st_act hT rfl rfl rfl (Sx.y_storeS hT rfl Tryd.ti23 rfl rfl rfl rfl rfl (H.blk 1 rfl) rfl) ?_
          rintro w12 ⟨hb, E, _⟩
          replace H := H.setB 1 rfl hb E rfl; clear hb E
          refine Sx.st_take hT rfl rfl rfl rfl (Sx.x_assign hT rfl rfl) ?_
          clear hT; intro a hT
          replace hT := hT.keep [3, 49, 9, 8, 26, 14, 5, 6, 7, 4, 2, 0] rfl
          refine Sx.ser_nil ?_
          refine Sx.then_normal (hK31 _ _ ?_)
          clear hK31
          refine wp_ret ?_
          refine Sx.then_ret ?_
          refine Sx.block_ret ?_
          refine Sx.then_ret ?_
          refine Sx.then_ret ?_
          refine Sx.block_ret ?_
          refine Sx.then_ret ?_
          refine Sx.done2 (fn := Tryd.f31) hT rfl (.cell (hT.get 2 _ rfl) (Sx.run_resS Tryd.underlying23 Tryd.ti23 ((H.blk 1 rfl).seg (k := 3) rfl) (by rfl))) (.tmp (hT.get 3 _ rfl)) ?_
          exact ⟨0, 0, 0, 4, rfl, .inr ⟨rfl, rfl, rfl, rfl, hg.bad (by omega) hd9 (.inr (fun n h1 h2 => by obtain ⟨-, rfl⟩ := hvn n h1 h2; exact absurd hnn (by decide)))⟩, H.ext⟩
        · try simp only [decide_eq_true_eq, decide_eq_false_iff_not, Bool.not_eq_true', Bool.not_eq_false', Bool.not_eq_true, Bool.not_eq_false, Bool.and_eq_true, Bool.or_eq_false_iff, beq_iff_eq, bne_iff_ne, Int.not_lt, Int.not_le, ne_eq] at hc30
          refine Sx.st_take hT rfl rfl rfl rfl (Sx.x_move hT rfl rfl) ?_
          clear hT; intro a hT
          refine Sx.st_take hT rfl rfl rfl rfl (Sx.x_move hT rfl rfl) ?_
          clear hT; intro a hT
          refine Sx.st_take hT rfl rfl rfl rfl (Sx.x_move hT rfl rfl) ?_
          clear hT; intro a hT
          refine Sx.st_take hT rfl rfl rfl rfl (Sx.x_move hT rfl rfl) ?_
          clear hT; intro a hT
          refine Sx.st_take hT rfl rfl rfl rfl (Sx.x_sliceStr_lh hT rfl Tryd.underlying9 rfl rfl rfl rfl rfl (by omega) (by omega)) ?_
          clear hT; intro a hT
          refine Sx.st_call hT rfl rfl rfl rfl rfl Tryd.can34 rfl (Itoa_calls v hvin.1 hvin.2 _ (RT.at H.ext)) ?_
          rintro _ w13 ⟨rfl, E⟩
          refine ⟨_, rfl, ?_⟩
          clear hT; intro a hT
          replace H := H.pure E; clear E
          refine Sx.st_take hT rfl rfl rfl rfl ((fun w => Sx.x_strne w hT rfl rfl rfl)) ?_
          clear hT; intro a hT
          refine Sx.st_take hT rfl rfl rfl rfl (Sx.x_pick_f hT rfl rfl rfl) ?_
          clear hT; intro a hT
          replace hT := hT.keep [49, 9, 8, 26, 14, 5, 6, 7, 4, 2, 0] rfl
          refine Sx.ser_calm ?_
          refine Sx.then_normal (hK27 _ _ ?_)
          clear hK27
          -- cond 2
          refine Sx.wp_if hT rfl (fun hc32 => ?_) (fun hc32 => ?_)
          · try simp only [decide_eq_true_eq, decide_eq_false_iff_not, Bool.not_eq_true', Bool.not_eq_false', Bool.not_eq_true, Bool.not_eq_false, Bool.and_eq_true, Bool.or_eq_false_iff, beq_iff_eq, bne_iff_ne, Int.not_lt, Int.not_le, ne_eq] at hc32
            try (have hneq := hc32)
            refine wp_seq_k fun K33 hK33 => ?_
            -- region 9 (hlc.go:73)
            refine Sx.wp_text [(0, .take), (1, .run), (2, .take)] rfl ?_
            refine Sx.st_take hT rfl rfl rfl rfl (Sx.x_bld hT rfl Tryd.bld23 rfl rfl) ?_
            clear hT; intro a hT
            refine Sx.st_act hT rfl rfl rfl (Sx.y_storeS hT rfl Tryd.ti23 rfl rfl rfl rfl rfl (H.blk 1 rfl) rfl) ?_
            rintro w14 ⟨hb, E, _⟩
            replace H := H.setB 1 rfl hb E rfl; clear hb E
            refine Sx.st_take hT rfl rfl rfl rfl (Sx.x_assign hT rfl rfl) ?_
            clear hT; intro a hT
            replace hT := hT.keep [3, 49, 9, 8, 26, 14, 5, 6, 7, 4, 2, 0] rfl
            refine Sx.ser_nil ?_
            refine Sx.then_normal (hK33 _ _ ?_)
            clear hK33
            refine wp_ret ?_
            refine Sx.then_ret ?_
            refine Sx.block_ret ?_
            refine Sx.then_ret ?_
            refine Sx.then_ret ?_
            refine Sx.block_ret ?_
            refine Sx.then_ret ?_
            refine Sx.done2 (fn := Tryd.f31) hT rfl (.cell (hT.get 2 _ rfl) (Sx.run_resS Tryd.underlying23 Tryd.ti23 ((H.blk 1 rfl).seg (k := 3) rfl) (by rfl))) (.tmp (hT.get 3 _ rfl)) ?_
            exact ⟨0, 0, 0, 4, rfl, .inr ⟨rfl, rfl, rfl, rfl, hg.bad (by omega) hd9 (.inr (fun n h1 h2 => by obtain ⟨rfl, -⟩ := hvn n h1 h2; exact hneq h2))⟩, H.ext⟩
          · try simp only [decide_eq_true_eq, decide_eq_false_iff_not, Bool.not_eq_true', Bool.not_eq_false', Bool.not_eq_true, Bool.not_eq_false, Bool.and_eq_true, Bool.or_eq_false_iff, beq_iff_eq, bne_iff_ne, Int.not_lt, Int.not_le, ne_eq] at hc32
            have hcan : Lib.itoa v = pcs s f i := hc32
            refine wp_skip ?_
            refine Sx.then_normal (hK26 _ _ ?_)
            clear hK26
            refine wp_seq_k fun K34 hK34 => ?_
            -- region 10 (hlc.go:75)
            refine Sx.wp_text [(0, .take), (1, .take), (2, .take), (3, .run)] rfl ?_
            refine Sx.st_take hT rfl rfl rfl rfl (Sx.x_move hT rfl rfl) ?_
            clear hT; intro a hT
            refine Sx.st_take hT rfl rfl rfl rfl (Sx.x_move hT rfl rfl) ?_
            clear hT; intro a hT
            refine Sx.st_take hT rfl rfl rfl rfl (Sx.x_indexAddr_array (k := vs.length) hT rfl Tryd.underlying61 Tryd.ti3 rfl rfl rfl (by omega)) ?_
            clear hT; intro a hT
            refine Sx.st_act hT rfl rfl rfl (Sx.x_store1 hT rfl Tryd.ti3 rfl rfl rfl (H.blk 0 rfl) (by simp [arr]; omega)) ?_
            rintro w15 ⟨hb, E, _⟩
            replace H := H.setB 0 rfl hb E rfl; clear hb E
            rw [show 0 + vs.length * 1 = vs.length from by omega, arr_set (by omega) v _ rfl] at H
            replace hT := hT.keep [49, 9, 8, 26, 14, 5, 6, 7, 4, 2, 0] rfl
            refine Sx.ser_nil ?_
            refine Sx.then_normal (hK34 _ _ ?_)
            clear hK34
            refine wp_seq_k fun K35 hK35 => ?_
            -- region 11 (hlc.go:76)
            refine Sx.wp_text [(0, .take), (1, .take), (2, .take)] rfl ?_
            refine Sx.st_take hT rfl rfl rfl rfl (Sx.x_move hT rfl rfl) ?_
            clear hT; intro a hT
            refine Sx.st_take hT rfl rfl rfl rfl ((fun w => Sx.x_add w hT rfl rfl rfl (Sx.wrap64 (by omega)))) ?_
            clear hT; intro a hT
            refine Sx.st_take hT rfl rfl rfl rfl (Sx.x_assign hT rfl rfl) ?_
            clear hT; intro a hT
            replace hT := hT.keep [5, 49, 9, 8, 26, 14, 6, 7, 4, 2, 0] rfl
            refine Sx.ser_nil ?_
            refine Sx.then_normal (hK35 _ _ ?_)
            clear hK35
            -- region 12 (hlc.go:77)
            refine Sx.wp_text [(0, .take), (1, .take), (2, .take)] rfl ?_
            refine Sx.st_take hT rfl rfl rfl rfl (Sx.x_move hT rfl rfl) ?_
            clear hT; intro a hT
            refine Sx.st_take hT rfl rfl rfl rfl ((fun w => Sx.x_add w hT rfl rfl rfl (Sx.wrap64 (by omega)))) ?_
            clear hT; intro a hT
            refine Sx.st_take hT rfl rfl rfl rfl (Sx.x_assign hT rfl rfl) ?_
            clear hT; intro a hT
            replace hT := hT.keep [6, 5, 49, 9, 8, 26, 14, 7, 4, 2, 0] rfl
            refine Sx.ser_nil ?_
            refine Sx.block_normal ?_
            refine Sx.then_normal (hK9 _ _ ?_)
            clear hK9
            -- region 5 (hlc.go:67)
            refine Sx.wp_text [(0, .take), (1, .take), (2, .take)] rfl ?_
            refine Sx.st_take hT rfl rfl rfl rfl (Sx.x_move hT rfl rfl) ?_
            clear hT; intro a hT
            refine Sx.st_take hT rfl rfl rfl rfl ((fun w => Sx.x_add w hT rfl rfl rfl (Sx.wrap64 (by omega)))) ?_
            clear hT; intro a hT
            refine Sx.st_take hT rfl rfl rfl rfl (Sx.x_assign hT rfl rfl) ?_
            clear hT; intro a hT
            replace hT := hT.keep [7, 6, 5, 49, 9, 8, 26, 14, 4, 2, 0] rfl
            refine Sx.ser_nil ?_
            refine Sx.then_normal ?_
            exact ⟨(vs ++ [v], i + 1, i + 1), ⟨hg.next (by omega) hd9 hcan, by simp; omega, fun u hu => (List.mem_append.1 hu).elim (hvi u) (fun h9 => by rw [List.mem_singleton] at h9; subst h9; exact hvin), fun h9 => h9⟩, ((hT.keep [5, 6, 7, 4, 2, 0] rfl).conv (by simp)), (H.keep [0, 1] rfl rfl), by show _ - (i + 1) < _ - i; omega⟩
  · try simp only [decide_eq_true_eq, decide_eq_false_iff_not, Bool.not_eq_true', Bool.not_eq_false', Bool.not_eq_true, Bool.not_eq_false, Bool.and_eq_true, Bool.or_eq_false_iff, beq_iff_eq, bne_iff_ne, Int.not_lt, Int.not_le, ne_eq] at hc8
    have hend : s ++ [46] = dots (itoas vs) := by
      obtain rfl : i = s.length + 1 := by omega
      exact hg.end (hfe rfl)
    refine wp_exit ?_
    refine Sx.then_exit ?_
    refine Sx.then_exit ?_
    refine Sx.block_exit ?_
    refine Sx.then_normal (hK4 _ _ ?_)
    clear hK4
    refine wp_seq_k fun K36 hK36 => ?_
    -- region 13 (hlc.go:79)
    refine Sx.wp_text [(0, .take), (1, .run), (2, .take), (3, .run), (4, .take), (5, .run), (6, .take), (7, .run), (8, .run)] rfl ?_
    refine Sx.st_take hT rfl rfl rfl rfl (Sx.x_indexAddr_array (k := 0) hT rfl Tryd.underlying61 Tryd.ti3 rfl rfl rfl (by omega)) ?_
    clear hT; intro a hT
    refine Sx.st_run hT rfl rfl rfl rfl (Sx.x_load1 hT rfl Tryd.fl3 rfl ((H.blk 0 rfl).nth rfl)) ?_
    clear hT; intro a hT
    refine Sx.st_take hT rfl rfl rfl rfl (Sx.x_indexAddr_array (k := 1) hT rfl Tryd.underlying61 Tryd.ti3 rfl rfl rfl (by omega)) ?_
    clear hT; intro a hT
    refine Sx.st_run hT rfl rfl rfl rfl (Sx.x_load1 hT rfl Tryd.fl3 rfl ((H.blk 0 rfl).nth rfl)) ?_
    clear hT; intro a hT
    refine Sx.st_take hT rfl rfl rfl rfl (Sx.x_indexAddr_array (k := 2) hT rfl Tryd.underlying61 Tryd.ti3 rfl rfl rfl (by omega)) ?_
    clear hT; intro a hT
    refine Sx.st_run hT rfl rfl rfl rfl (Sx.x_load1 hT rfl Tryd.fl3 rfl ((H.blk 0 rfl).nth rfl)) ?_
    clear hT; intro a hT
    refine Sx.st_take hT rfl rfl rfl rfl (Sx.x_bld hT rfl Tryd.bld23 rfl rfl) ?_
    clear hT; intro a hT
    refine Sx.st_eff hT rfl rfl rfl rfl (Sx.y_alloc hT rfl Tryd.ti23 rfl _) ?_
    clear hT; rintro _ w16 ⟨b3, rfl, N⟩ a hT
    replace H := H.new N; clear N
    refine Sx.st_act hT rfl rfl rfl (Sx.y_storeS hT rfl Tryd.ti23 rfl rfl rfl rfl rfl (H.blk 0 rfl) rfl) ?_
    rintro w17 ⟨hb, E, _⟩
    replace H := H.setB 0 rfl hb E rfl; clear hb E
    replace hT := hT.keep [10, 14, 5, 6, 7, 4, 2, 0] rfl
    refine Sx.ser_nil ?_
    refine Sx.then_normal (hK36 _ _ ?_)
    clear hK36
    refine wp_seq_k fun K37 hK37 => ?_
    refine wp_seq_k fun K38 hK38 => ?_
    -- region 14 (hlc.go:80)
    refine Sx.wp_text [(0, .take), (1, .take), (2, .take), (3, .run), (4, .run), (5, .take), (6, .take)] rfl ?_
    refine Sx.st_take hT rfl rfl rfl rfl (Sx.x_move hT rfl rfl) ?_
    clear hT; intro a hT
    refine Sx.st_take hT rfl rfl rfl rfl ((fun w => Sx.x_ne w hT rfl rfl rfl)) ?_
    clear hT; intro a hT
    refine Sx.st_take hT rfl rfl rfl rfl (Sx.x_move hT rfl rfl) ?_
    clear hT; intro a hT
    -- guard (14, 2)
    refine Sx.Sl.two hT 67 rfl (fun hc39 hT => ?_) (fun hc39 hT => ?_)
    · try simp only [decide_eq_true_eq, decide_eq_false_iff_not, Bool.not_eq_true', Bool.not_eq_false', Bool.not_eq_true, Bool.not_eq_false, Bool.and_eq_true, Bool.or_eq_false_iff, beq_iff_eq, bne_iff_ne, Int.not_lt, Int.not_le, ne_eq] at hc39
      refine Sx.st_runskip hT rfl rfl rfl rfl ?_
      clear hT; intro a hT
      refine Sx.st_runskip hT rfl rfl rfl rfl ?_
      clear hT; intro a hT
      refine Sx.st_skip hT rfl rfl rfl rfl ?_
      clear hT; intro a hT
      refine Sx.st_take hT rfl rfl rfl rfl (Sx.x_pick_t hT rfl rfl rfl) ?_
      clear hT; intro a hT
      replace hT := hT.keep [71, 10, 14, 5, 6, 7, 4, 2, 0] rfl
      refine Sx.ser_nil ?_
      refine Sx.then_normal (hK38 _ _ ?_)
      clear hK38
      refine Sx.wp_if hT rfl (fun _ => ?_) (fun h => by cases h)
      refine wp_seq_k fun K40 hK40 => ?_
      -- region 15 (hlc.go:81)
      refine Sx.wp_text [(0, .take), (1, .run), (2, .take)] rfl ?_
      refine Sx.st_take hT rfl rfl rfl rfl (Sx.x_bld hT rfl Tryd.bld23 rfl rfl) ?_
      clear hT; intro a hT
      refine Sx.st_act hT rfl rfl rfl (Sx.y_storeS hT rfl Tryd.ti23 rfl rfl rfl rfl rfl (H.blk 2 rfl) rfl) ?_
      rintro w18 ⟨hb, E, _⟩
      replace H := H.setB 2 rfl hb E rfl; clear hb E
      refine Sx.st_take hT rfl rfl rfl rfl (Sx.x_assign hT rfl rfl) ?_
      clear hT; intro a hT
      replace hT := hT.keep [3, 71, 10, 14, 5, 6, 7, 4, 2, 0] rfl
      refine Sx.ser_nil ?_
      refine Sx.then_normal (hK40 _ _ ?_)
      clear hK40
      refine wp_ret ?_
      refine Sx.then_ret ?_
      refine Sx.done2 (fn := Tryd.f31) hT rfl (.cell (hT.get 2 _ rfl) (Sx.run_resS Tryd.underlying23 Tryd.ti23 ((H.blk 2 rfl).seg (k := 3) rfl) (by rfl))) (.tmp (hT.get 3 _ rfl)) ?_
      exact ⟨0, 0, 0, 4, rfl, .inr ⟨rfl, rfl, rfl, rfl, fun t ht hs => by have h9 := congrArg List.length ((Got.three hend hvi).1 t ht hs); simp at h9; omega⟩, H.ext⟩
    · try simp only [decide_eq_true_eq, decide_eq_false_iff_not, Bool.not_eq_true', Bool.not_eq_false', Bool.not_eq_true, Bool.not_eq_false, Bool.and_eq_true, Bool.or_eq_false_iff, beq_iff_eq, bne_iff_ne, Int.not_lt, Int.not_le, ne_eq] at hc39
      refine Sx.st_run hT rfl rfl rfl rfl (Sx.y_loadS hT rfl Tryd.underlying23 Tryd.ti23 rfl ((H.blk 0 rfl).seg (k := 3) rfl) (by rfl)) ?_
      clear hT; intro a hT
      refine Sx.st_call hT rfl rfl rfl rfl rfl Tryd.can13 rfl (May_calls _ _ _ _) ?_
      rintro _ w19 ⟨rfl, E⟩
      refine ⟨_, rfl, ?_⟩
      clear hT; intro a hT
      replace H := H.pure E; clear E
      refine Sx.st_take hT rfl rfl rfl rfl (Sx.x_not hT rfl rfl) ?_
      clear hT; intro a hT
      refine Sx.st_take hT rfl rfl rfl rfl (Sx.x_pick_f hT rfl rfl rfl) ?_
      clear hT; intro a hT
      replace hT := hT.keep [71, 10, 14, 5, 6, 7, 4, 2, 0] rfl
      refine Sx.ser_nil ?_
      refine Sx.then_normal (hK38 _ _ ?_)
      clear hK38
      -- cond 3
      refine Sx.wp_if hT rfl (fun hc41 => ?_) (fun hc41 => ?_)
      · try simp only [decide_eq_true_eq, decide_eq_false_iff_not, Bool.not_eq_true', Bool.not_eq_false', Bool.not_eq_true, Bool.not_eq_false, Bool.and_eq_true, Bool.or_eq_false_iff, beq_iff_eq, bne_iff_ne, Int.not_lt, Int.not_le, ne_eq] at hc41
        try (have hmay := hc41)
        refine wp_seq_k fun K42 hK42 => ?_
        -- region 15 (hlc.go:81)
        refine Sx.wp_text [(0, .take), (1, .run), (2, .take)] rfl ?_
        refine Sx.st_take hT rfl rfl rfl rfl (Sx.x_bld hT rfl Tryd.bld23 rfl rfl) ?_
        clear hT; intro a hT
        refine Sx.st_act hT rfl rfl rfl (Sx.y_storeS hT rfl Tryd.ti23 rfl rfl rfl rfl rfl (H.blk 2 rfl) rfl) ?_
        rintro w20 ⟨hb, E, _⟩
        replace H := H.setB 2 rfl hb E rfl; clear hb E
        refine Sx.st_take hT rfl rfl rfl rfl (Sx.x_assign hT rfl rfl) ?_
        clear hT; intro a hT
        replace hT := hT.keep [3, 71, 10, 14, 5, 6, 7, 4, 2, 0] rfl
        refine Sx.ser_nil ?_
        refine Sx.then_normal (hK42 _ _ ?_)
        clear hK42
        refine wp_ret ?_
        refine Sx.then_ret ?_
        refine Sx.done2 (fn := Tryd.f31) hT rfl (.cell (hT.get 2 _ rfl) (Sx.run_resS Tryd.underlying23 Tryd.ti23 ((H.blk 2 rfl).seg (k := 3) rfl) (by rfl))) (.tmp (hT.get 3 _ rfl)) ?_
        exact ⟨0, 0, 0, 4, rfl, .inr ⟨rfl, rfl, rfl, rfl, fun t ht hs => by have h9 := (Got.three hend hvi).1 t ht hs; subst h9; exact absurd ht (by simpa using hmay)⟩, H.ext⟩
      · try simp only [decide_eq_true_eq, decide_eq_false_iff_not, Bool.not_eq_true', Bool.not_eq_false', Bool.not_eq_true, Bool.not_eq_false, Bool.and_eq_true, Bool.or_eq_false_iff, beq_iff_eq, bne_iff_ne, Int.not_lt, Int.not_le, ne_eq] at hc41
        have hmay := hc41
        refine wp_skip ?_
        refine Sx.then_normal (hK37 _ _ ?_)
        clear hK37
        refine wp_seq_k fun K43 hK43 => ?_
        -- region 16 (hlc.go:83)
        refine Sx.wp_text [(0, .run), (1, .run), (2, .take)] rfl ?_
        refine Sx.st_run hT rfl rfl rfl rfl (Sx.y_loadS hT rfl Tryd.underlying23 Tryd.ti23 rfl ((H.blk 0 rfl).seg (k := 3) rfl) (by rfl)) ?_
        clear hT; intro a hT
        refine Sx.st_act hT rfl rfl rfl (Sx.y_storeS hT rfl Tryd.ti23 rfl rfl rfl rfl rfl (H.blk 2 rfl) rfl) ?_
        rintro w21 ⟨hb, E, _⟩
        replace H := H.setB 2 rfl hb E rfl; clear hb E
        refine Sx.st_take hT rfl rfl rfl rfl (Sx.x_assign hT rfl rfl) ?_
        clear hT; intro a hT
        replace hT := hT.keep [3, 71, 10, 14, 5, 6, 7, 4, 2, 0] rfl
        refine Sx.ser_nil ?_
        refine Sx.then_normal (hK43 _ _ ?_)
        clear hK43
        refine wp_ret ?_
        refine Sx.done2 (fn := Tryd.f31) hT rfl (.cell (hT.get 2 _ rfl) (Sx.run_resS Tryd.underlying23 Tryd.ti23 ((H.blk 2 rfl).seg (k := 3) rfl) (by rfl))) (.tmp (hT.get 3 _ rfl)) ?_
        obtain ⟨a, b, c, rfl⟩ : ∃ a b c, vs = [a, b, c] := by
          match vs, (by omega : vs.length = 3) with
          | [a, b, c], _ => exact ⟨a, b, c, rfl⟩
        exact ⟨a, b, c, 0, rfl, .inl ⟨rfl, by simpa using hmay, (Got.three hend hvi).2 a b c rfl⟩, H.ext⟩

end Go.Proofs.YtioebjimkainjaaDoor
