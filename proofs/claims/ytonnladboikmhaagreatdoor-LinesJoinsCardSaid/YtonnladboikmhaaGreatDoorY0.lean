/- Walks: numbers in decimal; the tables of the world. -/
import Derived.Test.YtonnladboikmhaaGreatDoorTy
import Derived.Test.YtonnladboikmhaaGreatDoorX1
import Derived.Test.YtonnladboikmhaaGreatDoorShelf
import Derived.Test.YtonnladboikmhaaGreatDoorTz
import Derived.Test.YtonnladboikmhaaGreatDoorSx0
import Derived.Test.YtonnladboikmhaaGreatDoorSx6
import Derived.Lib.AppendIntMem
import Derived.Lib.ItoaMem
import Derived.Lib.ItoaWalk
import Derived.BigCall
import Derived.BigGuard
set_option linter.unusedSimpArgs false
set_option linter.unusedVariables false
namespace Go.Proofs.YtonnladboikmhaaGreatDoor
namespace Tryz
end Tryz
open Go.Proofs.Tryz Go.Proofs.YtonnladboikmhaaGreatDoor.Tryz
open Sx Go.Shelf Go.RowKit Go.Sort
theorem Tryz.ti5 : Sx.TI Tryz.prog 5 (.int .u8 0) 1 1 := .mk' (by kernel_rfl)
theorem Tryz.can58 : Sx.Can Tryz.prog 58 := ⟨_, func58, by kernel_rfl, rfl⟩
theorem Tryz.can63 : Sx.Can Tryz.prog 63 := ⟨_, func63, by kernel_rfl, rfl⟩
theorem Tryz.can91 : Sx.Can Tryz.prog 91 := ⟨_, func91, by kernel_rfl, rfl⟩
/-! what the world's variables hold -/
theorem var_ext {w w' : World} {name : String} {x : Array Value} (h : w.var? Tryz.prog name = some x) (X : Ext No w w') : w'.var? Tryz.prog name = some x := by
  unfold World.var? at *
  cases hg : Tryz.prog.globalNamed name with
  | none => simp [hg] at h
  | some g =>
    simp only [hg, Option.bind_some] at h ⊢
    cases hb : w.heap[g]? with
    | none => simp [hb] at h
    | some o =>
      have hlt := (Array.getElem?_eq_some_iff.1 hb).1
      rw [X.block g hlt (not_No g), hb]
      rw [hb] at h
      exact h
theorem Tab.ext {w w' : World} {name : String} {k : IntKind} {zs : List Int} (h : Lib.TabIs Tryz.prog w name k zs) (x : Ext No w w') : Lib.TabIs Tryz.prog w' name k zs := var_ext h x
abbrev Tab (w : World) : Prop := Lib.TabIs Tryz.prog w "internal/strconv.uint64pow10" .u64 Lib.pow10Tab
def bruijn : List Int := Lib.deBruijn64tab.map Int.ofNat
abbrev Trail (w : World) : Prop := Lib.TabIs Tryz.prog w "math/bits.deBruijn64tab" .u8 bruijn
def Errs (w : World) : Prop := (∃ t p, w.var? Tryz.prog "strconv.ErrSyntax" = some #[.iface t p]) ∧ ∃ t p, w.var? Tryz.prog "strconv.ErrRange" = some #[.iface t p]
theorem Errs.ext {w w' : World} (h : Errs w) (x : Ext No w w') : Errs w' := by
  obtain ⟨⟨t, p, h1⟩, u, q, h2⟩ := h
  exact ⟨⟨t, p, var_ext h1 x⟩, u, q, var_ext h2 x⟩
structure Env (w : World) : Prop where
  tab : Tab w
  tr : Trail w
  er : Errs w
theorem Env.ext {w w' : World} (h : Env w) (x : Ext No w w') : Env w' := ⟨Tab.ext h.tab x, Tab.ext h.tr x, h.er.ext x⟩
theorem grow_ext (w : World) (k : Nat) (os : Array Obj) : Ext No w (Go.Sort.grow (w.drewN k) os) := by
  refine ⟨rfl, rfl, rfl, ?_, fun i hi _ => ?_, by simp [dr, Go.Sort.grow, World.drewN]⟩
  · simp [Go.Sort.grow, World.drewN]
  simp only [Go.Sort.grow, World.drewN]
  rw [Array.getElem?_append_left hi]
theorem ext_below {w w' : World} (h : Go.RowKit.Below w.heap.size w w') (hd : w.drawn ≤ w'.drawn) : Ext No w w' := ⟨h.os, h.tape, h.output, h.size, fun k hk _ => h.block k hk, hd⟩
theorem bytes_ext (w : World) (e : TypeId) (s : ByteArray) : Ext No w (Lib.bytesWorld w e s) := by
  refine ((Ext.drew w).step (Ext.alloc w.drew (.cells (Lib.bytesCells w e s) e))).trans (T := Sx.One w.heap.size) ?_ (fun i hi h => by unfold Sx.One at h; omega)
  refine ⟨rfl, rfl, rfl, by simp [Lib.bytesWorld, World.freeze], fun k hk hne => ?_, Nat.le_refl _⟩
  simp only [Lib.bytesWorld, World.freeze, Nat.one_ne_zero, if_false]
  rw [Array.getElem?_modify, if_neg (fun e => hne e.symm)]
theorem Itoa_calls (n : Int) (h0 : -9223372036854775808 ≤ n) (h1 : n ≤ 9223372036854775807) (w : World) (ht : Tab w) : Calls Tryz.prog 54 #[.int .i64 n] w fun e w' => e = .returned (.string ⟨(Lib.itoa n).toArray⟩) ∧ Ext No w w' := by
  refine (Tryz.strconv_Itoa n h0 h1 w ht).mono fun e w' h => ?_
  obtain ⟨h2, k, os, rfl⟩ := h
  exact ⟨h2, grow_ext w k os⟩
theorem atoi_in {s : List UInt8} {v : Int} (h : Lib.atoiAll s = .ok v) : inInt v := by
  unfold Lib.atoiAll at h
  split at h
  · cases h
  dsimp only at h
  split at h
  · cases h
  · cases h
  rename_i u hu
  have hlt := Lib.parseMag_lt hu
  unfold inInt
  split at h
  · cases h
  split at h
  · cases h
  injection h with h
  subst h
  split <;> omega
theorem Atoi_calls (s : List UInt8) (hs : s.length ≤ 100000) (w : World) (he : Errs w) : Calls Tryz.prog 108 #[.string ⟨s.toArray⟩] w fun e w' => ∃ v ev, e = .returned (.tuple #[.int .i64 v, ev]) ∧ inInt v ∧ (ev = .nilIface ∨ ∃ p, ev = .iface 171 p) ∧ (∀ n, inInt n → Lib.itoa n = s → v = n ∧ ev = .nilIface) ∧ Ext No w w' := by
  obtain ⟨⟨t, p, h1⟩, u, q, h2⟩ := he
  have hsz : (⟨s.toArray⟩ : ByteArray).size = s.length := by simp [ByteArray.size]
  cases hr : Lib.atoiAll s
  case ok v =>
    refine (Tryz.strconv_Atoi_ok ⟨s.toArray⟩ (by omega) v hr w).mono fun e w' h => ?_
    obtain ⟨rfl, h⟩ := h
    refine ⟨v, .nilIface, rfl, atoi_in hr, .inl rfl, fun n hn h3 => ⟨?_, rfl⟩, ?_⟩
    · rw [← h3, atoi_itoa n hn] at hr
      injection hr with hr
      exact hr.symm
    rcases h with rfl | ⟨t, rfl⟩
    · exact Ext.refl _ _
    exact bytes_ext _ _ _
  case range =>
    refine (calls_drawn (Tryz.strconv_Atoi_range_var ⟨s.toArray⟩ (by omega) hr u q w h2)).mono fun e w' h => ?_
    obtain ⟨⟨N, rfl, -, -, hb⟩, hd⟩ := h
    exact ⟨_, _, rfl, by unfold inInt Lib.atoiSat; split <;> omega, .inr ⟨_, rfl⟩, (fun n hn h3 => by rw [← h3, atoi_itoa n hn] at hr; cases hr), ext_below hb (hd ⟨_, rfl⟩)⟩
  refine (calls_drawn (Any.strconv_Atoi_syntax_var Tryz.laysC172 ⟨s.toArray⟩ (by omega) hr t p w h1)).mono fun e w' h => ?_
  obtain ⟨⟨N, rfl, -, -, hb⟩, hd⟩ := h
  exact ⟨0, _, rfl, by unfold inInt; omega, .inr ⟨_, rfl⟩, (fun n hn h3 => by rw [← h3, atoi_itoa n hn] at hr; cases hr), ext_below hb (hd ⟨_, rfl⟩)⟩
def neNil : Value → Bool
  | .nilIface => false
  | _ => true
theorem x_neNil {nz : Sz} {l : List (Nat × Value)} {a : Act} {o : Oper} {x : Operand} {t t' u : TypeId} {ms : Array (String × TypeId)} {ev : Value} (T : Sl nz l a) (hop : o.op = .binOp .neq t x (.const .nilIface) t') (hu : Tryz.prog.underlying t = some (.interface ms)) (hx : opnd l x = some ev) (he : ev = .nilIface ∨ ∃ p, ev = .iface u p) (w : World) :
    (execOp a.eval o).run Tryz.prog w = .ok (.value (.bool (neNil ev))) w := by
  rcases he with rfl | ⟨p, rfl⟩
  · exact x_nenil (c := .nilIface) T hop hu hx w
  exact x_neiface T hop hu hx rfl w
theorem tabAt {w : World} (h : Trail w) (g : Nat) (hg : Tryz.prog.globalNamed "math/bits.deBruijn64tab" = some g) : TabAt g Lib.deBruijn64tab w := by
  have h1 : w.var? Tryz.prog "math/bits.deBruijn64tab" = some (bruijn.map fun z => Value.int .u8 z).toArray := h
  unfold World.var? at h1
  rw [hg, Option.bind_some] at h1
  intro j hj
  cases hb : w.heap[g]? with
  | none => rw [hb] at h1; cases h1
  | some o =>
    rw [hb] at h1
    cases o with
    | cells cs e f =>
      have h2 : cs = (bruijn.map fun z => Value.int .u8 z).toArray := by simpa using h1
      subst h2
      simp [World.cell?, hb, bruijn, List.getElem?_map, List.getElem?_eq_getElem hj, List.getD]
    | _ => simp at h1
theorem TZ_calls (m : Nat) (h0 : m ≠ 0) (h : m < 18446744073709551616) (w : World) (ht : Trail w) : Calls Tryz.prog 150 #[.int .u64 (m : Int)] w fun e w' => e = .returned (.int .i64 (tz m : Int)) ∧ Ext No w w' := by
  refine (Any7.bits_TrailingZeros64 Tryz.tz m h w fun _ => tabAt ht _ (by kernel_rfl)).mono fun e w' hh => ?_
  obtain ⟨rfl, rfl⟩ := hh
  rw [ctz_tz h0 h]
  exact ⟨rfl, Ext.refl _ _⟩
theorem Len_calls (m : Nat) (h0 : m ≠ 0) (h : m < 18446744073709551616) (w : World) : Calls Tryz.prog 139 #[.int .u64 (m : Int)] w fun e w' => e = .returned (.int .i64 ((m.log2 : Int) + 1)) ∧ Ext No w w' := by
  refine (Tryz.bits_Len64 (m : Int) w (by omega) (by omega)).mono fun e w' hh => ?_
  obtain ⟨rfl, rfl⟩ := hh
  rw [Int.toNat_natCast, bitLen_log h0 h]
  exact ⟨rfl, Ext.refl _ _⟩
theorem IndexByte_calls (s : List UInt8) (c : UInt8) (w : World) : Calls Tryz.prog 70 #[.string ⟨s.toArray⟩, .int .u8 c.toNat] w fun e w' => e = .returned (.int .i64 (Lib.indexByte s c)) ∧ Ext No w w' := by
  refine (Tryz.strings_IndexByte ⟨s.toArray⟩ (c.toNat : Int) w).mono fun e w' hh => ?_
  obtain ⟨rfl, rfl⟩ := hh
  have e : ((c.toNat : Int)).toNat.toUInt8 = c := by
    rw [Int.toNat_natCast]
    exact UInt8.ofNat_toNat
  rw [e]
  exact ⟨rfl, Ext.refl _ _⟩
set_option maxHeartbeats 6400000 in
set_option maxRecDepth 100000 in
theorem FmtU_calls (u : Nat) (hu64 : u < 18446744073709551616) (w : World) (ht : Tab w) : Calls Tryz.prog 91 #[.int .u64 u, .int .i64 10] w fun e w' => e = .returned (.string ⟨(Lib.decDigits u).toArray⟩) ∧ Ext No w w' := by
  by_cases hs : u < 100
  · have iu : (u : Int) < (100 : Int) := by omega
    go_enter func91, ntmps91
    go_wp2_with (go_at_call 118; refine (Tryz.internal_strconv_small u hs _).mono ?_; rintro e w' ⟨rfl, rfl⟩)
    go_ret
    exact ⟨rfl, Ext.refl _ _⟩
  have hu1 : 1 ≤ u := by omega
  have hnd20 : Lib.nDigits u ≤ 20 := by have := Lib.numDigits_eq u hu1 hu64; split at this <;> omega
  have hal : Tryz.prog.arrayLen 139 = 24 := by simp [Program.arrayLen, underlying139]
  have hsl : ∀ W, (Instr.sliceAt 139 (.pointer (some ⟨w.heap.size, 0, none⟩)) none (some (.int .i64 (Lib.nDigits u : Int))) none).run Tryz.prog W = .ok (.slice (some ⟨w.heap.size, 0, none⟩) (Lib.nDigits u) 24) W := fun W => by
    rw [run_sliceAt_array_h W 139 ⟨w.heap.size, 0, none⟩ (by simp [Program.arrayLen, Program.elem, underlying139]) .i64 (Lib.nDigits u : Int) (by omega) (by rw [hal]; omega)]
    go_simp
  have hH0 := Lib.holds_zero0 w 139 (Lib.nDigits u) (by omega)
  have hfmt := Tryz.internal_strconv_formatBase10 w.heap.size 0 24 u (Array.replicate (Lib.nDigits u) 0) (w.alloc (.cells Lib.zeros24 139)) hH0 (by rw [Array.size_replicate]; exact Lib.lt_pow_nDigits u) hu64 (by rw [Array.size_replicate]; omega)
  rw [Array.size_replicate] at hfmt
  have HH0 := Lib.hid hH0
  have iu : (100 : Int) ≤ (u : Int) := by omega
  clear hH0 hal
  go_enter func91, ntmps91
  go_wp2_with (first
    | (go_at_call 119; refine (Tryz.internal_strconv_numDigits u hu1 hu64 _ (Lib.tabIs_alloc ht _)).mono ?_; rintro e w' ⟨rfl, rfl⟩))
  go_at_call 120
  refine hfmt.mono ?_
  rintro e w' ⟨rfl, k, v', dk, rfl, hF⟩
  have hcv : (convert 39 9 (.slice (some ⟨w.heap.size, 0, none⟩) (Lib.nDigits u) 24)).run Tryz.prog ((putRow (fun (b : UInt8) => Value.int .u8 (b.toNat : Int)) (w.alloc (.cells Lib.zeros24 139)) w.heap.size 0 dk).drewN k) = .ok (.string ⟨(Lib.decDigits u).toArray⟩) ((putRow (fun (b : UInt8) => Value.int .u8 (b.toNat : Int)) (w.alloc (.cells Lib.zeros24 139)) w.heap.size 0 dk).drewN k) := by
    have h := run_convert_bytes_back (P := Tryz.prog) ((putRow (fun (b : UInt8) => Value.int .u8 (b.toNat : Int)) (w.alloc (.cells Lib.zeros24 139)) w.heap.size 0 dk).drewN k) 39 9 5 ⟨w.heap.size, 0, none⟩ 24 (Lib.decDigits u) underlying39 underlying5 underlying9 (fun j hj => by
      rw [Lib.row_is_numeral hF j hj, Lib.add_plain, World.cell?_drewN]
      exact cell?_putRow (fun (b : UInt8) => Value.int .u8 (b.toNat : Int)) _ w.heap.size 0 _ dk HH0.out (by rw [hF.size, Array.size_replicate]) j (by rw [hF.size]; rw [Lib.decDigits_length] at hj; exact hj))
    rw [Lib.decDigits_length] at h
    exact h
  go_wp2
  go_ret
  obtain ⟨os, eo⟩ := Lib.fin_at w (.cells Lib.zeros24 139) dk k 0
  rw [eo]
  exact ⟨rfl, grow_ext w k os⟩
theorem FmtU10_calls (u : Nat) (hu : u < 18446744073709551616) (w : World) (ht : Tab w) : Calls Tryz.prog 58 #[.int .u64 u, .int .i64 10] w fun e w' => e = .returned (.string ⟨(Lib.decDigits u).toArray⟩) ∧ Ext No w w' := by
  refine calls_into func58 rfl ntmps58 rfl fun _ T=> ?_; replace T := T.keep [0,1] rfl; have H : Sx.Hp w (Sx.No) w [] := Sx.Hp.start _ _; refine sj (zz 0 [tt]) rfl fun _ Q1 => ?_; refine asn T rfl fun _ T=> ?_; revert Q1 T; refine rg [4,0,1] (zz 0 [tt,tt,uu,tt]) rfl fun _ Q2 T => ?_; refine mv T rfl fun _ T=> mv T rfl fun _ T=> ?_; refine cal T H can91 rfl (FmtU_calls _ hu _ ht) fun w1 H _ T=> asn T rfl fun _ T=> ?_; revert Q2 T; refine rp [4,0,1] rfl fun T => ?_; refine wp_ret ?_; refine dn Tryz.f58 T rfl ?_; exact ⟨rfl, H.ext⟩
theorem td10 (k : Int) : (0 ≤ k ∧ k.tdiv 10 = k / 10 ∧ k.tmod 10 = k % 10) ∨ (k < 0 ∧ k.tdiv 10 = -((-k) / 10) ∧ k.tmod 10 = -((-k) % 10)) := by
  by_cases h : 0 ≤ k
  · exact .inl ⟨h, Int.tdiv_eq_ediv_of_nonneg h, Int.tmod_eq_emod_of_nonneg h⟩
  refine .inr ⟨by omega, ?_, ?_⟩
  · rw [← Int.tdiv_eq_ediv_of_nonneg (by omega), Int.neg_tdiv, Int.neg_neg]
  rw [← Int.tmod_eq_emod_of_nonneg (by omega), Int.neg_tmod, Int.neg_neg]
theorem digits_step {k : Int} (hk : k ≠ 0) {s t : List UInt8} (h : Lib.decDigits k.natAbs ++ s = t) :
    (if k.tdiv 10 = 0 then [] else Lib.decDigits (k.tdiv 10).natAbs) ++ (UInt8.ofNat (48 + k.natAbs % 10) :: s) = t := by
  rw [← h]
  have htd := td10 k
  have e1 : (k.tdiv 10).natAbs = k.natAbs / 10 := by omega
  by_cases h0 : k.natAbs < 10
  · rw [if_pos (by omega), Lib.decDigits_one h0, Nat.mod_eq_of_lt h0]
    rfl
  rw [if_neg (by omega), e1]
  conv => rhs; rw [Lib.decDigits, dif_neg h0]
  simp
theorem neg_abs (k : Int) (h : k.tmod 10 < 0) : -(k.tmod 10) = ((k.natAbs % 10 : Nat) : Int) := by have htd := td10 k; omega
theorem pos_abs (k : Int) (h : ¬ k.tmod 10 < 0) : k.tmod 10 = ((k.natAbs % 10 : Nat) : Int) := by have htd := td10 k; omega
theorem Dec_calls (n : Int) (h0 : -9223372036854775808 ≤ n) (h1 : n ≤ 9223372036854775807) (w : World) : Calls Tryz.prog 63 #[.int .i64 n] w fun e w' => e = .returned (.string ⟨(Lib.itoa n).toArray⟩) ∧ Ext No w w' := by
  have hlen : (Lib.decDigits n.natAbs).length ≤ 20 := by rw [Lib.decDigits_length]; exact nd_le 20 _ (by omega) (by omega)
  refine calls_into func63 rfl ntmps63 rfl fun _ T=> ?_; replace T := T.keep [0] rfl; have H : Sx.Hp w (Sx.No) w [] := Sx.Hp.start _ _; refine sj (zz 0 [tt]) rfl fun _ Q1 => ?_; refine asn T rfl fun _ T=> ?_; revert Q1 T; refine rq [2,0] rfl fun _ Q2 T => ?_; refine sj (zz 0 [tt,tt]) rfl fun _ Q3 => ?_; refine mv T rfl fun _ T=> teq T rfl fun _ T=> ?_; revert Q3 T; refine rif [7,2,0] rfl (fun T hc4 => ?_) (fun T hc4 => ?_)
  · try simp only [bq] at hc4
    have hn0 := hc4; refine sj (zz 0 [tt]) rfl fun _ Q5 => ?_; refine asn T rfl fun _ T=> ?_; revert Q5 T; refine rp [2,7,0] rfl fun T => ?_; refine wp_ret <| then_ret ?_; refine dn Tryz.f63 T rfl ?_; subst hn0; exact ⟨congrArg Ending.returned (congrArg Value.string (by unfold Lib.itoa; rw [if_neg (by omega), show (0 : Int).toNat = 0 from rfl, Lib.decDigits_one (by decide)]; rfl)), H.ext⟩
  try simp only [bq] at hc4
  refine wp_skip ?_; revert Q2; refine nx fun _ Q6 => ?_; refine wp_text (zz 0 [tt]) rfl ?_; refine asn T rfl fun _ T=> ?_; revert Q6 T; refine rq [3,7,2,0] rfl fun _ Q7 T => ?_; refine sj (zz 0 [tt,tt]) rfl fun _ Q8 => ?_; refine mv T rfl fun _ T=> asn T rfl fun _ T=> ?_; revert Q8 T; refine rp [4,3,7,2,0] rfl fun T => ?_; refine wp_block ?_; refine wp_loopH (G := Int × List UInt8) (fun ⟨k, s⟩ => [(3, .string ⟨s.toArray⟩), (4, .int .i64 k)]) (fun ⟨k, s⟩ => []) (fun ⟨k, s⟩ => (-9223372036854775808 ≤ k ∧ k ≤ 9223372036854775807) ∧ (if k = 0 then [] else Lib.decDigits k.natAbs) ++ s = Lib.decDigits n.natAbs) (fun ⟨k, s⟩ => k.natAbs) (n, []) (T.keep [3,4,7,2,0] rfl) (H.keep [] rfl rfl) (⟨⟨h0, h1⟩, by rw [if_neg (by assumption), List.append_nil]⟩) ?_; clear T H; rintro ⟨k, s⟩ a w1 hJ T H; replace T := T.keep [3,4,7,2,0] rfl; replace H := H.keep [] rfl rfl; obtain ⟨hkb, hk⟩ := hJ; have htd := td10 k; have hsl : s.length ≤ 20 := by have h9 := congrArg List.length hk; rw [List.length_append] at h9; omega
  refine wp_seq_k fun _ Q9 => ?_; refine sj (zz 0 [tt,tt]) rfl fun _ Q10 => ?_; refine mv T rfl fun _ T=> tne T rfl fun _ T=> ?_; revert Q10 T; refine rif [10,3,4,7,2,0] rfl (fun T hc11 => ?_) (fun T hc11 => ?_)
  · try simp only [bq] at hc11
    have hk0 : ¬ k = 0 := hc11; refine wp_skip ?_; revert Q9; refine nx fun _ Q12 => ?_; refine wp_block ?_; refine sj (zz 0 [tt,tt,tt]) rfl fun _ Q13 => ?_; refine mv T rfl fun _ T=> ?_; refine tk T rfl ((fun w => x_rem w T rfl rfl rfl (by omega))) fun _ T=> asn T rfl fun _ T=> ?_; revert Q13 T; refine rq [5,10,3,4,7,2,0] rfl fun _ Q14 T => ?_; refine sj (zz 0 [tt,tt]) rfl fun _ Q15 => ?_; refine mv T rfl fun _ T=> tlt T rfl fun _ T=> ?_; revert Q15 T; refine rif [16,5,10,3,4,7,2,0] rfl (fun T hc16 => ?_) (fun T hc16 => ?_)
    · try simp only [bq] at hc16
      refine wp_text (zz 0 [tt,tt,tt]) rfl ?_; refine mv T rfl fun _ T=> ?_; refine tk T rfl ((fun w => x_neg w T rfl rfl (wrap64 (by omega)))) fun _ T=> asn T rfl fun _ T=> ?_; replace T := T.keep [5,16,10,3,4,7,2,0] rfl; refine ser_nil ?_; refine then_normal (Q14 _ _ ?_); clear Q14; rw [neg_abs k (by omega)] at T; refine wp_text (zz 0 [tt,tt,tt,uu,uu,tt,tt,tt]) rfl ?_; refine mv T rfl fun _ T=> tad T rfl (by omega) fun _ T=> ?_; refine tk T rfl ((fun w => x_toint w T rfl underlying3 underlying5 rfl (wrap8 (by omega)))) fun _ T=> ?_; refine st_eff T rfl rfl rfl rfl (y_slice1 T rfl underlying39 ti5 rfl rfl rfl rfl rfl rfl _) ?_; clear T; rintro _ w2 ⟨b1, rfl, N⟩ a T; replace H := H.new N; clear N; refine rn T rfl (x_bytes_string T rfl ((H.blk 0 rfl).bs1n (48 + k.natAbs % 10) (by omega) (by omega)) underlying39 underlying5 underlying9 rfl rfl) fun _ T=> mv T rfl fun _ T=> ?_; refine tct T rfl (by simp only [ll]; omega) ?_
      clear T; intro a T; refine asn T rfl fun _ T=> ?_; replace T := T.keep [3,5,16,10,4,7,2,0] rfl; refine ser_nil ?_; refine block_normal ?_; refine then_normal (Q12 _ _ ?_); clear Q12; refine wp_text (zz 0 [tt,tt,tt]) rfl ?_; refine mv T rfl fun _ T=> ?_; refine tk T rfl ((fun w => x_quo w T rfl rfl rfl (by omega) (wrap64 (by omega)))) fun _ T=> asn T rfl fun _ T=> ?_; replace T := T.keep [4,3,5,16,10,7,2,0] rfl; refine ser_nil ?_; refine then_normal ?_; exact ⟨(k.tdiv 10, UInt8.ofNat (48 + k.natAbs % 10) :: s), ⟨⟨by show _ ≤ k.tdiv 10; omega, by show k.tdiv 10 ≤ _; omega⟩, digits_step hk0 (by simpa [hk0] using hk)⟩, (T.keep [3,4,7,2,0] rfl), (H.keep [] rfl rfl), by show (k.tdiv 10).natAbs < k.natAbs; omega⟩
    try simp only [bq] at hc16
    refine wp_skip ?_; refine then_normal (Q14 _ _ ?_); clear Q14; rw [pos_abs k (by omega)] at T; refine wp_text (zz 0 [tt,tt,tt,uu,uu,tt,tt,tt]) rfl ?_; refine mv T rfl fun _ T=> tad T rfl (by omega) fun _ T=> ?_; refine tk T rfl ((fun w => x_toint w T rfl underlying3 underlying5 rfl (wrap8 (by omega)))) fun _ T=> ?_; refine st_eff T rfl rfl rfl rfl (y_slice1 T rfl underlying39 ti5 rfl rfl rfl rfl rfl rfl _) ?_; clear T; rintro _ w3 ⟨b2, rfl, N⟩ a T; replace H := H.new N; clear N; refine rn T rfl (x_bytes_string T rfl ((H.blk 0 rfl).bs1n (48 + k.natAbs % 10) (by omega) (by omega)) underlying39 underlying5 underlying9 rfl rfl) fun _ T=> mv T rfl fun _ T=> ?_; refine tct T rfl (by simp only [ll]; omega) fun _ T=> asn T rfl fun _ T=> ?_; replace T := T.keep [3,16,5,10,4,7,2,0] rfl; refine ser_nil ?_; refine block_normal ?_; refine then_normal (Q12 _ _ ?_); clear Q12; refine wp_text (zz 0 [tt,tt,tt]) rfl ?_
    refine mv T rfl fun _ T=> ?_; refine tk T rfl ((fun w => x_quo w T rfl rfl rfl (by omega) (wrap64 (by omega)))) fun _ T=> asn T rfl fun _ T=> ?_; replace T := T.keep [4,3,16,5,10,7,2,0] rfl; refine ser_nil ?_; refine then_normal ?_; exact ⟨(k.tdiv 10, UInt8.ofNat (48 + k.natAbs % 10) :: s), ⟨⟨by show _ ≤ k.tdiv 10; omega, by show k.tdiv 10 ≤ _; omega⟩, digits_step hk0 (by simpa [hk0] using hk)⟩, (T.keep [3,4,7,2,0] rfl), (H.keep [] rfl rfl), by show (k.tdiv 10).natAbs < k.natAbs; omega⟩
  try simp only [bq] at hc11
  obtain rfl : k = 0 := hc11; have hs0 : s = Lib.decDigits n.natAbs := by simpa using hk
  refine wp_exit <| then_exit ?_; refine then_exit <| block_exit ?_; revert Q7; refine nx fun _ Q17 => ?_; refine sj (zz 0 [tt,tt]) rfl fun _ Q18 => ?_; refine mv T rfl fun _ T=> tlt T rfl fun _ T=> ?_; revert Q18 T; refine rif [27,10,3,4,7,2,0] rfl (fun T hc19 => ?_) (fun T hc19 => ?_)
  · try simp only [bq] at hc19
    refine sj (zz 0 [tt,tt,tt]) rfl fun _ Q20 => ?_; refine mv T rfl fun _ T=> ?_; refine tct T rfl (by simp only [ll]; omega) fun _ T=> asn T rfl fun _ T=> ?_; revert Q20 T; refine rp [2,27,10,3,4,7,0] rfl fun T => ?_; refine wp_ret <| then_ret ?_; refine dn Tryz.f63 T rfl ?_; exact ⟨congrArg Ending.returned (congrArg (fun l : List UInt8 => Value.string ⟨l.toArray⟩) (by unfold Lib.itoa; rw [if_pos (by omega), hs0]; rfl)), H.ext⟩
  try simp only [bq] at hc19
  refine wp_skip ?_; revert Q17; refine nx fun _ Q21 => ?_; refine wp_text (zz 0 [tt,tt]) rfl ?_; refine mv T rfl fun _ T=> asn T rfl fun _ T=> ?_; revert Q21 T; refine rp [2,27,10,3,4,7,0] rfl fun T => ?_; refine wp_ret ?_; refine dn Tryz.f63 T rfl ?_; exact ⟨congrArg Ending.returned (congrArg (fun l : List UInt8 => Value.string ⟨l.toArray⟩) (by unfold Lib.itoa; rw [if_neg (by omega), hs0, show n.natAbs = n.toNat from by omega])), H.ext⟩
end Go.Proofs.YtonnladboikmhaaGreatDoor
