/- Walks: LinesBack. -/
import Derived.Test.YtonnladboikmhaaGreatDoorW13
set_option linter.unusedSimpArgs false
set_option linter.unusedVariables false
namespace Go.Proofs.YtonnladboikmhaaGreatDoor
open Sx
theorem Tryz.can15 : Sx.Can Tryz.prog 15 := ⟨_, Tryz.func15, by kernel_rfl, rfl⟩
theorem Tryz.can18 : Sx.Can Tryz.prog 18 := ⟨_, Tryz.func18, by kernel_rfl, rfl⟩
theorem Tryz.can20 : Sx.Can Tryz.prog 20 := ⟨_, Tryz.func20, by kernel_rfl, rfl⟩
/-! a text that is read without fault is a printed one -/
theorem parseB_ok {b : Key} (h : (parseB b).2 = 0) : ∃ l, Good l ∧ bodyT l = b := by
  unfold parseB at h
  split at h
  · rename_i h1; exact h1
  · cases h
theorem parse_ok {s : Key} (h : (parseT s).2 = 0) : ∃ l, Good l ∧ textT l = s ∧ parseT s = (l, 0) := by
  have h9 := h
  unfold parseT at h9
  split at h9
  · rename_i ht
    split at h9
    · rename_i hs
      obtain ⟨l, hl, hb⟩ := parseB_ok h9
      obtain ⟨n, hn⟩ : ∃ n, s.length = n + 11 := ⟨s.length - 11, by have := tail_len ht; omega⟩
      obtain ⟨ha, hd⟩ := ahead_at hn
      obtain ⟨-, -, -, h10⟩ := (tail_iff hn).1 ht
      have e : textT l = s := by
        unfold textT
        rw [hb, ← hs, hd, ha]
        obtain ⟨hi, hv⟩ := List.getElem?_eq_some_iff.1 h10
        have e1 : s = s.take (n + 10) ++ [10] := by
          conv => lhs; rw [← List.take_append_drop (n + 10) s, List.drop_eq_getElem_cons hi, hv, List.drop_eq_nil_of_le (by omega)]
        have e2 : s.take (n + 10) = s.take n ++ (s.take (n + 10)).drop n := by
          conv => lhs; rw [← List.take_append_drop n (s.take (n + 10)), List.take_take, Nat.min_eq_left (by omega)]
        rw [← List.append_assoc, ← e2, ← e1]
      exact ⟨l, hl, e, by rw [← e]; exact parseT_text hl⟩
    · cases h9
  · cases h9
theorem parse_bad {s : Key} (h : (parseT s).2 ≠ 0) : (parseT s).1 = [] := by
  unfold parseT at h ⊢
  split
  · split
    · rename_i h1 h2
      rw [if_pos h1, if_pos h2] at h
      unfold parseB at h ⊢
      split
      · rename_i h3
        rw [dif_pos h3] at h
        exact absurd rfl h
      · rfl
    · rfl
  · rfl
theorem text_split (l : List Ep) : (textT l).length = (bodyT l).length + 11 ∧ (textT l).take (bodyT l).length = bodyT l ∧ (textT l).drop (bodyT l).length = sumT (bodyT l) ++ [10] := by
  unfold textT
  refine ⟨?_, List.take_left .., List.drop_left ..⟩
  unfold sumT
  simp [hex8_len]
/-! printed texts are short, their lines too -/
theorem good_lines {l : List Ep} (h : Good l) (hb : ∀ x ∈ l, inS x.s ∧ inT x.t) : ∀ y ∈ linesL l, y.length ≤ 400 := fun y hy => by
  obtain ⟨e, he, hy⟩ := List.mem_flatMap.1 hy
  obtain ⟨i, hi⟩ := List.mem_iff_getElem?.1 he
  obtain ⟨-, -, -, a4, a5, a6⟩ := okE_iff.1 (good_at h.ok hi).1
  obtain ⟨b1, b2⟩ := hb e he
  rcases List.mem_cons.1 hy with rfl | hy
  · have := hdT_le (n := (e.ws.length : Int)) b1 b2 (by unfold inInt; omega)
    omega
  · obtain ⟨w, hw, rfl⟩ := List.mem_map.1 hy
    have h1 := keys_mem a4 hw
    have h2 := a6 w hw
    have h3 := wrT_le w
    unfold keyB at h1
    simp only [Bool.and_eq_true, decide_eq_true_eq] at h1
    rcases mayV_iff.1 h2 with ⟨-, -, h4⟩ | ⟨-, h4, -⟩ | ⟨-, -, h4⟩
    · rw [h4] at h3; simp at h3; omega
    · rw [h4] at h3; simp at h3; omega
    · omega
theorem good_nl {l : List Ep} (h : Good l) (hb : ∀ x ∈ l, inS x.s ∧ inT x.t) : NL 400 (textT l) := by
  have e : textT l = (linesL l).flatMap lin ++ (sumT (bodyT l) ++ [10]) := rfl
  rw [e]
  exact NL.lines (by unfold sumT; simp [hex8_len]) (good_lines h hb)
theorem good_len {l : List Ep} (h : Good l) (hb : ∀ x ∈ l, inS x.s ∧ inT x.t) (hl : l.length ≤ 100) : (textT l).length ≤ 900000 := by
  have h1 : ((linesL l).flatMap lin).length ≤ sumN (fun _ => 401) (linesL l) := flat_sum _ _ fun y hy => by
    have := good_lines h hb y hy
    unfold lin
    simp only [List.length_append, List.length_singleton]
    omega
  have h2 : sumN (fun _ : Key => 401) (linesL l) = 401 * (linesL l).length := by
    have := sumN_mul (f := fun _ : Key => 0) 0 401 (linesL l)
    simpa using this
  have h3 : (linesL l).length ≤ 17 * l.length := by
    unfold linesL
    have : ∀ m : List Ep, (∀ e ∈ m, e.ws.length ≤ 16) → (m.flatMap linesE).length ≤ 17 * m.length := fun m => by
      induction m with
      | nil => intro _; simp
      | cons e m ih =>
        intro hm
        rw [List.flatMap_cons, List.length_append, List.length_cons]
        have h4 := ih fun x hx => hm x (by simp [hx])
        have h5 := hm e (by simp)
        have : (linesE e).length = e.ws.length + 1 := by simp [linesE]
        omega
    refine this l fun e he => ?_
    obtain ⟨i, hi⟩ := List.mem_iff_getElem?.1 he
    exact (okE_iff.1 (good_at h.ok hi).1).2.2.2.2.1
  have h4 := (text_split l).1
  have h5 : (bodyT l).length = ((linesL l).flatMap lin).length := rfl
  omega
/-! a text turned into bytes of one's own: a mark lies behind its last cell -/
def Bt (w : World) (b : Nat) (s : Key) : Prop := ∃ (junk : List Value) (e : TypeId) (sz : Nat), w.heap[b]? = some (.cells (bcells s ++ junk).toArray e (sz, sz + 1)) ∧ sz = (bcells s ++ junk).length
theorem Bt.ext {w w' : World} {b : Nat} {s : Key} {S : Nat → Prop} (h : Bt w b s) (x : Ext S w w') (hb : ¬ S b) : Bt w' b s := by
  obtain ⟨junk, e, sz, h1, h2⟩ := h
  exact ⟨junk, e, sz, (x.block b (Array.getElem?_eq_some_iff.1 h1).1 hb).trans h1, h2⟩
theorem Bt.lt {w : World} {b : Nat} {s : Key} (h : Bt w b s) : b < w.heap.size := by
  obtain ⟨junk, e, sz, h1, -⟩ := h
  exact (Array.getElem?_eq_some_iff.1 h1).1
theorem bcells_at {s : Key} {j : Nat} {c : UInt8} (h : s[j]? = some c) : (bcells s)[j]? = some (.int .u8 c.toNat) := by
  unfold bcells
  rw [List.getElem?_map, h]
  rfl
theorem bcells_len (s : Key) : (bcells s).length = s.length := by unfold bcells; simp
theorem Bt.at_ {w : World} {b : Nat} {s : Key} (h : Bt w b s) {j : Nat} {c : UInt8} (hc : s[j]? = some c) : w.cell? ⟨b, j, none⟩ = some (.int .u8 c.toNat) := by
  obtain ⟨junk, e, sz, h1, -⟩ := h
  have hj := (List.getElem?_eq_some_iff.1 hc).1
  have h2 : (bcells s ++ junk)[j]? = some (.int .u8 c.toNat) := by
    rw [List.getElem?_append_left (by rw [bcells_len]; exact hj)]
    exact bcells_at hc
  simp [World.cell?, h1, h2]
theorem Bt.bs {w : World} {b : Nat} {s : Key} (h : Bt w b s) (k : Nat) : Bs w (some ⟨b, 0, none⟩) (s.take k) := by
  refine ⟨by rw [bcells_len, Nat.mul_one], fun _ => rfl, fun j v hj => ?_⟩
  show w.cell? ⟨b, 0 + j, none⟩ = some v
  rw [Nat.zero_add]
  unfold bcells at hj
  rw [List.getElem?_map, Option.map_eq_some_iff] at hj
  obtain ⟨c, hc, rfl⟩ := hj
  rw [List.getElem?_take] at hc
  split at hc
  · exact h.at_ hc
  · cases hc
section
variable {nz : Sz} {l : List (Nat × Value)} {a : Act} {o : Oper} {t t' e : TypeId} {x y : Operand} {s : Key} {w : World}
end
theorem printL_ok {l : List Ep} (h : (printL l).2 = 0) : fault l = 0 ∧ (printL l).1 = textT l := by
  unfold printL at h ⊢
  split
  · rename_i h1
    exact ⟨h1, rfl⟩
  · rename_i h1
    rw [if_neg h1] at h
    exact absurd h h1
theorem good_arg {w : World} {l : List En} (h : fault (l.map En.p) = 0) (hf : ∀ r ∈ l, Arg1 w r) : Good (l.map En.p) ∧ ∀ x ∈ l.map En.p, inS x.s ∧ inT x.t := by
  refine ⟨⟨h, fun p hp => ?_⟩, fun p hp => ?_⟩
  · obtain ⟨x, hx, rfl⟩ := List.mem_map.1 hp
    obtain ⟨-, h2, -, -, -, h6⟩ := hf x hx
    exact ⟨⟨h6.2.1, h6.2.2⟩, fun y hy => (h2 y hy).2.n⟩
  · obtain ⟨x, hx, rfl⟩ := List.mem_map.1 hp
    exact (hf x hx).2.2.2.2
theorem map_nil {l : List En} {s : Key} (h : l.map En.p = (parseT s).1) (hb : (parseT s).2 ≠ 0) : l = [] := List.map_eq_nil_iff.1 (h.trans (parse_bad hb))
noncomputable def lastT (s : Key) : Stp × Int := if (parseT s).2 = 0 then (match (parseT s).1.getLast? with
  | some e => (e.s, 0)
  | none => (sz0, 0)) else (sz0, (parseT s).2)
noncomputable def joinT (x y : Key) : Key × Int := if (parseT x).2 = 0 then (if (parseT y).2 = 0 then printL ((parseT x).1 ++ (parseT y).1) else ([], (parseT y).2)) else ([], (parseT x).2)
def above (l : List Ep) (q : Stp) : List Ep := l.dropWhile fun e => decide (cmpS e.s q ≤ 0)
noncomputable def sinceT (s : Key) (q : Stp) : Key × Int := if (parseT s).2 = 0 then printL (above (parseT s).1 q) else ([], (parseT s).2)
theorem prp_good {l : List Ep} (h : Good l) : ∀ p ∈ l, PrP p := fun p hp => by
  obtain ⟨i, hi⟩ := List.mem_iff_getElem?.1 hp
  obtain ⟨a1, a2, -, a4, a5, a6⟩ := okE_iff.1 (good_at h.ok hi).1
  obtain ⟨⟨b1, b2⟩, b3⟩ := h.num p hp
  refine ⟨by omega, ?_, ⟨?_, b1, b2⟩, fun y hy => ?_⟩
  · unfold mayS at a2
    have a2 := of_decide_eq_true a2
    unfold inS inInt
    omega
  · unfold mayT at a1
    have a1 := of_decide_eq_true a1
    unfold inInt
    omega
  · have h1 := keys_mem a4 hy
    have h2 := a6 y hy
    unfold keyB at h1
    simp only [Bool.and_eq_true, decide_eq_true_eq] at h1
    refine ⟨b3 y hy, by omega, ?_⟩
    rcases mayV_iff.1 h2 with ⟨-, -, h4⟩ | ⟨-, h4, -⟩ | ⟨-, -, h4⟩
    · rw [h4]; simp
    · rw [h4]; simp
    · omega
theorem parse_body (s : Key) : (bodyT (parseT s).1).length ≤ s.length := by
  by_cases h : (parseT s).2 = 0
  · obtain ⟨l, -, e, hp⟩ := parse_ok h
    have := (text_split l).1
    rw [hp]
    show (bodyT l).length ≤ _
    rw [← e]
    omega
  · rw [parse_bad h]
    exact Nat.zero_le _
theorem body_app (l m : List Ep) : bodyT (l ++ m) = bodyT l ++ bodyT m := by unfold bodyT linesL; rw [List.flatMap_append, List.flatMap_append]
theorem takeW {α : Type} {f : α → Bool} : ∀ {l : List α} {x : α}, x ∈ l.takeWhile f → f x = true
  | [], x, h => by cases h
  | y :: l, x, h => by
    rw [List.takeWhile_cons] at h
    split at h
    · rename_i hy
      rcases List.mem_cons.1 h with rfl | h
      · exact hy
      · exact takeW h
    · cases h
theorem body_cnt : ∀ l : List Ep, 2 * l.length ≤ (bodyT l).length
  | [] => Nat.le_refl _
  | e :: l => by
    have ih := body_cnt l
    have h1 : bodyT (e :: l) = bodyT [e] ++ bodyT l := body_app [e] l
    have h2 : 2 ≤ (bodyT [e]).length := by
      have h3 : bodyT [e] = lin (hdT e.t e.s e.ws.length) ++ (e.ws.map wrT).flatMap lin := by simp [bodyT, linesL, linesE]
      rw [h3, List.length_append]
      have : 2 ≤ (lin (hdT e.t e.s e.ws.length)).length := by simp [lin, hdT]
      omega
    rw [h1, List.length_append, List.length_cons]
    omega
theorem above_app (l : List Ep) (q : Stp) : ∃ m, l = m ++ above l q ∧ ∀ e ∈ m, cmpS e.s q ≤ 0 := ⟨l.takeWhile fun e => decide (cmpS e.s q ≤ 0), (List.takeWhile_append_dropWhile).symm, fun e he => by simpa using takeW he⟩
theorem above_stop {l : List Ep} {q : Stp} {j : Nat} (h : ∀ i e, i < j → l[i]? = some e → cmpS e.s q ≤ 0) (hj : ∀ e, l[j]? = some e → ¬ cmpS e.s q ≤ 0) : above l q = l.drop j := by
  unfold above
  induction l generalizing j with
  | nil => simp
  | cons e l ih =>
    cases j with
    | zero =>
      have := hj e rfl
      rw [List.dropWhile_cons_of_neg (by simpa using this)]
      rfl
    | succ j =>
      have := h 0 e (by omega) rfl
      rw [List.dropWhile_cons_of_pos (by simpa using this), List.drop_succ_cons]
      exact ih (fun i x hi hx => h (i + 1) x (by omega) (by simpa using hx)) (fun x hx => hj x (by simpa using hx))
theorem flat_cutE {l : List En} {p : Nat} (hp : p ≤ l.length) : ((l.flatMap En.cells).drop (p * 7)).take ((l.length - p) * 7) = (l.drop p).flatMap En.cells := by
  rw [flat_drop En.len, List.take_of_length_le (by rw [Sx.flat_len En.len, List.length_drop]; exact Nat.le_refl _)]
theorem e_cut {w : World} {ad : Option Addr} {c : Nat} {L : List En} {k : Nat} (h : Ss w ad En.cells 7 L ∧ L.length ≤ c) (hk : k ≤ L.length) :
    Ss w (cutAt ad 7 k c) En.cells 7 (L.drop k) ∧ (L.drop k).length ≤ c - k := by
  have h1 := Sv.cut (lo := k) (hi := L.length) (c := c) h.1 hk (Nat.le_refl _) h.2
  rw [flat_cutE hk, show L.length - k = (L.drop k).length from List.length_drop.symm] at h1
  exact ⟨h1, by rw [List.length_drop]; have := h.2; omega⟩
theorem Last_calls (s : List UInt8) (hs : s.length ≤ 1000000) (hnl : NL 30000 s) {w : World} (hE : Env2 w) : Calls Tryz.prog 18 #[.string ⟨s.toArray⟩] w fun e w' => e = .returned (.tuple #[Value.agg #[.int .i64 (lastT s).1.w, .int .i64 (lastT s).1.l, .int .i64 (lastT s).1.n], .int .i64 (lastT s).2]) ∧ Ext No w w' := by
  have RE : Ro w No Env2 := Ro.of fun w' x => Env2.ext hE x; refine calls_into Tryz.func18 rfl Tryz.ntmps18 rfl fun a hT => ?_; replace hT := hT.keep [0] rfl; have H : Sx.Hp w (Sx.No) w [] := Sx.Hp.start _ _; refine sj (zz 0 [uu,tt]) rfl fun K1 hK1 => ?_; refine st_eff hT rfl rfl rfl rfl (y_alloc hT rfl Tryz.ti28 rfl _) ?_; clear hT; rintro _ w1 ⟨b1, rfl, N⟩ a hT; replace H := H.new N; clear N; refine asn hT rfl fun a hT => ?_; revert hT; revert hK1; refine rg [3,2,0] (zz 0 [tt,uu,tt,tt,tt,tt,tt]) rfl fun K2 hK2 hT => ?_; refine mv hT rfl fun a hT => ?_; refine st_call hT rfl rfl rfl rfl rfl Tryz.can14 rfl (LParse_calls s hs hnl (RE.at H.ext)) ?_; rintro _ w2 ⟨ad1, c1, l1, rfl, hm1, hl1, hw1, K⟩; refine ⟨_, rfl, ?_⟩; clear hT; intro a hT; replace H := H.more K rfl; clear K; refine mv hT rfl fun a hT => ?_; refine tk hT rfl (x_extractL hT rfl rfl rfl) fun a hT => ?_; refine tk hT rfl (x_extractL hT rfl rfl rfl) fun a hT => asn hT rfl fun a hT => asn hT rfl fun a hT => ?_; revert hT; revert hK2
  refine rq [5,4,3,2,0] rfl fun K3 hK3 hT => ?_; refine sj (zz 0 [tt,tt,tt,tt,tt,tt,tt]) rfl fun K4 hK4 => ?_; refine mv hT rfl fun a hT => ?_; refine tk hT rfl ((fun w => x_ne w hT rfl rfl rfl)) fun a hT => mv hT rfl fun a hT => ?_; refine Sl.two hT 13 rfl (fun hc5 hT => ?_) (fun hc5 hT => ?_)
  · try simp only [bq] at hc5
    have hne9 : ¬ (parseT s).2 = 0 := hc5; refine sk hT rfl fun a hT => sk hT rfl fun a hT => sk hT rfl fun a hT => ?_; refine tk hT rfl (x_pick_t hT rfl rfl rfl) fun a hT => ?_; replace hT := hT.keep [17,5,4,3,2,0] rfl; refine ser_nil ?_; refine then_normal (hK4 _ _ ?_); clear hK4; refine wp_if hT rfl (fun _ => ?_) (fun h => by cases h); refine sj (zz 0 [tt,tt,uu,tt]) rfl fun K6 hK6 => ?_; refine tk hT rfl (x_bld hT rfl Tryz.bld28 rfl rfl) fun a hT => mv hT rfl fun a hT => ?_; refine st_act hT rfl rfl rfl (y_storeS hT rfl Tryz.ti28 rfl rfl rfl rfl rfl (H.blk 2 rfl) rfl) ?_; rintro w3 ⟨hb, E, _⟩; replace H := H.setB 2 rfl hb E rfl; clear hb E; refine asn hT rfl fun a hT => ?_; revert hT; revert hK6; refine rp [3,17,5,4,2,0] rfl fun hT => ?_; refine wp_ret <| then_ret ?_; refine done2 (fn := Tryz.f18) hT rfl (.cell (hT.get 2 _ rfl) (Sx.run_resS Tryz.underlying28 Tryz.ti28 ((H.blk 2 rfl).seg (k := 3) rfl) (by rfl))) (.tmp (hT.get 3 _ rfl)) ?_; unfold lastT; rw [if_neg (fun h9 => hne9 h9)]; exact ⟨rfl, H.ext⟩
  · try simp only [bq] at hc5
    have hz9 : (parseT s).2 = 0 := hc5; refine mv hT rfl fun a hT => ?_; refine tk hT rfl (x_len_slice hT rfl rfl Tryz.underlying22 rfl) fun a hT => ?_; refine tk hT rfl ((fun w => x_eq w hT rfl rfl rfl)) fun a hT => ?_; refine tk hT rfl (x_pick_f hT rfl rfl rfl) fun a hT => ?_; revert hT; revert hK4; refine rif [17,5,4,3,2,0] rfl (fun hT hc7 => ?_) (fun hT hc7 => ?_)
    · try simp only [bq] at hc7
      refine sj (zz 0 [tt,tt,uu,tt]) rfl fun K8 hK8 => ?_; refine tk hT rfl (x_bld hT rfl Tryz.bld28 rfl rfl) fun a hT => mv hT rfl fun a hT => ?_; refine st_act hT rfl rfl rfl (y_storeS hT rfl Tryz.ti28 rfl rfl rfl rfl rfl (H.blk 2 rfl) rfl) ?_; rintro w4 ⟨hb, E, _⟩; replace H := H.setB 2 rfl hb E rfl; clear hb E; refine asn hT rfl fun a hT => ?_; revert hT; revert hK8; refine rp [3,17,5,4,2,0] rfl fun hT => ?_; refine wp_ret <| then_ret ?_; refine done2 (fn := Tryz.f18) hT rfl (.cell (hT.get 2 _ rfl) (Sx.run_resS Tryz.underlying28 Tryz.ti28 ((H.blk 2 rfl).seg (k := 3) rfl) (by rfl))) (.tmp (hT.get 3 _ rfl)) ?_; unfold lastT; rw [if_pos hz9, ← hm1, show l1 = [] from List.eq_nil_of_length_eq_zero (by omega)]; rw [hz9]; exact ⟨rfl, H.ext⟩
    · try simp only [bq] at hc7
      obtain ⟨g, hg⟩ : ∃ q9, l1[l1.length - 1]? = some q9 := ⟨_, List.getElem?_eq_getElem (by omega)⟩; refine wp_skip ?_; revert hK3; refine nx fun K9 hK9 => ?_; refine wp_text (zz 0 [tt,tt,tt,tt,tt,tt,uu,uu,tt]) rfl ?_; refine mv hT rfl fun a hT => mv hT rfl fun a hT => ?_; refine tk hT rfl (x_len_slice hT rfl rfl Tryz.underlying22 rfl) fun a hT => ?_; refine tk hT rfl ((fun w => x_sub w hT rfl rfl rfl (wrap64 (by omega)))) fun a hT => ?_; refine tk hT rfl (x_index (k := l1.length - 1) hT rfl Tryz.underlying22 Tryz.ti31 (H.row 0 rfl).sv rfl rfl (by omega) (by omega)) fun a hT => fad hT Tryz.fa31_1 rfl fun a hT => ?_; refine rn hT rfl (y_loadS hT rfl Tryz.underlying28 Tryz.ti28 rfl (((((H.row 0 rfl).ssn rfl).cs En.len hg).seg (i := 3) (k := 3) rfl)) (by rfl)) fun a hT => ?_; refine st_act hT rfl rfl rfl (y_storeS hT rfl Tryz.ti28 rfl rfl rfl rfl rfl (H.blk 2 rfl) rfl) ?_; rintro w5 ⟨hb, E, _⟩; replace H := H.setB 2 rfl hb E rfl; clear hb E; refine asn hT rfl fun a hT => ?_; revert hT; revert hK9; refine rp [3,17,5,4,2,0] rfl fun hT => ?_; refine wp_ret ?_; refine done2 (fn := Tryz.f18) hT rfl (.cell (hT.get 2 _ rfl) (Sx.run_resS Tryz.underlying28 Tryz.ti28 ((H.blk 2 rfl).seg (k := 3) rfl) (by rfl))) (.tmp (hT.get 3 _ rfl)) ?_; unfold lastT; rw [if_pos hz9, ← hm1, last_map hg]; exact ⟨rfl, H.ext⟩
theorem Join_calls (x y : List UInt8) (hx : x.length ≤ 1000000) (hxnl : NL 30000 x) (hy : y.length ≤ 1000000) (hynl : NL 30000 y) {w : World} (hE : Env2 w) : Calls Tryz.prog 15 #[.string ⟨x.toArray⟩, .string ⟨y.toArray⟩] w fun e w' => e = .returned (.tuple #[.string ⟨(joinT x y).1.toArray⟩, .int .i64 (joinT x y).2]) ∧ Ext No w w' := by
  have RE : Ro w No Env2 := Ro.of fun w' x => Env2.ext hE x; refine calls_into Tryz.func15 rfl Tryz.ntmps15 rfl fun a hT => ?_; replace hT := hT.keep [0,1] rfl; have H : Sx.Hp w (Sx.No) w [] := Sx.Hp.start _ _; refine sj (zz 0 [tt,tt]) rfl fun K1 hK1 => ?_; refine asn hT rfl fun a hT => asn hT rfl fun a hT => ?_; revert hT; revert hK1; refine rg [5,4,0,1] (zz 0 [tt,uu,tt,tt,tt,tt,tt]) rfl fun K2 hK2 hT => ?_; refine mv hT rfl fun a hT => ?_; refine st_call hT rfl rfl rfl rfl rfl Tryz.can14 rfl (LParse_calls x hx hxnl (RE.at H.ext)) ?_; rintro _ w1 ⟨ad1, c1, l1, rfl, hm1, hl1, hw1, K⟩; refine ⟨_, rfl, ?_⟩; clear hT; intro a hT; replace H := H.more K rfl; clear K; refine mv hT rfl fun a hT => ?_; refine tk hT rfl (x_extractL hT rfl rfl rfl) fun a hT => ?_; refine tk hT rfl (x_extractL hT rfl rfl rfl) fun a hT => asn hT rfl fun a hT => asn hT rfl fun a hT => ?_; revert hT; revert hK2; refine rq [7,6,5,4,0,1] rfl fun K3 hK3 hT => ?_; refine sj (zz 0 [tt,tt]) rfl fun K4 hK4 => ?_; refine mv hT rfl fun a hT => ?_; refine tk hT rfl ((fun w => x_ne w hT rfl rfl rfl)) fun a hT => ?_; revert hT; revert hK4; refine rif [15,7,6,5,4,0,1] rfl (fun hT hc5 => ?_) (fun hT hc5 => ?_)
  · try simp only [bq] at hc5
    have hne9 : ¬ (parseT x).2 = 0 := hc5; refine sj (zz 0 [tt,tt,tt]) rfl fun K6 hK6 => ?_; refine mv hT rfl fun a hT => asn hT rfl fun a hT => asn hT rfl fun a hT => ?_; revert hT; revert hK6; refine rp [5,4,15,7,6,0,1] rfl fun hT => ?_; refine wp_ret <| then_ret ?_; refine done2 (fn := Tryz.f15) hT rfl (.tmp (hT.get 4 _ rfl)) (.tmp (hT.get 5 _ rfl)) ?_; unfold joinT; rw [if_neg (fun h9 => hne9 h9)]; exact ⟨rfl, H.ext⟩
  · try simp only [bq] at hc5
    have hz1 : (parseT x).2 = 0 := hc5; refine wp_skip ?_; revert hK3; refine nx fun K7 hK7 => ?_; refine wp_text (zz 0 [tt,uu,tt,tt,tt,tt,tt]) rfl ?_; refine mv hT rfl fun a hT => ?_; refine st_call hT rfl rfl rfl rfl rfl Tryz.can14 rfl (LParse_calls y hy hynl (RE.at H.ext)) ?_; rintro _ w2 ⟨ad2, c2, l2, rfl, hm2, hl2, hw2, K⟩; refine ⟨_, rfl, ?_⟩; clear hT; intro a hT; replace H := H.more K rfl; clear K; refine mv hT rfl fun a hT => ?_; refine tk hT rfl (x_extractL hT rfl rfl rfl) fun a hT => ?_; refine tk hT rfl (x_extractL hT rfl rfl rfl) fun a hT => asn hT rfl fun a hT => asn hT rfl fun a hT => ?_; revert hT; revert hK7; refine rq [7,8,15,6,5,4,0,1] rfl fun K8 hK8 hT => ?_; refine sj (zz 0 [tt,tt]) rfl fun K9 hK9 => ?_; refine mv hT rfl fun a hT => ?_; refine tk hT rfl ((fun w => x_ne w hT rfl rfl rfl)) fun a hT => ?_; revert hT; revert hK9; refine rif [23,7,8,15,6,5,4,0,1] rfl (fun hT hc10 => ?_) (fun hT hc10 => ?_)
    · try simp only [bq] at hc10
      have hne9 : ¬ (parseT y).2 = 0 := hc10; refine sj (zz 0 [tt,tt,tt]) rfl fun K11 hK11 => ?_; refine mv hT rfl fun a hT => asn hT rfl fun a hT => asn hT rfl fun a hT => ?_; revert hT; revert hK11; refine rp [5,4,23,7,8,15,6,0,1] rfl fun hT => ?_; refine wp_ret <| then_ret ?_; refine done2 (fn := Tryz.f15) hT rfl (.tmp (hT.get 4 _ rfl)) (.tmp (hT.get 5 _ rfl)) ?_; unfold joinT; rw [if_pos hz1, if_neg (fun h9 => hne9 h9)]; exact ⟨rfl, H.ext⟩
    · try simp only [bq] at hc10
      have hz2 : (parseT y).2 = 0 := hc10; refine wp_skip ?_; revert hK8; refine nx fun K12 hK12 => ?_; refine wp_text (zz 0 [tt,tt,uu,uu,tt,tt,tt,tt]) rfl ?_; refine mv hT rfl fun a hT => mv hT rfl fun a hT => ?_; refine st_eff hT rfl rfl rfl rfl (x_append hT rfl rfl Tryz.underlying22 Tryz.ti31 rfl (by decide) rfl rfl (H.row 2 rfl) ((H.row 0 rfl).sv) (fun u hu => flat_one En.one _ u hu) (rownil (H.row 0 rfl)) (by unfold maxLen; omega) (by omega)) ?_; rintro _ w3 ⟨ad3, c3, rfl, hr, E, hown, -⟩; clear hT; intro a hT; replace H := H.setR 2 rfl hr E hown rfl; clear hr E hown; rw [← List.flatMap_append, show l1.length + l2.length = (l1 ++ l2).length from List.length_append.symm] at H; rw [show l1.length + l2.length = (l1 ++ l2).length from List.length_append.symm] at hT; refine st_call hT rfl rfl rfl rfl rfl Tryz.can11 rfl (PrintL_calls (l1 ++ l2) ((H.row 2 rfl).ssn (by simp)) (fun q hq => (List.mem_append.1 hq).elim (fun h9 => prE_of (fam_ss (H.fam 3 rfl) h9) (prp_good (parseT_good x) q.p (by rw [← hm1]; exact List.mem_map_of_mem h9))) (fun h9 => prE_of (fam_ss (H.fam 1 rfl) h9) (prp_good (parseT_good y) q.p (by rw [← hm2]; exact List.mem_map_of_mem h9)))) (by rw [List.length_append]; have k1 := body_cnt (parseT x).1; have k2 := body_cnt (parseT y).1; have k3 := parse_body x; have k4 := parse_body y; rw [← hm1, List.length_map, hm1] at k1; rw [← hm2, List.length_map, hm2] at k2; omega) (by rw [List.map_append, hm1, hm2, body_app, List.length_append]; have := parse_body x; have := parse_body y; omega) (RE.at H.ext).e) ?_
      rintro _ w4 ⟨rfl, E⟩; refine ⟨_, rfl, ?_⟩; clear hT; intro a hT; replace H := H.pure E; clear E; rw [List.map_append, hm1, hm2] at hT; refine tk hT rfl (x_extractL hT rfl rfl rfl) fun a hT => ?_; refine tk hT rfl (x_extractL hT rfl rfl rfl) fun a hT => asn hT rfl fun a hT => asn hT rfl fun a hT => ?_; revert hT; revert hK12; refine rp [5,4,23,7,8,15,6,0,1] rfl fun hT => ?_; refine wp_ret ?_; refine done2 (fn := Tryz.f15) hT rfl (.tmp (hT.get 4 _ rfl)) (.tmp (hT.get 5 _ rfl)) ?_; unfold joinT; rw [if_pos hz1, if_pos hz2]; exact ⟨rfl, H.ext⟩
theorem Since_calls (s : List UInt8) (hs : s.length ≤ 1000000) (hnl : NL 30000 s) (q : Stp) {w : World} (hE : Env2 w) : Calls Tryz.prog 20 #[.string ⟨s.toArray⟩, .agg #[.int .i64 q.w, .int .i64 q.l, .int .i64 q.n]] w fun e w' => e = .returned (.tuple #[.string ⟨(sinceT s q).1.toArray⟩, .int .i64 (sinceT s q).2]) ∧ Ext No w w' := by
  have RE : Ro w No Env2 := Ro.of fun w' x => Env2.ext hE x; refine calls_into Tryz.func20 rfl Tryz.ntmps20 rfl fun a hT => ?_; replace hT := hT.keep [0,1] rfl; have H : Sx.Hp w (Sx.No) w [] := Sx.Hp.start _ _; refine sj (zz 0 [uu,tt,tt]) rfl fun K1 hK1 => ?_; refine st_eff hT rfl rfl rfl rfl (y_box hT rfl rfl rfl _) ?_; clear hT; rintro _ w1 ⟨b1, rfl, N⟩ a hT; replace H := H.new N; clear N; refine asn hT rfl fun a hT => asn hT rfl fun a hT => ?_; revert hT; revert hK1; refine rg [5,4,3,0,1] (zz 0 [tt,uu,tt,tt,tt,tt,tt]) rfl fun K2 hK2 hT => ?_; refine mv hT rfl fun a hT => ?_; refine st_call hT rfl rfl rfl rfl rfl Tryz.can14 rfl (LParse_calls s hs hnl (RE.at H.ext)) ?_; rintro _ w2 ⟨ad1, c1, l1, rfl, hm1, hl1, hw1, K⟩; refine ⟨_, rfl, ?_⟩; clear hT; intro a hT; replace H := H.more K rfl; clear K; refine mv hT rfl fun a hT => ?_; refine tk hT rfl (x_extractL hT rfl rfl rfl) fun a hT => ?_; refine tk hT rfl (x_extractL hT rfl rfl rfl) fun a hT => asn hT rfl fun a hT => ?_
  refine asn hT rfl fun a hT => ?_; revert hT; revert hK2; refine rq [7,6,5,4,3,0,1] rfl fun K3 hK3 hT => ?_; refine sj (zz 0 [tt,tt]) rfl fun K4 hK4 => ?_; refine mv hT rfl fun a hT => ?_; refine tk hT rfl ((fun w => x_ne w hT rfl rfl rfl)) fun a hT => ?_; revert hT; revert hK4; refine rif [14,7,6,5,4,3,0,1] rfl (fun hT hc5 => ?_) (fun hT hc5 => ?_)
  · try simp only [bq] at hc5
    have hne9 : ¬ (parseT s).2 = 0 := hc5; refine sj (zz 0 [tt,tt,tt]) rfl fun K6 hK6 => ?_; refine mv hT rfl fun a hT => asn hT rfl fun a hT => asn hT rfl fun a hT => ?_; revert hT; revert hK6; refine rp [5,4,14,7,6,3,0,1] rfl fun hT => ?_; refine wp_ret <| then_ret ?_; refine done2 (fn := Tryz.f20) hT rfl (.tmp (hT.get 4 _ rfl)) (.tmp (hT.get 5 _ rfl)) ?_; unfold sinceT; rw [if_neg (fun h9 => hne9 h9)]; exact ⟨rfl, H.ext⟩
  · try simp only [bq] at hc5
    have hz9 : (parseT s).2 = 0 := hc5; refine wp_skip ?_; revert hK3; refine nx fun K7 hK7 => ?_; refine wp_block ?_; replace H := H.turn (q := fun u => Ss u ad1 En.cells 7 l1 ∧ l1.length ≤ c1) 0 rfl (fun u hu => ⟨hu.ssn rfl, hu.le.1⟩) rfl; rw [show l1 = l1.drop 0 from rfl] at H hT; refine wp_loopH (G := Nat × Option Addr × Nat) (fun ⟨j, ad2, c2⟩ => [(6, .slice ad2 (l1.drop j).length c2)]) (fun ⟨j, ad2, c2⟩ => [(Own ad1, fun u => Ss u ad2 En.cells 7 (l1.drop j) ∧ (l1.drop j).length ≤ c2)]) (fun ⟨j, ad2, c2⟩ => j ≤ l1.length ∧ ∀ i e, i < j → (parseT s).1[i]? = some e → cmpS e.s q ≤ 0) (fun ⟨j, ad2, c2⟩ => l1.length - j) (0, ad1, c1) (hT.keep [6,14,7,5,4,3,0,1] rfl) (H.keep [0,1,2] rfl rfl) (⟨Nat.zero_le _, fun i e h => absurd h (Nat.not_lt_zero _)⟩) ?_; clear hT H; rintro ⟨j, ad2, c2⟩ a w3 hJ hT H; replace hT := hT.keep [6,14,7,5,4,3,0,1] rfl; replace H := H.keep [0,1,2] rfl rfl; obtain ⟨hj, hup⟩ := hJ; refine wp_seq_k fun K8 hK8 => ?_; refine wp_seq_k fun K9 hK9 => ?_; revert H; refine drw (Sx.No) [(0, .take), (1, .take), (2, .take), (3, .take), (4, .take), (5, .take), (6, .take), (7, .held), (8, .held), (9, .run), (10, .take), (11, .take)] (by kernel_rfl) (by kernel_rfl) fun u H hH => ?_; have Hu := H; refine mv hT rfl fun a hT => ?_; refine tk hT rfl (x_len_slice hT rfl rfl Tryz.underlying22 rfl) ?_
    clear hT; intro a hT; refine tk hT rfl ((fun w => x_gt w hT rfl rfl rfl)) fun a hT => mv hT rfl fun a hT => ?_; refine Sl.two hT 19 rfl (fun hc10 hT => ?_) (fun hc10 hT => ?_)
    · try simp only [bq] at hc10
      have hjl : j < l1.length := by have h9 := hc10; rw [List.length_drop] at h9; omega
      obtain ⟨o, ho⟩ : ∃ q9, l1[j]? = some q9 := ⟨_, List.getElem?_eq_getElem (by omega)⟩; refine mv hT rfl fun a hT => ?_; refine tk hT rfl (x_index (k := 0) hT rfl Tryz.underlying22 Tryz.ti31 ((H.at 0 rfl).1.sv) rfl rfl rfl (by rw [List.length_drop]; omega)) fun a hT => fad hT Tryz.fa31_1 rfl fun a hT => ?_; refine hed hT rfl hH (fun w' h' => y_loadS hT rfl Tryz.underlying28 Tryz.ti28 rfl ((((Hu.held 0 rfl h' off_No).1.cs (i := 0) En.len (show (l1.drop j)[0]? = some o from by rw [List.getElem?_drop, Nat.add_zero]; exact ho)).seg (i := 3) (k := 3) rfl)) (by rfl)) fun a hT => ?_; refine hed hT rfl hH (fun w' h' => y_loadS hT rfl Tryz.underlying28 Tryz.ti28 rfl ((Hu.heldB 2 rfl h' off_No).seg (k := 3) rfl) (by rfl)) fun a hT => ?_; refine st_call hT rfl rfl rfl rfl rfl Tryz.can25 rfl (Compare_calls o.s q _) ?_; rintro _ w4 ⟨rfl, E⟩; refine ⟨_, rfl, ?_⟩; clear hT; intro a hT; replace H := H.pure E; clear E; refine tk hT rfl ((fun w => x_le w hT rfl rfl rfl)) fun a hT => ?_; refine tk hT rfl (x_pick_t hT rfl rfl rfl) fun a hT => ?_; replace hT := hT.keep [27,6,14,7,5,4,3,0,1] rfl; clear Hu hH; refine ser_calm ?_; refine then_normal (hK9 _ _ ?_); clear hK9; refine wp_if hT rfl (fun hc11 => ?_) (fun hc11 => ?_)
      · try simp only [bq] at hc11
        have hle9 : cmpS o.s q ≤ 0 := hc11; refine wp_skip ?_; refine then_normal (hK8 _ _ ?_); clear hK8; refine wp_block ?_; refine wp_text (zz 0 [tt,tt,tt]) rfl ?_; refine mv hT rfl fun a hT => ?_; refine tk hT rfl (x_slice_l (p := 1) hT rfl Tryz.underlying22 Tryz.ti31 rfl rfl rfl (by rw [List.length_drop]; omega)) fun a hT => asn hT rfl fun a hT => ?_; replace hT := hT.keep [6,27,14,7,5,4,3,0,1] rfl; refine ser_nil ?_; refine block_normal ?_; refine then_normal ?_; replace H := H.turn (q := fun u => Ss u (cutAt ad2 7 1 c2) En.cells 7 (l1.drop (j + 1)) ∧ (l1.drop (j + 1)).length ≤ c2 - 1) 0 rfl (fun u hu => by
          have h8 := e_cut (k := 1) hu (by rw [List.length_drop]; omega); rw [List.drop_drop] at h8; exact h8) rfl
        exact ⟨(j + 1, cutAt ad2 7 1 c2, c2 - 1), ⟨by show j + 1 ≤ _; omega, fun i e hi he => by
              rcases Nat.lt_or_ge i j with h8 | h8
              · exact hup i e h8 he
              · obtain rfl : i = j := (by have : i < j + 1 := hi; omega)
                rw [← hm1, List.getElem?_map, ho] at he; cases he
                exact hle9⟩, ((hT.keep [6,14,7,5,4,3,0,1] rfl).conv (by rw [show (l1.drop j).length - 1 = (l1.drop (j + 1)).length from by rw [List.length_drop, List.length_drop]; omega]; rfl)), (H.keep [0,1,2] rfl rfl), by show _ - (j + 1) < _ - j; omega⟩
      · try simp only [bq] at hc11
        have hab : above (parseT s).1 q = (l1.drop j).map En.p := by
          rw [List.map_drop, hm1]; refine above_stop (fun i e hi he => ?_) (fun e he => ?_)
          · exact hup i e hi he
          · rw [← hm1, List.getElem?_map, ho] at he; cases he; show ¬ cmpS o.s q ≤ 0; omega
        refine wp_exit <| then_exit ?_; refine then_exit <| block_exit ?_; revert hK7; refine nx fun K12 hK12 => ?_; refine wp_text (zz 0 [tt,uu,tt,tt,tt,tt]) rfl ?_; refine mv hT rfl fun a hT => ?_; refine st_call hT rfl rfl rfl rfl rfl Tryz.can11 rfl (PrintL_calls (l1.drop j) (H.at 0 rfl).1 (fun x hx => prE_of (fam_ss (H.fam 1 rfl) (List.mem_of_mem_drop hx)) (prp_good (parseT_good s) x.p (by rw [← hm1]; exact List.mem_map_of_mem (List.mem_of_mem_drop hx)))) (by rw [List.length_drop]; omega) (by rw [← hab]; have h7 := parse_body s; obtain ⟨m7, h6, -⟩ := above_app (parseT s).1 q; rw [h6, body_app, List.length_append] at h7; omega) (RE.at H.ext).e) ?_; rintro _ w5 ⟨rfl, E⟩; refine ⟨_, rfl, ?_⟩; clear hT; intro a hT; replace H := H.pure E; clear E; rw [← hab] at hT; refine tk hT rfl (x_extractL hT rfl rfl rfl) fun a hT => ?_; refine tk hT rfl (x_extractL hT rfl rfl rfl) fun a hT => asn hT rfl fun a hT => asn hT rfl fun a hT => ?_; revert hT; revert hK12; refine rp [5,4,27,6,14,7,3,0,1] rfl fun hT => ?_; refine wp_ret ?_; refine done2 (fn := Tryz.f20) hT rfl (.tmp (hT.get 4 _ rfl)) (.tmp (hT.get 5 _ rfl)) ?_
        unfold sinceT; rw [if_pos hz9]; exact ⟨rfl, H.ext⟩
    · try simp only [bq] at hc10
      have hjl : l1.length ≤ j := by have h9 := hc10; rw [List.length_drop] at h9; omega
      refine sk hT rfl fun a hT => sk hT rfl fun a hT => sk hT rfl fun a hT => ?_; refine st_heldskip hT rfl rfl rfl rfl hH fun a hT => ?_; refine st_heldskip hT rfl rfl rfl rfl hH fun a hT => ?_; refine st_runskip hT rfl rfl rfl rfl fun a hT => sk hT rfl fun a hT => ?_; refine tk hT rfl (x_pick_f hT rfl rfl rfl) fun a hT => ?_; replace hT := hT.keep [27,6,14,7,5,4,3,0,1] rfl; clear Hu hH; refine ser_calm ?_; refine then_normal (hK9 _ _ ?_); clear hK9; refine wp_if hT rfl (fun h => by cases h) (fun _ => ?_); have hab : above (parseT s).1 q = (l1.drop j).map En.p := by
        rw [List.map_drop, hm1]; refine above_stop (fun i e hi he => ?_) (fun e he => ?_)
        · exact hup i e hi he
        · rw [← hm1, List.getElem?_map, List.getElem?_eq_none hjl] at he; cases he
      refine wp_exit <| then_exit ?_; refine then_exit <| block_exit ?_; revert hK7; refine nx fun K13 hK13 => ?_; refine wp_text (zz 0 [tt,uu,tt,tt,tt,tt]) rfl ?_; refine mv hT rfl fun a hT => ?_; refine st_call hT rfl rfl rfl rfl rfl Tryz.can11 rfl (PrintL_calls (l1.drop j) (H.at 0 rfl).1 (fun x hx => prE_of (fam_ss (H.fam 1 rfl) (List.mem_of_mem_drop hx)) (prp_good (parseT_good s) x.p (by rw [← hm1]; exact List.mem_map_of_mem (List.mem_of_mem_drop hx)))) (by rw [List.length_drop]; omega) (by rw [← hab]; have h7 := parse_body s; obtain ⟨m7, h6, -⟩ := above_app (parseT s).1 q; rw [h6, body_app, List.length_append] at h7; omega) (RE.at H.ext).e) ?_; rintro _ w6 ⟨rfl, E⟩; refine ⟨_, rfl, ?_⟩; clear hT; intro a hT; replace H := H.pure E; clear E; rw [← hab] at hT; refine tk hT rfl (x_extractL hT rfl rfl rfl) fun a hT => ?_; refine tk hT rfl (x_extractL hT rfl rfl rfl) fun a hT => asn hT rfl fun a hT => asn hT rfl fun a hT => ?_; revert hT; revert hK13; refine rp [5,4,27,6,14,7,3,0,1] rfl fun hT => ?_; refine wp_ret ?_; refine done2 (fn := Tryz.f20) hT rfl (.tmp (hT.get 4 _ rfl)) (.tmp (hT.get 5 _ rfl)) ?_
      unfold sinceT; rw [if_pos hz9]; exact ⟨rfl, H.ext⟩
theorem body_take (l : List Ep) (k : Nat) : (bodyT (l.take k)).length ≤ (bodyT l).length := by
  have h := congrArg bodyT (List.take_append_drop k l)
  rw [body_app] at h
  rw [← h, List.length_append]
  omega
theorem printL_good {l : List Ep} (h : Good l) : printL l = (textT l, 0) := by unfold printL; rw [if_pos h.ok]
theorem good_take {l : List Ep} (h : Good l) (k : Nat) : Good (l.take k) := good_pre (m := l.drop k) (by rw [List.take_append_drop]; exact h)
theorem good_drop {l : List Ep} (h : Good l) (k : Nat) : Good (l.drop k) := good_suf (l := l.take k) (by rw [List.take_append_drop]; exact h)
theorem rot_iff {l : List Ep} (h : Good l) {k : Nat} (hk : k ≤ l.length) : (printL (l.drop k ++ l.take k)).2 = 0 ↔ k = 0 ∨ k = l.length := by
  constructor
  · intro h0
    have h1 := (printL_ok h0).1
    rcases Nat.eq_zero_or_pos k with h2 | h2
    · exact .inl h2
    · rcases Nat.lt_or_ge k l.length with h3 | h3
      · exfalso
        have hd : (l.drop k).length = l.length - k := List.length_drop
        have e1 : (l.drop k ++ l.take k)[l.length - k]? = some l[0] := by
          rw [List.getElem?_append_right (by omega), hd, Nat.sub_self, List.getElem?_take, if_pos h2]
          exact List.getElem?_eq_getElem (by omega)
        have e2 : (l.drop k ++ l.take k)[l.length - k - 1]? = some l[l.length - 1] := by
          rw [List.getElem?_append_left (by omega), List.getElem?_drop, show k + (l.length - k - 1) = l.length - 1 from by omega]
          exact List.getElem?_eq_getElem (by omega)
        have h4 := (good_at h1 e1).2 _ (by omega) e2
        have h5 := good_rise h.ok (l.length - 1) 0 _ _ (by omega) (List.getElem?_eq_getElem (by omega)) (List.getElem?_eq_getElem (by omega))
        exact ltS_irr _ (ltS_tr h4 h5)
      · exact .inr (by omega)
  · rintro (rfl | rfl)
    · rw [List.drop_zero, List.take_zero, List.append_nil, printL_good h]
    · rw [List.drop_length, List.take_length, List.nil_append, printL_good h]
theorem since_text {l : List Ep} (h : Good l) {q : Stp} {k : Nat} (h1 : ∀ i e, i < k → l[i]? = some e → ¬ ltS q e.s) (h2 : ∀ e, l[k]? = some e → ltS q e.s) : sinceT (textT l) q = (textT (l.drop k), 0) := by
  unfold sinceT
  rw [parseT_text h, if_pos rfl, above_stop (j := k) (fun i e hi he => (cmp_le _ _).2 (h1 i e hi he)) (fun e he h9 => (cmp_le _ _).1 h9 (h2 e he)), printL_good (good_drop h k)]
theorem join_text {l m : List Ep} (hl : Good l) (hm : Good m) : joinT (textT l) (textT m) = printL (l ++ m) := by
  unfold joinT
  rw [parseT_text hl, parseT_text hm, if_pos rfl, if_pos rfl]
theorem last_text {l : List Ep} (h : Good l) : (lastT (textT l)).2 = 0 ∧ ∀ e, l[l.length - 1]? = some e → (lastT (textT l)).1 = e.s := by
  unfold lastT
  rw [parseT_text h, if_pos rfl]
  constructor
  · show (match l.getLast? with | some e => (e.s, 0) | none => (sz0, 0) : Stp × Int).2 = 0
    split <;> rfl
  · intro e he
    show (match l.getLast? with | some e => (e.s, 0) | none => (sz0, 0) : Stp × Int).1 = e.s
    rw [List.getLast?_eq_getElem?, he]
theorem ss_take {w : World} {ad : Option Addr} {L : List En} {k : Nat} (h : Ss w ad En.cells 7 L) (hk : k ≤ L.length) : Ss w ad En.cells 7 (L.take k) := by
  have h1 := Sv.cut (lo := 0) (hi := k) (c := L.length) h (Nat.zero_le _) hk (Nat.le_refl _)
  rw [cutAt_zero, Nat.zero_mul, List.drop_zero, Nat.sub_zero] at h1
  have e : (L.flatMap En.cells).take (k * 7) = (L.take k).flatMap En.cells := by
    have h2 := flat_drop En.len L k
    have h3 := List.take_append_drop k L
    have h4 : (L.take k).flatMap En.cells ++ (L.drop k).flatMap En.cells = L.flatMap En.cells := by rw [← List.flatMap_append, h3]
    have h5 : ((L.take k).flatMap En.cells).length = k * 7 := by rw [Sx.flat_len En.len, List.length_take, Nat.min_eq_left hk]
    rw [← h4, ← h5, List.take_left]
  rw [e] at h1
  have hl : (L.take k).length = k := by rw [List.length_take, Nat.min_eq_left hk]
  unfold Ss
  rw [hl]
  exact h1
set_option maxHeartbeats 1600000 in
theorem Halves_all {ad : Option Addr} {c : Nat} (l : List En) {w : World} (hs : Ss w ad En.cells 7 l) (hf : ∀ r ∈ l, Arg1 w r) (hl : l.length ≤ 9223372036854775806) (hE : Env2 w) (hcl : l.length ≤ c) (q : Stp) : Calls Tryz.prog 7 #[.slice ad l.length c, .agg #[.int .i64 q.w, .int .i64 q.l, .int .i64 q.n]] w fun e w' => e = .returned (.bool true) ∧ Ext No w w' := by
  have R : Ro w No _ := Ro.of fun w' x => hs.ext_no x; have RE : Ro w No Env2 := Ro.of fun w' x => Env2.ext hE x; have RMA : Ro w No (fun u => ∀ x ∈ l, Ss u x.ad Wt.cells 4 x.ws) := Ro.of fun w' x y hy => ((hf y hy).1).ext_no x; refine calls_into Tryz.func7 rfl Tryz.ntmps7 rfl fun a hT => ?_; replace hT := hT.keep [0,1] rfl; have H : Sx.Hp w (Sx.No) w [] := Sx.Hp.start _ _; refine sj (zz 0 [uu,tt]) rfl fun K1 hK1 => ?_; refine st_eff hT rfl rfl rfl rfl (y_box hT rfl rfl rfl _) ?_; clear hT; rintro _ w1 ⟨b1, rfl, N⟩ a hT; replace H := H.new N; clear N; refine asn hT rfl fun a hT => ?_; revert hT; revert hK1; refine rq [4,3,0,1] rfl fun K2 hK2 hT => ?_; refine sj (zz 0 [uu,tt]) rfl fun K3 hK3 => ?_; refine st_call hT rfl rfl rfl rfl rfl Tryz.can8 rfl (first_calls _ (RE.at H.ext)) ?_; rintro _ w2 ⟨rfl, E⟩; refine ⟨_, rfl, ?_⟩; clear hT; intro a hT; replace H := H.pure E; clear E; refine tk hT rfl (x_not hT rfl rfl) fun a hT => ?_; replace hT := hT.keep [19,4,3,0,1] rfl; refine ser_nil ?_; refine then_normal (hK3 _ _ ?_); clear hK3; refine wp_if hT rfl (fun h => by cases h) (fun _ => ?_); refine wp_skip ?_; revert hK2; refine nx fun K4 hK4 => ?_; refine sj (zz 0 [tt,uu,tt]) rfl fun K5 hK5 => ?_
  refine mv hT rfl fun a hT => ?_; refine st_call hT rfl rfl rfl rfl rfl Tryz.can9 rfl (few_calls l (R.at H.ext) (fun x hx => ⟨(RMA.at H.ext) x hx, (hf x hx).2.1, (hf x hx).2.2.1⟩) hl) ?_; rintro _ w3 ⟨b9, rfl, hb9, E⟩; refine ⟨_, rfl, ?_⟩; clear hT; intro a hT; replace H := H.pure E; clear E; refine tk hT rfl (x_not hT rfl rfl) fun a hT => ?_; revert hT; revert hK5; refine rif [22,19,4,3,0,1] rfl (fun hT hc6 => ?_) (fun hT hc6 => ?_)
  · try simp only [bq] at hc6
    refine sj (zz 0 [uu,tt]) rfl fun K7 hK7 => ?_; refine st_call hT rfl rfl rfl rfl rfl Tryz.can8 rfl (first_calls _ (RE.at H.ext)) ?_; rintro _ w4 ⟨rfl, E⟩; refine ⟨_, rfl, ?_⟩; clear hT; intro a hT; replace H := H.pure E; clear E; refine asn hT rfl fun a hT => ?_; revert hT; revert hK7; refine rp [4,22,19,3,0,1] rfl fun hT => ?_; refine wp_ret <| then_ret ?_; refine dn Tryz.f7 hT rfl ?_; exact ⟨rfl, H.ext⟩
  · try simp only [bq] at hc6
    have hF : FewE l := by
      have h9 := hb9 (by simpa using hc6); exact ⟨h9.1, h9.2⟩
    have hfn := hF.n; have hpp := few_prp hF hf; have hbd := few_body hF hf; refine wp_skip ?_; revert hK4; refine nx fun K8 hK8 => ?_; refine wp_text (zz 0 [tt,uu,tt,tt,tt,tt,tt]) rfl ?_; refine mv hT rfl fun a hT => ?_; refine st_call hT rfl rfl rfl rfl rfl Tryz.can11 rfl (PrintL_calls l (R.at H.ext) (fun x hx => prE_of ((RMA.at H.ext) x hx) (hpp x.p (by exact List.mem_map_of_mem hx))) (by omega) (by omega) (RE.at H.ext).e) ?_; rintro _ w5 ⟨rfl, E⟩; refine ⟨_, rfl, ?_⟩; clear hT; intro a hT; replace H := H.pure E; clear E; refine mv hT rfl fun a hT => ?_; refine tk hT rfl (x_extractL hT rfl rfl rfl) fun a hT => ?_; refine tk hT rfl (x_extractL hT rfl rfl rfl) fun a hT => asn hT rfl fun a hT => asn hT rfl fun a hT => ?_; revert hT; revert hK8; refine rq [6,5,22,19,4,3,0,1] rfl fun K9 hK9 hT => ?_; refine sj (zz 0 [tt,tt]) rfl fun K10 hK10 => ?_; refine mv hT rfl fun a hT => ?_; refine tk hT rfl ((fun w => x_ne w hT rfl rfl rfl)) fun a hT => ?_
    revert hT; revert hK10; refine rif [30,6,5,22,19,4,3,0,1] rfl (fun hT hc11 => ?_) (fun hT hc11 => ?_)
    · try simp only [bq] at hc11
      refine sj (zz 0 [uu,tt]) rfl fun K12 hK12 => ?_; refine st_call hT rfl rfl rfl rfl rfl Tryz.can8 rfl (first_calls _ (RE.at H.ext)) ?_; rintro _ w6 ⟨rfl, E⟩; refine ⟨_, rfl, ?_⟩; clear hT; intro a hT; replace H := H.pure E; clear E; refine asn hT rfl fun a hT => ?_; revert hT; revert hK12; refine rp [4,30,6,5,22,19,3,0,1] rfl fun hT => ?_; refine wp_ret <| then_ret ?_; refine dn Tryz.f7 hT rfl ?_; exact ⟨rfl, H.ext⟩
    · try simp only [bq] at hc11
      have hok := printL_ok hc11; obtain ⟨hgd, hin⟩ := good_arg hok.1 hf; rw [hok.2] at hT; obtain ⟨tx, htx⟩ : ∃ tx, textT (l.map En.p) = tx := ⟨_, rfl⟩; have htl := good_len hgd hin (by rw [List.length_map]; omega); have htl0 := (text_split (l.map En.p)).1; have htn := good_nl hgd hin; have htp := parseT_text hgd; have hfp := fun k : Nat => parseT_text (good_take hgd k); rw [htx] at hT htl htl0 htn htp; refine wp_skip ?_; revert hK9; refine nx fun K13 hK13 => ?_; refine wp_text (zz 0 [tt]) rfl ?_; refine asn hT rfl fun a hT => ?_; revert hT; revert hK13; refine rq [7,30,6,5,22,19,4,3,0,1] rfl fun K14 hK14 hT => ?_; refine wp_block ?_; refine wp_loopH (G := Nat) (fun k => [(7, .int .i64 (k : Int))]) (fun k => []) (fun k => k ≤ l.length ∧ ∀ i e, i < k → (l.map En.p)[i]? = some e → ¬ ltS q e.s) (fun k => l.length - k) 0 (hT.keep [7,30,6,5,22,19,4,3,0,1] rfl) (H.keep [0] rfl rfl) (⟨Nat.zero_le _, fun i e h => absurd h (Nat.not_lt_zero _)⟩) ?_; clear hT H; rintro k a w7 hJ hT H; replace hT := hT.keep [7,30,6,5,22,19,4,3,0,1] rfl; replace H := H.keep [0] rfl rfl; obtain ⟨hk, hup⟩ := hJ; refine wp_seq_k fun K15 hK15 => ?_; refine wp_seq_k fun K16 hK16 => ?_; revert H
      refine drw (Sx.No) [(0, .take), (1, .take), (2, .take), (3, .take), (4, .take), (5, .held), (6, .take), (7, .take), (8, .take), (9, .take), (10, .held), (11, .run), (12, .take), (13, .take)] (by kernel_rfl) (by kernel_rfl) fun u H hH => ?_; have Hu := H; refine mv hT rfl fun a hT => mv hT rfl fun a hT => ?_; refine tk hT rfl (x_len_slice hT rfl rfl Tryz.underlying22 rfl) fun a hT => ?_; refine tk hT rfl ((fun w => x_lt w hT rfl rfl rfl)) fun a hT => mv hT rfl fun a hT => ?_; refine Sl.two hT 36 rfl (fun hc17 hT => ?_) (fun hc17 hT => ?_)
      · try simp only [bq] at hc17
        obtain ⟨o, ho⟩ : ∃ q9, l[k]? = some q9 := ⟨_, List.getElem?_eq_getElem (by omega)⟩; have hom := List.mem_of_getElem? ho; refine hed hT rfl hH (fun w' h' => y_loadS hT rfl Tryz.underlying28 Tryz.ti28 rfl ((Hu.heldB 0 rfl h' off_No).seg (k := 3) rfl) (by rfl)) fun a hT => mv hT rfl fun a hT => mv hT rfl fun a hT => ?_; refine tk hT rfl (x_index (k := k) hT rfl Tryz.underlying22 Tryz.ti31 (R.at H.ext).sv rfl rfl (by first | rfl | omega) (by omega)) fun a hT => fad hT Tryz.fa31_1 rfl fun a hT => ?_; refine hed hT rfl hH (fun w' h' => y_loadS hT rfl Tryz.underlying28 Tryz.ti28 rfl (((R.at (Hu.ext.step h')).cs En.len ho).seg (i := 3) (k := 3) rfl) (by rfl)) fun a hT => ?_; refine st_call hT rfl rfl rfl rfl rfl Tryz.can22 rfl (Less_calls q o.s _) ?_; rintro _ w8 ⟨rfl, E⟩; refine ⟨_, rfl, ?_⟩; clear hT; intro a hT; replace H := H.pure E; clear E; refine tk hT rfl (x_not hT rfl rfl) fun a hT => ?_; refine tk hT rfl (x_pick_t hT rfl rfl rfl) fun a hT => ?_; replace hT := hT.keep [45,7,30,6,5,22,19,4,3,0,1] rfl; clear Hu hH; refine ser_calm ?_; refine then_normal (hK16 _ _ ?_); clear hK16; refine wp_if hT rfl (fun hc18 => ?_) (fun hc18 => ?_)
        · try simp only [bq] at hc18
          have hnl9 : ¬ ltS q o.s := hc18; refine wp_skip ?_; refine then_normal (hK15 _ _ ?_); clear hK15; refine wp_block ?_; refine wp_text (zz 0 [tt,tt,tt]) rfl ?_; refine mv hT rfl fun a hT => ?_; refine tk hT rfl ((fun w => x_add w hT rfl rfl rfl (wrap64 (by omega)))) fun a hT => asn hT rfl fun a hT => ?_; replace hT := hT.keep [7,45,30,6,5,22,19,4,3,0,1] rfl; refine ser_nil ?_; refine block_normal ?_; refine then_normal ?_; exact ⟨k + 1, ⟨by omega, fun i e hi he => by
                rcases Nat.lt_or_ge i k with h8 | h8
                · exact hup i e h8 he
                · obtain rfl : i = k := by omega
                  rw [List.getElem?_map, ho] at he; cases he
                  exact hnl9⟩, (hT.keep [7,30,6,5,22,19,4,3,0,1] rfl), (H.keep [0] rfl rfl), by omega⟩
        · try simp only [bq] at hc18
          have hlo : ∀ i e, i < k → (l.map En.p)[i]? = some e → ¬ ltS q e.s := hup; have hhi : ∀ e, (l.map En.p)[k]? = some e → ltS q e.s := fun e he => by
            rw [List.getElem?_map, ho] at he; cases he; show ltS q o.s; simpa using hc18
          
          refine wp_exit <| then_exit ?_; refine then_exit <| block_exit ?_; revert hK14; refine nx fun K19 hK19 => ?_; obtain ⟨ta, hta⟩ : ∃ t, textT ((l.map En.p).take k) = t := ⟨_, rfl⟩; obtain ⟨tb, htb⟩ : ∃ t, textT ((l.map En.p).drop k) = t := ⟨_, rfl⟩; have hal := good_len (good_take hgd k) (fun x hx => hin x (List.mem_of_mem_take hx)) (by rw [List.length_take, List.length_map]; omega); have hbl := good_len (good_drop hgd k) (fun x hx => hin x (List.mem_of_mem_drop hx)) (by rw [List.length_drop, List.length_map]; omega); have han := good_nl (good_take hgd k) (fun x hx => hin x (List.mem_of_mem_take hx)); have hbn := good_nl (good_drop hgd k) (fun x hx => hin x (List.mem_of_mem_drop hx)); have hsn : sinceT tx q = (tb, 0) := by rw [← htx, ← htb]; exact since_text hgd hlo hhi
          have hjn : joinT ta tb = (tx, 0) := by rw [← hta, ← htb, join_text (good_take hgd k) (good_drop hgd k), List.take_append_drop, printL_good hgd, htx]
          have hjb : joinT tb ta = printL ((l.map En.p).drop k ++ (l.map En.p).take k) := by rw [← hta, ← htb, join_text (good_drop hgd k) (good_take hgd k)]
          obtain ⟨hla2, hla1⟩ := last_text hgd; have hrot := rot_iff hgd (k := k) (by rw [List.length_map]; exact hk); rw [htx] at hla2 hla1; rw [hta] at hal han; rw [htb] at hbl hbn; refine wp_text (zz 0 [tt,tt,tt,uu,tt,tt,tt,tt,tt]) rfl ?_; refine mv hT rfl fun a hT => mv hT rfl fun a hT => ?_; refine tk hT rfl (x_slice_h (q := k) hT rfl Tryz.underlying22 Tryz.ti31 rfl rfl rfl (by omega)) fun a hT => ?_; rw [show Value.slice ad k c = Value.slice ad (l.take k).length c from by rw [List.length_take, Nat.min_eq_left hk]] at hT; refine st_call hT rfl rfl rfl rfl rfl Tryz.can11 rfl (PrintL_calls (l.take k) (ss_take (R.at H.ext) hk) (fun x hx => prE_of ((RMA.at H.ext) x (List.mem_of_mem_take hx)) (hpp x.p (List.mem_map_of_mem (List.mem_of_mem_take hx)))) (by rw [List.length_take]; omega) (by rw [List.map_take]; have := body_take (l.map En.p) k; omega) (RE.at H.ext).e) ?_; rintro _ w9 ⟨rfl, E⟩; refine ⟨_, rfl, ?_⟩; clear hT; intro a hT; replace H := H.pure E; clear E; rw [List.map_take, show (printL ((l.map En.p).take k)).1 = ta from (congrArg Prod.fst (printL_good (good_take hgd k))).trans hta, show (printL ((l.map En.p).take k)).2 = 0 from congrArg Prod.snd (printL_good (good_take hgd k))] at hT; refine mv hT rfl fun a hT => ?_; refine tk hT rfl (x_extractL hT rfl rfl rfl) ?_
          clear hT; intro a hT; refine tk hT rfl (x_extractL hT rfl rfl rfl) fun a hT => asn hT rfl fun a hT => asn hT rfl fun a hT => ?_; revert hT; revert hK19; refine rg [9,8,45,7,30,6,5,22,19,4,3,0,1] (zz 0 [tt,uu,uu,tt,tt,tt,tt,tt]) rfl fun K20 hK20 hT => ?_; refine mv hT rfl fun a hT => ?_; refine rn hT rfl (y_loadS hT rfl Tryz.underlying28 Tryz.ti28 rfl ((H.blk 0 rfl).seg (k := 3) rfl) (by rfl)) fun a hT => ?_; refine st_call hT rfl rfl rfl rfl rfl Tryz.can20 rfl (Since_calls tx (by omega) (htn.mono (by decide)) q (RE.at H.ext)) ?_; rintro _ w10 ⟨rfl, E⟩; refine ⟨_, rfl, ?_⟩; clear hT; intro a hT; replace H := H.pure E; clear E; rw [hsn] at hT; rw [show ((tb, (0 : Int)) : Key × Int).1 = tb from rfl, show ((tb, (0 : Int)) : Key × Int).2 = 0 from rfl] at hT; refine mv hT rfl fun a hT => ?_; refine tk hT rfl (x_extractL hT rfl rfl rfl) fun a hT => ?_; refine tk hT rfl (x_extractL hT rfl rfl rfl) fun a hT => asn hT rfl fun a hT => asn hT rfl ?_
          clear hT; intro a hT; revert hT; revert hK20; refine rg [11,10,9,8,45,7,30,6,5,22,19,4,3,0,1] (zz 0 [tt,tt,uu,tt,tt,tt,tt,tt]) rfl fun K21 hK21 hT => ?_; refine mv hT rfl fun a hT => mv hT rfl fun a hT => ?_; refine st_call hT rfl rfl rfl rfl rfl Tryz.can15 rfl (Join_calls ta tb (by omega) (han.mono (by decide)) (by omega) (hbn.mono (by decide)) (RE.at H.ext)) ?_; rintro _ w11 ⟨rfl, E⟩; refine ⟨_, rfl, ?_⟩; clear hT; intro a hT; replace H := H.pure E; clear E; rw [hjn] at hT; rw [show ((tx, (0 : Int)) : Key × Int).1 = tx from rfl, show ((tx, (0 : Int)) : Key × Int).2 = 0 from rfl] at hT; refine mv hT rfl fun a hT => ?_; refine tk hT rfl (x_extractL hT rfl rfl rfl) fun a hT => ?_; refine tk hT rfl (x_extractL hT rfl rfl rfl) fun a hT => asn hT rfl fun a hT => asn hT rfl fun a hT => ?_; revert hT; revert hK21; refine rq [13,12,11,10,9,8,45,7,30,6,5,22,19,4,3,0,1] rfl fun K22 hK22 hT => ?_; refine sj (zz 0 [tt,tt,tt,tt,tt,tt,tt,tt,tt,tt,tt,tt,tt,tt,tt]) rfl fun K23 hK23 => ?_; refine mv hT rfl fun a hT => ?_; refine tk hT rfl ((fun w => x_ne w hT rfl rfl rfl)) fun a hT => mv hT rfl fun a hT => ?_; refine Sl.two hT 69 rfl (fun hc24 hT => ?_) (fun hc24 hT => ?_)
          · exfalso
            try simp only [bq] at hc24
            first | exact hc24 rfl | exact hc24 trivial
          · try simp only [bq] at hc24
            refine mv hT rfl fun a hT => ?_; refine tk hT rfl ((fun w => x_ne w hT rfl rfl rfl)) fun a hT => ?_; refine tk hT rfl (x_pick_f hT rfl rfl rfl) fun a hT => mv hT rfl fun a hT => ?_; refine Sl.two hT 73 rfl (fun hc25 hT => ?_) (fun hc25 hT => ?_)
            · exfalso
              try simp only [bq] at hc25
              first | exact hc25 rfl | exact hc25 trivial
            · try simp only [bq] at hc25
              refine mv hT rfl fun a hT => ?_; refine tk hT rfl ((fun w => x_ne w hT rfl rfl rfl)) fun a hT => ?_; refine tk hT rfl (x_pick_f hT rfl rfl rfl) fun a hT => mv hT rfl fun a hT => ?_; refine Sl.two hT 77 rfl (fun hc26 hT => ?_) (fun hc26 hT => ?_)
              · exfalso
                try simp only [bq] at hc26
                first | exact hc26 rfl | exact hc26 trivial
              · try simp only [bq] at hc26
                refine mv hT rfl fun a hT => mv hT rfl fun a hT => ?_; refine tk hT rfl ((fun w => x_strne w hT rfl rfl rfl)) fun a hT => ?_; refine tk hT rfl (x_pick_f hT rfl rfl rfl) fun a hT => ?_; revert hT; revert hK23; refine rif [81,13,12,11,10,9,8,45,7,30,6,5,22,19,4,3,0,1] rfl (fun hT hc27 => ?_) (fun hT hc27 => ?_)
                · exfalso
                  try simp only [bq] at hc27
                  first | exact hc27 rfl | exact hc27 trivial
                · try simp only [bq] at hc27
                  refine wp_skip ?_; revert hK22; refine nx fun K28 hK28 => ?_; refine wp_text (zz 0 [tt,uu,tt,tt,tt,uu,uu,tt]) rfl ?_; refine mv hT rfl fun a hT => ?_; refine st_call hT rfl rfl rfl rfl rfl Tryz.can18 rfl (Last_calls tx (by omega) (htn.mono (by decide)) (RE.at H.ext)) ?_; rintro _ w12 ⟨rfl, E⟩; refine ⟨_, rfl, ?_⟩; clear hT; intro a hT; replace H := H.pure E; clear E; rw [hla2] at hT; refine mv hT rfl fun a hT => ?_; refine tk hT rfl (x_extractL hT rfl rfl rfl) fun a hT => ?_; refine tk hT rfl (x_extractL hT rfl rfl rfl) fun a hT => ?_; refine st_eff hT rfl rfl rfl rfl (y_alloc hT rfl Tryz.ti28 rfl _) ?_; clear hT; rintro _ w13 ⟨b2, rfl, N⟩ a hT; replace H := H.new N; clear N; refine st_act hT rfl rfl rfl (y_storeS hT rfl Tryz.ti28 rfl rfl rfl rfl rfl (H.blk 0 rfl) rfl) ?_; rintro w14 ⟨hb, E, _⟩; replace H := H.setB 0 rfl hb E rfl; clear hb E; refine asn hT rfl fun a hT => ?_; revert hT; revert hK28; refine rq [15,14,81,13,12,11,10,9,8,45,7,30,6,5,22,19,4,3,0,1] rfl fun K29 hK29 hT => ?_; refine wp_seq_k fun K30 hK30 => ?_; revert H
                  refine drw (Sx.No) [(0, .take), (1, .take), (2, .take), (3, .take), (4, .take), (5, .take), (6, .take), (7, .held), (8, .take), (9, .take), (10, .take), (11, .take), (12, .take), (13, .take), (14, .held), (15, .take), (16, .take), (17, .take)] (by kernel_rfl) (by kernel_rfl) fun u H hH => ?_; have Hu := H; refine mv hT rfl fun a hT => ?_; refine tk hT rfl ((fun w => x_ne w hT rfl rfl rfl)) fun a hT => mv hT rfl fun a hT => ?_; refine Sl.two hT 89 rfl (fun hc31 hT => ?_) (fun hc31 hT => ?_)
                  · exfalso
                    try simp only [bq] at hc31
                    first | exact hc31 rfl | exact hc31 trivial
                  · try simp only [bq] at hc31
                    refine mv hT rfl fun a hT => ?_; refine tk hT rfl (x_len_slice hT rfl rfl Tryz.underlying22 rfl) fun a hT => ?_; refine tk hT rfl ((fun w => x_gt w hT rfl rfl rfl)) fun a hT => mv hT rfl fun a hT => ?_; refine Sl.two hT 93 rfl (fun hc32 hT => ?_) (fun hc32 hT => ?_)
                    · try simp only [bq] at hc32
                      obtain ⟨g, hg⟩ : ∃ q9, l[l.length - 1]? = some q9 := ⟨_, List.getElem?_eq_getElem (by omega)⟩; have hl9 := hla1 g.p (by rw [List.length_map, List.getElem?_map, hg]; rfl); have hl9 : (lastT tx).1 = g.s := hl9; rw [hl9] at H Hu; refine hed hT rfl hH (fun w' h' => y_loadS hT rfl Tryz.underlying28 Tryz.ti28 rfl ((Hu.heldB 0 rfl h' off_No).seg (k := 3) rfl) (by rfl)) fun a hT => mv hT rfl fun a hT => mv hT rfl fun a hT => ?_; refine tk hT rfl (x_len_slice hT rfl rfl Tryz.underlying22 rfl) fun a hT => ?_; refine tk hT rfl ((fun w => x_sub w hT rfl rfl rfl (wrap64 (by omega)))) fun a hT => ?_; refine tk hT rfl (x_index (k := l.length - 1) hT rfl Tryz.underlying22 Tryz.ti31 (R.at H.ext).sv rfl rfl (by first | rfl | omega) (by omega)) fun a hT => fad hT Tryz.fa31_1 rfl fun a hT => ?_; refine hed hT rfl hH (fun w' h' => y_loadS hT rfl Tryz.underlying28 Tryz.ti28 rfl (((R.at (Hu.ext.step h')).cs En.len hg).seg (i := 3) (k := 3) rfl) (by rfl)) fun a hT => ?_; refine tk hT rfl (x_neS hT rfl (by kernel_rfl) (Tryz.eq28 _ _ _ _ _ _) rfl rfl rfl) fun a hT => ?_; refine tk hT rfl (x_pick_t hT rfl rfl rfl) fun a hT => ?_; refine tk hT rfl (x_pick_f hT rfl rfl rfl) ?_
                      clear hT; intro a hT; replace hT := hT.keep [104,15,14,81,13,12,11,10,9,8,45,7,30,6,5,22,19,4,3,0,1] rfl; clear Hu hH; refine ser_calm ?_; refine then_normal (hK30 _ _ ?_); clear hK30; refine wp_if hT rfl (fun hc33 => ?_) (fun hc33 => ?_)
                      · exfalso
                        try simp only [bq] at hc33
                        first | (simp at hc33; done) | exact hc33 rfl | exact hc33 trivial
                      · try simp only [bq] at hc33
                        refine wp_skip ?_; revert hK29; refine nx fun K34 hK34 => ?_; refine wp_text (zz 0 [tt,tt,uu,tt,tt,tt,tt,tt]) rfl ?_; refine mv hT rfl fun a hT => mv hT rfl fun a hT => ?_; refine st_call hT rfl rfl rfl rfl rfl Tryz.can15 rfl (Join_calls tb ta (by omega) (hbn.mono (by decide)) (by omega) (han.mono (by decide)) (RE.at H.ext)) ?_; rintro _ w15 ⟨rfl, E⟩; refine ⟨_, rfl, ?_⟩; clear hT; intro a hT; replace H := H.pure E; clear E; rw [hjb] at hT; refine mv hT rfl fun a hT => ?_; refine tk hT rfl (x_extractL hT rfl rfl rfl) fun a hT => ?_; refine tk hT rfl (x_extractL hT rfl rfl rfl) fun a hT => asn hT rfl fun a hT => asn hT rfl fun a hT => ?_; revert hT; revert hK34; refine rg [17,104,15,14,81,13,12,11,10,9,8,45,7,30,6,5,22,19,4,3,0,1] (zz 0 [uu,tt,tt,tt,tt,tt,tt,tt,tt,tt,tt,tt,tt,tt,tt]) rfl fun K35 hK35 hT => ?_; refine st_call hT rfl rfl rfl rfl rfl Tryz.can8 rfl (first_calls _ (RE.at H.ext)) ?_
                        rintro _ w16 ⟨rfl, E⟩; refine ⟨_, rfl, ?_⟩; clear hT; intro a hT; replace H := H.pure E; clear E; refine mv hT rfl fun a hT => mv hT rfl fun a hT => ?_; refine tk hT rfl ((fun w => x_eq w hT rfl rfl rfl)) fun a hT => mv hT rfl fun a hT => ?_; refine tk hT rfl ((fun w => x_eq w hT rfl rfl rfl)) fun a hT => mv hT rfl fun a hT => ?_; refine Sl.two hT 117 rfl (fun hc36 hT => ?_) (fun hc36 hT => ?_)
                        · try simp only [bq] at hc36
                          refine sk hT rfl fun a hT => sk hT rfl fun a hT => sk hT rfl fun a hT => sk hT rfl fun a hT => ?_; refine tk hT rfl (x_pick_t hT rfl rfl rfl) fun a hT => ?_; refine tk hT rfl (x_eqb hT rfl Tryz.underlying4 rfl rfl) fun a hT => ?_; refine tk hT rfl (x_pick_t hT rfl rfl rfl) fun a hT => asn hT rfl fun a hT => ?_; revert hT; revert hK35; refine rp [4,17,104,15,14,81,13,12,11,10,9,8,45,7,30,6,5,22,19,3,0,1] rfl fun hT => ?_; refine wp_ret ?_; refine dn Tryz.f7 hT rfl ?_; refine ⟨ret_b ?_, H.ext⟩; rw [List.length_map] at hrot; have h9 : (printL ((l.map En.p).drop k ++ (l.map En.p).take k)).2 = 0 := hrot.2 (.inl (by omega)); simp [h9]
                        · try simp only [bq] at hc36
                          refine mv hT rfl fun a hT => mv hT rfl fun a hT => ?_; refine tk hT rfl (x_len_slice hT rfl rfl Tryz.underlying22 rfl) fun a hT => ?_; refine tk hT rfl ((fun w => x_eq w hT rfl rfl rfl)) fun a hT => ?_; refine tk hT rfl (x_pick_f hT rfl rfl rfl) fun a hT => ?_; refine tk hT rfl (x_eqb hT rfl Tryz.underlying4 rfl rfl) fun a hT => ?_; refine tk hT rfl (x_pick_t hT rfl rfl rfl) fun a hT => asn hT rfl fun a hT => ?_; revert hT; revert hK35; refine rp [4,17,104,15,14,81,13,12,11,10,9,8,45,7,30,6,5,22,19,3,0,1] rfl fun hT => ?_; refine wp_ret ?_; refine dn Tryz.f7 hT rfl ?_; refine ⟨ret_b ?_, H.ext⟩; rw [List.length_map] at hrot
                          by_cases h9 : (printL ((l.map En.p).drop k ++ (l.map En.p).take k)).2 = 0
                          · have h8 := hrot.1 h9
                            have h7 : k = l.length := by omega
                            rw [h9]; simp [h7]
                          · have h7 : ¬ k = l.length := fun h6 => h9 (hrot.2 (.inr h6))
                            have h6 : ¬ (k : Int) = (l.length : Int) := by omega
                            simp [h9, h6]
                    · try simp only [bq] at hc32
                      refine st_heldskip hT rfl rfl rfl rfl hH fun a hT => sk hT rfl fun a hT => sk hT rfl fun a hT => sk hT rfl fun a hT => sk hT rfl fun a hT => sk hT rfl fun a hT => sk hT rfl fun a hT => ?_; refine st_heldskip hT rfl rfl rfl rfl hH fun a hT => sk hT rfl fun a hT => ?_; refine tk hT rfl (x_pick_f hT rfl rfl rfl) fun a hT => ?_; refine tk hT rfl (x_pick_f hT rfl rfl rfl) fun a hT => ?_; replace hT := hT.keep [104,15,14,81,13,12,11,10,9,8,45,7,30,6,5,22,19,4,3,0,1] rfl; clear Hu hH; refine ser_calm ?_; refine then_normal (hK30 _ _ ?_); clear hK30; refine wp_if hT rfl (fun h => by cases h) (fun _ => ?_); refine wp_skip ?_; revert hK29; refine nx fun K37 hK37 => ?_; refine wp_text (zz 0 [tt,tt,uu,tt,tt,tt,tt,tt]) rfl ?_; refine mv hT rfl fun a hT => mv hT rfl fun a hT => ?_; refine st_call hT rfl rfl rfl rfl rfl Tryz.can15 rfl (Join_calls tb ta (by omega) (hbn.mono (by decide)) (by omega) (han.mono (by decide)) (RE.at H.ext)) ?_
                      rintro _ w17 ⟨rfl, E⟩; refine ⟨_, rfl, ?_⟩; clear hT; intro a hT; replace H := H.pure E; clear E; rw [hjb] at hT; refine mv hT rfl fun a hT => ?_; refine tk hT rfl (x_extractL hT rfl rfl rfl) fun a hT => ?_; refine tk hT rfl (x_extractL hT rfl rfl rfl) fun a hT => asn hT rfl fun a hT => asn hT rfl fun a hT => ?_; revert hT; revert hK37; refine rg [17,104,15,14,81,13,12,11,10,9,8,45,7,30,6,5,22,19,4,3,0,1] (zz 0 [uu,tt,tt,tt,tt,tt,tt,tt,tt,tt,tt,tt,tt,tt,tt]) rfl fun K38 hK38 hT => ?_; refine st_call hT rfl rfl rfl rfl rfl Tryz.can8 rfl (first_calls _ (RE.at H.ext)) ?_; rintro _ w18 ⟨rfl, E⟩; refine ⟨_, rfl, ?_⟩; clear hT; intro a hT; replace H := H.pure E; clear E; refine mv hT rfl fun a hT => mv hT rfl fun a hT => ?_; refine tk hT rfl ((fun w => x_eq w hT rfl rfl rfl)) fun a hT => mv hT rfl fun a hT => ?_; refine tk hT rfl ((fun w => x_eq w hT rfl rfl rfl)) ?_
                      clear hT; intro a hT; refine mv hT rfl fun a hT => ?_; refine Sl.two hT 117 rfl (fun hc39 hT => ?_) (fun hc39 hT => ?_)
                      · try simp only [bq] at hc39
                        refine sk hT rfl fun a hT => sk hT rfl fun a hT => sk hT rfl fun a hT => sk hT rfl fun a hT => ?_; refine tk hT rfl (x_pick_t hT rfl rfl rfl) fun a hT => ?_; refine tk hT rfl (x_eqb hT rfl Tryz.underlying4 rfl rfl) fun a hT => ?_; refine tk hT rfl (x_pick_t hT rfl rfl rfl) fun a hT => asn hT rfl fun a hT => ?_; revert hT; revert hK38; refine rp [4,17,104,15,14,81,13,12,11,10,9,8,45,7,30,6,5,22,19,3,0,1] rfl fun hT => ?_; refine wp_ret ?_; refine dn Tryz.f7 hT rfl ?_; refine ⟨ret_b ?_, H.ext⟩; rw [List.length_map] at hrot; have h9 : (printL ((l.map En.p).drop k ++ (l.map En.p).take k)).2 = 0 := hrot.2 (.inl (by omega)); simp [h9]
                      · try simp only [bq] at hc39
                        refine mv hT rfl fun a hT => mv hT rfl fun a hT => ?_; refine tk hT rfl (x_len_slice hT rfl rfl Tryz.underlying22 rfl) fun a hT => ?_; refine tk hT rfl ((fun w => x_eq w hT rfl rfl rfl)) fun a hT => ?_; refine tk hT rfl (x_pick_f hT rfl rfl rfl) fun a hT => ?_; refine tk hT rfl (x_eqb hT rfl Tryz.underlying4 rfl rfl) fun a hT => ?_; refine tk hT rfl (x_pick_t hT rfl rfl rfl) fun a hT => asn hT rfl fun a hT => ?_; revert hT; revert hK38; refine rp [4,17,104,15,14,81,13,12,11,10,9,8,45,7,30,6,5,22,19,3,0,1] rfl fun hT => ?_; refine wp_ret ?_; refine dn Tryz.f7 hT rfl ?_; refine ⟨ret_b ?_, H.ext⟩; rw [List.length_map] at hrot
                        by_cases h9 : (printL ((l.map En.p).drop k ++ (l.map En.p).take k)).2 = 0
                        · have h8 := hrot.1 h9
                          have h7 : k = l.length := by omega
                          rw [h9]; simp [h7]
                        · have h7 : ¬ k = l.length := fun h6 => h9 (hrot.2 (.inr h6))
                          have h6 : ¬ (k : Int) = (l.length : Int) := by omega
                          simp [h9, h6]
      · try simp only [bq] at hc17
        have hkl : l.length ≤ k := by omega
        refine st_heldskip hT rfl rfl rfl rfl hH fun a hT => sk hT rfl fun a hT => sk hT rfl fun a hT => sk hT rfl fun a hT => sk hT rfl fun a hT => ?_; refine st_heldskip hT rfl rfl rfl rfl hH fun a hT => ?_; refine st_runskip hT rfl rfl rfl rfl fun a hT => sk hT rfl fun a hT => ?_; refine tk hT rfl (x_pick_f hT rfl rfl rfl) fun a hT => ?_; replace hT := hT.keep [45,7,30,6,5,22,19,4,3,0,1] rfl; clear Hu hH; refine ser_calm ?_; refine then_normal (hK16 _ _ ?_); clear hK16; refine wp_if hT rfl (fun h => by cases h) (fun _ => ?_); have hlo : ∀ i e, i < k → (l.map En.p)[i]? = some e → ¬ ltS q e.s := hup; have hhi : ∀ e, (l.map En.p)[k]? = some e → ltS q e.s := fun e he => by
          rw [List.getElem?_map, List.getElem?_eq_none hkl] at he; cases he
        
        refine wp_exit <| then_exit ?_; refine then_exit <| block_exit ?_; revert hK14; refine nx fun K40 hK40 => ?_; obtain ⟨ta, hta⟩ : ∃ t, textT ((l.map En.p).take k) = t := ⟨_, rfl⟩; obtain ⟨tb, htb⟩ : ∃ t, textT ((l.map En.p).drop k) = t := ⟨_, rfl⟩; have hal := good_len (good_take hgd k) (fun x hx => hin x (List.mem_of_mem_take hx)) (by rw [List.length_take, List.length_map]; omega); have hbl := good_len (good_drop hgd k) (fun x hx => hin x (List.mem_of_mem_drop hx)) (by rw [List.length_drop, List.length_map]; omega); have han := good_nl (good_take hgd k) (fun x hx => hin x (List.mem_of_mem_take hx)); have hbn := good_nl (good_drop hgd k) (fun x hx => hin x (List.mem_of_mem_drop hx)); have hsn : sinceT tx q = (tb, 0) := by rw [← htx, ← htb]; exact since_text hgd hlo hhi
        have hjn : joinT ta tb = (tx, 0) := by rw [← hta, ← htb, join_text (good_take hgd k) (good_drop hgd k), List.take_append_drop, printL_good hgd, htx]
        have hjb : joinT tb ta = printL ((l.map En.p).drop k ++ (l.map En.p).take k) := by rw [← hta, ← htb, join_text (good_drop hgd k) (good_take hgd k)]
        obtain ⟨hla2, hla1⟩ := last_text hgd; have hrot := rot_iff hgd (k := k) (by rw [List.length_map]; exact hk); rw [htx] at hla2 hla1; rw [hta] at hal han; rw [htb] at hbl hbn; refine wp_text (zz 0 [tt,tt,tt,uu,tt,tt,tt,tt,tt]) rfl ?_; refine mv hT rfl fun a hT => mv hT rfl fun a hT => ?_; refine tk hT rfl (x_slice_h (q := k) hT rfl Tryz.underlying22 Tryz.ti31 rfl rfl rfl (by omega)) fun a hT => ?_; rw [show Value.slice ad k c = Value.slice ad (l.take k).length c from by rw [List.length_take, Nat.min_eq_left hk]] at hT; refine st_call hT rfl rfl rfl rfl rfl Tryz.can11 rfl (PrintL_calls (l.take k) (ss_take (R.at H.ext) hk) (fun x hx => prE_of ((RMA.at H.ext) x (List.mem_of_mem_take hx)) (hpp x.p (List.mem_map_of_mem (List.mem_of_mem_take hx)))) (by rw [List.length_take]; omega) (by rw [List.map_take]; have := body_take (l.map En.p) k; omega) (RE.at H.ext).e) ?_; rintro _ w19 ⟨rfl, E⟩; refine ⟨_, rfl, ?_⟩; clear hT; intro a hT; replace H := H.pure E; clear E; rw [List.map_take, show (printL ((l.map En.p).take k)).1 = ta from (congrArg Prod.fst (printL_good (good_take hgd k))).trans hta, show (printL ((l.map En.p).take k)).2 = 0 from congrArg Prod.snd (printL_good (good_take hgd k))] at hT; refine mv hT rfl fun a hT => ?_; refine tk hT rfl (x_extractL hT rfl rfl rfl) ?_
        clear hT; intro a hT; refine tk hT rfl (x_extractL hT rfl rfl rfl) fun a hT => asn hT rfl fun a hT => asn hT rfl fun a hT => ?_; revert hT; revert hK40; refine rg [9,8,45,7,30,6,5,22,19,4,3,0,1] (zz 0 [tt,uu,uu,tt,tt,tt,tt,tt]) rfl fun K41 hK41 hT => ?_; refine mv hT rfl fun a hT => ?_; refine rn hT rfl (y_loadS hT rfl Tryz.underlying28 Tryz.ti28 rfl ((H.blk 0 rfl).seg (k := 3) rfl) (by rfl)) fun a hT => ?_; refine st_call hT rfl rfl rfl rfl rfl Tryz.can20 rfl (Since_calls tx (by omega) (htn.mono (by decide)) q (RE.at H.ext)) ?_; rintro _ w20 ⟨rfl, E⟩; refine ⟨_, rfl, ?_⟩; clear hT; intro a hT; replace H := H.pure E; clear E; rw [hsn] at hT; rw [show ((tb, (0 : Int)) : Key × Int).1 = tb from rfl, show ((tb, (0 : Int)) : Key × Int).2 = 0 from rfl] at hT; refine mv hT rfl fun a hT => ?_; refine tk hT rfl (x_extractL hT rfl rfl rfl) fun a hT => ?_; refine tk hT rfl (x_extractL hT rfl rfl rfl) fun a hT => asn hT rfl fun a hT => asn hT rfl ?_
        clear hT; intro a hT; revert hT; revert hK41; refine rg [11,10,9,8,45,7,30,6,5,22,19,4,3,0,1] (zz 0 [tt,tt,uu,tt,tt,tt,tt,tt]) rfl fun K42 hK42 hT => ?_; refine mv hT rfl fun a hT => mv hT rfl fun a hT => ?_; refine st_call hT rfl rfl rfl rfl rfl Tryz.can15 rfl (Join_calls ta tb (by omega) (han.mono (by decide)) (by omega) (hbn.mono (by decide)) (RE.at H.ext)) ?_; rintro _ w21 ⟨rfl, E⟩; refine ⟨_, rfl, ?_⟩; clear hT; intro a hT; replace H := H.pure E; clear E; rw [hjn] at hT; rw [show ((tx, (0 : Int)) : Key × Int).1 = tx from rfl, show ((tx, (0 : Int)) : Key × Int).2 = 0 from rfl] at hT; refine mv hT rfl fun a hT => ?_; refine tk hT rfl (x_extractL hT rfl rfl rfl) fun a hT => ?_; refine tk hT rfl (x_extractL hT rfl rfl rfl) fun a hT => asn hT rfl fun a hT => asn hT rfl fun a hT => ?_; revert hT; revert hK42; refine rq [13,12,11,10,9,8,45,7,30,6,5,22,19,4,3,0,1] rfl fun K43 hK43 hT => ?_; refine sj (zz 0 [tt,tt,tt,tt,tt,tt,tt,tt,tt,tt,tt,tt,tt,tt,tt]) rfl fun K44 hK44 => ?_; refine mv hT rfl fun a hT => ?_; refine tk hT rfl ((fun w => x_ne w hT rfl rfl rfl)) fun a hT => mv hT rfl fun a hT => ?_; refine Sl.two hT 69 rfl (fun hc45 hT => ?_) (fun hc45 hT => ?_)
        · exfalso
          try simp only [bq] at hc45
          first | exact hc45 rfl | exact hc45 trivial
        · try simp only [bq] at hc45
          refine mv hT rfl fun a hT => ?_; refine tk hT rfl ((fun w => x_ne w hT rfl rfl rfl)) fun a hT => ?_; refine tk hT rfl (x_pick_f hT rfl rfl rfl) fun a hT => mv hT rfl fun a hT => ?_; refine Sl.two hT 73 rfl (fun hc46 hT => ?_) (fun hc46 hT => ?_)
          · exfalso
            try simp only [bq] at hc46
            first | exact hc46 rfl | exact hc46 trivial
          · try simp only [bq] at hc46
            refine mv hT rfl fun a hT => ?_; refine tk hT rfl ((fun w => x_ne w hT rfl rfl rfl)) fun a hT => ?_; refine tk hT rfl (x_pick_f hT rfl rfl rfl) fun a hT => mv hT rfl fun a hT => ?_; refine Sl.two hT 77 rfl (fun hc47 hT => ?_) (fun hc47 hT => ?_)
            · exfalso
              try simp only [bq] at hc47
              first | exact hc47 rfl | exact hc47 trivial
            · try simp only [bq] at hc47
              refine mv hT rfl fun a hT => mv hT rfl fun a hT => ?_; refine tk hT rfl ((fun w => x_strne w hT rfl rfl rfl)) fun a hT => ?_; refine tk hT rfl (x_pick_f hT rfl rfl rfl) fun a hT => ?_; revert hT; revert hK44; refine rif [81,13,12,11,10,9,8,45,7,30,6,5,22,19,4,3,0,1] rfl (fun hT hc48 => ?_) (fun hT hc48 => ?_)
              · exfalso
                try simp only [bq] at hc48
                first | exact hc48 rfl | exact hc48 trivial
              · try simp only [bq] at hc48
                refine wp_skip ?_; revert hK43; refine nx fun K49 hK49 => ?_; refine wp_text (zz 0 [tt,uu,tt,tt,tt,uu,uu,tt]) rfl ?_; refine mv hT rfl fun a hT => ?_; refine st_call hT rfl rfl rfl rfl rfl Tryz.can18 rfl (Last_calls tx (by omega) (htn.mono (by decide)) (RE.at H.ext)) ?_; rintro _ w22 ⟨rfl, E⟩; refine ⟨_, rfl, ?_⟩; clear hT; intro a hT; replace H := H.pure E; clear E; rw [hla2] at hT; refine mv hT rfl fun a hT => ?_; refine tk hT rfl (x_extractL hT rfl rfl rfl) fun a hT => ?_; refine tk hT rfl (x_extractL hT rfl rfl rfl) fun a hT => ?_; refine st_eff hT rfl rfl rfl rfl (y_alloc hT rfl Tryz.ti28 rfl _) ?_; clear hT; rintro _ w23 ⟨b3, rfl, N⟩ a hT; replace H := H.new N; clear N; refine st_act hT rfl rfl rfl (y_storeS hT rfl Tryz.ti28 rfl rfl rfl rfl rfl (H.blk 0 rfl) rfl) ?_; rintro w24 ⟨hb, E, _⟩; replace H := H.setB 0 rfl hb E rfl; clear hb E; refine asn hT rfl fun a hT => ?_; revert hT; revert hK49; refine rq [15,14,81,13,12,11,10,9,8,45,7,30,6,5,22,19,4,3,0,1] rfl fun K50 hK50 hT => ?_; refine wp_seq_k fun K51 hK51 => ?_; revert H
                refine drw (Sx.No) [(0, .take), (1, .take), (2, .take), (3, .take), (4, .take), (5, .take), (6, .take), (7, .held), (8, .take), (9, .take), (10, .take), (11, .take), (12, .take), (13, .take), (14, .held), (15, .take), (16, .take), (17, .take)] (by kernel_rfl) (by kernel_rfl) fun u H hH => ?_; have Hu := H; refine mv hT rfl fun a hT => ?_; refine tk hT rfl ((fun w => x_ne w hT rfl rfl rfl)) fun a hT => mv hT rfl fun a hT => ?_; refine Sl.two hT 89 rfl (fun hc52 hT => ?_) (fun hc52 hT => ?_)
                · exfalso
                  try simp only [bq] at hc52
                  first | exact hc52 rfl | exact hc52 trivial
                · try simp only [bq] at hc52
                  refine mv hT rfl fun a hT => ?_; refine tk hT rfl (x_len_slice hT rfl rfl Tryz.underlying22 rfl) fun a hT => ?_; refine tk hT rfl ((fun w => x_gt w hT rfl rfl rfl)) fun a hT => mv hT rfl fun a hT => ?_; refine Sl.two hT 93 rfl (fun hc53 hT => ?_) (fun hc53 hT => ?_)
                  · try simp only [bq] at hc53
                    obtain ⟨g, hg⟩ : ∃ q9, l[l.length - 1]? = some q9 := ⟨_, List.getElem?_eq_getElem (by omega)⟩; have hl9 := hla1 g.p (by rw [List.length_map, List.getElem?_map, hg]; rfl); have hl9 : (lastT tx).1 = g.s := hl9; rw [hl9] at H Hu; refine hed hT rfl hH (fun w' h' => y_loadS hT rfl Tryz.underlying28 Tryz.ti28 rfl ((Hu.heldB 0 rfl h' off_No).seg (k := 3) rfl) (by rfl)) fun a hT => mv hT rfl fun a hT => mv hT rfl fun a hT => ?_; refine tk hT rfl (x_len_slice hT rfl rfl Tryz.underlying22 rfl) fun a hT => ?_; refine tk hT rfl ((fun w => x_sub w hT rfl rfl rfl (wrap64 (by omega)))) fun a hT => ?_; refine tk hT rfl (x_index (k := l.length - 1) hT rfl Tryz.underlying22 Tryz.ti31 (R.at H.ext).sv rfl rfl (by first | rfl | omega) (by omega)) fun a hT => fad hT Tryz.fa31_1 rfl fun a hT => ?_; refine hed hT rfl hH (fun w' h' => y_loadS hT rfl Tryz.underlying28 Tryz.ti28 rfl (((R.at (Hu.ext.step h')).cs En.len hg).seg (i := 3) (k := 3) rfl) (by rfl)) fun a hT => ?_; refine tk hT rfl (x_neS hT rfl (by kernel_rfl) (Tryz.eq28 _ _ _ _ _ _) rfl rfl rfl) fun a hT => ?_; refine tk hT rfl (x_pick_t hT rfl rfl rfl) fun a hT => ?_; refine tk hT rfl (x_pick_f hT rfl rfl rfl) ?_
                    clear hT; intro a hT; replace hT := hT.keep [104,15,14,81,13,12,11,10,9,8,45,7,30,6,5,22,19,4,3,0,1] rfl; clear Hu hH; refine ser_calm ?_; refine then_normal (hK51 _ _ ?_); clear hK51; refine wp_if hT rfl (fun hc54 => ?_) (fun hc54 => ?_)
                    · exfalso
                      try simp only [bq] at hc54
                      first | (simp at hc54; done) | exact hc54 rfl | exact hc54 trivial
                    · try simp only [bq] at hc54
                      refine wp_skip ?_; revert hK50; refine nx fun K55 hK55 => ?_; refine wp_text (zz 0 [tt,tt,uu,tt,tt,tt,tt,tt]) rfl ?_; refine mv hT rfl fun a hT => mv hT rfl fun a hT => ?_; refine st_call hT rfl rfl rfl rfl rfl Tryz.can15 rfl (Join_calls tb ta (by omega) (hbn.mono (by decide)) (by omega) (han.mono (by decide)) (RE.at H.ext)) ?_; rintro _ w25 ⟨rfl, E⟩; refine ⟨_, rfl, ?_⟩; clear hT; intro a hT; replace H := H.pure E; clear E; rw [hjb] at hT; refine mv hT rfl fun a hT => ?_; refine tk hT rfl (x_extractL hT rfl rfl rfl) fun a hT => ?_; refine tk hT rfl (x_extractL hT rfl rfl rfl) fun a hT => asn hT rfl fun a hT => asn hT rfl fun a hT => ?_; revert hT; revert hK55; refine rg [17,104,15,14,81,13,12,11,10,9,8,45,7,30,6,5,22,19,4,3,0,1] (zz 0 [uu,tt,tt,tt,tt,tt,tt,tt,tt,tt,tt,tt,tt,tt,tt]) rfl fun K56 hK56 hT => ?_; refine st_call hT rfl rfl rfl rfl rfl Tryz.can8 rfl (first_calls _ (RE.at H.ext)) ?_
                      rintro _ w26 ⟨rfl, E⟩; refine ⟨_, rfl, ?_⟩; clear hT; intro a hT; replace H := H.pure E; clear E; refine mv hT rfl fun a hT => mv hT rfl fun a hT => ?_; refine tk hT rfl ((fun w => x_eq w hT rfl rfl rfl)) fun a hT => mv hT rfl fun a hT => ?_; refine tk hT rfl ((fun w => x_eq w hT rfl rfl rfl)) fun a hT => mv hT rfl fun a hT => ?_; refine Sl.two hT 117 rfl (fun hc57 hT => ?_) (fun hc57 hT => ?_)
                      · try simp only [bq] at hc57
                        refine sk hT rfl fun a hT => sk hT rfl fun a hT => sk hT rfl fun a hT => sk hT rfl fun a hT => ?_; refine tk hT rfl (x_pick_t hT rfl rfl rfl) fun a hT => ?_; refine tk hT rfl (x_eqb hT rfl Tryz.underlying4 rfl rfl) fun a hT => ?_; refine tk hT rfl (x_pick_t hT rfl rfl rfl) fun a hT => asn hT rfl fun a hT => ?_; revert hT; revert hK56; refine rp [4,17,104,15,14,81,13,12,11,10,9,8,45,7,30,6,5,22,19,3,0,1] rfl fun hT => ?_; refine wp_ret ?_; refine dn Tryz.f7 hT rfl ?_; refine ⟨ret_b ?_, H.ext⟩; rw [List.length_map] at hrot; have h9 : (printL ((l.map En.p).drop k ++ (l.map En.p).take k)).2 = 0 := hrot.2 (.inl (by omega)); simp [h9]
                      · try simp only [bq] at hc57
                        refine mv hT rfl fun a hT => mv hT rfl fun a hT => ?_; refine tk hT rfl (x_len_slice hT rfl rfl Tryz.underlying22 rfl) fun a hT => ?_; refine tk hT rfl ((fun w => x_eq w hT rfl rfl rfl)) fun a hT => ?_; refine tk hT rfl (x_pick_f hT rfl rfl rfl) fun a hT => ?_; refine tk hT rfl (x_eqb hT rfl Tryz.underlying4 rfl rfl) fun a hT => ?_; refine tk hT rfl (x_pick_t hT rfl rfl rfl) fun a hT => asn hT rfl fun a hT => ?_; revert hT; revert hK56; refine rp [4,17,104,15,14,81,13,12,11,10,9,8,45,7,30,6,5,22,19,3,0,1] rfl fun hT => ?_; refine wp_ret ?_; refine dn Tryz.f7 hT rfl ?_; refine ⟨ret_b ?_, H.ext⟩; rw [List.length_map] at hrot
                        by_cases h9 : (printL ((l.map En.p).drop k ++ (l.map En.p).take k)).2 = 0
                        · have h8 := hrot.1 h9
                          have h7 : k = l.length := by omega
                          rw [h9]; simp [h7]
                        · have h7 : ¬ k = l.length := fun h6 => h9 (hrot.2 (.inr h6))
                          have h6 : ¬ (k : Int) = (l.length : Int) := by omega
                          simp [h9, h6]
                  · try simp only [bq] at hc53
                    refine st_heldskip hT rfl rfl rfl rfl hH fun a hT => sk hT rfl fun a hT => sk hT rfl fun a hT => sk hT rfl fun a hT => sk hT rfl fun a hT => sk hT rfl fun a hT => sk hT rfl fun a hT => ?_; refine st_heldskip hT rfl rfl rfl rfl hH fun a hT => sk hT rfl fun a hT => ?_; refine tk hT rfl (x_pick_f hT rfl rfl rfl) fun a hT => ?_; refine tk hT rfl (x_pick_f hT rfl rfl rfl) fun a hT => ?_; replace hT := hT.keep [104,15,14,81,13,12,11,10,9,8,45,7,30,6,5,22,19,4,3,0,1] rfl; clear Hu hH; refine ser_calm ?_; refine then_normal (hK51 _ _ ?_); clear hK51; refine wp_if hT rfl (fun h => by cases h) (fun _ => ?_); refine wp_skip ?_; revert hK50; refine nx fun K58 hK58 => ?_; refine wp_text (zz 0 [tt,tt,uu,tt,tt,tt,tt,tt]) rfl ?_; refine mv hT rfl fun a hT => mv hT rfl fun a hT => ?_; refine st_call hT rfl rfl rfl rfl rfl Tryz.can15 rfl (Join_calls tb ta (by omega) (hbn.mono (by decide)) (by omega) (han.mono (by decide)) (RE.at H.ext)) ?_
                    rintro _ w27 ⟨rfl, E⟩; refine ⟨_, rfl, ?_⟩; clear hT; intro a hT; replace H := H.pure E; clear E; rw [hjb] at hT; refine mv hT rfl fun a hT => ?_; refine tk hT rfl (x_extractL hT rfl rfl rfl) fun a hT => ?_; refine tk hT rfl (x_extractL hT rfl rfl rfl) fun a hT => asn hT rfl fun a hT => asn hT rfl fun a hT => ?_; revert hT; revert hK58; refine rg [17,104,15,14,81,13,12,11,10,9,8,45,7,30,6,5,22,19,4,3,0,1] (zz 0 [uu,tt,tt,tt,tt,tt,tt,tt,tt,tt,tt,tt,tt,tt,tt]) rfl fun K59 hK59 hT => ?_; refine st_call hT rfl rfl rfl rfl rfl Tryz.can8 rfl (first_calls _ (RE.at H.ext)) ?_; rintro _ w28 ⟨rfl, E⟩; refine ⟨_, rfl, ?_⟩; clear hT; intro a hT; replace H := H.pure E; clear E; refine mv hT rfl fun a hT => mv hT rfl fun a hT => ?_; refine tk hT rfl ((fun w => x_eq w hT rfl rfl rfl)) fun a hT => mv hT rfl fun a hT => ?_; refine tk hT rfl ((fun w => x_eq w hT rfl rfl rfl)) ?_
                    clear hT; intro a hT; refine mv hT rfl fun a hT => ?_; refine Sl.two hT 117 rfl (fun hc60 hT => ?_) (fun hc60 hT => ?_)
                    · try simp only [bq] at hc60
                      refine sk hT rfl fun a hT => sk hT rfl fun a hT => sk hT rfl fun a hT => sk hT rfl fun a hT => ?_; refine tk hT rfl (x_pick_t hT rfl rfl rfl) fun a hT => ?_; refine tk hT rfl (x_eqb hT rfl Tryz.underlying4 rfl rfl) fun a hT => ?_; refine tk hT rfl (x_pick_t hT rfl rfl rfl) fun a hT => asn hT rfl fun a hT => ?_; revert hT; revert hK59; refine rp [4,17,104,15,14,81,13,12,11,10,9,8,45,7,30,6,5,22,19,3,0,1] rfl fun hT => ?_; refine wp_ret ?_; refine dn Tryz.f7 hT rfl ?_; refine ⟨ret_b ?_, H.ext⟩; rw [List.length_map] at hrot; have h9 : (printL ((l.map En.p).drop k ++ (l.map En.p).take k)).2 = 0 := hrot.2 (.inl (by omega)); simp [h9]
                    · try simp only [bq] at hc60
                      refine mv hT rfl fun a hT => mv hT rfl fun a hT => ?_; refine tk hT rfl (x_len_slice hT rfl rfl Tryz.underlying22 rfl) fun a hT => ?_; refine tk hT rfl ((fun w => x_eq w hT rfl rfl rfl)) fun a hT => ?_; refine tk hT rfl (x_pick_f hT rfl rfl rfl) fun a hT => ?_; refine tk hT rfl (x_eqb hT rfl Tryz.underlying4 rfl rfl) fun a hT => ?_; refine tk hT rfl (x_pick_t hT rfl rfl rfl) fun a hT => asn hT rfl fun a hT => ?_; revert hT; revert hK59; refine rp [4,17,104,15,14,81,13,12,11,10,9,8,45,7,30,6,5,22,19,3,0,1] rfl fun hT => ?_; refine wp_ret ?_; refine dn Tryz.f7 hT rfl ?_; refine ⟨ret_b ?_, H.ext⟩; rw [List.length_map] at hrot
                      by_cases h9 : (printL ((l.map En.p).drop k ++ (l.map En.p).take k)).2 = 0
                      · have h8 := hrot.1 h9
                        have h7 : k = l.length := by omega
                        rw [h9]; simp [h7]
                      · have h7 : ¬ k = l.length := fun h6 => h9 (hrot.2 (.inr h6))
                        have h6 : ¬ (k : Int) = (l.length : Int) := by omega
                        simp [h9, h6]
end Go.Proofs.YtonnladboikmhaaGreatDoor
