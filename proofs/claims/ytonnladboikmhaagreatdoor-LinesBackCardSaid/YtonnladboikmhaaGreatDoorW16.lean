/- Walks: LinesBack. -/
import Derived.Test.YtonnladboikmhaaGreatDoorW13
set_option linter.unusedSimpArgs false
set_option linter.unusedVariables false
namespace Go.Proofs.YtonnladboikmhaaGreatDoor
open Sx
/-! a text that is read without fault is a printed one -/
theorem parseB_ok {b : Key} (h : (parseB b).2 = 0) : ∃ l, Good l ∧ bodyT l = b := by
  unfold parseB at h
  split at h
  · rename_i h1; exact h1
  · cases h
theorem parse_ok {s : Key} (h : (parseT s).2 = 0) : ∃ l, Good l ∧ textT l = s ∧ parseT s = (l, 0) := by
  have h9 := h
  unfold parseT at h9
  split at h9
  · rename_i ht
    split at h9
    · rename_i hs
      obtain ⟨l, hl, hb⟩ := parseB_ok h9
      obtain ⟨n, hn⟩ : ∃ n, s.length = n + 11 := ⟨s.length - 11, by have := tail_len ht; omega⟩
      obtain ⟨ha, hd⟩ := ahead_at hn
      obtain ⟨-, -, -, h10⟩ := (tail_iff hn).1 ht
      have e : textT l = s := by
        unfold textT
        rw [hb, ← hs, hd, ha]
        obtain ⟨hi, hv⟩ := List.getElem?_eq_some_iff.1 h10
        have e1 : s = s.take (n + 10) ++ [10] := by
          conv => lhs; rw [← List.take_append_drop (n + 10) s, List.drop_eq_getElem_cons hi, hv, List.drop_eq_nil_of_le (by omega)]
        have e2 : s.take (n + 10) = s.take n ++ (s.take (n + 10)).drop n := by
          conv => lhs; rw [← List.take_append_drop n (s.take (n + 10)), List.take_take, Nat.min_eq_left (by omega)]
        rw [← List.append_assoc, ← e2, ← e1]
      exact ⟨l, hl, e, by rw [← e]; exact parseT_text hl⟩
    · cases h9
  · cases h9
theorem parse_bad {s : Key} (h : (parseT s).2 ≠ 0) : (parseT s).1 = [] := by
  unfold parseT at h ⊢
  split
  · split
    · rename_i h1 h2
      rw [if_pos h1, if_pos h2] at h
      unfold parseB at h ⊢
      split
      · rename_i h3
        rw [dif_pos h3] at h
        exact absurd rfl h
      · rfl
    · rfl
  · rfl
theorem lin_at0 {l : List Ep} : ∀ x ∈ linesL l, x[0]? ≠ some 46 := fun x hx => by
  obtain ⟨e, -, hx⟩ := List.mem_flatMap.1 hx
  rcases List.mem_cons.1 hx with rfl | hx
  · unfold hdT; simp
  · obtain ⟨w, -, rfl⟩ := List.mem_map.1 hx
    unfold wrT
    split
    · simp
    · simp
theorem hexd_no10 : ∀ k < 16, hexd.getD k 0 ≠ 10 := by decide
theorem sumT_no10 (b : Key) : ∀ c ∈ sumT b, c ≠ 10 := fun c hc => by
  unfold sumT hex8 at hc
  simp only [List.mem_cons, List.not_mem_nil, or_false] at hc
  have hm : ∀ n : Nat, hexd.getD (n % 16) 0 ≠ 10 := fun n => hexd_no10 _ (Nat.mod_lt _ (by decide))
  rcases hc with rfl | rfl | rfl | rfl | rfl | rfl | rfl | rfl | rfl | rfl
  · decide
  · decide
  all_goals exact hm _
theorem text_lines (l : List Ep) : textT l = (linesL l ++ [sumT (bodyT l)]).flatMap lin := by
  unfold textT
  rw [List.flatMap_append]
  simp [lin, bodyT]
theorem text_no10 {l : List Ep} (h : Good l) : ∀ y ∈ linesL l ++ [sumT (bodyT l)], ∀ c ∈ y, c ≠ 10 := fun y hy => by
  rcases List.mem_append.1 hy with hy | hy
  · exact lines_no10 h y hy
  · rw [List.mem_singleton] at hy
    subst hy
    exact sumT_no10 _
theorem cut_bad {l : List Ep} (h : Good l) {k : Nat} (hk : k < (textT l).length) : (parseT ((textT l).take k)).2 ≠ 0 := fun h0 => by
  obtain ⟨m, hm, he, -⟩ := parse_ok h0
  have e : (linesL l ++ [sumT (bodyT l)]).flatMap lin = (linesL m).flatMap lin ++ (lin (sumT (bodyT m)) ++ (textT l).drop k) := by
    rw [← text_lines, ← List.append_assoc]
    have : (linesL m).flatMap lin ++ lin (sumT (bodyT m)) = textT m := by rw [text_lines, List.flatMap_append]; simp
    rw [this, he, List.take_append_drop]
  obtain ⟨more, hmore⟩ := flat_lin (text_no10 h) (lines_no10 hm) (sumT_no10 _) e
  have hl1 := congrArg List.length hmore
  simp only [List.length_append, List.length_cons, List.length_nil] at hl1
  have hix : (linesL l ++ [sumT (bodyT l)])[(linesL m).length]? = some (sumT (bodyT m)) := by rw [hmore]; simp
  rcases Nat.lt_or_ge (linesL m).length (linesL l).length with h1 | h1
  · rw [List.getElem?_append_left h1] at hix
    exact lin_at0 _ (List.mem_of_getElem? hix) rfl
  · have h2 : (linesL m).length = (linesL l).length := by omega
    have h3 := congrArg (List.take (linesL l).length) hmore
    rw [List.take_left, ← h2, List.take_left] at h3
    have h4 : textT m = textT l := by
      unfold textT bodyT
      rw [h3]
    have h5 := congrArg List.length he
    rw [h4, List.length_take] at h5
    omega
theorem hex8_inj {a b : Nat} (ha : a < 4294967296) (hb : b < 4294967296) (h : hex8 a = hex8 b) : a = b := by
  unfold hex8 at h
  simp only [List.cons.injEq, and_true] at h
  have hx : ∀ x y : Nat, hexd.getD (x % 16) 0 = hexd.getD (y % 16) 0 → x % 16 = y % 16 := fun x y h => hex_inj _ (Nat.mod_lt _ (by decide)) _ (Nat.mod_lt _ (by decide)) h
  obtain ⟨h1, h2, h3, h4, h5, h6, h7, h8⟩ := h
  have k1 := hx _ _ h1
  have k2 := hx _ _ h2
  have k3 := hx _ _ h3
  have k4 := hx _ _ h4
  have k5 := hx _ _ h5
  have k6 := hx _ _ h6
  have k7 := hx _ _ h7
  have k8 := hx _ _ h8
  omega
theorem sum_crc {a b : Key} (h : sumT a = sumT b) : crc a = crc b := hex8_inj (crc_lt a) (crc_lt b) (by unfold sumT at h; simpa using h)
theorem text_split (l : List Ep) : (textT l).length = (bodyT l).length + 11 ∧ (textT l).take (bodyT l).length = bodyT l ∧ (textT l).drop (bodyT l).length = sumT (bodyT l) ++ [10] := by
  unfold textT
  refine ⟨?_, List.take_left .., List.drop_left ..⟩
  unfold sumT
  simp [hex8_len]
theorem turn_bad {l : List Ep} (h : Good l) {k : Nat} {c d : UInt8} (hc : (textT l)[k]? = some c) (hd : d ≠ c) : (parseT ((textT l).set k d)).2 ≠ 0 := fun h0 => by
  obtain ⟨m, hm, he, -⟩ := parse_ok h0
  obtain ⟨hk, hck⟩ := List.getElem?_eq_some_iff.1 hc
  obtain ⟨a1, a2, a3⟩ := text_split l
  obtain ⟨b1, b2, b3⟩ := text_split m
  have hl := congrArg List.length he
  rw [List.length_set, a1, b1] at hl
  have hn : (bodyT m).length = (bodyT l).length := by omega
  rcases Nat.lt_or_ge k (bodyT l).length with h1 | h1
  · have e1 : bodyT m = (bodyT l).set k d := by
      rw [← b2, he, hn, List.take_set, a2]
    have e2 : sumT (bodyT m) ++ [10] = sumT (bodyT l) ++ [10] := by
      rw [← b3, ← a3, he, hn, List.drop_set_of_lt h1]
    have e3 := sum_crc (List.append_cancel_right e2)
    have e4 : (bodyT l)[k] = c := by
      have : (textT l)[k]? = (bodyT l)[k]? := by unfold textT; rw [List.getElem?_append_left h1]
      rw [hc, List.getElem?_eq_getElem h1] at this
      exact (Option.some.inj this).symm
    rw [e1, List.set_eq_take_append_cons_drop, if_pos h1] at e3
    have e5 : bodyT l = (bodyT l).take k ++ c :: (bodyT l).drop (k + 1) := by
      conv => lhs; rw [← List.take_append_drop k (bodyT l), List.drop_eq_getElem_cons h1, e4]
    rw [e5] at e3
    have hlk : ((bodyT l).take k).length = k := by rw [List.length_take]; omega
    have t1 : (((bodyT l).take k ++ c :: (bodyT l).drop (k + 1)).take k) = (bodyT l).take k := by
      conv => lhs; rw [← e5]
    have t2 : (((bodyT l).take k ++ c :: (bodyT l).drop (k + 1)).drop (k + 1)) = (bodyT l).drop (k + 1) := by
      conv => lhs; rw [← e5]
    rw [t1, t2] at e3
    exact hd (crc_turn e3)
  · have e1 : bodyT m = bodyT l := by
      rw [← b2, he, hn, List.take_set_of_le h1, a2]
    have e2 : textT m = textT l := by unfold textT; rw [e1]
    rw [e2] at he
    have e3 := congrArg (fun q : Key => q[k]?) he
    simp only [List.getElem?_set_self hk, hc, Option.some.injEq] at e3
    exact hd e3.symm
/-! printed texts are short, their lines too -/
theorem good_lines {l : List Ep} (h : Good l) (hb : ∀ x ∈ l, inS x.s ∧ inT x.t) : ∀ y ∈ linesL l, y.length ≤ 400 := fun y hy => by
  obtain ⟨e, he, hy⟩ := List.mem_flatMap.1 hy
  obtain ⟨i, hi⟩ := List.mem_iff_getElem?.1 he
  obtain ⟨-, -, -, a4, a5, a6⟩ := okE_iff.1 (good_at h.ok hi).1
  obtain ⟨b1, b2⟩ := hb e he
  rcases List.mem_cons.1 hy with rfl | hy
  · have := hdT_le (n := (e.ws.length : Int)) b1 b2 (by unfold inInt; omega)
    omega
  · obtain ⟨w, hw, rfl⟩ := List.mem_map.1 hy
    have h1 := keys_mem a4 hw
    have h2 := a6 w hw
    have h3 := wrT_le w
    unfold keyB at h1
    simp only [Bool.and_eq_true, decide_eq_true_eq] at h1
    rcases mayV_iff.1 h2 with ⟨-, -, h4⟩ | ⟨-, h4, -⟩ | ⟨-, -, h4⟩
    · rw [h4] at h3; simp at h3; omega
    · rw [h4] at h3; simp at h3; omega
    · omega
theorem good_nl {l : List Ep} (h : Good l) (hb : ∀ x ∈ l, inS x.s ∧ inT x.t) : NL 400 (textT l) := by
  have e : textT l = (linesL l).flatMap lin ++ (sumT (bodyT l) ++ [10]) := rfl
  rw [e]
  exact NL.lines (by unfold sumT; simp [hex8_len]) (good_lines h hb)
theorem good_len {l : List Ep} (h : Good l) (hb : ∀ x ∈ l, inS x.s ∧ inT x.t) (hl : l.length ≤ 100) : (textT l).length ≤ 900000 := by
  have h1 : ((linesL l).flatMap lin).length ≤ sumN (fun _ => 401) (linesL l) := flat_sum _ _ fun y hy => by
    have := good_lines h hb y hy
    unfold lin
    simp only [List.length_append, List.length_singleton]
    omega
  have h2 : sumN (fun _ : Key => 401) (linesL l) = 401 * (linesL l).length := by
    have := sumN_mul (f := fun _ : Key => 0) 0 401 (linesL l)
    simpa using this
  have h3 : (linesL l).length ≤ 17 * l.length := by
    unfold linesL
    have : ∀ m : List Ep, (∀ e ∈ m, e.ws.length ≤ 16) → (m.flatMap linesE).length ≤ 17 * m.length := fun m => by
      induction m with
      | nil => intro _; simp
      | cons e m ih =>
        intro hm
        rw [List.flatMap_cons, List.length_append, List.length_cons]
        have h4 := ih fun x hx => hm x (by simp [hx])
        have h5 := hm e (by simp)
        have : (linesE e).length = e.ws.length + 1 := by simp [linesE]
        omega
    refine this l fun e he => ?_
    obtain ⟨i, hi⟩ := List.mem_iff_getElem?.1 he
    exact (okE_iff.1 (good_at h.ok hi).1).2.2.2.2.1
  have h4 := (text_split l).1
  have h5 : (bodyT l).length = ((linesL l).flatMap lin).length := rfl
  omega
/-! a text turned into bytes of one's own: a mark lies behind its last cell -/
def Bt (w : World) (b : Nat) (s : Key) : Prop := ∃ (junk : List Value) (e : TypeId) (sz : Nat), w.heap[b]? = some (.cells (bcells s ++ junk).toArray e (sz, sz + 1)) ∧ sz = (bcells s ++ junk).length
theorem Bt.ext {w w' : World} {b : Nat} {s : Key} {S : Nat → Prop} (h : Bt w b s) (x : Ext S w w') (hb : ¬ S b) : Bt w' b s := by
  obtain ⟨junk, e, sz, h1, h2⟩ := h
  exact ⟨junk, e, sz, (x.block b (Array.getElem?_eq_some_iff.1 h1).1 hb).trans h1, h2⟩
theorem Bt.lt {w : World} {b : Nat} {s : Key} (h : Bt w b s) : b < w.heap.size := by
  obtain ⟨junk, e, sz, h1, -⟩ := h
  exact (Array.getElem?_eq_some_iff.1 h1).1
theorem bcells_at {s : Key} {j : Nat} {c : UInt8} (h : s[j]? = some c) : (bcells s)[j]? = some (.int .u8 c.toNat) := by
  unfold bcells
  rw [List.getElem?_map, h]
  rfl
theorem bcells_len (s : Key) : (bcells s).length = s.length := by unfold bcells; simp
theorem Bt.at_ {w : World} {b : Nat} {s : Key} (h : Bt w b s) {j : Nat} {c : UInt8} (hc : s[j]? = some c) : w.cell? ⟨b, j, none⟩ = some (.int .u8 c.toNat) := by
  obtain ⟨junk, e, sz, h1, -⟩ := h
  have hj := (List.getElem?_eq_some_iff.1 hc).1
  have h2 : (bcells s ++ junk)[j]? = some (.int .u8 c.toNat) := by
    rw [List.getElem?_append_left (by rw [bcells_len]; exact hj)]
    exact bcells_at hc
  simp [World.cell?, h1, h2]
theorem Bt.bs {w : World} {b : Nat} {s : Key} (h : Bt w b s) (k : Nat) : Bs w (some ⟨b, 0, none⟩) (s.take k) := by
  refine ⟨by rw [bcells_len, Nat.mul_one], fun _ => rfl, fun j v hj => ?_⟩
  show w.cell? ⟨b, 0 + j, none⟩ = some v
  rw [Nat.zero_add]
  unfold bcells at hj
  rw [List.getElem?_map, Option.map_eq_some_iff] at hj
  obtain ⟨c, hc, rfl⟩ := hj
  rw [List.getElem?_take] at hc
  split at hc
  · exact h.at_ hc
  · cases hc
theorem Bt.bs0 {w : World} {b : Nat} {s : Key} (h : Bt w b s) : Bs w (some ⟨b, 0, none⟩) s := by
  have h9 := h.bs s.length
  rwa [List.take_length] at h9
section
variable {nz : Sz} {l : List (Nat × Value)} {a : Act} {o : Oper} {t t' e : TypeId} {x y : Operand} {s : Key} {w : World}
theorem x_bytes_own (hT : Sl nz l a) (hop : o.op = .convert t t' x) (hs : Tryz.prog.underlying t = some .string) (hd : Tryz.prog.underlying t' = some (.slice e)) (he : Tryz.prog.underlying e = some (.int .u8)) (hx : opnd l x = some (.string ⟨s.toArray⟩)) (w : World) :
    ∃ r w', (execOp a.eval o).run Tryz.prog w = .ok (.value r) w' ∧ ∃ b c, r = .slice (some ⟨b, 0, none⟩) s.length c ∧ s.length ≤ c ∧ Bt w' b s ∧ Ext No w w' ∧ w.heap.size ≤ b ∧ b < w'.heap.size := by
  have h := Lib.run_convert_string_bytes w t t' e ⟨s.toArray⟩ hs hd he
  have hz : (⟨s.toArray⟩ : ByteArray).size = s.length := by simp [ByteArray.size]
  rw [hz] at h
  have hg := grownCap_ge w s.length 0 e
  obtain ⟨c9, hc9⟩ : ∃ c9, grownCap w s.length 0 e = c9 := ⟨_, rfl⟩
  rw [hc9] at h hg
  refine ⟨.slice (some ⟨w.heap.size, 0, none⟩) s.length c9, Lib.bytesWorld w e ⟨s.toArray⟩, ?_, w.heap.size, c9, rfl, hg, ?_, bytes_ext _ _ _, Nat.le_refl _, by rw [Lib.bytesWorld_size]; omega⟩
  · simp [execOp, hop, hT.eval hx, h]
  · have h1 := Lib.bytesWorld_at_new w e ⟨s.toArray⟩
    have e1 : Lib.bytesCells w e ⟨s.toArray⟩ = (bcells s ++ List.replicate (c9 - s.length) (Value.int .u8 0)).toArray := by
      unfold Lib.bytesCells bcells
      rw [hz, hc9]
      apply Array.ext'
      simp
    rw [e1] at h1
    exact ⟨_, e, _, h1, by simp⟩
theorem x_storeBt {z : Value} {by_ b b' k off : Nat} {d : UInt8} (hT : Sl nz l a) (hop : o.op = .store t x y) (hti : TI Tryz.prog t z 1 by_) (hx : opnd l x = some (.pointer (some ⟨b', off, none⟩))) (hy : opnd l y = some (.int .u8 d.toNat)) (eb : b' = b) (eo : off = k) (h : Bt w b s) (hk : k < s.length) :
    ∃ w', (execOp a.eval o).run Tryz.prog w = .ok .skip w' ∧ Bt w' b (s.set k d) ∧ Ext (One b) w w' := by
  subst eb; subst eo
  obtain ⟨junk, e, sz, h1, h2⟩ := h
  have hc : w.cell? ⟨b', off, none⟩ = some (.int .u8 (s[off]).toNat) := Bt.at_ ⟨junk, e, sz, h1, h2⟩ (List.getElem?_eq_getElem hk)
  have hsz : off < sz := by rw [h2, List.length_append, bcells_len]; omega
  have hf : w.frozen? ⟨b', off, none⟩ = false := by
    simp [World.frozen?, h1]
    omega
  refine ⟨w.setCell ⟨b', off, none⟩ (.int .u8 d.toNat), ?_, ⟨junk, e, sz, ?_, by rw [h2]; simp [bcells_len]⟩, ?_⟩
  · have hr : (storeCells ⟨b', off, none⟩ [.int .u8 d.toNat]).run Tryz.prog w = .ok () (w.setCell ⟨b', off, none⟩ (.int .u8 d.toNat)) := by
      simp [storeCells, go_sem, hc, hf]
    have hv : (Value.int .u8 (d.toNat : Int)).cells = #[.int .u8 d.toNat] := rfl
    simp [execOp, hop, hT.eval hx, hT.eval hy, Instr.storeAt, Instr.sureAddr, storeVar, hv, Sx.run_sizeOf hti, hr]
  · have hset : (bcells s ++ junk).set off (.int .u8 d.toNat) = bcells (s.set off d) ++ junk := by
      rw [List.set_append_left _ _ (by rw [bcells_len]; exact hk)]
      congr 1
      unfold bcells
      rw [List.map_set]
    simp [World.setCell, Array.getElem?_modify, h1, ← hset]
  · refine ⟨rfl, rfl, rfl, by simp [World.setCell], fun k hk hne => ?_, Nat.le_refl _⟩
    simp only [World.setCell]
    rw [Array.getElem?_modify, if_neg (fun e => hne e.symm)]
end
theorem Hp.setBt {w0 w w' : World} {S : Nat → Prop} {hl l' : List Chunk} {b k : Nat} {s s' : Key} (H : Hp w0 S w hl) (i : Nat) (hi : cget hl i = some (One b, fun u => Bt u b s)) (hb : Bt w' b s') (E : Ext (One b) w w') (hs : cset hl i (One b, fun u => Bt u b s') = some l') : Hp w0 S w' l' :=
  H.eff (c := (One b, fun u => Bt u b s)) (d := (One b, fun u => Bt u b s')) i hi E (fun u x => hb.ext x fun h => h rfl) (fun k h => by have h : k = b := h; subst h; exact ⟨hb.lt, .inl rfl⟩) hs
theorem printL_bad {l : List Ep} (h : ¬ (printL l).2 = 0) : (printL l).1 = [] := by
  unfold printL at h ⊢
  split
  · rename_i h1
    rw [if_pos h1] at h
    exact absurd rfl h
  · rfl
theorem printL_ok {l : List Ep} (h : (printL l).2 = 0) : fault l = 0 ∧ (printL l).1 = textT l := by
  unfold printL at h ⊢
  split
  · rename_i h1
    exact ⟨h1, rfl⟩
  · rename_i h1
    rw [if_neg h1] at h
    exact absurd h h1
theorem good_arg {w : World} {l : List En} (h : fault (l.map En.p) = 0) (hf : ∀ r ∈ l, Arg1 w r) : Good (l.map En.p) ∧ ∀ x ∈ l.map En.p, inS x.s ∧ inT x.t := by
  refine ⟨⟨h, fun p hp => ?_⟩, fun p hp => ?_⟩
  · obtain ⟨x, hx, rfl⟩ := List.mem_map.1 hp
    obtain ⟨-, h2, -, -, -, h6⟩ := hf x hx
    exact ⟨⟨h6.2.1, h6.2.2⟩, fun y hy => (h2 y hy).2.n⟩
  · obtain ⟨x, hx, rfl⟩ := List.mem_map.1 hp
    exact (hf x hx).2.2.2.2
theorem map_nil {l : List En} {s : Key} (h : l.map En.p = (parseT s).1) (hb : (parseT s).2 ≠ 0) : l = [] := List.map_eq_nil_iff.1 (h.trans (parse_bad hb))
set_option maxHeartbeats 1600000 in
theorem Back_all {ad : Option Addr} {c : Nat} (l : List En) {w : World} (hs : Ss w ad En.cells 7 l) (hf : ∀ r ∈ l, Arg1 w r) (hl : l.length ≤ 9223372036854775806) (hE : Env2 w) (at9 : Int) (hat : inInt at9) (x9 : UInt8) (cut9 : Bool) : Calls Tryz.prog 4 #[.slice ad l.length c, .int .i64 at9, .int .u8 x9.toNat, .bool cut9] w fun e w' => e = .returned (.bool true) ∧ Ext No w w' := by
  have R : Ro w No _ := Ro.of fun w' x => hs.ext_no x; have RE : Ro w No Env2 := Ro.of fun w' x => Env2.ext hE x; have RMA : Ro w No (fun u => ∀ x ∈ l, Ss u x.ad Wt.cells 4 x.ws) := Ro.of fun w' x y hy => ((hf y hy).1).ext_no x; obtain ⟨hat0, hat1⟩ := hat; refine calls_into Tryz.func4 rfl Tryz.ntmps4 rfl fun a hT => ?_; replace hT := hT.keep [0,1,2,3] rfl; have H : Sx.Hp w (Sx.No) w [] := Sx.Hp.start _ _; refine sj (zz 0 [tt]) rfl fun K1 hK1 => ?_; refine asn hT rfl fun a hT => ?_; revert hT; revert hK1; refine rq [8,0,1,2,3] rfl fun K2 hK2 hT => ?_; refine sj (zz 0 [uu,tt]) rfl fun K3 hK3 => ?_; refine st_call hT rfl rfl rfl rfl rfl Tryz.can8 rfl (first_calls _ (RE.at H.ext)) ?_; rintro _ w1 ⟨rfl, E⟩; refine ⟨_, rfl, ?_⟩; clear hT; intro a hT; replace H := H.pure E; clear E; refine tk hT rfl (x_not hT rfl rfl) fun a hT => ?_; replace hT := hT.keep [17,8,0,1,2,3] rfl; refine ser_nil ?_; refine then_normal (hK3 _ _ ?_); clear hK3; refine wp_if hT rfl (fun h => by cases h) (fun _ => ?_); refine wp_skip ?_; revert hK2; refine nx fun K4 hK4 => ?_; refine sj (zz 0 [tt,uu,tt]) rfl fun K5 hK5 => ?_; refine mv hT rfl fun a hT => ?_
  refine st_call hT rfl rfl rfl rfl rfl Tryz.can9 rfl (few_calls l (R.at H.ext) (fun x hx => ⟨(RMA.at H.ext) x hx, (hf x hx).2.1, (hf x hx).2.2.1⟩) hl) ?_; rintro _ w2 ⟨b9, rfl, hb9, E⟩; refine ⟨_, rfl, ?_⟩; clear hT; intro a hT; replace H := H.pure E; clear E; refine tk hT rfl (x_not hT rfl rfl) fun a hT => ?_; revert hT; revert hK5; refine rif [20,17,8,0,1,2,3] rfl (fun hT hc6 => ?_) (fun hT hc6 => ?_)
  · try simp only [bq] at hc6
    refine sj (zz 0 [uu,tt]) rfl fun K7 hK7 => ?_; refine st_call hT rfl rfl rfl rfl rfl Tryz.can8 rfl (first_calls _ (RE.at H.ext)) ?_; rintro _ w3 ⟨rfl, E⟩; refine ⟨_, rfl, ?_⟩; clear hT; intro a hT; replace H := H.pure E; clear E; refine asn hT rfl fun a hT => ?_; revert hT; revert hK7; refine rp [8,20,17,0,1,2,3] rfl fun hT => ?_; refine wp_ret <| then_ret ?_; refine dn Tryz.f4 hT rfl ?_; exact ⟨rfl, H.ext⟩
  · try simp only [bq] at hc6
    have hF : FewE l := by
      have h9 := hb9 (by simpa using hc6); exact ⟨h9.1, h9.2⟩
    have hfn := hF.n; have hpp := few_prp hF hf; have hbd := few_body hF hf; refine wp_skip ?_; revert hK4; refine nx fun K8 hK8 => ?_; refine wp_text (zz 0 [tt,uu,tt,tt,tt,tt,tt]) rfl ?_; refine mv hT rfl fun a hT => ?_; refine st_call hT rfl rfl rfl rfl rfl Tryz.can11 rfl (PrintL_calls l (R.at H.ext) (fun x hx => prE_of ((RMA.at H.ext) x hx) (hpp x.p (by exact List.mem_map_of_mem hx))) (by omega) (by omega) (RE.at H.ext).e) ?_; rintro _ w4 ⟨rfl, E⟩; refine ⟨_, rfl, ?_⟩; clear hT; intro a hT; replace H := H.pure E; clear E; refine mv hT rfl fun a hT => ?_; refine tk hT rfl (x_extractL hT rfl rfl rfl) fun a hT => ?_; refine tk hT rfl (x_extractL hT rfl rfl rfl) fun a hT => asn hT rfl fun a hT => asn hT rfl fun a hT => ?_; revert hT; revert hK8; refine rq [10,9,20,17,8,0,1,2,3] rfl fun K9 hK9 hT => ?_; refine sj (zz 0 [tt,tt]) rfl fun K10 hK10 => ?_; refine mv hT rfl fun a hT => ?_; refine tk hT rfl ((fun w => x_ne w hT rfl rfl rfl)) fun a hT => ?_
    revert hT; revert hK10; refine rif [28,10,9,20,17,8,0,1,2,3] rfl (fun hT hc11 => ?_) (fun hT hc11 => ?_)
    · try simp only [bq] at hc11
      have hp0 := printL_bad (l := l.map En.p) hc11; rw [hp0] at hT; refine sj (zz 0 [uu,tt,tt,tt,tt,tt]) rfl fun K12 hK12 => ?_; refine st_call hT rfl rfl rfl rfl rfl Tryz.can8 rfl (first_calls _ (RE.at H.ext)) ?_; rintro _ w5 ⟨rfl, E⟩; refine ⟨_, rfl, ?_⟩; clear hT; intro a hT; replace H := H.pure E; clear E; refine mv hT rfl fun a hT => mv hT rfl fun a hT => ?_; refine tk hT rfl ((fun w => x_streq w hT rfl rfl rfl)) fun a hT => ?_; refine tk hT rfl (x_pick_t hT rfl rfl rfl) fun a hT => asn hT rfl fun a hT => ?_; revert hT; revert hK12; refine rp [8,28,10,9,20,17,0,1,2,3] rfl fun hT => ?_; refine wp_ret <| then_ret ?_; refine dn Tryz.f4 hT rfl ?_; exact ⟨ret_b (by simp), H.ext⟩
    · try simp only [bq] at hc11
      have hok := printL_ok hc11; obtain ⟨hgd, hin⟩ := good_arg hok.1 hf; rw [hok.2] at hT; obtain ⟨tx, htx⟩ : ∃ tx, textT (l.map En.p) = tx := ⟨_, rfl⟩; have htl := good_len hgd hin (by rw [List.length_map]; omega); have htl0 := (text_split (l.map En.p)).1; have htn := good_nl hgd hin; have htp := parseT_text hgd; have hcb : ∀ k, k < (textT (l.map En.p)).length → _ := fun k hk => cut_bad hgd hk; have htb : ∀ k c d, (textT (l.map En.p))[k]? = some c → d ≠ c → _ := fun k c d hc hd => turn_bad hgd hc hd; rw [htx] at hT htl htl0 htn htp hcb htb; refine wp_skip ?_; revert hK9; refine nx fun K13 hK13 => ?_; refine wp_text (zz 0 [tt,uu,tt,tt,tt,tt,tt]) rfl ?_; refine mv hT rfl fun a hT => ?_; refine st_call hT rfl rfl rfl rfl rfl Tryz.can14 rfl (LParse_calls tx (by omega) (htn.mono (by decide)) (RE.at H.ext)) ?_; rintro _ w6 ⟨ad3, c3, m3, rfl, hm3, hm3l, hm3w, K⟩; refine ⟨_, rfl, ?_⟩; clear hT; intro a hT; replace H := H.more K rfl; clear K; rw [show (parseT tx).2 = 0 from congrArg Prod.snd htp] at hT; rw [htp] at hm3; have hm3 : m3.map En.p = l.map En.p := hm3; refine mv hT rfl fun a hT => ?_; refine tk hT rfl (x_extractL hT rfl rfl rfl) fun a hT => ?_; refine tk hT rfl (x_extractL hT rfl rfl rfl) fun a hT => asn hT rfl ?_
      clear hT; intro a hT; refine asn hT rfl fun a hT => ?_; revert hT; revert hK13; refine rq [12,11,28,10,9,20,17,8,0,1,2,3] rfl fun K14 hK14 hT => ?_; refine sj (zz 0 [tt,tt,tt,tt,tt,tt,tt,tt,tt,uu,tt,tt]) rfl fun K15 hK15 => ?_; refine mv hT rfl fun a hT => ?_; refine tk hT rfl ((fun w => x_streq w hT rfl rfl rfl)) fun a hT => mv hT rfl fun a hT => ?_; refine Sl.two hT 41 rfl (fun hc16 hT => ?_) (fun hc16 hT => ?_)
      · exfalso
        try simp only [bq] at hc16
        rw [hc16] at htl0; simp at htl0
      · try simp only [bq] at hc16
        refine mv hT rfl fun a hT => ?_; refine tk hT rfl ((fun w => x_ne w hT rfl rfl rfl)) fun a hT => ?_; refine tk hT rfl (x_pick_f hT rfl rfl rfl) fun a hT => mv hT rfl fun a hT => ?_; refine Sl.two hT 45 rfl (fun hc17 hT => ?_) (fun hc17 hT => ?_)
        · exfalso
          try simp only [bq] at hc17
          first | exact hc17 rfl | exact hc17 trivial
        · try simp only [bq] at hc17
          refine mv hT rfl fun a hT => mv hT rfl fun a hT => ?_; refine st_call hT rfl rfl rfl rfl rfl Tryz.can13 rfl (Entries_calls m3 l ((H.row 0 rfl).ssn rfl) (R.at H.ext) (fun x hx => ⟨fam_ss (H.fam 1 rfl) hx, by have := hm3w x hx; omega⟩) (fun x hx => ⟨(RMA.at H.ext) x hx, (hf x hx).2.2.1⟩) (by omega)) ?_; rintro _ w7 ⟨rfl, E⟩; refine ⟨_, rfl, ?_⟩; clear hT; intro a hT; replace H := H.pure E; clear E; rw [decide_eq_true hm3] at hT; refine tk hT rfl (x_not hT rfl rfl) fun a hT => ?_; refine tk hT rfl (x_pick_f hT rfl rfl rfl) fun a hT => ?_; replace hT := hT.keep [50,12,11,28,10,9,20,17,8,0,1,2,3] rfl; refine ser_nil ?_; refine then_normal (hK15 _ _ ?_); clear hK15; refine wp_if hT rfl (fun h => by cases h) (fun _ => ?_); refine wp_skip ?_; revert hK14; refine nx fun K18 hK18 => ?_; refine wp_join (G := Nat) (fun p => [(1, .int .i64 (p : Int))]) (fun p => []) (fun p => p ≤ 9223372036854775807) (hT.keep [50,12,11,28,10,9,20,17,8,0,2,3] rfl) (H.keep [0,1] rfl rfl) hK18 ?_ ?_
          · clear hT H hK18
            rintro p a w8 hJ hT H; replace hT := hT.keep [1,50,12,11,28,10,9,20,17,8,0,2,3] rfl; replace H := H.keep [0,1] rfl rfl; have hp := hJ; refine sj (zz 0 [tt,tt,tt,tt,tt]) rfl fun K19 hK19 => ?_; refine mv hT rfl fun a hT => mv hT rfl fun a hT => ?_; refine tk hT rfl (x_lenStr hT rfl rfl Tryz.underlying9 rfl) fun a hT => ?_; refine tk hT rfl ((fun w => x_rem w hT rfl rfl rfl (by omega))) fun a hT => ?_; obtain ⟨a9, ha9⟩ : ∃ a9, p % tx.length = a9 := ⟨_, rfl⟩; have ha : a9 < tx.length := by rw [← ha9]; exact Nat.mod_lt _ (by omega)
            rw [show Int.tmod (p : Int) (tx.length : Int) = (a9 : Int) from by rw [← ha9]; rfl] at hT; refine asn hT rfl fun a hT => ?_; revert hT; revert hK19; refine rg [1,50,12,11,28,10,9,20,17,8,0,2,3] (zz 0 [tt,uu,tt]) rfl fun K20 hK20 hT => ?_; refine mv hT rfl fun a hT => ?_; refine st_eff hT rfl rfl rfl rfl (x_bytes_own hT rfl Tryz.underlying9 Tryz.underlying39 Tryz.underlying5 rfl _) ?_; rintro _ w9 ⟨bb, cb, rfl, hcb9, hbt, E, hb1, hb2⟩; clear hT; intro a hT; replace H := H.cons (c := (One bb, fun u => Bt u bb tx)) E (fun w9 x => hbt.ext x fun h => h rfl) (fun k h => by have h : k = bb := h; subst h; exact ⟨hb1, hb2⟩); clear E hbt hb1 hb2; refine asn hT rfl fun a hT => ?_; revert hT; revert hK20; refine rq [13,1,50,12,11,28,10,9,20,17,8,0,2,3] rfl fun K21 hK21 hT => ?_; refine sj (zz 0 [tt]) rfl fun K22 hK22 => ?_; refine mv hT rfl fun a hT => ?_; revert hT; revert hK22; refine rif [62,13,1,50,12,11,28,10,9,20,17,8,0,2,3] rfl (fun hT hc23 => ?_) (fun hT hc23 => ?_)
            · try simp only [bq] at hc23
              have hcut := hc23; have hbad := hcb a9 ha; refine wp_text (zz 0 [tt,tt,tt,tt]) rfl ?_; refine mv hT rfl fun a hT => mv hT rfl fun a hT => ?_; refine tk hT rfl (x_slice_h (q := a9) hT rfl Tryz.underlying39 Tryz.ti5 rfl rfl rfl (by omega)) fun a hT => asn hT rfl fun a hT => ?_; revert hT; revert hK21; refine rg [13,62,1,50,12,11,28,10,9,20,17,8,0,2,3] (zz 0 [tt,uu,uu,tt,tt,tt,tt,tt]) rfl fun K24 hK24 hT => ?_; refine mv hT rfl fun a hT => ?_; refine rn hT rfl (x_bytes_string hT rfl (((H.at 0 rfl) : Bt _ _ _).bs a9) Tryz.underlying39 Tryz.underlying5 Tryz.underlying9 rfl (by rw [List.length_take]; omega)) fun a hT => ?_; refine st_call hT rfl rfl rfl rfl rfl Tryz.can14 rfl (LParse_calls (tx.take a9) (by rw [List.length_take]; omega) ((htn.take _).mono (by decide)) (RE.at H.ext)) ?_; rintro _ w10 ⟨ad4, c4, m4, rfl, hm4, -, -, K⟩; refine ⟨_, rfl, ?_⟩; clear hT; intro a hT; replace H := H.more K rfl; clear K; refine mv hT rfl fun a hT => ?_; refine tk hT rfl (x_extractL hT rfl rfl rfl) ?_
              clear hT; intro a hT; refine tk hT rfl (x_extractL hT rfl rfl rfl) fun a hT => asn hT rfl fun a hT => asn hT rfl fun a hT => ?_; revert hT; revert hK24; refine rq [15,14,13,62,1,50,12,11,28,10,9,20,17,8,0,2,3] rfl fun K25 hK25 hT => ?_; refine sj (zz 0 [tt,tt,tt,tt,tt,tt]) rfl fun K26 hK26 => ?_; refine mv hT rfl fun a hT => ?_; refine tk hT rfl (x_not hT rfl rfl) fun a hT => mv hT rfl fun a hT => ?_; refine Sl.two hT 83 rfl (fun hc27 hT => ?_) (fun hc27 hT => ?_)
              · exfalso
                try simp only [bq] at hc27
                rw [hcut] at hc27; cases hc27
              · try simp only [bq] at hc27
                refine sk hT rfl fun a hT => sk hT rfl fun a hT => ?_; refine tk hT rfl (x_pick_f hT rfl rfl rfl) fun a hT => ?_; replace hT := hT.keep [86,15,14,13,62,1,50,12,11,28,10,9,20,17,8,0,2,3] rfl; refine ser_nil ?_; refine then_normal (hK26 _ _ ?_); clear hK26; refine wp_if hT rfl (fun h => by cases h) (fun _ => ?_); skip; refine wp_skip ?_; revert hK25; refine nx fun K28 hK28 => ?_; refine wp_text (zz 0 [uu,tt,tt,tt,tt,tt,tt,tt,tt,tt,tt]) rfl ?_; refine st_call hT rfl rfl rfl rfl rfl Tryz.can8 rfl (first_calls _ (RE.at H.ext)) ?_; rintro _ w11 ⟨rfl, E⟩; refine ⟨_, rfl, ?_⟩; clear hT; intro a hT; replace H := H.pure E; clear E; refine mv hT rfl fun a hT => mv hT rfl fun a hT => ?_; refine tk hT rfl ((fun w => x_ne w hT rfl rfl rfl)) fun a hT => ?_; refine tk hT rfl (x_pick_t hT rfl rfl rfl) fun a hT => mv hT rfl fun a hT => ?_; refine Sl.two hT 97 rfl (fun hc29 hT => ?_) (fun hc29 hT => ?_)
                · try simp only [bq] at hc29
                  refine mv hT rfl fun a hT => ?_; refine tk hT rfl (x_len_slice hT rfl rfl Tryz.underlying22 rfl) fun a hT => ?_; refine tk hT rfl ((fun w => x_eq w hT rfl rfl rfl)) fun a hT => ?_; refine tk hT rfl (x_pick_t hT rfl rfl rfl) fun a hT => asn hT rfl fun a hT => ?_; revert hT; revert hK28; refine rp [8,86,15,14,13,62,1,50,12,11,28,10,9,20,17,0,2,3] rfl fun hT => ?_; refine wp_ret ?_; refine dn Tryz.f4 hT rfl ?_; exact ⟨ret_b (by rw [map_nil hm4 hbad]; simp), H.ext⟩
                · exfalso
                  try simp only [bq] at hc29
                  exact hbad hc29
            · try simp only [bq] at hc23
              have hcut := hc23; obtain ⟨ch, hch⟩ : ∃ q9, tx[a9]? = some q9 := ⟨_, List.getElem?_eq_getElem (by omega)⟩; refine wp_text (zz 0 [tt,tt,tt,tt,tt,uu,tt,tt,tt,uu]) rfl ?_; refine mv hT rfl fun a hT => mv hT rfl fun a hT => mv hT rfl fun a hT => mv hT rfl fun a hT => ?_; refine tk hT rfl (x_index (k := a9) hT rfl Tryz.underlying39 Tryz.ti5 (((H.at 0 rfl) : Bt _ _ _).bs0) rfl rfl rfl (by omega)) fun a hT => ?_; refine rn hT rfl (x_load1 hT rfl Tryz.fl5 rfl (by have h8 := ((H.at 0 rfl) : Bt _ _ _).at_ hch; simpa [ab, ao] using h8)) fun a hT => mv hT rfl fun a hT => ?_; refine tk hT rfl (x_kxor (p := ch.toNat) (q := x9.toNat) hT rfl rfl rfl rfl ch.toNat_lt x9.toNat_lt) fun a hT => ?_; rw [show ((ch.toNat ^^^ x9.toNat : Nat) : Int) = ((ch ^^^ x9).toNat : Int) from by rw [UInt8.toNat_xor]] at hT; refine tk hT rfl (x_index (k := a9) hT rfl Tryz.underlying39 Tryz.ti5 (((H.at 0 rfl) : Bt _ _ _).bs0) rfl rfl rfl (by omega)) fun a hT => ?_; refine st_act hT rfl rfl rfl (x_storeBt (k := a9) hT rfl Tryz.ti5 rfl rfl rfl (show 0 + a9 * 1 = a9 by omega) (H.at 0 rfl) (by omega)) ?_
              rintro w12 ⟨hbt, E⟩; replace H := Hp.setBt (k := 0) H 0 rfl hbt E rfl; clear hbt E; revert hT; revert hK21; refine rg [62,13,1,50,12,11,28,10,9,20,17,8,0,2,3] (zz 0 [tt,uu,uu,tt,tt,tt,tt,tt]) rfl fun K30 hK30 hT => ?_; refine mv hT rfl fun a hT => ?_; refine rn hT rfl (x_bytes_string hT rfl (show Bs _ _ (tx.set a9 (ch ^^^ x9)) from ((H.at 0 rfl) : Bt _ _ _).bs0) Tryz.underlying39 Tryz.underlying5 Tryz.underlying9 rfl (by rw [List.length_set])) fun a hT => ?_; refine st_call hT rfl rfl rfl rfl rfl Tryz.can14 rfl (LParse_calls (tx.set a9 (ch ^^^ x9)) (by rw [List.length_set]; omega) ((htn.set _ _).mono (by decide)) (RE.at H.ext)) ?_; rintro _ w13 ⟨ad4, c4, m4, rfl, hm4, -, -, K⟩; refine ⟨_, rfl, ?_⟩; clear hT; intro a hT; replace H := H.more K rfl; clear K; refine mv hT rfl fun a hT => ?_; refine tk hT rfl (x_extractL hT rfl rfl rfl) fun a hT => ?_; refine tk hT rfl (x_extractL hT rfl rfl rfl) fun a hT => asn hT rfl fun a hT => asn hT rfl fun a hT => ?_; revert hT; revert hK30
              refine rq [15,14,62,13,1,50,12,11,28,10,9,20,17,8,0,2,3] rfl fun K31 hK31 hT => ?_; refine sj (zz 0 [tt,tt,tt,tt,tt,tt]) rfl fun K32 hK32 => ?_; refine mv hT rfl fun a hT => ?_; refine tk hT rfl (x_not hT rfl rfl) fun a hT => mv hT rfl fun a hT => ?_; refine Sl.two hT 83 rfl (fun hc33 hT => ?_) (fun hc33 hT => ?_)
              · try simp only [bq] at hc33
                refine mv hT rfl fun a hT => ?_; refine tk hT rfl ((fun w => x_eq w hT rfl rfl rfl)) fun a hT => ?_; refine tk hT rfl (x_pick_t hT rfl rfl rfl) fun a hT => ?_; revert hT; revert hK32; refine rif [86,15,14,62,13,1,50,12,11,28,10,9,20,17,8,0,2,3] rfl (fun hT hc34 => ?_) (fun hT hc34 => ?_)
                · try simp only [bq] at hc34
                  have hx0 : x9 = 0 := UInt8.toNat_inj.1 (by have h9 := hc34; have e0 : (0 : UInt8).toNat = 0 := rfl; omega); have hse : tx.set a9 (ch ^^^ x9) = tx := by
                    rw [hx0, UInt8.xor_zero]; obtain ⟨hi9, hv9⟩ := List.getElem?_eq_some_iff.1 hch; rw [← hv9]; exact List.set_getElem_self hi9
                  rw [show (parseT (tx.set a9 (ch ^^^ x9))).2 = 0 from by rw [hse]; exact congrArg Prod.snd htp] at hT; refine sj (zz 0 [uu,tt,tt,tt,tt,tt]) rfl fun K35 hK35 => ?_; refine st_call hT rfl rfl rfl rfl rfl Tryz.can8 rfl (first_calls _ (RE.at H.ext)) ?_; rintro _ w14 ⟨rfl, E⟩; refine ⟨_, rfl, ?_⟩; clear hT; intro a hT; replace H := H.pure E; clear E; refine mv hT rfl fun a hT => mv hT rfl fun a hT => ?_; refine tk hT rfl ((fun w => x_eq w hT rfl rfl rfl)) fun a hT => ?_; refine tk hT rfl (x_pick_t hT rfl rfl rfl) fun a hT => asn hT rfl fun a hT => ?_; revert hT; revert hK35; refine rp [8,86,15,14,62,13,1,50,12,11,28,10,9,20,17,0,2,3] rfl fun hT => ?_; refine wp_ret <| then_ret ?_; refine dn Tryz.f4 hT rfl ?_; exact ⟨ret_b (by simp), H.ext⟩
                · try simp only [bq] at hc34
                  have hbad := htb a9 ch (ch ^^^ x9) hch (fun h8 => hc34 (by
                    have h7 : x9 = 0 := by
                      have h6 : ch ^^^ (ch ^^^ x9) = ch ^^^ ch := by rw [h8]
                      rwa [← UInt8.xor_assoc, UInt8.xor_self, UInt8.zero_xor] at h6
                    rw [h7]; rfl))
                  refine wp_skip ?_; revert hK31; refine nx fun K36 hK36 => ?_; refine wp_text (zz 0 [uu,tt,tt,tt,tt,tt,tt,tt,tt,tt,tt]) rfl ?_; refine st_call hT rfl rfl rfl rfl rfl Tryz.can8 rfl (first_calls _ (RE.at H.ext)) ?_; rintro _ w15 ⟨rfl, E⟩; refine ⟨_, rfl, ?_⟩; clear hT; intro a hT; replace H := H.pure E; clear E; refine mv hT rfl fun a hT => mv hT rfl fun a hT => ?_; refine tk hT rfl ((fun w => x_ne w hT rfl rfl rfl)) fun a hT => ?_; refine tk hT rfl (x_pick_t hT rfl rfl rfl) fun a hT => mv hT rfl fun a hT => ?_; refine Sl.two hT 97 rfl (fun hc37 hT => ?_) (fun hc37 hT => ?_)
                  · try simp only [bq] at hc37
                    refine mv hT rfl fun a hT => ?_; refine tk hT rfl (x_len_slice hT rfl rfl Tryz.underlying22 rfl) fun a hT => ?_; refine tk hT rfl ((fun w => x_eq w hT rfl rfl rfl)) fun a hT => ?_; refine tk hT rfl (x_pick_t hT rfl rfl rfl) fun a hT => asn hT rfl fun a hT => ?_; revert hT; revert hK36; refine rp [8,86,15,14,62,13,1,50,12,11,28,10,9,20,17,0,2,3] rfl fun hT => ?_; refine wp_ret ?_; refine dn Tryz.f4 hT rfl ?_; exact ⟨ret_b (by rw [map_nil hm4 hbad]; simp), H.ext⟩
                  · exfalso
                    try simp only [bq] at hc37
                    exact hbad hc37
              · exfalso
                try simp only [bq] at hc33
                rw [hcut] at hc33; cases hc33
          · clear hK18; intro hJK18
            refine sj (zz 0 [tt,tt]) rfl fun K38 hK38 => ?_; refine mv hT rfl fun a hT => ?_; refine tk hT rfl ((fun w => x_lt w hT rfl rfl rfl)) fun a hT => ?_; revert hT; revert hK38; refine rif [52,50,12,11,28,10,9,20,17,8,0,1,2,3] rfl (fun hT hc39 => ?_) (fun hT hc39 => ?_)
            · try simp only [bq] at hc39
              refine wp_text (zz 0 [tt,tt,tt,tt]) rfl ?_; refine mv hT rfl fun a hT => ?_; refine tk hT rfl ((fun w => x_add w hT rfl rfl rfl (wrap64 (by omega)))) fun a hT => ?_; refine tk hT rfl ((fun w => x_neg w hT rfl rfl (wrap64 (by omega)))) fun a hT => asn hT rfl fun a hT => ?_; replace hT := hT.keep [1,52,50,12,11,28,10,9,20,17,8,0,2,3] rfl; refine ser_nil ?_; exact then_normal (hJK18 (-(at9 + 1)).toNat _ _ (by omega) ((hT.keep [1,50,12,11,28,10,9,20,17,8,0,2,3] rfl).conv (by rw [show (((-(at9 + 1)).toNat : Nat) : Int) = -(at9 + 1) from by omega]; rfl)) (H.keep [0,1] rfl rfl))
            · try simp only [bq] at hc39
              refine wp_skip ?_; exact then_normal (hJK18 at9.toNat _ _ (by omega) ((hT.keep [1,50,12,11,28,10,9,20,17,8,0,2,3] rfl).conv (by rw [show ((at9.toNat : Nat) : Int) = at9 from by omega]; rfl)) (H.keep [0,1] rfl rfl))
def above (l : List Ep) (q : Stp) : List Ep := l.dropWhile fun e => decide (cmpS e.s q ≤ 0)
end Go.Proofs.YtonnladboikmhaaGreatDoor
