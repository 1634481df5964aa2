/- The contracts of a net, without its parts. -/
import Derived.Test.YtgcelppbbjokeaaW3
set_option linter.unusedSimpArgs false
set_option linter.unusedVariables false
namespace Go.Proofs.Ytgcelppbbjokeaa
open Sx

theorem nAt_yes {p : Nat} {room : Int} {ms : List Mail} {F : Nat → Prop} {w : World} (h : Net w p room ms F) (i : Int) (k : Nat) (m : Mail) (hi : i = k) (hm : ms[k]? = some m) :
    Calls Try.prog 11 #[.pointer (some ⟨p, 0, none⟩), .int .i64 i] w fun e w' => ∃ ad' c', e = .returned (.tuple #[.agg #[.int .i64 m.src, .int .i64 m.dst, .slice ad' m.data.length c'], .bool true]) ∧ Told w' w.heap.size ad' c' m.data ∧ Ext No w w' := by
  obtain ⟨ad, c, rs, h⟩ := h
  exact At_yes p room ms F ad c rs w h i k m hi hm

theorem nAt_no {p : Nat} {room : Int} {ms : List Mail} {F : Nat → Prop} {w : World} (h : Net w p room ms F) (i : Int) (hi : ¬ (0 ≤ i ∧ i < ms.length)) :
    Calls Try.prog 11 #[.pointer (some ⟨p, 0, none⟩), .int .i64 i] w fun e w' => e = .returned (.tuple #[.agg #[.int .i64 0, .int .i64 0, .slice none 0 0], .bool false]) ∧ Ext No w w' := by
  obtain ⟨ad, c, rs, h⟩ := h
  exact At_no p room ms F ad c rs w h i hi

theorem nLen_calls {p : Nat} {room : Int} {ms : List Mail} {F : Nat → Prop} {w : World} (h : Net w p room ms F)  :
    Calls Try.prog 13 #[.pointer (some ⟨p, 0, none⟩)] w fun e w' => e = .returned (.int .i64 ms.length) ∧ Ext No w w' := by
  obtain ⟨ad, c, rs, h⟩ := h
  exact Len_calls p room ms F ad c rs w h 

theorem nCount_calls {p : Nat} {room : Int} {ms : List Mail} {F : Nat → Prop} {w : World} (h : Net w p room ms F) (to : Int) :
    Calls Try.prog 15 #[.pointer (some ⟨p, 0, none⟩), .int .i64 to] w fun e w' => e = .returned (.int .i64 (cnt ms to)) ∧ Ext No w w' := by
  obtain ⟨ad, c, rs, h⟩ := h
  exact Count_calls p room ms F ad c rs w h to

theorem nSend_full {p : Nat} {room : Int} {ms : List Mail} {F : Nat → Prop} {w : World} (h : Net w p room ms F) (src dst : Int) (ad2 : Option Addr) (n2 c2 : Nat) (hfull : room ≤ ms.length) :
    Calls Try.prog 10 #[.pointer (some ⟨p, 0, none⟩), .int .i64 src, .int .i64 dst, .slice ad2 n2 c2] w fun e w' => e = .returned (.int .i64 11) ∧ Ext No w w' := by
  obtain ⟨ad, c, rs, h⟩ := h
  exact Send_full p room ms F ad c rs w h src dst ad2 n2 c2 hfull

theorem nSend_ok {p : Nat} {room : Int} {ms : List Mail} {F : Nat → Prop} {w : World} (h : Net w p room ms F) (src dst : Int) (ad2 : Option Addr) (n2 c2 : Nat) (l : List UInt8) (hroom : ms.length < room) (hd : Bs w ad2 l) (hn : n2 = l.length) (hnil : ad2 = none → n2 = 0 ∧ c2 = 0) (hs : n2 ≤ 1099511627776) :
    Calls Try.prog 10 #[.pointer (some ⟨p, 0, none⟩), .int .i64 src, .int .i64 dst, .slice ad2 n2 c2] w fun e w' => e = .returned (.int .i64 0) ∧ Net w' p room (ms ++ [⟨src, dst, l⟩]) (fun k => F k ∨ (w.heap.size ≤ k ∧ k < w'.heap.size)) ∧ Ext F w w' := by
  obtain ⟨ad, c, rs, h⟩ := h
  exact Send_ok p room ms F ad c rs w h src dst ad2 n2 c2 l hroom hd hn hnil hs

theorem nDrop_no {p : Nat} {room : Int} {ms : List Mail} {F : Nat → Prop} {w : World} (h : Net w p room ms F) (i : Int) (hi : ¬ (0 ≤ i ∧ i < ms.length)) :
    Calls Try.prog 21 #[.pointer (some ⟨p, 0, none⟩), .int .i64 i] w fun e w' => e = .returned (.bool false) ∧ Ext No w w' := by
  obtain ⟨ad, c, rs, h⟩ := h
  exact Drop_no p room ms F ad c rs w h i hi

theorem nDrop_yes {p : Nat} {room : Int} {ms : List Mail} {F : Nat → Prop} {w : World} (h : Net w p room ms F) (i : Int) (k : Nat) (m : Mail) (hi : i = k) (hm : ms[k]? = some m) :
    Calls Try.prog 21 #[.pointer (some ⟨p, 0, none⟩), .int .i64 i] w fun e w' => e = .returned (.bool true) ∧ Net w' p room (ms.take k ++ ms.drop (k + 1)) F ∧ Ext F w w' := by
  obtain ⟨ad, c, rs, h⟩ := h
  exact Drop_yes p room ms F ad c rs w h i k m hi hm

theorem nTake_no {p : Nat} {room : Int} {ms : List Mail} {F : Nat → Prop} {w : World} (h : Net w p room ms F) (i : Int) (hi : ¬ (0 ≤ i ∧ i < ms.length)) :
    Calls Try.prog 16 #[.pointer (some ⟨p, 0, none⟩), .int .i64 i] w fun e w' => e = .returned (.tuple #[.agg #[.int .i64 0, .int .i64 0, .slice none 0 0], .bool false]) ∧ Ext No w w' := by
  obtain ⟨ad, c, rs, h⟩ := h
  exact Take_no p room ms F ad c rs w h i hi

theorem nTake_yes {p : Nat} {room : Int} {ms : List Mail} {F : Nat → Prop} {w : World} (h : Net w p room ms F) (i : Int) (k : Nat) (m : Mail) (hi : i = k) (hm : ms[k]? = some m) :
    Calls Try.prog 16 #[.pointer (some ⟨p, 0, none⟩), .int .i64 i] w fun e w' => ∃ ad' c', e = .returned (.tuple #[.agg #[.int .i64 m.src, .int .i64 m.dst, .slice ad' m.data.length c'], .bool true]) ∧ Told w' w.heap.size ad' c' m.data ∧ Net w' p room (ms.take k ++ ms.drop (k + 1)) F ∧ Ext F w w' := by
  obtain ⟨ad, c, rs, h⟩ := h
  exact Take_yes p room ms F ad c rs w h i k m hi hm

theorem nTwice_no {p : Nat} {room : Int} {ms : List Mail} {F : Nat → Prop} {w : World} (h : Net w p room ms F) (i : Int) (hi : ¬ (0 ≤ i ∧ i < ms.length)) :
    Calls Try.prog 22 #[.pointer (some ⟨p, 0, none⟩), .int .i64 i] w fun e w' => e = .returned (.int .i64 8) ∧ Ext No w w' := by
  obtain ⟨ad, c, rs, h⟩ := h
  exact Twice_no p room ms F ad c rs w h i hi

theorem nTwice_full {p : Nat} {room : Int} {ms : List Mail} {F : Nat → Prop} {w : World} (h : Net w p room ms F) (i : Int) (k : Nat) (m : Mail) (hi : i = k) (hm : ms[k]? = some m) (hfull : room ≤ ms.length) :
    Calls Try.prog 22 #[.pointer (some ⟨p, 0, none⟩), .int .i64 i] w fun e w' => e = .returned (.int .i64 11) ∧ Ext No w w' := by
  obtain ⟨ad, c, rs, h⟩ := h
  exact Twice_full p room ms F ad c rs w h i k m hi hm hfull

theorem nTwice_ok {p : Nat} {room : Int} {ms : List Mail} {F : Nat → Prop} {w : World} (h : Net w p room ms F) (i : Int) (k : Nat) (m : Mail) (hi : i = k) (hm : ms[k]? = some m) (hroom : ms.length < room) :
    Calls Try.prog 22 #[.pointer (some ⟨p, 0, none⟩), .int .i64 i] w fun e w' => e = .returned (.int .i64 0) ∧ Net w' p room (ms ++ [m]) (fun k => F k ∨ (w.heap.size ≤ k ∧ k < w'.heap.size)) ∧ Ext F w w' := by
  obtain ⟨ad, c, rs, h⟩ := h
  exact Twice_ok p room ms F ad c rs w h i k m hi hm hroom

theorem nMove_no {p : Nat} {room : Int} {ms : List Mail} {F : Nat → Prop} {w : World} (h : Net w p room ms F) (i to : Int) (hi : ¬ (0 ≤ i ∧ i < ms.length)) :
    Calls Try.prog 12 #[.pointer (some ⟨p, 0, none⟩), .int .i64 i, .int .i64 to] w fun e w' => e = .returned (.bool false) ∧ Ext No w w' := by
  obtain ⟨ad, c, rs, h⟩ := h
  exact Move_no p room ms F ad c rs w h i to hi

theorem nMove_yes {p : Nat} {room : Int} {ms : List Mail} {F : Nat → Prop} {w : World} (h : Net w p room ms F) (i to : Int) (k : Nat) (m : Mail) (hi : i = k) (hm : ms[k]? = some m) :
    Calls Try.prog 12 #[.pointer (some ⟨p, 0, none⟩), .int .i64 i, .int .i64 to] w fun e w' => e = .returned (.bool true) ∧
      Net w' p room ((ms.take k ++ ms.drop (k + 1)).take (goal to (k + (ms.length - (k + 1)))) ++ [m] ++ (ms.take k ++ ms.drop (k + 1)).drop (goal to (k + (ms.length - (k + 1))))) (fun q => F q ∨ (w.heap.size ≤ q ∧ q < w'.heap.size)) ∧ Ext F w w' := by
  obtain ⟨ad, c, rs, h⟩ := h
  exact Move_yes p room ms F ad c rs w h i to k m hi hm

theorem mails_lt {ms : List Mail} {k : Nat} {m : Mail} (h : ms[k]? = some m) : k < ms.length := (List.getElem?_eq_some_iff.1 h).1

theorem Bytes_calls (ad ad2 : Option Addr) (n n2 c c2 : Nat) (l k : List UInt8) (w : World) (h1 : Bs w ad l) (h2 : Bs w ad2 k) (hn : n = l.length) (hn2 : n2 = k.length) :
    Calls Try.prog 17 #[.slice ad n c, .slice ad2 n2 c2] w fun e w' => e = .returned (.bool (decide (l = k))) ∧ Ext No w w' := by
  subst hn
  subst hn2
  refine Sx.calls_into Try.func17 rfl Try.ntmps17 rfl fun a hT => ?_
  replace hT := hT.keep [0, 1] rfl
  have X : Sx.Ext Sx.No w w := Sx.Ext.refl _ _
  refine wp_seq_k fun K1 hK1 => ?_
  -- region 0 (same.go:45)
  refine Sx.wp_text [(0, .take)] rfl ?_
  refine Sx.st_take hT rfl rfl rfl rfl (Sx.x_assign hT rfl rfl) ?_
  clear hT; intro a hT
  replace hT := hT.keep [4, 0, 1] rfl
  refine Sx.ser_nil ?_
  refine Sx.then_normal (hK1 _ _ ?_)
  clear hK1
  refine wp_seq_k fun K2 hK2 => ?_
  -- region 1 (same.go:45)
  refine Sx.wp_text [(0, .take), (1, .run), (2, .take), (3, .run), (4, .take), (5, .take)] rfl ?_
  refine Sx.st_take hT rfl rfl rfl rfl (Sx.x_move hT rfl rfl) ?_
  clear hT; intro a hT
  refine Sx.st_run hT rfl rfl rfl rfl (Sx.x_bytes_string hT rfl (by first | exact h1.ext_no X | exact h2.ext_no X) Try.underlying30 Try.underlying5 Try.underlying9 rfl rfl) ?_
  clear hT; intro a hT
  refine Sx.st_take hT rfl rfl rfl rfl (Sx.x_move hT rfl rfl) ?_
  clear hT; intro a hT
  refine Sx.st_run hT rfl rfl rfl rfl (Sx.x_bytes_string hT rfl (by first | exact h1.ext_no X | exact h2.ext_no X) Try.underlying30 Try.underlying5 Try.underlying9 rfl rfl) ?_
  clear hT; intro a hT
  refine Sx.st_take hT rfl rfl rfl rfl ((fun w => Sx.x_streq w hT rfl rfl rfl)) ?_
  clear hT; intro a hT
  refine Sx.st_take hT rfl rfl rfl rfl (Sx.x_assign hT rfl rfl) ?_
  clear hT; intro a hT
  replace hT := hT.keep [4, 0, 1] rfl
  refine Sx.ser_nil ?_
  refine Sx.then_normal (hK2 _ _ ?_)
  clear hK2
  refine wp_ret ?_
  refine Sx.done1 (fn := Try.f17) hT rfl (.tmp (hT.get 4 _ rfl)) ?_
  exact ⟨rfl, X⟩

theorem alike_calls (f t f2 t2 : Int) (ad ad2 : Option Addr) (n n2 c c2 : Nat) (l k : List UInt8) (w : World) (h1 : Bs w ad l) (h2 : Bs w ad2 k) (hn : n = l.length) (hn2 : n2 = k.length) :
    Calls Try.prog 14 #[.agg #[.int .i64 f, .int .i64 t, .slice ad n c], .agg #[.int .i64 f2, .int .i64 t2, .slice ad2 n2 c2]] w fun e w' => e = .returned (.bool (decide ((⟨f, t, l⟩ : Mail) = ⟨f2, t2, k⟩))) ∧ Ext No w w' := by
  have hmm : ((⟨f, t, l⟩ : Mail) = ⟨f2, t2, k⟩) ↔ (f = f2 ∧ t = t2 ∧ l = k) := by simp
  refine Sx.calls_into Try.func14 rfl Try.ntmps14 rfl fun a hT => ?_
  replace hT := hT.keep [0, 1] rfl
  have X : Sx.Ext Sx.No w w := Sx.Ext.refl _ _
  refine wp_seq_k fun K1 hK1 => ?_
  -- region 0 (law.go:178)
  refine Sx.wp_text [(0, .run), (1, .run), (2, .take)] rfl ?_
  refine Sx.st_eff hT rfl rfl rfl rfl (Sx.y_box hT rfl rfl rfl _) ?_
  clear hT; rintro _ w1 ⟨b1, rfl, N⟩ a hT
  have hb1 : w.heap.size ≤ b1 := by rw [N.at_]; exact X.size
  replace X := X.step N.ext
  have B1 := N.blk
  clear N
  refine Sx.st_eff hT rfl rfl rfl rfl (Sx.y_box hT rfl rfl rfl _) ?_
  clear hT; rintro _ w2 ⟨b2, rfl, N⟩ a hT
  have hb2 : w.heap.size ≤ b2 := by rw [N.at_]; exact X.size
  have lB1_b2 : b1 < b2 := by have h1 := B1.lt; have h2 := N.at_; omega
  replace X := X.step N.ext
  replace B1 := B1.ext_no N.ext
  have B2 := N.blk
  clear N
  refine Sx.st_take hT rfl rfl rfl rfl (Sx.x_assign hT rfl rfl) ?_
  clear hT; intro a hT
  replace hT := hT.keep [4, 3, 2, 0, 1] rfl
  refine Sx.ser_nil ?_
  refine Sx.then_normal (hK1 _ _ ?_)
  clear hK1
  refine wp_seq_k fun K2 hK2 => ?_
  -- region 1 (law.go:179)
  refine Sx.wp_text [(0, .take), (1, .run), (2, .take), (3, .run), (4, .take), (5, .take), (6, .take), (7, .run), (8, .take), (9, .run), (10, .take), (11, .take), (12, .take), (13, .take), (14, .run), (15, .take), (16, .run), (17, .run), (18, .take), (19, .take)] rfl ?_
  refine Sx.st_take hT rfl rfl rfl rfl (Sx.x_fieldAddr hT rfl Try.fa34_0 rfl) ?_
  clear hT; intro a hT
  refine Sx.st_run hT rfl rfl rfl rfl (Sx.x_load1 hT rfl Try.fl3 rfl (by first | exact (B1).nth rfl | exact (B2).nth rfl)) ?_
  clear hT; intro a hT
  refine Sx.st_take hT rfl rfl rfl rfl (Sx.x_fieldAddr hT rfl Try.fa34_0 rfl) ?_
  clear hT; intro a hT
  refine Sx.st_run hT rfl rfl rfl rfl (Sx.x_load1 hT rfl Try.fl3 rfl (by first | exact (B1).nth rfl | exact (B2).nth rfl)) ?_
  clear hT; intro a hT
  refine Sx.st_take hT rfl rfl rfl rfl ((fun w => Sx.x_eq w hT rfl rfl rfl)) ?_
  clear hT; intro a hT
  refine Sx.st_take hT rfl rfl rfl rfl (Sx.x_move hT rfl rfl) ?_
  clear hT; intro a hT
  -- guard (1, 5)
  refine Sx.Sl.two hT 10 rfl (fun hc3 hT => ?_) (fun hc3 hT => ?_)
  · try simp only [decide_eq_true_eq, decide_eq_false_iff_not, Bool.not_eq_true', Bool.not_eq_false', Bool.not_eq_true, Bool.not_eq_false, Bool.and_eq_true, Bool.or_eq_false_iff, beq_iff_eq, bne_iff_ne, Int.not_lt, Int.not_le, ne_eq] at hc3
    refine Sx.st_take hT rfl rfl rfl rfl (Sx.x_fieldAddr hT rfl Try.fa34_1 rfl) ?_
    clear hT; intro a hT
    refine Sx.st_run hT rfl rfl rfl rfl (Sx.x_load1 hT rfl Try.fl3 rfl (by first | exact (B1).nth rfl | exact (B2).nth rfl)) ?_
    clear hT; intro a hT
    refine Sx.st_take hT rfl rfl rfl rfl (Sx.x_fieldAddr hT rfl Try.fa34_1 rfl) ?_
    clear hT; intro a hT
    refine Sx.st_run hT rfl rfl rfl rfl (Sx.x_load1 hT rfl Try.fl3 rfl (by first | exact (B1).nth rfl | exact (B2).nth rfl)) ?_
    clear hT; intro a hT
    refine Sx.st_take hT rfl rfl rfl rfl ((fun w => Sx.x_eq w hT rfl rfl rfl)) ?_
    clear hT; intro a hT
    refine Sx.st_take hT rfl rfl rfl rfl (Sx.x_pick_t hT rfl rfl rfl) ?_
    clear hT; intro a hT
    refine Sx.st_take hT rfl rfl rfl rfl (Sx.x_move hT rfl rfl) ?_
    clear hT; intro a hT
    -- guard (1, 12)
    refine Sx.Sl.two hT 17 rfl (fun hc4 hT => ?_) (fun hc4 hT => ?_)
    · try simp only [decide_eq_true_eq, decide_eq_false_iff_not, Bool.not_eq_true', Bool.not_eq_false', Bool.not_eq_true, Bool.not_eq_false, Bool.and_eq_true, Bool.or_eq_false_iff, beq_iff_eq, bne_iff_ne, Int.not_lt, Int.not_le, ne_eq] at hc4
      refine Sx.st_take hT rfl rfl rfl rfl (Sx.x_fieldAddr hT rfl Try.fa34_2 rfl) ?_
      clear hT; intro a hT
      refine Sx.st_run hT rfl rfl rfl rfl (Sx.x_load1 hT rfl Try.fl30 rfl (by first | exact (B1).nth rfl | exact (B2).nth rfl)) ?_
      clear hT; intro a hT
      refine Sx.st_take hT rfl rfl rfl rfl (Sx.x_fieldAddr hT rfl Try.fa34_2 rfl) ?_
      clear hT; intro a hT
      refine Sx.st_run hT rfl rfl rfl rfl (Sx.x_load1 hT rfl Try.fl30 rfl (by first | exact (B1).nth rfl | exact (B2).nth rfl)) ?_
      clear hT; intro a hT
      refine Sx.st_call hT rfl rfl rfl rfl rfl Try.can17 rfl (Bytes_calls ad ad2 n n2 c c2 l k _ (h1.ext_no X) (h2.ext_no X) hn hn2) ?_
      rintro _ w3 ⟨rfl, E⟩
      refine ⟨_, rfl, ?_⟩
      clear hT; intro a hT
      replace X := X.step E
      replace B1 := B1.ext_no E
      replace B2 := B2.ext_no E
      refine Sx.st_take hT rfl rfl rfl rfl (Sx.x_pick_t hT rfl rfl rfl) ?_
      clear hT; intro a hT
      refine Sx.st_take hT rfl rfl rfl rfl (Sx.x_assign hT rfl rfl) ?_
      clear hT; intro a hT
      replace hT := hT.keep [4, 3, 2, 0, 1] rfl
      refine Sx.ser_nil ?_
      refine Sx.then_normal (hK2 _ _ ?_)
      clear hK2
      refine wp_ret ?_
      refine Sx.done1 (fn := Try.f14) hT rfl (.tmp (hT.get 4 _ rfl)) ?_
      first | exact ⟨by simp only [hmm]; simp [*], X⟩ | exact ⟨by simp only [hmm]; simp; omega, X⟩ | exact ⟨by simp only [hmm]; simp; intros; omega, X⟩
    · try simp only [decide_eq_true_eq, decide_eq_false_iff_not, Bool.not_eq_true', Bool.not_eq_false', Bool.not_eq_true, Bool.not_eq_false, Bool.and_eq_true, Bool.or_eq_false_iff, beq_iff_eq, bne_iff_ne, Int.not_lt, Int.not_le, ne_eq] at hc4
      refine Sx.st_skip hT rfl rfl rfl rfl ?_
      clear hT; intro a hT
      refine Sx.st_runskip hT rfl rfl rfl rfl ?_
      clear hT; intro a hT
      refine Sx.st_skip hT rfl rfl rfl rfl ?_
      clear hT; intro a hT
      refine Sx.st_runskip hT rfl rfl rfl rfl ?_
      clear hT; intro a hT
      refine Sx.st_runskip hT rfl rfl rfl rfl ?_
      clear hT; intro a hT
      refine Sx.st_take hT rfl rfl rfl rfl (Sx.x_pick_f hT rfl rfl rfl) ?_
      clear hT; intro a hT
      refine Sx.st_take hT rfl rfl rfl rfl (Sx.x_assign hT rfl rfl) ?_
      clear hT; intro a hT
      replace hT := hT.keep [4, 3, 2, 0, 1] rfl
      refine Sx.ser_nil ?_
      refine Sx.then_normal (hK2 _ _ ?_)
      clear hK2
      refine wp_ret ?_
      refine Sx.done1 (fn := Try.f14) hT rfl (.tmp (hT.get 4 _ rfl)) ?_
      first | exact ⟨by simp only [hmm]; simp [*], X⟩ | exact ⟨by simp only [hmm]; simp; omega, X⟩ | exact ⟨by simp only [hmm]; simp; intros; omega, X⟩
  · try simp only [decide_eq_true_eq, decide_eq_false_iff_not, Bool.not_eq_true', Bool.not_eq_false', Bool.not_eq_true, Bool.not_eq_false, Bool.and_eq_true, Bool.or_eq_false_iff, beq_iff_eq, bne_iff_ne, Int.not_lt, Int.not_le, ne_eq] at hc3
    refine Sx.st_skip hT rfl rfl rfl rfl ?_
    clear hT; intro a hT
    refine Sx.st_runskip hT rfl rfl rfl rfl ?_
    clear hT; intro a hT
    refine Sx.st_skip hT rfl rfl rfl rfl ?_
    clear hT; intro a hT
    refine Sx.st_runskip hT rfl rfl rfl rfl ?_
    clear hT; intro a hT
    refine Sx.st_skip hT rfl rfl rfl rfl ?_
    clear hT; intro a hT
    refine Sx.st_take hT rfl rfl rfl rfl (Sx.x_pick_f hT rfl rfl rfl) ?_
    clear hT; intro a hT
    refine Sx.st_take hT rfl rfl rfl rfl (Sx.x_move hT rfl rfl) ?_
    clear hT; intro a hT
    refine Sx.st_skip hT rfl rfl rfl rfl ?_
    clear hT; intro a hT
    refine Sx.st_runskip hT rfl rfl rfl rfl ?_
    clear hT; intro a hT
    refine Sx.st_skip hT rfl rfl rfl rfl ?_
    clear hT; intro a hT
    refine Sx.st_runskip hT rfl rfl rfl rfl ?_
    clear hT; intro a hT
    refine Sx.st_runskip hT rfl rfl rfl rfl ?_
    clear hT; intro a hT
    refine Sx.st_take hT rfl rfl rfl rfl (Sx.x_pick_f hT rfl rfl rfl) ?_
    clear hT; intro a hT
    refine Sx.st_take hT rfl rfl rfl rfl (Sx.x_assign hT rfl rfl) ?_
    clear hT; intro a hT
    replace hT := hT.keep [4, 3, 2, 0, 1] rfl
    refine Sx.ser_nil ?_
    refine Sx.then_normal (hK2 _ _ ?_)
    clear hK2
    refine wp_ret ?_
    refine Sx.done1 (fn := Try.f14) hT rfl (.tmp (hT.get 4 _ rfl)) ?_
    first | exact ⟨by simp only [hmm]; simp [*], X⟩ | exact ⟨by simp only [hmm]; simp; omega, X⟩ | exact ⟨by simp only [hmm]; simp; intros; omega, X⟩

end Go.Proofs.Ytgcelppbbjokeaa
