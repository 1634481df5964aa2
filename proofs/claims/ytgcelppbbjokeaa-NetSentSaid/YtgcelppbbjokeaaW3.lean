/- Walks: Take, Twice, Move. -/
import Derived.Test.YtgcelppbbjokeaaW2
set_option linter.unusedSimpArgs false
set_option linter.unusedVariables false
namespace Go.Proofs.Ytgcelppbbjokeaa
open Sx

theorem Take_no (p : Nat) (room : Int) (ms : List Mail) (F : Nat → Prop) (ad : Option Addr) (c : Nat) (rs : List RM) (w : World) (h : NetAt w p room ms F ad c rs) (i : Int) (hi : ¬ (0 ≤ i ∧ i < ms.length)) :
    Calls Try.prog 16 #[.pointer (some ⟨p, 0, none⟩), .int .i64 i] w fun e w' => e = .returned (.tuple #[.agg #[.int .i64 0, .int .i64 0, .slice none 0 0], .bool false]) ∧ Ext No w w' := by
  skip
  refine Sx.calls_into Try.func16 rfl Try.ntmps16 rfl fun a hT => ?_
  replace hT := hT.keep [0, 1] rfl
  have X : Sx.Ext Sx.No w w := Sx.Ext.refl _ _
  refine wp_seq_k fun K1 hK1 => ?_
  -- region 0 (net.go:59)
  refine Sx.wp_text [(0, .run), (1, .take)] rfl ?_
  refine Sx.st_eff hT rfl rfl rfl rfl (Sx.y_alloc hT rfl Try.ti34 rfl _) ?_
  clear hT; rintro _ w1 ⟨b1, rfl, N⟩ a hT
  have hb1 : w.heap.size ≤ b1 := by rw [N.at_]; exact X.size
  replace X := X.step N.ext
  have B1 := N.blk
  clear N
  refine Sx.st_take hT rfl rfl rfl rfl (Sx.x_assign hT rfl rfl) ?_
  clear hT; intro a hT
  replace hT := hT.keep [5, 4, 0, 1] rfl
  refine Sx.ser_nil ?_
  refine Sx.then_normal (hK1 _ _ ?_)
  clear hK1
  refine wp_seq_k fun K2 hK2 => ?_
  -- region 1 (net.go:60)
  refine Sx.wp_text [(0, .take), (1, .take), (2, .run), (3, .take), (4, .take), (5, .take), (6, .run), (7, .run), (8, .take)] rfl ?_
  refine Sx.st_take hT rfl rfl rfl rfl (Sx.x_move hT rfl rfl) ?_
  clear hT; intro a hT
  refine Sx.st_take hT rfl rfl rfl rfl (Sx.x_move hT rfl rfl) ?_
  clear hT; intro a hT
  refine Sx.st_call hT rfl rfl rfl rfl rfl Try.can11 rfl (At_no _ _ _ _ _ _ _ _ (h.ext_no X) _ hi) ?_
  rintro _ w2 ⟨rfl, E⟩
  refine ⟨_, rfl, ?_⟩
  clear hT; intro a hT
  replace X := X.step E
  replace B1 := B1.ext_no E
  refine Sx.st_take hT rfl rfl rfl rfl (Sx.x_move hT rfl rfl) ?_
  clear hT; intro a hT
  refine Sx.st_take hT rfl rfl rfl rfl (Sx.x_extract hT rfl rfl rfl) ?_
  clear hT; intro a hT
  refine Sx.st_take hT rfl rfl rfl rfl (Sx.x_extract hT rfl rfl rfl) ?_
  clear hT; intro a hT
  refine Sx.st_eff hT rfl rfl rfl rfl (Sx.y_alloc hT rfl Try.ti34 rfl _) ?_
  clear hT; rintro _ w3 ⟨b2, rfl, N⟩ a hT
  have hb2 : w.heap.size ≤ b2 := by rw [N.at_]; exact X.size
  have lB1_b2 : b1 < b2 := by have h1 := B1.lt; have h2 := N.at_; omega
  replace X := X.step N.ext
  replace B1 := B1.ext_no N.ext
  have B2 := N.blk
  clear N
  refine Sx.st_act hT rfl rfl rfl (Sx.y_storeS hT rfl Try.ti34 rfl rfl rfl rfl rfl B2 rfl) ?_
  rintro w4 ⟨NB2, E, z⟩
  replace X := X.fresh E (by omega)
  replace B1 := B1.ext E (by unfold Sx.One; omega)
  replace B2 := NB2; clear NB2 E
  refine Sx.st_take hT rfl rfl rfl rfl (Sx.x_assign hT rfl rfl) ?_
  clear hT; intro a hT
  replace hT := hT.keep [7, 6, 5, 4, 0, 1] rfl
  refine Sx.ser_nil ?_
  refine Sx.then_normal (hK2 _ _ ?_)
  clear hK2
  refine wp_seq_k fun K3 hK3 => ?_
  -- region 2 (net.go:61)
  refine Sx.wp_draws (fun u => Sx.Ext Sx.No u) [(0, .held), (1, .take), (2, .take), (3, .take), (4, .take), (5, .keep), (6, .take), (7, .run), (8, .take)] (by kernel_rfl) (by kernel_rfl) (fun u E z => ?_)
  replace X := X.step E
  replace B1 := B1.ext_no E
  replace B2 := B2.ext_no E
  have hH : Sx.Ext Sx.No u u := Sx.Ext.refl _ _
  have Xu := X
  have B1u := B1
  have B2u := B2
  refine Sx.st_held hT rfl rfl rfl rfl hH (fun w' h' => Sx.y_loadS hT rfl Try.underlying34 Try.ti34 rfl (by first | exact (B1u.ext_no h').seg (k := 3) rfl | exact (B2u.ext_no h').seg (k := 3) rfl) (by rfl)) ?_
  clear hT; intro a hT
  refine Sx.st_take hT rfl rfl rfl rfl (Sx.x_move hT rfl rfl) ?_
  clear hT; intro a hT
  refine Sx.st_take hT rfl rfl rfl rfl (Sx.x_move hT rfl rfl) ?_
  clear hT; intro a hT
  refine Sx.st_skip hT rfl rfl rfl rfl ?_
  clear hT; intro a hT
  refine Sx.st_skip hT rfl rfl rfl rfl ?_
  clear hT; intro a hT
  refine Sx.st_keepskip hT rfl rfl rfl rfl hH ?_
  clear hT; intro a hT
  refine Sx.st_take hT rfl rfl rfl rfl (Sx.x_pick_f hT rfl rfl rfl) ?_
  clear hT; intro a hT
  refine Sx.st_act hT rfl rfl rfl (Sx.y_storeS hT rfl Try.ti34 rfl rfl rfl rfl rfl B1 rfl) ?_
  rintro w5 ⟨NB1, E, z⟩
  replace X := X.fresh E (by omega)
  replace B2 := B2.ext E (by unfold Sx.One; omega)
  replace B1 := NB1; clear NB1 E
  refine Sx.st_take hT rfl rfl rfl rfl (Sx.x_assign hT rfl rfl) ?_
  clear hT; intro a hT
  replace hT := hT.keep [5, 7, 6, 4, 0, 1] rfl
  refine Sx.ser_calm ?_
  refine Sx.then_normal (hK3 _ _ ?_)
  clear hK3
  refine wp_ret ?_
  refine Sx.done2 (fn := Try.f16) hT rfl (.cell (hT.get 4 _ rfl) (Sx.run_resS Try.underlying34 Try.ti34 (by first | exact (B1).seg (k := 3) rfl | exact (B2).seg (k := 3) rfl) (by rfl))) (.tmp (hT.get 5 _ rfl)) ?_
  exact ⟨rfl, X⟩

theorem Take_yes (p : Nat) (room : Int) (ms : List Mail) (F : Nat → Prop) (ad : Option Addr) (c : Nat) (rs : List RM) (w : World) (h : NetAt w p room ms F ad c rs) (i : Int) (k : Nat) (m : Mail) (hi : i = k) (hm : ms[k]? = some m) :
    Calls Try.prog 16 #[.pointer (some ⟨p, 0, none⟩), .int .i64 i] w fun e w' => ∃ ad' c', e = .returned (.tuple #[.agg #[.int .i64 m.src, .int .i64 m.dst, .slice ad' m.data.length c'], .bool true]) ∧ Told w' w.heap.size ad' c' m.data ∧ Net w' p room (ms.take k ++ ms.drop (k + 1)) F ∧ Ext F w w' := by
  subst hi
  have hlt := h.lt
  refine Sx.calls_into Try.func16 rfl Try.ntmps16 rfl fun a hT => ?_
  replace hT := hT.keep [0, 1] rfl
  have X : Sx.Ext F w w := Sx.Ext.refl _ _
  refine wp_seq_k fun K1 hK1 => ?_
  -- region 0 (net.go:59)
  refine Sx.wp_text [(0, .run), (1, .take)] rfl ?_
  refine Sx.st_eff hT rfl rfl rfl rfl (Sx.y_alloc hT rfl Try.ti34 rfl _) ?_
  clear hT; rintro _ w1 ⟨b1, rfl, N⟩ a hT
  have hb1 : w.heap.size ≤ b1 := by rw [N.at_]; exact X.size
  replace X := X.step N.ext
  replace h := h.ext_no N.ext
  have B1 := N.blk
  clear N
  refine Sx.st_take hT rfl rfl rfl rfl (Sx.x_assign hT rfl rfl) ?_
  clear hT; intro a hT
  replace hT := hT.keep [5, 4, 0, 1] rfl
  refine Sx.ser_nil ?_
  refine Sx.then_normal (hK1 _ _ ?_)
  clear hK1
  refine wp_seq_k fun K2 hK2 => ?_
  -- region 1 (net.go:60)
  refine Sx.wp_text [(0, .take), (1, .take), (2, .run), (3, .take), (4, .take), (5, .take), (6, .run), (7, .run), (8, .take)] rfl ?_
  refine Sx.st_take hT rfl rfl rfl rfl (Sx.x_move hT rfl rfl) ?_
  clear hT; intro a hT
  refine Sx.st_take hT rfl rfl rfl rfl (Sx.x_move hT rfl rfl) ?_
  clear hT; intro a hT
  refine Sx.st_call hT rfl rfl rfl rfl rfl Try.can11 rfl (At_yes p room ms F ad c rs _ h _ k m rfl hm) ?_
  have hx0 := X.size
  have hp1 := B1.lt
  rintro _ w2 ⟨ad2, c2, rfl, hto, E⟩
  refine ⟨_, rfl, ?_⟩
  clear hT; intro a hT
  replace X := X.step E
  replace B1 := B1.ext_no E
  replace h := h.ext_no E
  have hnew1 : 0 < m.data.length → b1 < ab ad2 := fun h0 => by have := hto.new h0; omega
  replace hto : Told _ w.heap.size ad2 c2 m.data := ⟨hto.bs, hto.nil, fun h0 => Nat.le_trans hx0 (hto.new h0), hto.row⟩
  refine Sx.st_take hT rfl rfl rfl rfl (Sx.x_move hT rfl rfl) ?_
  clear hT; intro a hT
  refine Sx.st_take hT rfl rfl rfl rfl (Sx.x_extract hT rfl rfl rfl) ?_
  clear hT; intro a hT
  refine Sx.st_take hT rfl rfl rfl rfl (Sx.x_extract hT rfl rfl rfl) ?_
  clear hT; intro a hT
  refine Sx.st_eff hT rfl rfl rfl rfl (Sx.y_alloc hT rfl Try.ti34 rfl _) ?_
  clear hT; rintro _ w3 ⟨b2, rfl, N⟩ a hT
  have hb2 : w.heap.size ≤ b2 := by rw [N.at_]; exact X.size
  have lB1_b2 : b1 < b2 := by have h1 := B1.lt; have h2 := N.at_; omega
  have hdl2 : 0 < m.data.length → ab ad2 < b2 := fun h0 => by have := hto.bs.lt h0; have := N.at_; omega
  replace X := X.step N.ext
  replace B1 := B1.ext_no N.ext
  replace h := h.ext_no N.ext
  replace hto := hto.ext_no N.ext
  have B2 := N.blk
  clear N
  refine Sx.st_act hT rfl rfl rfl (Sx.y_storeS hT rfl Try.ti34 rfl rfl rfl rfl rfl B2 rfl) ?_
  rintro w4 ⟨NB2, E, z⟩
  replace X := X.fresh E (by omega)
  replace B1 := B1.ext E (by unfold Sx.One; omega)
  replace h := h.ext E (fun k hk h9 => by unfold Sx.One at h9; have := hlt k hk; omega)
  replace hto := hto.ext E (fun h0 => by unfold Sx.One; have := hnew1 h0; have := hdl2 h0; omega)
  replace B2 := NB2; clear NB2 E
  refine Sx.st_take hT rfl rfl rfl rfl (Sx.x_assign hT rfl rfl) ?_
  clear hT; intro a hT
  replace hT := hT.keep [7, 6, 5, 4, 0, 1] rfl
  refine Sx.ser_nil ?_
  refine Sx.then_normal (hK2 _ _ ?_)
  clear hK2
  refine wp_seq_k fun K3 hK3 => ?_
  -- region 2 (net.go:61)
  refine Sx.wp_draws (fun u => Sx.Ext F u) [(0, .held), (1, .take), (2, .take), (3, .take), (4, .take), (5, .keep), (6, .take), (7, .run), (8, .take)] (by kernel_rfl) (by kernel_rfl) (fun u E z => ?_)
  replace X := X.step E
  replace B1 := B1.ext_no E
  replace B2 := B2.ext_no E
  replace h := h.ext_no E
  replace hto := hto.ext_no E
  have hH : Sx.Ext F u u := Sx.Ext.refl _ _
  have Xu := X
  have B1u := B1
  have B2u := B2
  refine Sx.st_held hT rfl rfl rfl rfl hH (fun w' h' => Sx.y_loadS hT rfl Try.underlying34 Try.ti34 rfl ((B2.ext h' (fun h9 => by have := hlt _ h9; omega)).seg (k := 3) rfl) (by rfl)) ?_
  clear hT; intro a hT
  refine Sx.st_take hT rfl rfl rfl rfl (Sx.x_move hT rfl rfl) ?_
  clear hT; intro a hT
  refine Sx.st_take hT rfl rfl rfl rfl (Sx.x_move hT rfl rfl) ?_
  clear hT; intro a hT
  refine Sx.st_take hT rfl rfl rfl rfl (Sx.x_move hT rfl rfl) ?_
  clear hT; intro a hT
  refine Sx.st_take hT rfl rfl rfl rfl (Sx.x_move hT rfl rfl) ?_
  clear hT; intro a hT
  refine Sx.st_callkeep hT rfl rfl rfl rfl rfl Try.can21 rfl (Drop_yes p room ms F ad c rs _ h _ k m rfl hm) ?_
  rintro _ w5 ⟨rfl, hnet, E⟩
  refine ⟨_, rfl, ?_, ?_⟩
  · exact hH.same E
  replace hH := hH.same E
  clear hT; intro a hT
  replace X := X.same E
  replace B1 := B1.ext E (fun h9 => by have := hlt _ h9; omega)
  replace B2 := B2.ext E (fun h9 => by have := hlt _ h9; omega)
  replace hto := hto.ext E (fun h0 h9 => by have := hlt _ h9; have := hto.new h0; omega)
  clear h
  refine Sx.st_take hT rfl rfl rfl rfl (Sx.x_pick_t hT rfl rfl rfl) ?_
  clear hT; intro a hT
  refine Sx.st_act hT rfl rfl rfl (Sx.y_storeS hT rfl Try.ti34 rfl rfl rfl rfl rfl B1 rfl) ?_
  rintro w6 ⟨NB1, E, z⟩
  replace X := X.fresh E (by omega)
  replace B2 := B2.ext E (by unfold Sx.One; omega)
  replace hnet := hnet.ext E (fun k hk h9 => by unfold Sx.One at h9; have := hlt k hk; omega)
  replace hto := hto.ext E (fun h0 => by unfold Sx.One; have := hnew1 h0; omega)
  replace B1 := NB1; clear NB1 E
  refine Sx.st_take hT rfl rfl rfl rfl (Sx.x_assign hT rfl rfl) ?_
  clear hT; intro a hT
  replace hT := hT.keep [5, 7, 6, 4, 0, 1] rfl
  refine Sx.ser_calm ?_
  refine Sx.then_normal (hK3 _ _ ?_)
  clear hK3
  refine wp_ret ?_
  refine Sx.done2 (fn := Try.f16) hT rfl (.cell (hT.get 4 _ rfl) (Sx.run_resS Try.underlying34 Try.ti34 (by first | exact (B1).seg (k := 3) rfl | exact (B2).seg (k := 3) rfl) (by rfl))) (.tmp (hT.get 5 _ rfl)) ?_
  exact ⟨_, _, rfl, hto, hnet, X⟩

theorem Twice_no (p : Nat) (room : Int) (ms : List Mail) (F : Nat → Prop) (ad : Option Addr) (c : Nat) (rs : List RM) (w : World) (h : NetAt w p room ms F ad c rs) (i : Int) (hi : ¬ (0 ≤ i ∧ i < ms.length)) :
    Calls Try.prog 22 #[.pointer (some ⟨p, 0, none⟩), .int .i64 i] w fun e w' => e = .returned (.int .i64 8) ∧ Ext No w w' := by
  rw [← h.len] at hi
  refine Sx.calls_into Try.func22 rfl Try.ntmps22 rfl fun a hT => ?_
  replace hT := hT.keep [0, 1] rfl
  have X : Sx.Ext Sx.No w w := Sx.Ext.refl _ _
  refine wp_seq_k fun K1 hK1 => ?_
  -- region 0 (net.go:74)
  refine Sx.wp_text [(0, .take)] rfl ?_
  refine Sx.st_take hT rfl rfl rfl rfl (Sx.x_assign hT rfl rfl) ?_
  clear hT; intro a hT
  replace hT := hT.keep [4, 0, 1] rfl
  refine Sx.ser_nil ?_
  refine Sx.then_normal (hK1 _ _ ?_)
  clear hK1
  refine wp_seq_k fun K2 hK2 => ?_
  refine wp_seq_k fun K3 hK3 => ?_
  -- region 1 (net.go:75)
  refine Sx.wp_text [(0, .take), (1, .take), (2, .run), (3, .take)] rfl ?_
  refine Sx.st_take hT rfl rfl rfl rfl (Sx.x_move hT rfl rfl) ?_
  clear hT; intro a hT
  refine Sx.st_take hT rfl rfl rfl rfl (Sx.x_move hT rfl rfl) ?_
  clear hT; intro a hT
  refine Sx.st_call hT rfl rfl rfl rfl rfl Try.can25 rfl (has_calls _ _ _ _ _ _ _ _ (h.ext_no X) _ false (by simp; omega)) ?_
  rintro _ w1 ⟨rfl, E⟩
  refine ⟨_, rfl, ?_⟩
  clear hT; intro a hT
  replace X := X.step E
  refine Sx.st_take hT rfl rfl rfl rfl (Sx.x_not hT rfl rfl) ?_
  clear hT; intro a hT
  replace hT := hT.keep [9, 4, 0, 1] rfl
  refine Sx.ser_nil ?_
  refine Sx.then_normal (hK3 _ _ ?_)
  clear hK3
  refine Sx.wp_if hT rfl (fun _ => ?_) (fun h => by cases h)
  refine wp_seq_k fun K4 hK4 => ?_
  -- region 2 (net.go:76)
  refine Sx.wp_text [(0, .take)] rfl ?_
  refine Sx.st_take hT rfl rfl rfl rfl (Sx.x_assign hT rfl rfl) ?_
  clear hT; intro a hT
  replace hT := hT.keep [4, 9, 0, 1] rfl
  refine Sx.ser_nil ?_
  refine Sx.then_normal (hK4 _ _ ?_)
  clear hK4
  refine wp_ret ?_
  refine Sx.then_ret ?_
  refine Sx.done1 (fn := Try.f22) hT rfl (.tmp (hT.get 4 _ rfl)) ?_
  exact ⟨rfl, X⟩

theorem Twice_full (p : Nat) (room : Int) (ms : List Mail) (F : Nat → Prop) (ad : Option Addr) (c : Nat) (rs : List RM) (w : World) (h : NetAt w p room ms F ad c rs) (i : Int) (k : Nat) (m : Mail) (hi : i = k) (hm : ms[k]? = some m) (hfull : room ≤ ms.length) :
    Calls Try.prog 22 #[.pointer (some ⟨p, 0, none⟩), .int .i64 i] w fun e w' => e = .returned (.int .i64 11) ∧ Ext No w w' := by
  subst hi
  obtain ⟨r, hr, hmr⟩ := h.all.get hm
  have hk : k < rs.length := (List.getElem?_eq_some_iff.1 hr).1
  have hp := h.blk
  refine Sx.calls_into Try.func22 rfl Try.ntmps22 rfl fun a hT => ?_
  replace hT := hT.keep [0, 1] rfl
  have X : Sx.Ext Sx.No w w := Sx.Ext.refl _ _
  refine wp_seq_k fun K1 hK1 => ?_
  -- region 0 (net.go:74)
  refine Sx.wp_text [(0, .take)] rfl ?_
  refine Sx.st_take hT rfl rfl rfl rfl (Sx.x_assign hT rfl rfl) ?_
  clear hT; intro a hT
  replace hT := hT.keep [4, 0, 1] rfl
  refine Sx.ser_nil ?_
  refine Sx.then_normal (hK1 _ _ ?_)
  clear hK1
  refine wp_seq_k fun K2 hK2 => ?_
  refine wp_seq_k fun K3 hK3 => ?_
  -- region 1 (net.go:75)
  refine Sx.wp_text [(0, .take), (1, .take), (2, .run), (3, .take)] rfl ?_
  refine Sx.st_take hT rfl rfl rfl rfl (Sx.x_move hT rfl rfl) ?_
  clear hT; intro a hT
  refine Sx.st_take hT rfl rfl rfl rfl (Sx.x_move hT rfl rfl) ?_
  clear hT; intro a hT
  refine Sx.st_call hT rfl rfl rfl rfl rfl Try.can25 rfl (has_calls _ _ _ _ _ _ _ _ (h.ext_no X) _ true (by simp; omega)) ?_
  rintro _ w1 ⟨rfl, E⟩
  refine ⟨_, rfl, ?_⟩
  clear hT; intro a hT
  replace X := X.step E
  replace hp := hp.ext_no E
  refine Sx.st_take hT rfl rfl rfl rfl (Sx.x_not hT rfl rfl) ?_
  clear hT; intro a hT
  replace hT := hT.keep [9, 4, 0, 1] rfl
  refine Sx.ser_nil ?_
  refine Sx.then_normal (hK3 _ _ ?_)
  clear hK3
  refine Sx.wp_if hT rfl (fun h => by cases h) (fun _ => ?_)
  refine wp_skip ?_
  refine Sx.then_normal (hK2 _ _ ?_)
  clear hK2
  refine wp_seq_k fun K4 hK4 => ?_
  -- region 3 (net.go:78)
  refine Sx.wp_text [(0, .take), (1, .take), (2, .take), (3, .run), (4, .take), (5, .take), (6, .run), (7, .run), (8, .run)] rfl ?_
  refine Sx.st_take hT rfl rfl rfl rfl (Sx.x_move hT rfl rfl) ?_
  clear hT; intro a hT
  refine Sx.st_take hT rfl rfl rfl rfl (Sx.x_nilCheck hT rfl rfl) ?_
  clear hT; intro a hT
  refine Sx.st_take hT rfl rfl rfl rfl (Sx.x_fieldAddr hT rfl Try.fa57_1 rfl) ?_
  clear hT; intro a hT
  refine Sx.st_run hT rfl rfl rfl rfl (Sx.x_load1 hT rfl Try.fl52 rfl (by first | exact (hp).nth rfl)) ?_
  clear hT; intro a hT
  refine Sx.st_take hT rfl rfl rfl rfl (Sx.x_move hT rfl rfl) ?_
  clear hT; intro a hT
  refine Sx.st_take hT rfl rfl rfl rfl (Sx.x_index hT rfl Try.underlying52 Try.ti34 (by first | exact (h.row.sv.ext_no X)) rfl rfl rfl (by omega)) ?_
  clear hT; intro a hT
  refine Sx.st_run hT rfl rfl rfl rfl (Sx.y_loadS hT rfl Try.underlying34 Try.ti34 rfl (by first | exact (hp).seg (k := 3) rfl | exact ((h.row.ss.ext_no X).cs RM.len hr)) (by rfl)) ?_
  clear hT; intro a hT
  refine Sx.st_eff hT rfl rfl rfl rfl (Sx.y_alloc hT rfl Try.ti34 rfl _) ?_
  clear hT; rintro _ w2 ⟨b1, rfl, N⟩ a hT
  have hb1 : w.heap.size ≤ b1 := by rw [N.at_]; exact X.size
  have lhp_b1 : p < b1 := by have h1 := hp.lt; have h2 := N.at_; omega
  replace X := X.step N.ext
  replace hp := hp.ext_no N.ext
  have B1 := N.blk
  clear N
  refine Sx.st_act hT rfl rfl rfl (Sx.y_storeS hT rfl Try.ti34 rfl rfl rfl rfl rfl B1 rfl) ?_
  rintro w3 ⟨NB1, E, z⟩
  replace X := X.fresh E (by omega)
  replace hp := hp.ext E (by unfold Sx.One; omega)
  replace B1 := NB1; clear NB1 E
  replace hT := hT.keep [5, 9, 4, 0, 1] rfl
  refine Sx.ser_nil ?_
  refine Sx.then_normal (hK4 _ _ ?_)
  clear hK4
  refine wp_seq_k fun K5 hK5 => ?_
  -- region 4 (net.go:79)
  refine Sx.wp_text [(0, .take), (1, .take), (2, .run), (3, .take), (4, .run), (5, .take), (6, .run), (7, .run), (8, .take)] rfl ?_
  refine Sx.st_take hT rfl rfl rfl rfl (Sx.x_move hT rfl rfl) ?_
  clear hT; intro a hT
  refine Sx.st_take hT rfl rfl rfl rfl (Sx.x_fieldAddr hT rfl Try.fa34_0 rfl) ?_
  clear hT; intro a hT
  refine Sx.st_run hT rfl rfl rfl rfl (Sx.x_load1 hT rfl Try.fl3 rfl (by first | exact (hp).nth rfl | exact (B1).nth rfl)) ?_
  clear hT; intro a hT
  refine Sx.st_take hT rfl rfl rfl rfl (Sx.x_fieldAddr hT rfl Try.fa34_1 rfl) ?_
  clear hT; intro a hT
  refine Sx.st_run hT rfl rfl rfl rfl (Sx.x_load1 hT rfl Try.fl3 rfl (by first | exact (hp).nth rfl | exact (B1).nth rfl)) ?_
  clear hT; intro a hT
  refine Sx.st_take hT rfl rfl rfl rfl (Sx.x_fieldAddr hT rfl Try.fa34_2 rfl) ?_
  clear hT; intro a hT
  refine Sx.st_run hT rfl rfl rfl rfl (Sx.x_load1 hT rfl Try.fl30 rfl (by first | exact (hp).nth rfl | exact (B1).nth rfl)) ?_
  clear hT; intro a hT
  refine Sx.st_call hT rfl rfl rfl rfl rfl Try.can10 rfl (Send_full _ _ _ _ _ _ _ _ (h.ext_no X) r.f r.t r.ad r.n r.c hfull) ?_
  rintro _ w4 ⟨rfl, E⟩
  refine ⟨_, rfl, ?_⟩
  clear hT; intro a hT
  replace X := X.step E
  replace hp := hp.ext_no E
  replace B1 := B1.ext_no E
  refine Sx.st_take hT rfl rfl rfl rfl (Sx.x_assign hT rfl rfl) ?_
  clear hT; intro a hT
  replace hT := hT.keep [4, 5, 9, 0, 1] rfl
  refine Sx.ser_nil ?_
  refine Sx.then_normal (hK5 _ _ ?_)
  clear hK5
  refine wp_ret ?_
  refine Sx.done1 (fn := Try.f22) hT rfl (.tmp (hT.get 4 _ rfl)) ?_
  exact ⟨rfl, X⟩

theorem Twice_ok (p : Nat) (room : Int) (ms : List Mail) (F : Nat → Prop) (ad : Option Addr) (c : Nat) (rs : List RM) (w : World) (h : NetAt w p room ms F ad c rs) (i : Int) (k : Nat) (m : Mail) (hi : i = k) (hm : ms[k]? = some m) (hroom : ms.length < room) :
    Calls Try.prog 22 #[.pointer (some ⟨p, 0, none⟩), .int .i64 i] w fun e w' => e = .returned (.int .i64 0) ∧ Net w' p room (ms ++ [m]) (fun k => F k ∨ (w.heap.size ≤ k ∧ k < w'.heap.size)) ∧ Ext F w w' := by
  subst hi
  obtain ⟨r, hr, hmr⟩ := h.all.get hm
  have hk : k < rs.length := (List.getElem?_eq_some_iff.1 hr).1
  have hp := h.blk
  have hm' : m = ⟨r.f, r.t, m.data⟩ := by rw [hmr.src, hmr.dst]
  refine Sx.calls_into Try.func22 rfl Try.ntmps22 rfl fun a hT => ?_
  replace hT := hT.keep [0, 1] rfl
  have X : Sx.Ext Sx.No w w := Sx.Ext.refl _ _
  refine wp_seq_k fun K1 hK1 => ?_
  -- region 0 (net.go:74)
  refine Sx.wp_text [(0, .take)] rfl ?_
  refine Sx.st_take hT rfl rfl rfl rfl (Sx.x_assign hT rfl rfl) ?_
  clear hT; intro a hT
  replace hT := hT.keep [4, 0, 1] rfl
  refine Sx.ser_nil ?_
  refine Sx.then_normal (hK1 _ _ ?_)
  clear hK1
  refine wp_seq_k fun K2 hK2 => ?_
  refine wp_seq_k fun K3 hK3 => ?_
  -- region 1 (net.go:75)
  refine Sx.wp_text [(0, .take), (1, .take), (2, .run), (3, .take)] rfl ?_
  refine Sx.st_take hT rfl rfl rfl rfl (Sx.x_move hT rfl rfl) ?_
  clear hT; intro a hT
  refine Sx.st_take hT rfl rfl rfl rfl (Sx.x_move hT rfl rfl) ?_
  clear hT; intro a hT
  refine Sx.st_call hT rfl rfl rfl rfl rfl Try.can25 rfl (has_calls _ _ _ _ _ _ _ _ (h.ext_no X) _ true (by simp; omega)) ?_
  rintro _ w1 ⟨rfl, E⟩
  refine ⟨_, rfl, ?_⟩
  clear hT; intro a hT
  replace X := X.step E
  replace hp := hp.ext_no E
  refine Sx.st_take hT rfl rfl rfl rfl (Sx.x_not hT rfl rfl) ?_
  clear hT; intro a hT
  replace hT := hT.keep [9, 4, 0, 1] rfl
  refine Sx.ser_nil ?_
  refine Sx.then_normal (hK3 _ _ ?_)
  clear hK3
  refine Sx.wp_if hT rfl (fun h => by cases h) (fun _ => ?_)
  refine wp_skip ?_
  refine Sx.then_normal (hK2 _ _ ?_)
  clear hK2
  refine wp_seq_k fun K4 hK4 => ?_
  -- region 3 (net.go:78)
  refine Sx.wp_text [(0, .take), (1, .take), (2, .take), (3, .run), (4, .take), (5, .take), (6, .run), (7, .run), (8, .run)] rfl ?_
  refine Sx.st_take hT rfl rfl rfl rfl (Sx.x_move hT rfl rfl) ?_
  clear hT; intro a hT
  refine Sx.st_take hT rfl rfl rfl rfl (Sx.x_nilCheck hT rfl rfl) ?_
  clear hT; intro a hT
  refine Sx.st_take hT rfl rfl rfl rfl (Sx.x_fieldAddr hT rfl Try.fa57_1 rfl) ?_
  clear hT; intro a hT
  refine Sx.st_run hT rfl rfl rfl rfl (Sx.x_load1 hT rfl Try.fl52 rfl (by first | exact (hp).nth rfl)) ?_
  clear hT; intro a hT
  refine Sx.st_take hT rfl rfl rfl rfl (Sx.x_move hT rfl rfl) ?_
  clear hT; intro a hT
  refine Sx.st_take hT rfl rfl rfl rfl (Sx.x_index hT rfl Try.underlying52 Try.ti34 (by first | exact (h.row.sv.ext_no X)) rfl rfl rfl (by omega)) ?_
  clear hT; intro a hT
  refine Sx.st_run hT rfl rfl rfl rfl (Sx.y_loadS hT rfl Try.underlying34 Try.ti34 rfl (by first | exact (hp).seg (k := 3) rfl | exact ((h.row.ss.ext_no X).cs RM.len hr)) (by rfl)) ?_
  clear hT; intro a hT
  refine Sx.st_eff hT rfl rfl rfl rfl (Sx.y_alloc hT rfl Try.ti34 rfl _) ?_
  clear hT; rintro _ w2 ⟨b1, rfl, N⟩ a hT
  have hb1 : w.heap.size ≤ b1 := by rw [N.at_]; exact X.size
  have lhp_b1 : p < b1 := by have h1 := hp.lt; have h2 := N.at_; omega
  replace X := X.step N.ext
  replace hp := hp.ext_no N.ext
  have B1 := N.blk
  clear N
  refine Sx.st_act hT rfl rfl rfl (Sx.y_storeS hT rfl Try.ti34 rfl rfl rfl rfl rfl B1 rfl) ?_
  rintro w3 ⟨NB1, E, z⟩
  replace X := X.fresh E (by omega)
  replace hp := hp.ext E (by unfold Sx.One; omega)
  replace B1 := NB1; clear NB1 E
  replace hT := hT.keep [5, 9, 4, 0, 1] rfl
  refine Sx.ser_nil ?_
  refine Sx.then_normal (hK4 _ _ ?_)
  clear hK4
  refine wp_seq_k fun K5 hK5 => ?_
  -- region 4 (net.go:79)
  refine Sx.wp_text [(0, .take), (1, .take), (2, .run), (3, .take), (4, .run), (5, .take), (6, .run), (7, .run), (8, .take)] rfl ?_
  refine Sx.st_take hT rfl rfl rfl rfl (Sx.x_move hT rfl rfl) ?_
  clear hT; intro a hT
  refine Sx.st_take hT rfl rfl rfl rfl (Sx.x_fieldAddr hT rfl Try.fa34_0 rfl) ?_
  clear hT; intro a hT
  refine Sx.st_run hT rfl rfl rfl rfl (Sx.x_load1 hT rfl Try.fl3 rfl (by first | exact (hp).nth rfl | exact (B1).nth rfl)) ?_
  clear hT; intro a hT
  refine Sx.st_take hT rfl rfl rfl rfl (Sx.x_fieldAddr hT rfl Try.fa34_1 rfl) ?_
  clear hT; intro a hT
  refine Sx.st_run hT rfl rfl rfl rfl (Sx.x_load1 hT rfl Try.fl3 rfl (by first | exact (hp).nth rfl | exact (B1).nth rfl)) ?_
  clear hT; intro a hT
  refine Sx.st_take hT rfl rfl rfl rfl (Sx.x_fieldAddr hT rfl Try.fa34_2 rfl) ?_
  clear hT; intro a hT
  refine Sx.st_run hT rfl rfl rfl rfl (Sx.x_load1 hT rfl Try.fl30 rfl (by first | exact (hp).nth rfl | exact (B1).nth rfl)) ?_
  clear hT; intro a hT
  refine Sx.st_call hT rfl rfl rfl rfl rfl Try.can10 rfl (Send_ok _ _ _ _ _ _ _ _ (h.ext_no X) r.f r.t r.ad r.n r.c m.data hroom (hmr.bs.ext_no X) hmr.n hmr.nil hmr.small) ?_
  have hx0 := X.size
  rintro _ w4 ⟨rfl, hnet, E⟩
  refine ⟨_, rfl, ?_⟩
  clear hT; intro a hT
  have X9 : Ext F w _ := (X.of_no).same E
  refine Sx.st_take hT rfl rfl rfl rfl (Sx.x_assign hT rfl rfl) ?_
  clear hT; intro a hT
  replace hT := hT.keep [4, 5, 9, 0, 1] rfl
  refine Sx.ser_nil ?_
  refine Sx.then_normal (hK5 _ _ ?_)
  clear hK5
  refine wp_ret ?_
  refine Sx.done1 (fn := Try.f22) hT rfl (.tmp (hT.get 4 _ rfl)) ?_
  rw [hm']
  exact ⟨rfl, hnet.wider (fun k hk => hk.imp id (fun h9 => ⟨by omega, h9.2⟩)) (fun k hk => hk.elim (fun h9 => Nat.lt_of_lt_of_le (h.lt k h9) X9.size) (fun h9 => h9.2)), X9⟩

theorem Move_no (p : Nat) (room : Int) (ms : List Mail) (F : Nat → Prop) (ad : Option Addr) (c : Nat) (rs : List RM) (w : World) (h : NetAt w p room ms F ad c rs) (i to : Int) (hi : ¬ (0 ≤ i ∧ i < ms.length)) :
    Calls Try.prog 12 #[.pointer (some ⟨p, 0, none⟩), .int .i64 i, .int .i64 to] w fun e w' => e = .returned (.bool false) ∧ Ext No w w' := by
  rw [← h.len] at hi
  refine Sx.calls_into Try.func12 rfl Try.ntmps12 rfl fun a hT => ?_
  replace hT := hT.keep [0, 1, 2] rfl
  have X : Sx.Ext Sx.No w w := Sx.Ext.refl _ _
  refine wp_seq_k fun K1 hK1 => ?_
  -- region 0 (net.go:83)
  refine Sx.wp_text [(0, .take)] rfl ?_
  refine Sx.st_take hT rfl rfl rfl rfl (Sx.x_assign hT rfl rfl) ?_
  clear hT; intro a hT
  replace hT := hT.keep [6, 0, 1, 2] rfl
  refine Sx.ser_nil ?_
  refine Sx.then_normal (hK1 _ _ ?_)
  clear hK1
  refine wp_seq_k fun K2 hK2 => ?_
  refine wp_seq_k fun K3 hK3 => ?_
  -- region 1 (net.go:84)
  refine Sx.wp_text [(0, .take), (1, .take), (2, .run), (3, .take)] rfl ?_
  refine Sx.st_take hT rfl rfl rfl rfl (Sx.x_move hT rfl rfl) ?_
  clear hT; intro a hT
  refine Sx.st_take hT rfl rfl rfl rfl (Sx.x_move hT rfl rfl) ?_
  clear hT; intro a hT
  refine Sx.st_call hT rfl rfl rfl rfl rfl Try.can25 rfl (has_calls _ _ _ _ _ _ _ _ (h.ext_no X) _ false (by simp; omega)) ?_
  rintro _ w1 ⟨rfl, E⟩
  refine ⟨_, rfl, ?_⟩
  clear hT; intro a hT
  replace X := X.step E
  refine Sx.st_take hT rfl rfl rfl rfl (Sx.x_not hT rfl rfl) ?_
  clear hT; intro a hT
  replace hT := hT.keep [11, 6, 0, 1, 2] rfl
  refine Sx.ser_nil ?_
  refine Sx.then_normal (hK3 _ _ ?_)
  clear hK3
  refine Sx.wp_if hT rfl (fun _ => ?_) (fun h => by cases h)
  refine wp_seq_k fun K4 hK4 => ?_
  -- region 2 (net.go:85)
  refine Sx.wp_text [(0, .take)] rfl ?_
  refine Sx.st_take hT rfl rfl rfl rfl (Sx.x_assign hT rfl rfl) ?_
  clear hT; intro a hT
  replace hT := hT.keep [6, 11, 0, 1, 2] rfl
  refine Sx.ser_nil ?_
  refine Sx.then_normal (hK4 _ _ ?_)
  clear hK4
  refine wp_ret ?_
  refine Sx.then_ret ?_
  refine Sx.done1 (fn := Try.f12) hT rfl (.tmp (hT.get 6 _ rfl)) ?_
  exact ⟨rfl, X⟩

/-- where a mail goes -/
def goal (to : Int) (n : Nat) : Nat := (min (max to 0) (n : Int)).toNat
theorem goal_eq (to : Int) (n : Nat) : min (max to 0) (n : Int) = (goal to n : Int) ∧ goal to n ≤ n := by unfold goal; omega

theorem Move_yes (p : Nat) (room : Int) (ms : List Mail) (F : Nat → Prop) (ad : Option Addr) (c : Nat) (rs : List RM) (w : World) (h : NetAt w p room ms F ad c rs) (i to : Int) (k : Nat) (m : Mail) (hi : i = k) (hm : ms[k]? = some m) :
    Calls Try.prog 12 #[.pointer (some ⟨p, 0, none⟩), .int .i64 i, .int .i64 to] w fun e w' => e = .returned (.bool true) ∧
      Net w' p room ((ms.take k ++ ms.drop (k + 1)).take (goal to (k + (ms.length - (k + 1)))) ++ [m] ++ (ms.take k ++ ms.drop (k + 1)).drop (goal to (k + (ms.length - (k + 1))))) (fun q => F q ∨ (w.heap.size ≤ q ∧ q < w'.heap.size)) ∧ Ext F w w' := by
  subst hi
  obtain ⟨r, hr, hmr⟩ := h.all.get hm
  have hk : k < rs.length := (List.getElem?_eq_some_iff.1 hr).1
  have hl := h.len
  have hfe := h.few
  have hfi := h.fits
  have hino := h.ino
  have hind := h.ind
  have hlt := h.lt
  have hinp := h.inp
  have hp := h.blk
  have hple := hp.lt
  obtain ⟨hj, hjn⟩ := goal_eq to (k + (rs.length - (k + 1)))
  rw [← hl]
  generalize goal to (k + (rs.length - (k + 1))) = j at *
  have hpo : ¬ Own ad p := fun h9 => (hino _ h9).2 rfl
  refine Sx.calls_into Try.func12 rfl Try.ntmps12 rfl fun a hT => ?_
  replace hT := hT.keep [0, 1, 2] rfl
  have X : Sx.Ext F w w := Sx.Ext.refl _ _
  have X0 : Ext No w w := Ext.refl _ _
  refine wp_seq_k fun K1 hK1 => ?_
  -- region 0 (net.go:83)
  refine Sx.wp_text [(0, .take)] rfl ?_
  refine Sx.st_take hT rfl rfl rfl rfl (Sx.x_assign hT rfl rfl) ?_
  clear hT; intro a hT
  replace hT := hT.keep [6, 0, 1, 2] rfl
  refine Sx.ser_nil ?_
  refine Sx.then_normal (hK1 _ _ ?_)
  clear hK1
  refine wp_seq_k fun K2 hK2 => ?_
  refine wp_seq_k fun K3 hK3 => ?_
  -- region 1 (net.go:84)
  refine Sx.wp_text [(0, .take), (1, .take), (2, .run), (3, .take)] rfl ?_
  refine Sx.st_take hT rfl rfl rfl rfl (Sx.x_move hT rfl rfl) ?_
  clear hT; intro a hT
  refine Sx.st_take hT rfl rfl rfl rfl (Sx.x_move hT rfl rfl) ?_
  clear hT; intro a hT
  refine Sx.st_call hT rfl rfl rfl rfl rfl Try.can25 rfl (has_calls _ _ _ _ _ _ _ _ (h.ext_no X0) _ true (by simp; omega)) ?_
  rintro _ w1 ⟨rfl, E⟩
  refine ⟨_, rfl, ?_⟩
  clear hT; intro a hT
  replace X := X.step E
  replace hp := hp.ext_no E
  replace h := h.ext_no E
  replace X0 := X0.ext_no E
  refine Sx.st_take hT rfl rfl rfl rfl (Sx.x_not hT rfl rfl) ?_
  clear hT; intro a hT
  replace hT := hT.keep [11, 6, 0, 1, 2] rfl
  refine Sx.ser_nil ?_
  refine Sx.then_normal (hK3 _ _ ?_)
  clear hK3
  refine Sx.wp_if hT rfl (fun h => by cases h) (fun _ => ?_)
  refine wp_skip ?_
  refine Sx.then_normal (hK2 _ _ ?_)
  clear hK2
  refine wp_seq_k fun K4 hK4 => ?_
  -- region 3 (net.go:87)
  refine Sx.wp_text [(0, .take), (1, .take), (2, .take), (3, .run), (4, .take), (5, .take), (6, .run), (7, .run), (8, .run)] rfl ?_
  refine Sx.st_take hT rfl rfl rfl rfl (Sx.x_move hT rfl rfl) ?_
  clear hT; intro a hT
  refine Sx.st_take hT rfl rfl rfl rfl (Sx.x_nilCheck hT rfl rfl) ?_
  clear hT; intro a hT
  refine Sx.st_take hT rfl rfl rfl rfl (Sx.x_fieldAddr hT rfl Try.fa57_1 rfl) ?_
  clear hT; intro a hT
  refine Sx.st_run hT rfl rfl rfl rfl (Sx.x_load1 hT rfl Try.fl52 rfl (by first | exact (hp).nth rfl)) ?_
  clear hT; intro a hT
  refine Sx.st_take hT rfl rfl rfl rfl (Sx.x_move hT rfl rfl) ?_
  clear hT; intro a hT
  refine Sx.st_take hT rfl rfl rfl rfl (Sx.x_index hT rfl Try.underlying52 Try.ti34 (by first | exact (h.row.sv.ext_no X0) | exact h.row.sv) rfl rfl rfl (by omega)) ?_
  clear hT; intro a hT
  refine Sx.st_run hT rfl rfl rfl rfl (Sx.y_loadS hT rfl Try.underlying34 Try.ti34 rfl (by first | exact (hp).seg (k := 3) rfl | exact ((h.row.ss).cs RM.len hr)) (by rfl)) ?_
  clear hT; intro a hT
  refine Sx.st_eff hT rfl rfl rfl rfl (Sx.y_alloc hT rfl Try.ti34 rfl _) ?_
  clear hT; rintro _ w2 ⟨b1, rfl, N⟩ a hT
  have hb1 : w.heap.size ≤ b1 := by rw [N.at_]; exact X.size
  have lhp_b1 : p < b1 := by have h1 := hp.lt; have h2 := N.at_; omega
  replace X := X.step N.ext
  replace hp := hp.ext_no N.ext
  replace h := h.ext_no N.ext
  replace X0 := X0.ext_no N.ext
  have B1 := N.blk
  clear N
  refine Sx.st_act hT rfl rfl rfl (Sx.y_storeS hT rfl Try.ti34 rfl rfl rfl rfl rfl B1 rfl) ?_
  rintro w3 ⟨NB1, E, z⟩
  replace X := X.fresh E (by omega)
  replace hp := hp.ext E (by unfold Sx.One; omega)
  replace h := h.ext E (fun q hq h9 => by unfold Sx.One at h9; have := hlt q hq; omega)
  replace X0 := X0.ext E (fun q hq h9 => by unfold Sx.One at h9; exact absurd hq (by omega))
  replace B1 := NB1; clear NB1 E
  replace hT := hT.keep [7, 11, 6, 0, 1, 2] rfl
  refine Sx.ser_nil ?_
  refine Sx.then_normal (hK4 _ _ ?_)
  clear hK4
  refine wp_seq_k fun K5 hK5 => ?_
  -- region 4 (net.go:88)
  refine Sx.wp_text [(0, .take), (1, .take), (2, .take), (3, .take), (4, .run), (5, .take), (6, .take), (7, .take), (8, .run), (9, .take), (10, .take), (11, .run)] rfl ?_
  refine Sx.st_take hT rfl rfl rfl rfl (Sx.x_move hT rfl rfl) ?_
  clear hT; intro a hT
  refine Sx.st_take hT rfl rfl rfl rfl (Sx.x_move hT rfl rfl) ?_
  clear hT; intro a hT
  refine Sx.st_take hT rfl rfl rfl rfl (Sx.x_nilCheck hT rfl rfl) ?_
  clear hT; intro a hT
  refine Sx.st_take hT rfl rfl rfl rfl (Sx.x_fieldAddr hT rfl Try.fa57_1 rfl) ?_
  clear hT; intro a hT
  refine Sx.st_run hT rfl rfl rfl rfl (Sx.x_load1 hT rfl Try.fl52 rfl (by first | exact (hp).nth rfl | exact (B1).nth rfl)) ?_
  clear hT; intro a hT
  refine Sx.st_take hT rfl rfl rfl rfl (Sx.x_move hT rfl rfl) ?_
  clear hT; intro a hT
  refine Sx.st_take hT rfl rfl rfl rfl (Sx.x_move hT rfl rfl) ?_
  clear hT; intro a hT
  refine Sx.st_take hT rfl rfl rfl rfl ((fun w => Sx.x_add (r := ((k + 1 : Nat) : Int)) w hT rfl rfl rfl (sum64 (by omega) (by omega)))) ?_
  clear hT; intro a hT
  refine Sx.st_call hT rfl rfl rfl rfl rfl Try.can26 rfl (mailDelete ad rs.length c k (k + 1) (rs.flatMap RM.cells) _ h.row (flat_one RM.one rs) (by omega) (by omega) (by omega)) ?_
  have hal := h.all
  have hp9 := h.blk
  rintro _ w4 ⟨rfl, hr2, E⟩
  refine ⟨_, rfl, ?_⟩
  clear hT; intro a hT
  replace X := X.trans E (fun i _ hi => (hino i hi).1)
  replace hp := hp9.ext E (fun h9 => (hino _ h9).2 rfl)
  have hmr := hmr.ext (X0.of_no (S := Own ad)) (fun h0 => (hind r (List.mem_of_getElem? hr) h0).2.2)
  replace hmr := hmr.ext E (fun h0 => (hind r (List.mem_of_getElem? hr) h0).2.2)
  replace B1 := B1.ext E (fun h9 => by have := hlt _ (hino _ h9).1; omega)
  have hall := ((hal.take k).append (hal.drop (k + 1))).ext E (fun r hr h0 => (hind r (mem_td hr) h0).2.2)
  rw [flat_take RM.len, flat_drop RM.len, ← List.flatMap_append] at hr2
  clear h hal hp9 E
  clear X0
  refine Sx.st_take hT rfl rfl rfl rfl (Sx.x_nilCheck hT rfl rfl) ?_
  clear hT; intro a hT
  refine Sx.st_take hT rfl rfl rfl rfl (Sx.x_fieldAddr hT rfl Try.fa57_1 rfl) ?_
  clear hT; intro a hT
  refine Sx.st_act hT rfl rfl rfl (Sx.y_store1 hT rfl Try.ti52 rfl rfl rfl hp rfl) ?_
  rintro w5 ⟨Nhp, E, z⟩
  replace X := X.trans E (fun i _ hi => by unfold Sx.One at hi; subst hi; exact hinp)
  replace B1 := B1.ext E (by unfold Sx.One; omega)
  replace hr2 := hr2.ext E (fun k hk => (hino k hk).2)
  replace hall := hall.ext E (fun r hr h0 h9 => (hind r (mem_td hr) h0).2.1 h9)
  replace hmr := hmr.ext E (fun h0 h9 => (hind r (List.mem_of_getElem? hr) h0).2.1 h9)
  replace hp := Nhp; clear Nhp E
  replace hT := hT.keep [7, 11, 6, 0, 1, 2] rfl
  refine Sx.ser_nil ?_
  refine Sx.then_normal (hK5 _ _ ?_)
  clear hK5
  refine wp_seq_k fun K6 hK6 => ?_
  -- region 5 (net.go:89)
  refine Sx.wp_draws (fun u => Sx.Ext (Own ad) u) [(0, .take), (1, .take), (2, .take), (3, .take), (4, .held), (5, .take), (6, .take), (7, .take), (8, .take), (9, .take), (10, .held), (11, .take), (12, .take), (13, .held), (14, .keep), (15, .run), (16, .take), (17, .take), (18, .run)] (by kernel_rfl) (by kernel_rfl) (fun u E z => ?_)
  replace X := X.step E
  replace hp := hp.ext_no E
  replace B1 := B1.ext_no E
  replace hr2 := hr2.ext_no E
  replace hall := hall.ext_no E
  replace hmr := hmr.ext_no E
  have hH : Sx.Ext (Own ad) u u := Sx.Ext.refl _ _
  have Xu := X
  have hpu := hp
  have B1u := B1
  refine Sx.st_take hT rfl rfl rfl rfl (Sx.x_move hT rfl rfl) ?_
  clear hT; intro a hT
  refine Sx.st_take hT rfl rfl rfl rfl (Sx.x_move hT rfl rfl) ?_
  clear hT; intro a hT
  refine Sx.st_take hT rfl rfl rfl rfl (Sx.x_nilCheck hT rfl rfl) ?_
  clear hT; intro a hT
  refine Sx.st_take hT rfl rfl rfl rfl (Sx.x_fieldAddr hT rfl Try.fa57_1 rfl) ?_
  clear hT; intro a hT
  refine Sx.st_held hT rfl rfl rfl rfl hH (fun w' h' => Sx.x_load1 hT rfl Try.fl52 rfl ((hp.ext h' hpo).nth rfl)) ?_
  clear hT; intro a hT
  refine Sx.st_take hT rfl rfl rfl rfl (Sx.x_move hT rfl rfl) ?_
  clear hT; intro a hT
  refine Sx.st_take hT rfl rfl rfl rfl (Sx.x_max hT rfl rfl rfl) ?_
  clear hT; intro a hT
  refine Sx.st_take hT rfl rfl rfl rfl (Sx.x_move hT rfl rfl) ?_
  clear hT; intro a hT
  refine Sx.st_take hT rfl rfl rfl rfl (Sx.x_nilCheck hT rfl rfl) ?_
  clear hT; intro a hT
  refine Sx.st_take hT rfl rfl rfl rfl (Sx.x_fieldAddr hT rfl Try.fa57_1 rfl) ?_
  clear hT; intro a hT
  refine Sx.st_held hT rfl rfl rfl rfl hH (fun w' h' => Sx.x_load1 hT rfl Try.fl52 rfl ((hp.ext h' hpo).nth rfl)) ?_
  clear hT; intro a hT
  refine Sx.st_take hT rfl rfl rfl rfl (Sx.x_len_slice hT rfl rfl Try.underlying52 rfl) ?_
  clear hT; intro a hT
  refine Sx.st_take hT rfl rfl rfl rfl (Sx.x_min hT rfl rfl rfl) ?_
  clear hT; intro a hT
  rw [hj] at hT
  refine Sx.st_held hT rfl rfl rfl rfl hH (fun w' h' => Sx.y_loadS hT rfl Try.underlying34 Try.ti34 rfl ((B1.ext h' (fun h9 => by have := hlt _ (hino _ h9).1; omega)).seg (k := 3) rfl) (by rfl)) ?_
  clear hT; intro a hT
  refine Sx.st_effkeep hT rfl rfl rfl rfl (Sx.y_slice1 hT rfl Try.underlying52 Try.ti34 rfl rfl rfl rfl rfl rfl _) ?_
  rintro _ w6 ⟨b2, rfl, N⟩
  refine ⟨hH.step N.ext, ?_⟩
  replace hH := hH.step N.ext
  clear hT; intro a hT
  have hb2 : w.heap.size ≤ b2 := by rw [N.at_]; exact X.size
  have lhp_b2 : p < b2 := by have h1 := hp.lt; have h2 := N.at_; omega
  have lB1_b2 : b1 < b2 := by have h1 := B1.lt; have h2 := N.at_; omega
  replace X := X.step N.ext
  replace hp := hp.ext_no N.ext
  replace B1 := B1.ext_no N.ext
  replace hr2 := hr2.ext_no N.ext
  replace hall := hall.ext_no N.ext
  replace hmr := hmr.ext_no N.ext
  have B2 := N.blk
  clear N
  refine Sx.st_call hT rfl rfl rfl rfl rfl Try.can27 rfl (mailInsert ad (k + (rs.length - (k + 1))) c j b2 ((rs.take k ++ rs.drop (k + 1)).flatMap RM.cells) r.cells _ hr2 B2 rfl (flat_one RM.one _) (RM.one r) hjn (fun q hq => by have := hlt _ (hino _ hq).1; omega) (by omega)) ?_
  have hz1 := X.size
  rintro _ w7 ⟨ad3, c3, rfl, hr3, E, hown⟩
  refine ⟨_, rfl, ?_⟩
  clear hT; intro a hT
  replace X := X.trans E (fun i _ hi => (hino i hi).1)
  replace hp := hp.ext E hpo
  replace hall := hall.ext E (fun r hr h0 => (hind r (mem_td hr) h0).2.2)
  replace hmr := hmr.ext E (fun h0 => (hind r (List.mem_of_getElem? hr) h0).2.2)
  have hown2 : ∀ q, Own ad3 q → q ≠ p ∧ (F q ∨ w.heap.size ≤ q) := fun q hq => by
    rcases hown q hq with h1 | h1
    · exact ⟨(hino q h1).2, .inl (hino q h1).1⟩
    · exact ⟨by omega, .inr (by omega)⟩
  have hdc : ∀ r ∈ rs, 0 < r.n → ¬ Own ad3 (ab r.ad) := fun r hr h0 h9 => by
    rcases hown _ h9 with h1 | h1
    · exact (hind r hr h0).2.2 h1
    · have := hlt _ (hind r hr h0).1; omega
  have hlj : (rs.take k ++ rs.drop (k + 1)).length = k + (rs.length - (k + 1)) := by simp; omega
  rw [flat_take RM.len, flat_drop RM.len] at hr3
  clear hr2 hown E
  refine Sx.st_take hT rfl rfl rfl rfl (Sx.x_nilCheck hT rfl rfl) ?_
  clear hT; intro a hT
  refine Sx.st_take hT rfl rfl rfl rfl (Sx.x_fieldAddr hT rfl Try.fa57_1 rfl) ?_
  clear hT; intro a hT
  refine Sx.st_act hT rfl rfl rfl (Sx.y_store1 hT rfl Try.ti52 rfl rfl rfl hp rfl) ?_
  rintro w8 ⟨Nhp, E, z⟩
  replace X := X.trans E (fun i _ hi => by unfold Sx.One at hi; subst hi; exact hinp)
  replace hr3 := hr3.ext E (fun k hk => (hown2 k hk).1)
  replace hall := hall.ext E (fun r hr h0 h9 => (hind r (mem_td hr) h0).2.1 h9)
  replace hmr := hmr.ext E (fun h0 h9 => (hind r (List.mem_of_getElem? hr) h0).2.1 h9)
  replace hp := Nhp; clear Nhp E
  replace hT := hT.keep [7, 11, 6, 0, 1, 2] rfl
  refine Sx.ser_calm ?_
  refine Sx.then_normal (hK6 _ _ ?_)
  clear hK6
  refine wp_seq_k fun K7 hK7 => ?_
  -- region 6 (net.go:90)
  refine Sx.wp_text [(0, .take)] rfl ?_
  refine Sx.st_take hT rfl rfl rfl rfl (Sx.x_assign hT rfl rfl) ?_
  clear hT; intro a hT
  replace hT := hT.keep [6, 7, 11, 0, 1, 2] rfl
  refine Sx.ser_nil ?_
  refine Sx.then_normal (hK7 _ _ ?_)
  clear hK7
  refine wp_ret ?_
  refine Sx.done1 (fn := Try.f12) hT rfl (.tmp (hT.get 6 _ rfl)) ?_
  have hz := X.size
  refine ⟨rfl, Net.mk' (rs := (rs.take k ++ rs.drop (k + 1)).take j ++ [r] ++ (rs.take k ++ rs.drop (k + 1)).drop j) hp (by simp; omega) (by simpa using hr3) (((hall.take j).append (All2.single hmr)).append (hall.drop j)) (.inl hinp) (fun q hq => ?_) (fun r2 h2 h0 => ?_) (fun q hq => ?_) hfe (by simp; omega), X⟩
  · exact ⟨(hown2 q hq).2.imp id (fun h1 => ⟨h1, hr3.lt q hq⟩), (hown2 q hq).1⟩
  · have hin : r2 ∈ rs := by
      rcases List.mem_append.1 h2 with h3 | h3
      · rcases List.mem_append.1 h3 with h4 | h4
        · exact mem_td (List.mem_of_mem_take h4)
        · rw [List.mem_singleton] at h4; subst h4; exact List.mem_of_getElem? hr
      · exact mem_td (List.mem_of_mem_drop h3)
    exact ⟨.inl (hind r2 hin h0).1, (hind r2 hin h0).2.1, hdc r2 hin h0⟩
  · rcases hq with h1 | h1
    · have := hlt q h1; omega
    · exact h1.2

end Go.Proofs.Ytgcelppbbjokeaa
