/- What is done, and what it weighs, plainly. -/
import Derived.Test.YtpnfpndhdnmhkaaGreatK0
set_option linter.unusedSimpArgs false
set_option linter.unusedVariables false
namespace Go.Proofs.YtpnfpndhdnmhkaaGreat
open Sx

/-! what lists weigh -/
def sumL {α : Type} (c : α → Nat) (l : List α) : Nat := (l.map c).sum
theorem sumL_cons {α : Type} (c : α → Nat) (x : α) (l : List α) : sumL c (x :: l) = c x + sumL c l := by simp [sumL]
theorem sumL_mem {α : Type} {c : α → Nat} : ∀ {l : List α} {x : α}, x ∈ l → c x ≤ sumL c l
  | y :: l, x, h => by
    rw [sumL_cons]
    rcases List.mem_cons.1 h with rfl | h
    · omega
    · have := sumL_mem (c := c) h; omega
theorem sumL_len {α : Type} {c : α → Nat} : ∀ {l : List α}, (∀ x ∈ l, 1 ≤ c x) → l.length ≤ sumL c l
  | [], _ => Nat.le_refl _
  | y :: l, h => by
    rw [sumL_cons, List.length_cons]
    have h1 := h y List.mem_cons_self
    have h2 := sumL_len (c := c) (l := l) fun x hx => h x (List.mem_cons_of_mem _ hx)
    omega
def wgF {α : Type} (g : α → Nat → Nat) (m : Nat) : List α → Nat → Nat
  | [], n => n
  | x :: r, n => if n ≤ m then wgF g m r (g x n) else n
section
variable {α : Type} {g : α → Nat → Nat} {m : Nat}
theorem wg_stop {n : Nat} (h : ¬ n ≤ m) : ∀ l : List α, wgF g m l n = n
  | [] => rfl
  | x :: r => by unfold wgF; rw [if_neg h]
theorem wg_step {n k : Nat} {l : List α} {o : α} (h : l[k]? = some o) (hn : n ≤ m) : wgF g m (l.drop k) n = wgF g m (l.drop (k + 1)) (g o n) := by
  obtain ⟨hk, rfl⟩ := List.getElem?_eq_some_iff.1 h
  rw [List.drop_eq_getElem_cons hk]
  conv => lhs; unfold wgF
  rw [if_pos hn]
theorem wg_end {n k : Nat} {l : List α} (h : l.length ≤ k) : wgF g m (l.drop k) n = n := by rw [List.drop_eq_nil_of_le h]; rfl
theorem wg_sum {c : α → Nat} (hg : ∀ x n, n ≤ m → g x n ≤ m → n + c x ≤ g x n) : ∀ (l : List α) (n : Nat), wgF g m l n ≤ m → n + sumL c l ≤ wgF g m l n
  | [], n, _ => by show n + 0 ≤ n; omega
  | x :: r, n, h => by
    unfold wgF at h ⊢
    split at h
    · rename_i hn
      rw [if_pos hn, sumL_cons]
      have h1 := wg_sum hg r _ h
      have h2 := hg x n hn (by omega)
      omega
    · rename_i hn
      omega
theorem wg_bd {B : Nat} (hg : ∀ x n, n ≤ m → g x n ≤ B) : ∀ (l : List α) (n : Nat), n ≤ B → wgF g m l n ≤ B
  | [], n, h => h
  | x :: r, n, h => by
    unfold wgF
    split
    · rename_i hn; exact wg_bd hg r _ (hg x n hn)
    · exact h
end
theorem few2_bd (a b c : Nat) : few2F a b c ≤ 2 * c + 1 := by unfold few2F; split <;> omega
def gT (m : Nat) (x : Key) (n : Nat) : Nat := few2F n (1 + x.length) m
def gW (m : Nat) (x : Wt) (n : Nat) : Nat := few2F (few2F n (1 + x.key.length) m) x.v.tx.length m
def gS (m : Nat) (x : Sn) (n : Nat) : Nat := few2F (few2F n (1 + x.key.length) m) x.v.tx.length m
def gV (m : Nat) (x : Vr) (n : Nat) : Nat := few2F n (1 + x.v.tx.length) m
def wtF (m : Nat) (l : List Key) : Nat := wgF (gT m) m l 0
def wsF (m : Nat) (l : List Sn) : Nat := wgF (gS m) m l 0
theorem ww_wg (m : Nat) : ∀ (l : List Wt) (n : Nat), wwF m l n = wgF (gW m) m l n
  | [], n => rfl
  | x :: r, n => by unfold wwF wgF; rw [ww_wg m r]; rfl
def gP (m : Nat) (x : Pp) (n : Nat) : Nat := few2F (few2F n (1 + wtF m x.rs) m) (wwF m x.ws 0) m
def wpF (m : Nat) (l : List Pp) : Nat := wgF (gP m) m l 0
def gH (m : Nat) (x : Hy) (n : Nat) : Nat := wgF (gV m) m x.vs (few2F n (1 + x.key.length) m)
def whF (m : Nat) (l : List Hy) : Nat := wgF (gH m) m l 0
def cT (x : Key) : Nat := 1 + x.length
def cW (x : Wt) : Nat := 1 + x.key.length + x.v.tx.length
def cS (x : Sn) : Nat := 1 + x.key.length + x.v.tx.length
def cV (x : Vr) : Nat := 1 + x.v.tx.length
theorem gT_c {m : Nat} (x : Key) (n : Nat) (_ : n ≤ m) (h : gT m x n ≤ m) : n + cT x ≤ gT m x n := by
  have := few2_le h
  unfold gT cT
  omega
theorem g2_c {m a b n : Nat} (h : few2F (few2F n a m) b m ≤ m) : n + (a + b) ≤ few2F (few2F n a m) b m := by
  have h1 := few2_le h
  have h2 := few2_le (show few2F n a m ≤ m by omega)
  omega
theorem gW_c {m : Nat} (x : Wt) (n : Nat) (_ : n ≤ m) (h : gW m x n ≤ m) : n + cW x ≤ gW m x n := g2_c h
theorem gS_c {m : Nat} (x : Sn) (n : Nat) (_ : n ≤ m) (h : gS m x n ≤ m) : n + cS x ≤ gS m x n := g2_c h
theorem gV_c {m : Nat} (x : Vr) (n : Nat) (_ : n ≤ m) (h : gV m x n ≤ m) : n + cV x ≤ gV m x n := by
  have := few2_le h
  unfold gV cV
  omega
theorem wt_facts {m : Nat} {l : List Key} (h : wtF m l ≤ m) : sumL cT l ≤ m := by have := wg_sum gT_c l 0 h; unfold wtF at h; omega
theorem ws_facts {m : Nat} {l : List Sn} (h : wsF m l ≤ m) : sumL cS l ≤ m := by have := wg_sum gS_c l 0 h; unfold wsF at h; omega
theorem ww2_facts {m : Nat} {l : List Wt} (h : wwF m l 0 ≤ m) : sumL cW l ≤ m := by
  rw [ww_wg] at h
  have := wg_sum gW_c l 0 h
  omega
def cP (x : Pp) : Nat := 1 + sumL cT x.rs + sumL cW x.ws
theorem gP_c {m : Nat} (x : Pp) (n : Nat) (_ : n ≤ m) (h : gP m x n ≤ m) : n + cP x ≤ gP m x n := by
  have h1 := g2_c h
  have h2 := wg_sum gT_c x.rs 0 (show wgF (gT m) m x.rs 0 ≤ m by unfold gP at h; unfold wtF at h1 h; omega)
  have h3 := wg_sum gW_c x.ws 0 (show wgF (gW m) m x.ws 0 ≤ m by rw [← ww_wg]; unfold gP at h; omega)
  rw [← ww_wg] at h3
  unfold gP cP
  unfold wtF at h1 ⊢
  omega
theorem wp_facts {m : Nat} {l : List Pp} (h : wpF m l ≤ m) : sumL cP l ≤ m := by have := wg_sum gP_c l 0 h; unfold wpF at h; omega
def cH (x : Hy) : Nat := 1 + x.key.length + sumL cV x.vs
theorem gH_c {m : Nat} (x : Hy) (n : Nat) (_ : n ≤ m) (h : gH m x n ≤ m) : n + cH x ≤ gH m x n := by
  unfold gH at h ⊢
  have h1 := wg_sum gV_c x.vs _ h
  have h2 := few2_le (show few2F n (1 + x.key.length) m ≤ m by omega)
  unfold cH
  omega
theorem wh_facts {m : Nat} {l : List Hy} (h : whF m l ≤ m) : sumL cH l ≤ m := by have := wg_sum gH_c l 0 h; unfold whF at h; omega
theorem wt_bd (m : Nat) (l : List Key) : wtF m l ≤ 2 * m + 1 := wg_bd (fun x n _ => few2_bd _ _ _) l 0 (Nat.zero_le _)
theorem ws_bd (m : Nat) (l : List Sn) : wsF m l ≤ 2 * m + 1 := wg_bd (fun x n _ => few2_bd _ _ _) l 0 (Nat.zero_le _)
theorem ww_bd (m : Nat) (l : List Wt) : wwF m l 0 ≤ 2 * m + 1 := by rw [ww_wg]; exact wg_bd (fun x n _ => few2_bd _ _ _) l 0 (Nat.zero_le _)
theorem wp_bd (m : Nat) (l : List Pp) : wpF m l ≤ 2 * m + 1 := wg_bd (fun x n _ => few2_bd _ _ _) l 0 (Nat.zero_le _)
/-! what is done -/
structure Ox where
  kind : Int
  key : Key
  s : Stp
  t : Tn
  yes : Bool
  p : Pn
  sn : List Sn
  sa : Option Addr
  sc : Nat
def Ox.cells (o : Ox) : List Value := [.int .i64 o.kind, .string ⟨o.key.toArray⟩, .int .i64 o.s.w, .int .i64 o.s.l, .int .i64 o.s.n, .int .i64 o.t.co, .int .i64 o.t.li, .int .i64 o.t.sq, .bool o.yes, .int .i64 o.p.t.co, .int .i64 o.p.t.li, .int .i64 o.p.t.sq, .int .i64 o.p.s.w, .int .i64 o.p.s.l, .int .i64 o.p.s.n, .slice o.p.ra o.p.rs.length o.p.rc, .slice o.p.wa o.p.ws.length o.p.wc, .slice o.sa o.sn.length o.sc]
theorem Ox.len (o : Ox) : o.cells.length = 18 := rfl
/-- the same without places -/
structure Oy where
  kind : Int
  key : Key
  s : Stp
  t : Tn
  yes : Bool
  p : Pp
  sn : List Sn
def Ox.y (o : Ox) : Oy := ⟨o.kind, o.key, o.s, o.t, o.yes, o.p.p, o.sn⟩
def actM (M : Ms) (o : Oy) : Ms := if o.kind = 1 then readM M o.key o.s else if o.kind = 2 then prepM M o.p o.sn else if o.kind = 3 then resM M o.t o.yes o.s else M
def actE (M : Ms) (o : Oy) : Int := if o.kind = 1 then readE M o.key o.s else if o.kind = 2 then prepE M o.p o.sn else if o.kind = 3 then wldE M o.t o.yes o.s else 0
def runM (M : Ms) (l : List Oy) : Ms := l.foldl actM M
theorem run_snoc {l : List Ox} {k : Nat} {o : Ox} (M : Ms) (h : l[k]? = some o) : runM M ((l.take (k + 1)).map Ox.y) = actM (runM M ((l.take k).map Ox.y)) o.y := by
  unfold runM
  rw [take_app h, List.map_append, List.foldl_append]
  rfl
def gO (o : Oy) (n : Nat) : Nat := n + min o.key.length 20001 + wsF 20000 o.sn + wpF 20000 [o.p]
def fewN (l : List Oy) : Nat := wgF gO 20000 l 0
def fewB (l : List Oy) : Bool := decide (l.length ≤ 200) && decide (fewN l ≤ 20000)
def cO (o : Oy) : Nat := min o.key.length 20001 + wsF 20000 o.sn + wpF 20000 [o.p]
/-- a small operation -/
structure Sm (o : Oy) : Prop where
  key : o.key.length ≤ 20000
  sn : sumL cS o.sn ≤ 20000
  rs : sumL cT o.p.rs ≤ 20000
  ws : sumL cW o.p.ws ≤ 20000
theorem few_sm {l : List Oy} (h : fewB l = true) : l.length ≤ 200 ∧ ∀ o ∈ l, Sm o := by
  unfold fewB at h
  rw [Bool.and_eq_true, decide_eq_true_eq, decide_eq_true_eq] at h
  refine ⟨h.1, fun o ho => ?_⟩
  have h1 := wg_sum (c := cO) (g := gO) (m := 20000) (fun x n _ _ => by unfold gO cO; omega) l 0 h.2
  have h2 := sumL_mem (c := cO) ho
  have h3 : fewN l ≤ 20000 := h.2
  unfold fewN at h3
  have h4 : cO o ≤ 20000 := by omega
  unfold cO at h4
  have h5 := wp_facts (l := [o.p]) (m := 20000) (by omega)
  rw [sumL_cons] at h5
  unfold cP at h5
  have h6 := ws_facts (l := o.sn) (m := 20000) (by omega)
  exact ⟨by omega, h6, by omega, by omega⟩
theorem Sm.k {o : Oy} (h : Sm o) : ∀ y ∈ o.p.ws, y.key.length ≤ 140737488351232 := fun y hy => by
  have h1 := sumL_mem (c := cW) hy
  have h2 := h.ws
  have h3 : cW y = 1 + y.key.length + y.v.tx.length := rfl
  omega
theorem Sm.k3 {o : Oy} (h : Sm o) : ∀ y ∈ o.sn, y.key.length ≤ 140737488351232 := fun y hy => by
  have h1 := sumL_mem (c := cS) hy
  have h2 := h.sn
  have h3 : cS y = 1 + y.key.length + y.v.tx.length := rfl
  omega
theorem Sm.l1 {o : Oy} (h : Sm o) : o.p.rs.length ≤ 1000000 := by
  have h1 := sumL_len (c := cT) (l := o.p.rs) (fun x _ => by unfold cT; omega)
  have h2 := h.rs
  omega
theorem Sm.l2 {o : Oy} (h : Sm o) : o.p.ws.length ≤ 1000000 := by
  have h1 := sumL_len (c := cW) (l := o.p.ws) (fun x _ => by unfold cW; omega)
  have h2 := h.ws
  omega
theorem Sm.l3 {o : Oy} (h : Sm o) : o.sn.length ≤ 1000000 := by
  have h1 := sumL_len (c := cS) (l := o.sn) (fun x _ => by unfold cS; omega)
  have h2 := h.sn
  omega
/-! the chapter's examples -/
def fT : Tn := ⟨1, 1, 1⟩
def fW : Wt := ⟨[97], ⟨1, 4619567317775286272, []⟩⟩
def fP : Pp := ⟨fT, ⟨6, 0, 1⟩, [], [fW]⟩
def fM1 : Ms := prepM Ms.z fP []
def fM2 : Ms := readM fM1 [97] ⟨9, 0, 1⟩
def fM3 : Ms := resM fM2 fT true ⟨10, 0, 1⟩
theorem f_e1 : prepE Ms.z fP [] = 0 := by decide +kernel
theorem f_e2 : readE fM1 [97] ⟨9, 0, 1⟩ = 18 := by decide +kernel
theorem f_e3 : wldE fM2 fT true ⟨10, 0, 1⟩ = 0 := by decide +kernel
theorem f_e4 : readE fM3 [97] ⟨10, 0, 1⟩ = 0 := by decide +kernel
theorem f_e5 : readS fM3 [97] ⟨10, 0, 1⟩ = ⟨[97], fW.v, ⟨10, 0, 1⟩⟩ := by decide +kernel
theorem readM_eq (H : List Hy) (P : List Pp) (low : Stp) (k : Key) (at_ : Stp) : (⟨H, P, (readM ⟨H, P, low⟩ k at_).low⟩ : Ms) = readM ⟨H, P, low⟩ k at_ := by
  unfold readM; split <;> rfl
theorem pmay_doc (t : Tn) (s : Stp) (rs : List Key) (ws : List Wt) : pmay t s rs ws = if mayT t = false then 4 else if mayS s = false ∨ s = sz0 then 17 else if (decide (rs.length ≤ 16) && keysOk rs) = false ∨ okW ws 16 = false then 4 else 0 := by
  unfold pmay
  rw [okW_iff]
  by_cases h1 : mayT t = false
  · rw [if_pos h1, if_pos h1]
  · rw [if_neg h1, if_neg h1]
    by_cases h2 : mayS s = false ∨ s = sz0
    · rw [if_pos h2, if_pos h2]
    · rw [if_neg h2, if_neg h2]
      cases h3 : (keysOk rs && decide (rs.length ≤ 16))
      · rw [Bool.and_comm] at h3
        rw [if_pos (.inl rfl), if_pos (.inl h3)]
      · rw [Bool.and_comm] at h3
        rw [h3]
        cases h4 : (keysOk (wkeys ws) && decide (ws.length ≤ 16))
        · simp
        · cases h5 : ws.all fun x => mayV x.v <;> simp

end Go.Proofs.YtpnfpndhdnmhkaaGreat
