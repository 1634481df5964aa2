/- Frontiers of ranges, and what is done with them, plainly. -/
import Derived.Test.YtdjfbkllbeeabaaGreatS3
set_option linter.unusedSimpArgs false
set_option linter.unusedVariables false
namespace Go.Proofs.YtdjfbkllbeeabaaGreat
open Sx

/-! frontiers of ranges -/
structure Fk where
  id : Int
  s : Stp
  deriving DecidableEq
def Fk.val (x : Fk) : Value := .agg #[.int .i64 x.s.w, .int .i64 x.s.l, .int .i64 x.s.n]
def ilt (a b : Int) : Prop := a < b
abbrev tf (F : List Fk) : DataW Value := tab (fun x => Lit.int .i64 (Fk.id x)) Fk.val F
abbrev SrtF (F : List Fk) : Prop := SrtK (fun a b : Int => a < b) Fk.id F
def getF (F : List Fk) (id : Int) : Option Stp := (gtK (fun i : Int => Lit.int .i64 i) Fk.id F id).map Fk.s
def hasK (F : List Fk) (id : Int) : Bool := (getF F id).isSome
def stpF (F : List Fk) (id : Int) : Stp := (getF F id).getD sz0
def putF (F : List Fk) (id : Int) (s : Stp) : List Fk := ptK (fun i : Int => Lit.int .i64 i) Fk.id ⟨id, s⟩ F
theorem look_f (F : List Fk) (id : Int) : atV (tf F) (Lit.int .i64 id) (.agg #[.int .i64 0, .int .i64 0, .int .i64 0]) = .agg #[.int .i64 (stpF F id).w, .int .i64 (stpF F id).l, .int .i64 (stpF F id).n] := by
  rw [lookK (lit := fun i : Int => Lit.int .i64 i) (κ := Fk.id) id]
  unfold stpF getF
  cases gtK (fun i : Int => Lit.int .i64 i) Fk.id F id with
  | none => rfl
  | some x => rfl
theorem has_f (F : List Fk) (id : Int) : Maps.has (tf F) (Lit.int .i64 id) = hasK F id := by
  rw [Sx.hasK (lit := fun i : Int => Lit.int .i64 i) (κ := Fk.id) id]
  unfold hasK getF
  rw [Option.isSome_map]
theorem put_f (F : List Fk) (id : Int) (s : Stp) : (tf F).put (Lit.int .i64 id) (.held (.agg #[.int .i64 s.w, .int .i64 s.l, .int .i64 s.n])) = tf (putF F id s) := putK (lit := fun i : Int => Lit.int .i64 i) (κ := Fk.id) (en := Fk.val) (⟨id, s⟩ : Fk)
theorem getF_put (F : List Fk) (id i : Int) (s : Stp) : getF (putF F id s) i = if id = i then some s else getF F i := by
  unfold getF putF
  rw [intKO.get_put]
  show Option.map Fk.s (if id = i then _ else _) = _
  split <;> rfl
theorem putF_srt {F : List Fk} (id : Int) (s : Stp) (h : SrtF F) : SrtF (putF F id s) := intKO.put_srt _ h
theorem getF_mem {F : List Fk} {id : Int} {s : Stp} (h : getF F id = some s) : (⟨id, s⟩ : Fk) ∈ F := by
  unfold getF at h
  cases h1 : gtK (fun i : Int => Lit.int .i64 i) Fk.id F id with
  | none => rw [h1] at h; cases h
  | some x =>
    rw [h1] at h
    obtain ⟨h2, h3⟩ := intKO.get_some h1
    have h4 : x.s = s := Option.some.inj h
    obtain ⟨a, b⟩ := x
    dsimp only at h3 h4
    subst h3
    subst h4
    exact h2
theorem getF_at {F : List Fk} (h : SrtF F) {k : Nat} {x : Fk} (hx : F[k]? = some x) : getF F x.id = some x.s := by
  unfold getF
  rw [intKO.get_at h hx]
  rfl
/-- identities that may be: twelve at most -/
structure GoodF (F : List Fk) : Prop where
  srt : SrtF F
  id : ∀ x ∈ F, 1 ≤ x.id ∧ x.id ≤ 12
theorem goodF_nil : GoodF [] := ⟨List.Pairwise.nil, by simp⟩
theorem goodF_put {F : List Fk} {id : Int} (s : Stp) (h : GoodF F) (h1 : 1 ≤ id) (h2 : id ≤ 12) : GoodF (putF F id s) :=
  ⟨putF_srt id s h.srt, fun x hx => by
    rcases intKO.put_mem.1 hx with rfl | hx
    · exact ⟨h1, h2⟩
    · exact h.id x hx.1⟩
theorem goodF_len {F : List Fk} (h : GoodF F) : F.length ≤ 12 := by
  have key : ∀ (F : List Fk) (lo : Int), SrtF F → (∀ x ∈ F, lo < x.id ∧ x.id ≤ 12) → (F.length : Int) ≤ max (12 - lo) 0 := by
    intro F
    induction F with
    | nil => intro lo _ _; simp; omega
    | cons x F ih =>
      intro lo hs hb
      have hc := List.pairwise_cons.1 hs
      have h1 := ih x.id hc.2 fun y hy => ⟨hc.1 y hy, (hb y (List.mem_cons_of_mem _ hy)).2⟩
      have h2 := hb x List.mem_cons_self
      rw [List.length_cons]
      omega
  have := key F 0 h.srt fun x hx => ⟨by have := (h.id x hx).1; omega, (h.id x hx).2⟩
  omega
theorem hasK_id {F : List Fk} (h : GoodF F) {id : Int} (hh : hasK F id = true) : 1 ≤ id ∧ id ≤ 12 := by
  unfold hasK at hh
  obtain ⟨s, hs⟩ := Option.isSome_iff_exists.1 hh
  exact h.id _ (getF_mem hs)
/-- the least of the frontiers -/
def minS (m s : Stp) : Stp := if ltS s m then s else m
def lsF : List Fk → Stp
  | [] => sz0
  | x :: r => r.foldl (fun m y => minS m y.s) x.s
theorem lsF_snoc {F : List Fk} {k : Nat} {x : Fk} (hx : F[k]? = some x) : lsF (F.take (k + 1)) = if k = 0 then x.s else minS (lsF (F.take k)) x.s := by
  rw [take_app hx]
  cases F with
  | nil => simp at hx
  | cons y r =>
    cases k with
    | zero => simp at hx; subst hx; rfl
    | succ k =>
      rw [if_neg (Nat.succ_ne_zero k), List.take_succ_cons]
      show ((r.take k) ++ [x]).foldl _ _ = _
      rw [List.foldl_append]
      rfl
theorem min_le (m s : Stp) : ¬ ltS m (minS m s) ∧ ¬ ltS s (minS m s) := by
  unfold minS
  split
  · rename_i h; exact ⟨ltS_as h, ltS_irr s⟩
  · rename_i h; exact ⟨ltS_irr m, h⟩
theorem nlt3 {a b c : Stp} (h1 : ¬ ltS b a) (h2 : ¬ ltS c b) : ¬ ltS c a := by unfold ltS at *; omega
theorem lsF_le {F : List Fk} : ∀ x ∈ F, ¬ ltS x.s (lsF F) := by
  have key : ∀ (r : List Fk) (m : Stp), ¬ ltS m (r.foldl (fun m y => minS m y.s) m) ∧ ∀ x ∈ r, ¬ ltS x.s (r.foldl (fun m y => minS m y.s) m) := by
    intro r
    induction r with
    | nil => intro m; exact ⟨ltS_irr m, fun x hx => by cases hx⟩
    | cons y r ih =>
      intro m
      obtain ⟨h1, h2⟩ := ih (minS m y.s)
      obtain ⟨h3, h4⟩ := min_le m y.s
      refine ⟨nlt3 h1 h3, fun x hx => ?_⟩
      rcases List.mem_cons.1 hx with rfl | hx
      · exact nlt3 h1 h4
      · exact h2 x hx
  intro x hx
  cases F with
  | nil => cases hx
  | cons y r =>
    rcases List.mem_cons.1 hx with rfl | hx
    · exact (key r x.s).1
    · exact (key r y.s).2 x hx
theorem lsF_mem {F : List Fk} (h : F ≠ []) : ∃ x ∈ F, x.s = lsF F := by
  have key : ∀ (r : List Fk) (m : Stp), (r.foldl (fun m y => minS m y.s) m) = m ∨ ∃ x ∈ r, x.s = r.foldl (fun m y => minS m y.s) m := by
    intro r
    induction r with
    | nil => intro m; exact .inl rfl
    | cons y r ih =>
      intro m
      rcases ih (minS m y.s) with h1 | ⟨x, hx, h1⟩
      · rw [List.foldl_cons, h1]
        unfold minS
        split
        · exact .inr ⟨y, List.mem_cons_self, rfl⟩
        · exact .inl rfl
      · exact .inr ⟨x, List.mem_cons_of_mem _ hx, h1⟩
  cases F with
  | nil => exact absurd rfl h
  | cons y r =>
    rcases key r y.s with h1 | ⟨x, hx, h1⟩
    · exact ⟨y, List.mem_cons_self, h1.symm⟩
    · exact ⟨x, List.mem_cons_of_mem _ hx, h1⟩
/-! what is done -/
def newE (room : Int) (h : Stp) : Int := if room < 1 ∨ 64 < room then 1 else if mayS h = false then 17 else 0
def joinE (F : List Fk) (id : Int) (s : Stp) : Int := if id < 1 ∨ 12 < id then 1 else if mayS s = false then 17 else if hasK F id = true then 9 else 0
def joinF (F : List Fk) (id : Int) (s : Stp) : List Fk := if joinE F id s = 0 then putF F id s else F
def advE (F : List Fk) (id : Int) (s : Stp) : Int := if hasK F id = false then 8 else if mayS s = false then 17 else 0
def laterS (a b : Stp) : Stp := if ltS a b then b else a
def advF (F : List Fk) (id : Int) (s : Stp) : List Fk := if advE F id s = 0 then putF F id (laterS (stpF F id) s) else F
def addB (h : Stp) (F : List Fk) (f : Fp) : Int := if mayF f = false then 4 else if hasK F f.rg = false then 8 else if cmpS f.s h ≤ 0 then 20 else 0
def addM (h : Stp) (F : List Fk) (L : List Fp) (f : Fp) : Int := if addB h F f = 0 then addE L f else addB h F f
def addMF (h : Stp) (F : List Fk) (L : List Fp) (f : Fp) : List Fp := if addB h F f = 0 then addL L f else L
def takeO (F : List Fk) (L : List Fp) : List Ep := if F = [] then [] else uptoE L (lsF F)
def takeL (F : List Fk) (L : List Fp) : List Fp := if F = [] then L else uptoL L (lsF F)
def lastOr (h : Stp) (E : List Ep) : Stp := match E.getLast? with
  | none => h
  | some e => e.s
def takeH (h : Stp) (F : List Fk) (L : List Fp) : Stp := lastOr h (takeO F L)
def pausedF (F : List Fk) (room : Int) (n : Nat) (id more : Int) : Bool := hasK F id && decide (room - (n : Int) ≤ max more 0) && decide (0 < cmpS (stpF F id) (lsF F))
theorem joinE_no {F : List Fk} {id : Int} {s : Stp} {n : Int} (h : joinE F id s = n) (hn : n ≠ 0) : joinF F id s = F := by unfold joinF; rw [h, if_neg hn]
theorem joinE_yes {F : List Fk} {id : Int} {s : Stp} (h : joinE F id s = 0) : joinF F id s = putF F id s := by unfold joinF; rw [h, if_pos rfl]
theorem advE_no {F : List Fk} {id : Int} {s : Stp} {n : Int} (h : advE F id s = n) (hn : n ≠ 0) : advF F id s = F := by unfold advF; rw [h, if_neg hn]
theorem advE_yes {F : List Fk} {id : Int} {s : Stp} (h : advE F id s = 0) : advF F id s = putF F id (laterS (stpF F id) s) := by unfold advF; rw [h, if_pos rfl]
theorem join_good {F : List Fk} (h : GoodF F) (id : Int) (s : Stp) : GoodF (joinF F id s) := by
  unfold joinF
  split
  · rename_i h1
    unfold joinE at h1
    split at h1
    · cases h1
    · exact goodF_put s h (by omega) (by omega)
  · exact h
theorem adv_good {F : List Fk} (h : GoodF F) (id : Int) (s : Stp) : GoodF (advF F id s) := by
  unfold advF
  split
  · rename_i h1
    unfold advE at h1
    split at h1
    · cases h1
    · rename_i h2
      have := hasK_id h (by simpa using h2)
      exact goodF_put _ h this.1 this.2
  · exact h
theorem addM_held {h : Stp} {F : List Fk} {L : List Fp} (hL : Held L) (f : Fp) : Held (addMF h F L f) := by
  unfold addMF
  split
  · exact held_add hL f
  · exact hL
theorem takeL_held {F : List Fk} {L : List Fp} (hL : Held L) : Held (takeL F L) := by
  unfold takeL
  split
  · exact hL
  · unfold uptoL; exact held_drop hL _
theorem addL_len (L : List Fp) (f : Fp) : (addL L f).length ≤ L.length + 1 := by
  unfold addL
  split
  · have := (ins_perm L f).length_eq; rw [this, List.length_cons]; exact Nat.le_refl _
  · omega
theorem addMF_len (h : Stp) (F : List Fk) (L : List Fp) (f : Fp) : (addMF h F L f).length ≤ L.length + 1 := by
  unfold addMF
  split
  · exact addL_len L f
  · omega
theorem takeL_len (F : List Fk) (L : List Fp) : (takeL F L).length ≤ L.length := by
  unfold takeL
  split
  · omega
  · unfold uptoL; rw [List.length_drop]; omega
theorem grpE_len (E : List Ep) (f : Fp) : (grpE E f).length ≤ E.length + 1 := by
  unfold grpE
  dsimp only
  split <;> simp <;> omega
theorem uptoE_len (L : List Fp) (at_ : Stp) : (uptoE L at_).length ≤ L.length := by
  have key : ∀ (P : List Fp) (E : List Ep), (P.foldl grpE E).length ≤ E.length + P.length := by
    intro P
    induction P with
    | nil => intro E; exact Nat.le_refl _
    | cons f P ih =>
      intro E
      have h1 := ih (grpE E f)
      have h2 := grpE_len E f
      rw [List.foldl_cons, List.length_cons]
      omega
  unfold uptoE uptoG
  rw [List.length_map]
  have h1 := key (L.take (cntS at_ L)) []
  rw [List.length_take] at h1
  simp only [List.length_nil] at h1
  omega

/-! operations -/
structure Op where
  kd : Int
  n : Int
  more : Int
  s : Stp
  f : Fr
def Op.cells (x : Op) : List Value := [.int .i64 x.kd, .int .i64 x.n, .int .i64 x.more, .int .i64 x.s.w, .int .i64 x.s.l, .int .i64 x.s.n, .int .i64 x.f.rg, .int .i64 x.f.at_, .int .i64 x.f.t.co, .int .i64 x.f.t.li, .int .i64 x.f.t.sq, .int .i64 x.f.s.w, .int .i64 x.f.s.l, .int .i64 x.f.s.n, .slice x.f.ad x.f.ws.length x.f.c]
theorem Op.len (x : Op) : x.cells.length = 15 := rfl
theorem Op.one (x : Op) : ∀ u ∈ x.cells, u.oneCell' = true := by
  intro u hu
  simp only [Op.cells, List.mem_cons, List.not_mem_nil, or_false] at hu
  rcases hu with rfl | rfl | rfl | rfl | rfl | rfl | rfl | rfl | rfl | rfl | rfl | rfl | rfl | rfl | rfl <;> rfl
structure OpB (x : Op) : Prop where
  n1 : -9223372036854775808 ≤ x.n
  n2 : x.n ≤ 9223372036854775807
  r1 : -9223372036854775808 ≤ x.f.rg
  r2 : x.f.rg ≤ 9223372036854775807
/-! what the chapter fixes -/
def P1 : Fp := ⟨1, 1, ⟨1, 1, 1⟩, ⟨5, 0, 1⟩, [⟨[97], vz⟩]⟩
def Q1 : List Fk := [⟨1, sz0⟩]
def Q2 : List Fk := [⟨1, sz0⟩, ⟨2, sz0⟩]
def Q3 : List Fk := [⟨1, ⟨9, 0, 0⟩⟩, ⟨2, sz0⟩]
def Q4 : List Fk := [⟨1, ⟨9, 0, 0⟩⟩, ⟨2, ⟨5, 0, 1⟩⟩]
theorem g0 : newE 2 sz0 = 0 := by decide +kernel
theorem g1 : joinE [] 1 sz0 = 0 ∧ joinF [] 1 sz0 = Q1 := by decide +kernel
theorem g2 : joinE Q1 2 sz0 = 0 ∧ joinF Q1 2 sz0 = Q2 := by decide +kernel
theorem g3 : addM sz0 Q2 [] P1 = 0 ∧ addMF sz0 Q2 [] P1 = [P1] := by decide +kernel
theorem g4 : advE Q2 1 ⟨9, 0, 0⟩ = 0 ∧ advF Q2 1 ⟨9, 0, 0⟩ = Q3 := by decide +kernel
theorem g5 : takeO Q3 [P1] = [] ∧ takeL Q3 [P1] = [P1] ∧ takeH sz0 Q3 [P1] = sz0 := by decide +kernel
theorem g6 : advE Q3 2 ⟨5, 0, 1⟩ = 0 ∧ advF Q3 2 ⟨5, 0, 1⟩ = Q4 := by decide +kernel
theorem g7 : takeO Q4 [P1] = [⟨⟨1, 1, 1⟩, ⟨5, 0, 1⟩, [⟨[97], vz⟩]⟩] ∧ takeL Q4 [P1] = [] ∧ takeH sz0 Q4 [P1] = ⟨5, 0, 1⟩ := by decide +kernel
theorem g8 : pausedF Q4 2 0 1 2 = true ∧ pausedF Q4 2 0 2 2 = false := by decide +kernel
theorem gq : GoodF Q1 ∧ GoodF Q2 ∧ GoodF Q3 ∧ GoodF Q4 := by
  refine ⟨?_, ?_, ?_, ?_⟩
  · rw [← g1.2]; exact join_good goodF_nil _ _
  · rw [← g2.2]; refine join_good ?_ _ _; rw [← g1.2]; exact join_good goodF_nil _ _
  · rw [← g4.2, ← g2.2]; refine adv_good (join_good ?_ _ _) _ _; rw [← g1.2]; exact join_good goodF_nil _ _
  · rw [← g6.2, ← g4.2, ← g2.2]; refine adv_good (adv_good (join_good ?_ _ _) _ _) _ _; rw [← g1.2]; exact join_good goodF_nil _ _
theorem g9 : Held [P1] := by
  have := addM_held (h := sz0) (F := Q2) held_nil P1
  rwa [g3.2] at this
theorem nil_of {L : List Fr} (h : L.map Fr.p = []) : L = [] := List.map_eq_nil_iff.1 h
theorem nil_of_en {L : List En} (h : L.map En.p = []) : L = [] := List.map_eq_nil_iff.1 h
theorem one_len {L : List En} {e : Ep} (h : L.map En.p = [e]) : L.length = 1 := by have := congrArg List.length h; simpa using this
theorem fr_len {L : List Fr} {M : List Fp} (h : L.map Fr.p = M) : L.length = M.length := by have := congrArg List.length h; simpa using this

end Go.Proofs.YtdjfbkllbeeabaaGreat
