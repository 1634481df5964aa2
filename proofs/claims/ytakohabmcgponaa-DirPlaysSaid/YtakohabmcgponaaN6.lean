/- Groups of keys, plainly. -/
import Derived.Test.YtakohabmcgponaaSxZ
import Derived.Test.YtakohabmcgponaaW12
set_option linter.unusedSimpArgs false
set_option linter.unusedVariables false
namespace Go.Proofs.Ytakohabmcgponaa
open Sx

theorem route_gt {D : List Rg} {x : Nat} {r : Rg} : ∀ n : Nat, routeF D x n = some r → gt D r.id = some r ∧ 1 ≤ r.id ∧ r.id ≤ (n : Int)
  | 0, h => by cases h
  | n + 1, h => by
    unfold routeF at h
    cases hg : gt D ((n + 1 : Nat) : Int) with
    | none =>
      rw [hg] at h
      obtain ⟨h1, h2, h3⟩ := route_gt n h
      exact ⟨h1, h2, by omega⟩
    | some q =>
      rw [hg] at h
      dsimp only at h
      split at h
      · cases h
        have := gt_id hg
        rw [this]
        exact ⟨hg, by omega, by omega⟩
      · obtain ⟨h1, h2, h3⟩ := route_gt n h
        exact ⟨h1, h2, by omega⟩
theorem routeL_gt {D : List Rg} {k : List UInt8} {r : Rg} (h : routeL D k = some r) : gt D r.id = some r ∧ 1 ≤ r.id ∧ r.id ≤ 12 := by
  unfold routeL at h
  split at h
  · exact route_gt 12 h
  · cases h
/-! groups -/
structure Gk where
  id : Int
  ad : Option Addr
  c : Nat
  ks : List (List UInt8)
def Gk.rw (g : Gk) : Rw := ⟨g.ad, g.ks.length, g.c, g.ks.flatMap kc⟩
def Gk.val (g : Gk) : Value := .slice g.ad g.ks.length g.c
def ilit (i : Int) : Lit := .int .i64 i
def ilt (a b : Int) : Prop := a < b
theorem iO : KO ilit ilt := intKO
abbrev tg (G : List Gk) : DataW Value := tab (fun x => ilit (Gk.id x)) Gk.val G
def gzero (i : Int) : Gk := ⟨i, none, 0, []⟩
def gz (G : List Gk) (i : Int) : Gk := (gtK ilit Gk.id G i).getD (gzero i)
theorem look_g (G : List Gk) (i : Int) : atV (tg G) (.int .i64 i) (.slice none 0 0) = .slice (gz G i).ad (gz G i).ks.length (gz G i).c := by
  have := lookK (lit := ilit) (κ := Gk.id) (en := Gk.val) (L := G) i (.slice none 0 0)
  refine Eq.trans this ?_
  unfold gz
  cases gtK ilit Gk.id G i <;> rfl
theorem put_g {G : List Gk} (g : Gk) : (tg G).put (.int .i64 g.id) (.held (.slice g.ad g.ks.length g.c)) = tg (ptK ilit Gk.id g G) := putK (lit := ilit) (κ := Gk.id) (en := Gk.val) g
structure Gr where
  rg : Rg
  ad : Option Addr
  c : Nat
  ks : List (List UInt8)
def Gr.rw (g : Gr) : Rw := ⟨g.ad, g.ks.length, g.c, g.ks.flatMap kc⟩
def Gr.cells (g : Gr) : List Value := [.int .i64 g.rg.id, .int .i64 g.rg.epoch, .float .f64 g.rg.lo, .float .f64 g.rg.hi, .slice g.ad g.ks.length g.c]
def Gr.pure (g : Gr) : Rg × List (List UInt8) := (g.rg, g.ks)
theorem Gr.len (g : Gr) : g.cells.length = 5 := rfl
theorem Gr.one (g : Gr) : ∀ u ∈ g.cells, u.oneCell' = true := by
  intro u hu
  simp only [Gr.cells, List.mem_cons, List.not_mem_nil, or_false] at hu
  rcases hu with rfl | rfl | rfl | rfl | rfl <;> rfl
/-- the id to which a key is routed -/
def rid (D : List Rg) (k : List UInt8) : Option Int := (routeL D k).map Rg.id
def fil1 (D : List Rg) (i : Int) (acc : List (List UInt8)) (k : List UInt8) : List (List UInt8) := if rid D k = some i ∧ k ∉ acc then acc ++ [k] else acc
/-- a group's keys: each once, as they came -/
def fil (D : List Rg) (i : Int) (l : List (List UInt8)) : List (List UInt8) := l.foldl (fil1 D i) []
theorem fil_app (D : List Rg) (i : Int) (l : List (List UInt8)) (k : List UInt8) : fil D i (l ++ [k]) = fil1 D i (fil D i l) k := by
  unfold fil; rw [List.foldl_append]; rfl
theorem take_app {α : Type} {l : List α} {n : Nat} {k : α} (h : l[n]? = some k) : l.take (n + 1) = l.take n ++ [k] := by
  obtain ⟨hk, rfl⟩ := List.getElem?_eq_some_iff.1 h
  exact List.take_succ_eq_append_getElem hk
theorem fold_mem (D : List Rg) (i : Int) (k : List UInt8) : ∀ (l acc : List (List UInt8)), k ∈ l.foldl (fil1 D i) acc ↔ k ∈ acc ∨ (k ∈ l ∧ rid D k = some i)
  | [], acc => by simp
  | x :: l, acc => by
    rw [List.foldl_cons, fold_mem D i k l]
    have h1 : k ∈ fil1 D i acc x ↔ k ∈ acc ∨ (k = x ∧ rid D k = some i) := by
      unfold fil1
      split
      · rename_i h
        rw [List.mem_append, List.mem_singleton]
        constructor
        · rintro (h2 | rfl)
          · exact .inl h2
          · exact .inr ⟨rfl, h.1⟩
        · rintro (h2 | ⟨rfl, -⟩)
          · exact .inl h2
          · exact .inr rfl
      · rename_i h
        constructor
        · exact .inl
        · rintro (h2 | ⟨rfl, h2⟩)
          · exact h2
          · exact Classical.byContradiction fun h3 => h ⟨h2, h3⟩
    rw [h1, List.mem_cons]
    constructor
    · rintro ((h | ⟨h, h2⟩) | ⟨h, h2⟩)
      · exact .inl h
      · exact .inr ⟨.inl h, h2⟩
      · exact .inr ⟨.inr h, h2⟩
    · rintro (h | ⟨h | h, h2⟩)
      · exact .inl (.inl h)
      · exact .inl (.inr ⟨h, h2⟩)
      · exact .inr ⟨h, h2⟩
theorem fil_mem {D : List Rg} {i : Int} {l : List (List UInt8)} {k : List UInt8} : k ∈ fil D i l ↔ k ∈ l ∧ rid D k = some i := by
  unfold fil; rw [fold_mem]; simp
theorem fold_nodup (D : List Rg) (i : Int) : ∀ (l acc : List (List UInt8)), acc.Nodup → (l.foldl (fil1 D i) acc).Nodup
  | [], acc, h => h
  | x :: l, acc, h => by
    rw [List.foldl_cons]
    refine fold_nodup D i l _ ?_
    unfold fil1
    split
    · rename_i h2
      rw [List.nodup_append]
      exact ⟨h, by simp, fun a ha b hb => by rw [List.mem_singleton] at hb; subst hb; exact fun e => h2.2 (e ▸ ha)⟩
    · exact h
theorem fil_nodup (D : List Rg) (i : Int) (l : List (List UInt8)) : (fil D i l).Nodup := fold_nodup D i l [] List.nodup_nil
theorem fold_len (D : List Rg) (i : Int) : ∀ (l acc : List (List UInt8)), (l.foldl (fil1 D i) acc).length ≤ acc.length + l.length
  | [], acc => Nat.le_refl _
  | x :: l, acc => by
    have h1 := fold_len D i l (fil1 D i acc x)
    have h2 : (fil1 D i acc x).length ≤ acc.length + 1 := by unfold fil1; split <;> simp
    rw [List.foldl_cons, List.length_cons]
    omega
theorem fil_len (D : List Rg) (i : Int) (l : List (List UInt8)) : (fil D i l).length ≤ l.length := by
  have := fold_len D i l []
  unfold fil
  simpa using this
structure GInv (D : List Rg) (G : List Gk) (l : List (List UInt8)) : Prop where
  srt : SrtK ilt Gk.id G
  has : ∀ i, (gz G i).ks = fil D i l
  ne : ∀ g ∈ G, g.ks ≠ []
  rt : ∀ g ∈ G, ∃ r, gt D g.id = some r
  bd : ∀ g ∈ G, 1 ≤ g.id ∧ g.id ≤ 12
theorem ginv_nil (D : List Rg) : GInv D [] [] := ⟨List.Pairwise.nil, fun i => rfl, fun g h => by simp at h, fun g h => by simp at h, fun g h => by simp at h⟩
section
variable {D : List Rg} {G : List Gk} {l : List (List UInt8)} {k : List UInt8} {i : Int} {r : Rg}
theorem ginv_same (h : GInv D G l) (hr : rid D k = some i) (hk : k ∈ (gz G i).ks) : GInv D G (l ++ [k]) := by
  refine ⟨h.srt, fun j => ?_, h.ne, h.rt, h.bd⟩
  rw [fil_app, h.has]
  unfold fil1
  rw [if_neg]
  rintro ⟨h1, h2⟩
  rw [hr] at h1
  cases h1
  rw [h.has] at hk
  exact h2 hk
theorem ginv_new (h : GInv D G l) (hr : rid D k = some i) (hg : gt D i = some r) (hb : 1 ≤ i ∧ i ≤ 12) (hk : k ∉ (gz G i).ks) (g : Gk) (hid : g.id = i) (hks : g.ks = (gz G i).ks ++ [k]) : GInv D (ptK ilit Gk.id g G) (l ++ [k]) := by
  refine ⟨iO.put_srt g h.srt, fun j => ?_, fun x hx => ?_, fun x hx => ?_, fun x hx => ?_⟩
  · unfold gz
    rw [iO.get_put, fil_app]
    unfold fil1
    by_cases e : g.id = j
    · rw [if_pos e, Option.getD_some, hks, if_pos]
      · rw [← e, hid, h.has]
      · rw [← e, hid]
        exact ⟨hr, by rw [← h.has]; exact hk⟩
    · rw [if_neg e, if_neg (fun h9 => e (by rw [hid]; rw [hr] at h9; exact Option.some.inj h9.1))]
      exact h.has j
  · rcases iO.put_mem.1 hx with rfl | hx
    · rw [hks]; simp
    · exact h.ne x hx.1
  · rcases iO.put_mem.1 hx with rfl | hx
    · exact ⟨r, by rw [hid]; exact hg⟩
    · exact h.rt x hx.1
  · rcases iO.put_mem.1 hx with rfl | hx
    · rw [hid]; exact hb
    · exact h.bd x hx.1
end
def specG (D : List Rg) (l : List (List UInt8)) : List (Rg × List (List UInt8)) := D.filterMap fun r => if fil D r.id l = [] then none else some (r, fil D r.id l)
def grOf (D : List Rg) (g : Gk) : Gr := ⟨(gt D g.id).getD rz, g.ad, g.c, g.ks⟩
theorem gz_at {G : List Gk} (h : SrtK ilt Gk.id G) {g : Gk} (hg : g ∈ G) : gz G g.id = g := by
  unfold gz; rw [iO.get_mem h hg]; rfl
theorem spec_of {D : List Rg} {G : List Gk} {l : List (List UInt8)} (hD : Srt D) (h : GInv D G l) : (G.map (grOf D)).map Gr.pure = specG D l := by
  rw [List.map_map]
  refine iO.ext_mem (κ := fun p : Rg × List (List UInt8) => p.1.id) ?_ ?_ fun p => ?_
  · refine List.pairwise_map.2 (List.Pairwise.imp_of_mem (fun {a b} ha hb hab => ?_) h.srt)
    obtain ⟨r, hr⟩ := h.rt a ha
    obtain ⟨q, hq⟩ := h.rt b hb
    show ilt (((gt D a.id).getD rz).id) (((gt D b.id).getD rz).id)
    rw [hr, hq, Option.getD_some, Option.getD_some, gt_id hr, gt_id hq]
    exact hab
  · unfold specG
    refine List.pairwise_filterMap.2 (hD.imp fun {a b} hab p hp q hq => ?_)
    split at hp
    · cases hp
    · split at hq
      · cases hq
      · cases hp; cases hq; exact hab
  · unfold specG
    rw [List.mem_map, List.mem_filterMap]
    constructor
    · rintro ⟨g, hg, rfl⟩
      obtain ⟨r, hr⟩ := h.rt g hg
      have h1 := h.has g.id
      rw [gz_at h.srt hg] at h1
      refine ⟨r, gt_mem hr, ?_⟩
      rw [gt_id hr, ← h1, if_neg (h.ne g hg)]
      show some (r, g.ks) = some ((gt D g.id).getD rz, g.ks)
      rw [hr]; rfl
    · rintro ⟨r, hr, hp⟩
      split at hp
      · cases hp
      · rename_i hne
        cases hp
        have h1 := h.has r.id
        obtain ⟨n, hn⟩ := List.mem_iff_getElem?.1 hr
        have hgt := gt_srt hD hn
        cases hg : gtK ilit Gk.id G r.id with
        | none =>
          exfalso
          unfold gz at h1
          rw [hg] at h1
          exact hne h1.symm
        | some g =>
          obtain ⟨hm, hid⟩ := iO.get_some hg
          refine ⟨g, hm, ?_⟩
          unfold gz at h1
          rw [hg] at h1
          show ((gt D g.id).getD rz, g.ks) = _
          rw [hid, hgt, ← h1]
          rfl
/-! the first key that goes nowhere -/
def errG (D : List Rg) (l : List (List UInt8)) : Int := match l.find? fun k => (routeL D k).isNone with
  | none => 0
  | some k => if keyF k = true then 8 else 10
theorem err_at {D : List Rg} {l : List (List UInt8)} {n : Nat} {k : List UInt8} (hpre : ∀ (t : Nat) q, t < n → l[t]? = some q → (routeL D q).isSome = true) (hk : l[n]? = some k) (hn : routeL D k = none) : errG D l = if keyF k = true then 8 else 10 := by
  unfold errG
  have e : (l.find? fun k => (routeL D k).isNone) = some k := by
    obtain ⟨hlt, rfl⟩ := List.getElem?_eq_some_iff.1 hk
    have e1 : l = l.take n ++ l[n] :: l.drop (n + 1) := by rw [List.getElem_cons_drop, List.take_append_drop]
    conv => lhs; rw [e1]
    rw [List.find?_append, List.find?_eq_none.2, List.find?_cons_of_pos (by rw [hn]; rfl)]
    · rfl
    · intro q hq
      obtain ⟨t, ht⟩ := List.mem_iff_getElem?.1 hq
      rw [List.getElem?_take] at ht
      split at ht
      · have := hpre t q (by assumption) ht
        cases hr : routeL D q with
        | none => rw [hr] at this; cases this
        | some r => simp
      · cases ht
  rw [e]
theorem err_no {D : List Rg} {l : List (List UInt8)} (h : ∀ (t : Nat) q, t < l.length → l[t]? = some q → (routeL D q).isSome = true) : errG D l = 0 := by
  unfold errG
  rw [List.find?_eq_none.2]
  intro q hq
  obtain ⟨t, ht⟩ := List.mem_iff_getElem?.1 hq
  have := h t q (List.getElem?_eq_some_iff.1 ht).1 ht
  cases hr : routeL D q with
  | none => rw [hr] at this; cases this
  | some r => simp
theorem ok_snoc {D : List Rg} {l : List (List UInt8)} {n : Nat} {k : List UInt8} (h : ∀ (t : Nat) q, t < n → l[t]? = some q → (routeL D q).isSome = true) (hk : l[n]? = some k) (hr : (routeL D k).isSome = true) : ∀ (t : Nat) q, t < n + 1 → l[t]? = some q → (routeL D q).isSome = true := fun t q h1 h2 => by
  rcases Nat.lt_or_ge t n with h3 | h3
  · exact h t q h3 h2
  · obtain rfl : t = n := by omega
    rw [hk] at h2; cases h2; exact hr
theorem pure_rw {D : List Rg} {G : List Gk} : (G.map (grOf D)).map Gr.rw = G.map Gk.rw := by rw [List.map_map]; rfl
/-- groups are no more than ranges -/
theorem grp_few {D : List Rg} {G : List Gk} {l : List (List UInt8)} (h : GInv D G l) : G.length ≤ D.length := by
  have hs : (G.map Gk.id).Nodup := by
    refine List.pairwise_map.2 (h.srt.imp fun {a b} hab => ?_)
    have : a.id < b.id := hab
    omega
  have hsub : ∀ i ∈ G.map Gk.id, i ∈ D.map Rg.id := fun i hi => by
    obtain ⟨g, hg, rfl⟩ := List.mem_map.1 hi
    obtain ⟨r, hr⟩ := h.rt g hg
    exact List.mem_map.2 ⟨r, gt_mem hr, gt_id hr⟩
  have := List.Nodup.length_le_of_subset hs hsub
  simpa using this

end Go.Proofs.Ytakohabmcgponaa
