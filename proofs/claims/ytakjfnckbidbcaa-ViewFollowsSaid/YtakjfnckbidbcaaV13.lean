/- Each key in a group, totals, ends, plainly. -/
import Derived.Test.YtakjfnckbidbcaaV12
set_option linter.unusedSimpArgs false
set_option linter.unusedVariables false
namespace Go.Proofs.Ytakjfnckbidbcaa
open Sx

/-! each key a group; totals; ends -/
def Mx (g : G6) (x : Wt) : Prop := x.key.take g.name.length = g.name ∧ x.v.k = 1
structure GoodL (l : List Wt) : Prop where
  el : ∀ x ∈ l, 1 ≤ x.key.length ∧ x.key.length ≤ 24 ∧ mayV x.v = true ∧ x.v.k ≠ 0
  up : ∀ (i : Nat) y x, l[i]? = some y → l[i + 1]? = some x → slt y.key x.key
theorem of_good {cut : Int} {l : List Wt} (h : ofE cut l = 0) : ¬ (cut < 1 ∨ 24 < cut) ∧ GoodL l := by
  unfold ofE at h
  split at h
  · cases h
  rename_i hc
  split at h
  · rename_i hok
    refine ⟨hc, ?_⟩
    have hb := allOk_iff.1 hok
    have key : ∀ (i : Nat) x, l[i]? = some x → keyB x.key = true ∧ mayV x.v = true ∧ x.v.k ≠ 0 ∧ kbad (l.map Wt.key) i = false := fun i x hx => by
      have h1 := hb i (List.getElem?_eq_some_iff.1 hx).1
      unfold pbad wbad at h1
      rw [hx] at h1
      simp only [Bool.or_eq_false_iff, decide_eq_false_iff_not, Bool.not_eq_false'] at h1
      refine ⟨?_, h1.1.2, h1.2, h1.1.1⟩
      have h2 := h1.1.1
      unfold kbad at h2
      rw [List.getElem?_map, hx] at h2
      simp only [Option.map_some, Bool.or_eq_false_iff, Bool.not_eq_false'] at h2
      exact h2.1
    refine ⟨fun x hx => ?_, fun i y x hy hx => ?_⟩
    · obtain ⟨i, hi⟩ := List.mem_iff_getElem?.1 hx
      obtain ⟨h1, h2, h3, -⟩ := key i x hi
      unfold keyB at h1
      simp only [Bool.and_eq_true, decide_eq_true_eq] at h1
      exact ⟨h1.1, h1.2, h2, h3⟩
    · obtain ⟨h1, -, -, h4⟩ := key (i + 1) x hx
      have h5 := kbad_pos (l := l.map Wt.key) (k := i + 1) (x := x.key) (y := y.key) (by rw [List.getElem?_map, hx]; rfl) h1 (Nat.succ_pos _) (by rw [Nat.add_sub_cancel, List.getElem?_map, hy]; rfl)
      rw [h4] at h5
      simpa [slt] using h5.symm
  · cases h
theorem of_24 {cut : Int} {l : List Wt} (h : ofE cut l = 0) : ofE 24 l = 0 := by
  unfold ofE at h ⊢
  split at h
  · cases h
  split at h
  · rename_i hok
    rw [if_neg (by decide), if_pos hok]
  · cases h
theorem of_nil {cut : Int} {l : List Wt} (h : ofE cut l ≠ 0) : ofG cut l = [] := by
  unfold ofG; rw [if_neg h]
theorem gst_new {cut : Nat} {s : List G6 × List Nat} {x : Wt} (h : s.1 = [] ∨ (s.1.getLastD gz6).name ≠ x.key.take cut) :
    (gst cut s x).1 = s.1 ++ [updG (g6new (x.key.take cut)) x.v (if x.v.k = 1 then [x.v.num] else [])] := by
  have h1 : s1F s (x.key.take cut) = (s.1 ++ [g6new (x.key.take cut)], []) := by
    unfold s1F
    rw [if_neg]
    rintro ⟨h2, h3⟩
    rcases h with h | h
    · exact h2 h
    · exact h h3
  unfold gst
  rw [h1]
  dsimp only
  rw [List.length_append, List.length_singleton, Nat.add_sub_cancel, List.set_append_right _ _ (Nat.le_refl _), Nat.sub_self, List.getLastD_concat]
  simp
theorem gst_same {cut : Nat} {s : List G6 × List Nat} {x : Wt} {A : List G6} {g : G6} (hs : s.1 = A ++ [g]) (h : g.name = x.key.take cut) :
    ∃ ns, (gst cut s x).1 = A ++ [updG g x.v ns] := by
  have h1 : s1F s (x.key.take cut) = s := by
    unfold s1F
    rw [if_pos ⟨by rw [hs]; simp, by rw [hs, List.getLastD_concat]; exact h⟩]
  refine ⟨if x.v.k = 1 then s.2 ++ [x.v.num] else s.2, ?_⟩
  unfold gst
  rw [h1]
  dsimp only
  rw [hs, List.length_append, List.length_singleton, Nat.add_sub_cancel, List.set_append_right _ _ (Nat.le_refl _), Nat.sub_self, List.getLastD_concat]
  rfl
/-- a group's numbers -/
structure Qg (l : List Wt) (g : G6) : Prop where
  n0 : 0 ≤ g.nums
  nk : g.nums ≤ g.keys
  ends : 0 < g.nums → (∃ x ∈ l, Mx g x ∧ x.v.num = g.least) ∧ (∃ x ∈ l, Mx g x ∧ x.v.num = g.most)
def isN (x : Wt) : Int := if x.v.k = 1 then 1 else 0
theorem may_can {v : Vl} (h : mayV v = true) (hk : v.k = 1) : fcan v.num = v.num := by
  unfold mayV at h
  rw [if_neg (by rw [hk]; decide), if_pos hk, Bool.and_eq_true] at h
  exact (of_decide_eq_true h.2).symm
theorem upd_Q {l : List Wt} {cut : Nat} {g : G6} {o : Wt} (ns : List Nat) (hg : Qg l g) (hn : g.name = o.key.take cut) (ho : o ∈ l) (hl : ∀ x ∈ l, mayV x.v = true) :
    Qg l (updG g o.v ns) ∧ (updG g o.v ns).keys = g.keys + 1 ∧ (updG g o.v ns).nums = g.nums + isN o ∧ (updG g o.v ns).name = g.name := by
  by_cases hk : o.v.k = 1
  · have e : updG g o.v ns = { endsG { g with keys := g.keys + 1 } o.v.num o.v.num with nums := g.nums + 1, sum := fsum ns } := by unfold updG; rw [if_pos hk]
    have hi : isN o = 1 := by unfold isN; rw [if_pos hk]
    obtain ⟨k1, k2, -, -⟩ := endsG_keep { g with keys := g.keys + 1 } o.v.num o.v.num
    have hname : (updG g o.v ns).name = g.name := by rw [e]; exact k1
    have hkeys : (updG g o.v ns).keys = g.keys + 1 := by rw [e]; exact k2
    have hnums : (updG g o.v ns).nums = g.nums + 1 := by rw [e]
    have hc := may_can (hl o ho) hk
    have hme : Mx (updG g o.v ns) o := ⟨by rw [hname, hn, List.length_take, min_take], hk⟩
    have hold : ∀ x, Mx g x → Mx (updG g o.v ns) x := fun x hx => ⟨by rw [hname]; exact hx.1, hx.2⟩
    refine ⟨⟨by rw [hnums]; have := hg.n0; omega, by rw [hnums, hkeys]; have := hg.nk; omega, fun _ => ?_⟩, hkeys, by rw [hnums, hi], hname⟩
    by_cases h0 : g.nums = 0
    · have e2 : (updG g o.v ns).least = o.v.num ∧ (updG g o.v ns).most = o.v.num := by
        rw [e]; unfold endsG; rw [if_pos h0]; exact ⟨hc, hc⟩
      exact ⟨⟨o, ho, hme, e2.1.symm⟩, ⟨o, ho, hme, e2.2.symm⟩⟩
    · have e2 : (updG g o.v ns).least = leastF g.least o.v.num ∧ (updG g o.v ns).most = mostF g.most o.v.num := by
        rw [e]; unfold endsG; rw [if_neg h0]; exact ⟨rfl, rfl⟩
      obtain ⟨⟨x, hx, hm, hxl⟩, ⟨y, hy, hn2, hym⟩⟩ := hg.ends (by have := hg.n0; omega)
      rw [e2.1, e2.2]
      refine ⟨?_, ?_⟩
      · unfold leastF
        split
        · exact ⟨o, ho, hme, hc.symm⟩
        · exact ⟨x, hx, hold x hm, by rw [← hxl]; exact (may_can (hl x hx) hm.2).symm⟩
      · unfold mostF
        split
        · exact ⟨o, ho, hme, hc.symm⟩
        · exact ⟨y, hy, hold y hn2, by rw [← hym]; exact (may_can (hl y hy) hn2.2).symm⟩
  · have e : updG g o.v ns = { g with keys := g.keys + 1 } := by unfold updG; rw [if_neg hk]
    have hi : isN o = 0 := by unfold isN; rw [if_neg hk]
    rw [e, hi]
    refine ⟨⟨hg.n0, by show g.nums ≤ g.keys + 1; have := hg.nk; omega, fun h => ?_⟩, rfl, by simp, rfl⟩
    exact hg.ends h
theorem slt_take : ∀ {a b : Key} (n : Nat), slt a b → a.take n = b.take n ∨ slt (a.take n) (b.take n)
  | _, [], _, h => by simp [slt, Op.bytesLess] at h
  | a, y :: b, 0, _ => .inl (by simp)
  | [], y :: b, n + 1, _ => .inr (by simp [slt, Op.bytesLess])
  | x :: a, y :: b, n + 1, h => by
    have ih := slt_take (a := a) (b := b) n
    simp only [slt, Op.bytesLess, Bool.or_eq_true, decide_eq_true_eq, Bool.and_eq_true, beq_iff_eq, List.take_succ_cons, List.cons.injEq] at h ih ⊢
    rcases h with h | ⟨rfl, h⟩
    · exact .inr (.inl h)
    · rcases ih h with h1 | h1
      · exact .inl ⟨rfl, h1⟩
      · exact .inr (.inr ⟨rfl, h1⟩)
def sumI {α : Type} (f : α → Int) : List α → Int
  | [] => 0
  | x :: l => f x + sumI f l
theorem sumI_app {α : Type} (f : α → Int) : ∀ l m : List α, sumI f (l ++ m) = sumI f l + sumI f m
  | [], m => by simp [sumI]
  | x :: l, m => by simp only [List.cons_append, sumI, sumI_app f l m]; omega
theorem sumI_nn {α : Type} {f : α → Int} : ∀ {l : List α}, (∀ x ∈ l, 0 ≤ f x) → 0 ≤ sumI f l
  | [], _ => Int.le_refl _
  | x :: l, h => by
    have h1 := h x List.mem_cons_self
    have h2 := sumI_nn (l := l) fun y hy => h y (List.mem_cons_of_mem _ hy)
    simp only [sumI]; omega
theorem wadd_sum {α : Type} {f : α → Int} : ∀ {l : List α} (z : Int), 0 ≤ z → (∀ x ∈ l, 0 ≤ f x) → z + sumI f l ≤ 4611686018427387904 → l.foldl (fun s x => wadd s (f x)) z = z + sumI f l
  | [], z, _, _, _ => by simp [sumI]
  | x :: l, z, hz, h, hb => by
    have h1 := h x List.mem_cons_self
    have h2 := sumI_nn (l := l) (f := f) fun y hy => h y (List.mem_cons_of_mem _ hy)
    simp only [sumI] at hb ⊢
    rw [List.foldl_cons]
    have e : wadd z (f x) = z + f x := by unfold wadd; exact Sx.wrap64 (by omega)
    rw [e, wadd_sum (z + f x) (by omega) (fun y hy => h y (List.mem_cons_of_mem _ hy)) (by omega)]
    omega
def cntN (l : List Wt) : Int := sumI isN l
structure GI (cut : Nat) (l : List Wt) (k : Nat) (L : List G6) : Prop where
  el : ∀ g ∈ L, Qg l g ∧ 1 ≤ g.keys ∧ g.name.length ≤ cut
  srt : L.Pairwise fun a b => slt a.name b.name
  nil : k = 0 → L = []
  last : ∀ (j : Nat) y, k = j + 1 → l[j]? = some y → ∃ A g, L = A ++ [g] ∧ g.name = y.key.take cut
  sk : sumI G6.keys L = k
  sn : sumI G6.nums L = cntN (l.take k)
theorem cnt_snoc {l : List Wt} {k : Nat} {o : Wt} (h : l[k]? = some o) : cntN (l.take (k + 1)) = cntN (l.take k) + isN o := by
  unfold cntN
  rw [take_app h, sumI_app]
  simp [sumI]
theorem new_Q (l : List Wt) (n : Key) : Qg l (g6new n) := ⟨Int.le_refl _, Int.le_refl _, fun h => absurd h (Int.lt_irrefl 0)⟩
theorem gi_step {cut : Nat} {l : List Wt} (hG : GoodL l) {k : Nat} {o : Wt} {s : List G6 × List Nat} (ho : l[k]? = some o) (h : GI cut l k s.1) : GI cut l (k + 1) (gst cut s o).1 := by
  have hom := List.mem_of_getElem? ho
  have hmay : ∀ x ∈ l, mayV x.v = true := fun x hx => (hG.el x hx).2.2.1
  have hlen : (o.key.take cut).length ≤ cut := by rw [List.length_take]; omega
  have hnew : (s.1 = [] ∨ (s.1.getLastD gz6).name ≠ o.key.take cut) → (∀ g ∈ s.1, slt g.name (o.key.take cut)) → GI cut l (k + 1) (gst cut s o).1 := fun h1 h2 => by
    rw [gst_new h1]
    obtain ⟨q1, q2, q3, q4⟩ := upd_Q (g := g6new (o.key.take cut)) (o := o) (if o.v.k = 1 then [o.v.num] else []) (new_Q l _) rfl hom hmay
    refine ⟨fun g hg => ?_, ?_, fun h9 => absurd h9 (Nat.succ_ne_zero k), fun j y hj hy => ?_, ?_, ?_⟩
    · rcases List.mem_append.1 hg with hg | hg
      · exact h.el g hg
      · rw [List.mem_singleton] at hg
        subst hg
        exact ⟨q1, by rw [q2]; exact Int.le_refl 1, by rw [q4]; exact hlen⟩
    · refine List.pairwise_append.2 ⟨h.srt, List.pairwise_singleton _ _, fun g hg b hb => ?_⟩
      rw [List.mem_singleton] at hb
      subst hb
      rw [q4]
      exact h2 g hg
    · obtain rfl : j = k := by omega
      rw [ho] at hy
      cases hy
      exact ⟨_, _, rfl, q4⟩
    · rw [sumI_app, h.sk]
      simp only [sumI, q2]
      show _ + (0 + 1 + 0) = _
      omega
    · rw [sumI_app, h.sn, cnt_snoc ho]
      simp only [sumI, q3]
      show _ + (0 + _ + 0) = _
      omega
  cases k with
  | zero =>
    have h0 := h.nil rfl
    exact hnew (.inl h0) (by rw [h0]; simp)
  | succ j =>
    obtain ⟨y, hy⟩ : ∃ y, l[j]? = some y := ⟨_, List.getElem?_eq_getElem (by have := (List.getElem?_eq_some_iff.1 ho).1; omega)⟩
    obtain ⟨A, g, hs, hn⟩ := h.last j y rfl hy
    have hlt := hG.up j y o hy ho
    by_cases he : g.name = o.key.take cut
    · obtain ⟨ns, e⟩ := gst_same (x := o) hs he
      have hgm : g ∈ s.1 := by rw [hs]; simp
      obtain ⟨q1, q2, q3, q4⟩ := upd_Q (o := o) ns (h.el g hgm).1 he hom hmay
      have hsrt := h.srt
      rw [hs] at hsrt
      have hp := List.pairwise_append.1 hsrt
      have hsk := h.sk
      have hsn := h.sn
      rw [hs, sumI_app] at hsk hsn
      simp only [sumI] at hsk hsn
      rw [e]
      refine ⟨fun g' hg => ?_, ?_, fun h9 => absurd h9 (Nat.succ_ne_zero _), fun i z hi hz => ?_, ?_, ?_⟩
      · rcases List.mem_append.1 hg with hg | hg
        · exact h.el g' (by rw [hs]; exact List.mem_append_left _ hg)
        · rw [List.mem_singleton] at hg
          subst hg
          exact ⟨q1, by rw [q2]; have := (h.el g hgm).2.1; omega, by rw [q4]; exact (h.el g hgm).2.2⟩
      · refine List.pairwise_append.2 ⟨hp.1, List.pairwise_singleton _ _, fun a ha b hb => ?_⟩
        rw [List.mem_singleton] at hb
        subst hb
        rw [q4]
        exact hp.2.2 a ha g (by simp)
      · obtain rfl : i = j + 1 := by omega
        rw [ho] at hz
        cases hz
        exact ⟨_, _, rfl, by rw [q4]; exact he⟩
      · rw [sumI_app]
        simp only [sumI, q2]
        omega
      · rw [sumI_app, cnt_snoc ho, ← hsn]
        simp only [sumI, q3]
        omega
    · have hgl : slt g.name (o.key.take cut) := by
        rcases slt_take cut hlt with h1 | h1
        · exact absurd (hn.trans h1) he
        · rw [hn]; exact h1
      refine hnew (.inr (by rw [hs, List.getLastD_concat]; exact he)) fun a ha => ?_
      rw [hs] at ha
      rcases List.mem_append.1 ha with ha | ha
      · have hsrt := h.srt
        rw [hs] at hsrt
        exact slt_tr ((List.pairwise_append.1 hsrt).2.2 a ha g (by simp)) hgl
      · rw [List.mem_singleton] at ha
        subst ha
        exact hgl
theorem gi_all {cut : Nat} {l : List Wt} (hG : GoodL l) : ∀ k, k ≤ l.length → GI cut l k (gfold cut (l.take k)).1
  | 0, _ => by
    rw [List.take_zero]
    exact ⟨by simp [gfold], List.Pairwise.nil, fun _ => rfl, fun j y h => by omega, rfl, by rw [List.take_zero]; rfl⟩
  | k + 1, h => by
    obtain ⟨o, ho⟩ : ∃ o, l[k]? = some o := ⟨_, List.getElem?_eq_getElem h⟩
    rw [gfold_snoc ho]
    exact gi_step hG ho (gi_all hG k (by omega))
/-- what the law asks of a cut's groups -/
structure AllG (cut : Int) (l : List Wt) (L : List G6) : Prop where
  el : ∀ g ∈ L, Qg l g ∧ 1 ≤ g.keys ∧ (g.name.length : Int) ≤ cut
  up : ∀ (i : Nat) a b, L[i]? = some a → L[i + 1]? = some b → slt a.name b.name
  sk : tK L = l.length
  sn : tN L = cntN l
theorem isN_le (x : Wt) : 0 ≤ isN x ∧ isN x ≤ 1 := by unfold isN; split <;> decide
theorem sum_le {α : Type} {f g : α → Int} : ∀ {L : List α}, (∀ x ∈ L, f x ≤ g x) → sumI f L ≤ sumI g L
  | [], _ => Int.le_refl _
  | x :: L, h => by
    have h1 := h x List.mem_cons_self
    have h2 := sum_le (L := L) fun y hy => h y (List.mem_cons_of_mem _ hy)
    simp only [sumI]; omega
theorem all_G {cut : Int} {l : List Wt} (h : ofE cut l = 0) (hl : l.length ≤ 1000000) : AllG cut l (ofG cut l) := by
  obtain ⟨hc, hG⟩ := of_good h
  have e : ofG cut l = (gfold cut.toNat (l.take l.length)).1 := by unfold ofG groupsF; rw [if_pos h, List.take_length]
  have hI := gi_all (cut := cut.toNat) hG l.length (Nat.le_refl _)
  rw [← e] at hI
  have hk : ∀ g ∈ ofG cut l, 0 ≤ g.keys := fun g hg => by have := (hI.el g hg).2.1; omega
  have hn : ∀ g ∈ ofG cut l, 0 ≤ g.nums := fun g hg => (hI.el g hg).1.n0
  have hle : sumI G6.nums (ofG cut l) ≤ sumI G6.keys (ofG cut l) := sum_le fun g hg => (hI.el g hg).1.nk
  have hsk := hI.sk
  have hsn := hI.sn
  rw [List.take_length] at hsn
  refine ⟨fun g hg => ⟨(hI.el g hg).1, (hI.el g hg).2.1, by have := (hI.el g hg).2.2; omega⟩, fun i a b ha hb => ?_, ?_, ?_⟩
  · obtain ⟨h1, rfl⟩ := List.getElem?_eq_some_iff.1 ha
    obtain ⟨h2, rfl⟩ := List.getElem?_eq_some_iff.1 hb
    exact List.pairwise_iff_getElem.1 hI.srt i (i + 1) h1 h2 (by omega)
  · unfold tK
    rw [wadd_sum (f := G6.keys) 0 (Int.le_refl _) hk (by omega)]
    omega
  · unfold tN
    rw [wadd_sum (f := G6.nums) 0 (Int.le_refl _) hn (by omega)]
    omega
/-- a key's group by itself -/
def one1 (x : Wt) : G6 := updG (g6new x.key) x.v (if x.v.k = 1 then [x.v.num] else [])
theorem one1_facts {x : Wt} (h : mayV x.v = true) : (one1 x).name = x.key ∧ (one1 x).keys = 1 ∧ (one1 x).nums = isN x ∧ (x.v.k = 1 → (one1 x).sum = x.v.num ∧ (one1 x).least = x.v.num) := by
  have hq := upd_Q (l := [x]) (cut := x.key.length) (g := g6new x.key) (o := x) (if x.v.k = 1 then [x.v.num] else []) (new_Q _ _) (by rw [List.take_length]; rfl) (by simp) (by simpa using h)
  refine ⟨hq.2.2.2, hq.2.1, ?_, fun hk => ?_⟩
  · have := hq.2.2.1
    unfold one1
    rw [this]
    show 0 + _ = _
    omega
  · have hc := may_can h hk
    unfold one1 updG
    rw [if_pos hk, if_pos hk]
    refine ⟨?_, ?_⟩
    · show fsum [x.v.num] = _
      exact hc
    · show (endsG _ _ _).least = _
      unfold endsG
      rw [if_pos (show (g6new x.key).nums = 0 from rfl)]
      exact hc
theorem fold_one {l : List Wt} (hG : GoodL l) : ∀ k, k ≤ l.length → (gfold 24 (l.take k)).1 = (l.take k).map one1
  | 0, _ => by rw [List.take_zero]; rfl
  | k + 1, h => by
    obtain ⟨o, ho⟩ : ∃ o, l[k]? = some o := ⟨_, List.getElem?_eq_getElem h⟩
    have ih := fold_one hG k (by omega)
    have hok := hG.el o (List.mem_of_getElem? ho)
    have ht : o.key.take 24 = o.key := List.take_of_length_le hok.2.1
    rw [gfold_snoc ho, gst_new, ih, ht, take_app ho, List.map_append]
    · rfl
    · rw [ih]
      cases k with
      | zero => exact .inl (by simp)
      | succ j =>
        right
        obtain ⟨y, hy⟩ : ∃ y, l[j]? = some y := ⟨_, List.getElem?_eq_getElem (by omega)⟩
        rw [take_app hy, List.map_append, List.map_singleton, List.getLastD_concat, ht, (one1_facts (hG.el y (List.mem_of_getElem? hy)).2.2.1).1]
        exact sO.ne (hG.up j y o hy ho)
theorem all_one {l : List Wt} (h : ofE 24 l = 0) : ofG 24 l = l.map one1 := by
  obtain ⟨-, hG⟩ := of_good h
  have := fold_one hG l.length (Nat.le_refl _)
  rw [List.take_length] at this
  unfold ofG groupsF
  rw [if_pos h]
  exact this
/-! what was met so far -/
def SeenP (l : List Wt) (g : G6) (k : Nat) (p : Bool) (z : Nat) : Prop := ∀ x ∈ l.take k, Mx g x → x.v.num = z → p = true
theorem seen_no {l : List Wt} {g : G6} {k z : Nat} {p : Bool} {o : Wt} (h : SeenP l g k p z) (ho : l[k]? = some o) (hn : ¬ Mx g o) : SeenP l g (k + 1) p z := fun x hx hm hz => by
  rw [take_app ho] at hx
  rcases List.mem_append.1 hx with hx | hx
  · exact h x hx hm hz
  · rw [List.mem_singleton] at hx; subst hx; exact absurd hm hn
theorem seen_dec {l : List Wt} {g : G6} {k z : Nat} {o : Wt} (h : SeenP l g k false z) (ho : l[k]? = some o) : SeenP l g (k + 1) (decide (z = o.v.num)) z := fun x hx hm hz => by
  rw [take_app ho] at hx
  rcases List.mem_append.1 hx with hx | hx
  · exact absurd (h x hx hm hz) (by decide)
  · rw [List.mem_singleton] at hx; subst hx; exact decide_eq_true hz.symm
theorem seen_all {l : List Wt} {g : G6} {p : Bool} {z : Nat} (h : SeenP l g l.length p z) (hx : ∃ x ∈ l, Mx g x ∧ x.v.num = z) : p = true := by
  obtain ⟨x, h1, h2, h3⟩ := hx
  exact h x (by rw [List.take_length]; exact h1) h2 h3

end Go.Proofs.Ytakjfnckbidbcaa
