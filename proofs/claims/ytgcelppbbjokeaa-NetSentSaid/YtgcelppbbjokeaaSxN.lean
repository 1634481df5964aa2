/- More on chunks: two made one, free ones, an empty block as a row. -/
import Derived.Test.YtgcelppbbjokeaaSxM
set_option linter.unusedSimpArgs false
set_option linter.unusedVariables false
namespace Go.Sx
section
variable {w0 w w' u : World} {S T : Nat → Prop} {l m l' rest : List Chunk} {c d : Chunk} {b : Nat} {cs cs' : List Value} {e : TypeId} {p q : World → Prop} {i j : Nat}
theorem Hp.free (H : Hp w0 S w l) (p : World → Prop) (hp : ∀ w, p w) : Hp w0 S w ((No, p) :: l) :=
  H.cons (Ext.refl _ _) (fun w' _ => hp w') fun k hk => hk.elim
theorem Hp.consD (H : Hp w0 S w l) (hk : Ck c.1 c.2 w) (ho : ∀ k, c.1 k → w0.heap.size ≤ k ∧ k < w.heap.size) (hd : ∀ d ∈ l, ∀ k, c.1 k → ¬ d.1 k) : Hp w0 S w (c :: l) := by
  refine ⟨H.ext, fun i j a d ha hd' hij k hka hkd => ?_, fun a ha k hka => ?_, fun a ha => ?_⟩
  · cases i with
    | zero =>
      cases j with
      | zero => exact hij rfl
      | succ j =>
        simp at ha hd'
        subst ha
        exact hd d (List.mem_of_getElem? hd') k hka hkd
    | succ i =>
      cases j with
      | zero =>
        simp at ha hd'
        subst hd'
        exact hd a (List.mem_of_getElem? ha) k hkd hka
      | succ j => exact H.dis i j a d (by simpa using ha) (by simpa using hd') (fun h => hij (by rw [h])) k hka hkd
  · rcases List.mem_cons.1 ha with rfl | ha
    · exact ⟨(ho k hka).2, fun h => by have := (ho k hka).1; omega⟩
    · exact H.own a ha k hka
  · rcases List.mem_cons.1 ha with rfl | ha
    · exact hk
    · exact H.ck a ha
/-- two chunks as one -/
theorem Hp.merge {F G : Nat → Prop} (H : Hp w0 S w l) (i j : Nat) (hi : cget l i = some (F, p)) (hj : cget l j = some (G, q)) (os : List Nat) (hn : nodup (i :: j :: os) = true) (hr : cpick l os = some rest) :
    Hp w0 S w ((fun k => F k ∨ G k, fun w => p w ∧ q w) :: rest) := by
  have K := H.keep (i :: j :: os) hn (m := (F, p) :: (G, q) :: rest) (by simp only [cpick, hi, hj, hr])
  have h1 := K.ck (F, p) (by simp)
  have h2 := K.ck (G, q) (by simp)
  refine ⟨K.ext, fun a b c d ha hb hab k hk1 hk2 => ?_, fun c hc k hk => ?_, fun c hc => ?_⟩
  · cases a with
    | zero =>
      cases b with
      | zero => exact hab rfl
      | succ b =>
        simp at ha hb
        subst ha
        rcases hk1 with h3 | h3
        · exact K.dis 0 (b + 2) (F, p) d rfl (by simpa using hb) (by omega) k h3 hk2
        · exact K.dis 1 (b + 2) (G, q) d rfl (by simpa using hb) (by omega) k h3 hk2
    | succ a =>
      cases b with
      | zero =>
        simp at ha hb
        subst hb
        rcases hk2 with h3 | h3
        · exact K.dis 0 (a + 2) (F, p) c rfl (by simpa using ha) (by omega) k h3 hk1
        · exact K.dis 1 (a + 2) (G, q) c rfl (by simpa using ha) (by omega) k h3 hk1
      | succ b => exact K.dis (a + 2) (b + 2) c d (by simpa using ha) (by simpa using hb) (by omega) k hk1 hk2
  · rcases List.mem_cons.1 hc with rfl | hc
    · rcases hk with h3 | h3
      · exact K.own (F, p) (by simp) k h3
      · exact K.own (G, q) (by simp) k h3
    · exact K.own c (by simp [hc]) k hk
  · rcases List.mem_cons.1 hc with rfl | hc
    · exact h1.and h2
    · exact K.ck c (by simp [hc])
/-- a new block without cells is a row without elements -/
theorem Hp.rowB (H : Hp w0 S w l) (sz : Nat) (i : Nat) (h : cget l i = some (cB b [] e)) (hs : cset l i (cR e sz (some ⟨b, 0, none⟩) 0 0 []) = some l') : Hp w0 S w l' :=
  H.eff (d := cR e sz (some ⟨b, 0, none⟩) 0 0 []) i h (Ext.refl _ _) ((H.blk i h).row0 sz).ck (fun k hk => ⟨((H.blk i h).row0 sz).lt k hk, .inl (by have h2 : Own (some ⟨b, 0, none⟩) k := hk; rw [Own.one] at h2; exact h2)⟩) hs
/-- a chunk's fact at a world, for a callee that only reads -/
theorem Hp.rowss {α : Type} {enc : α → List Value} {sz n c : Nat} {ad : Option Addr} {xs : List α} (H : Hp w0 S w l) (i : Nat) (h : cget l i = some (cR e sz ad n c (xs.flatMap enc))) (hn : n = xs.length) : Ss w ad enc sz xs := by
  subst hn
  exact (H.row i h).ss
end
end Go.Sx
