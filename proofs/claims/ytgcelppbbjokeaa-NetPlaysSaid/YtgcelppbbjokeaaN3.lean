/- The net by definition in memory. -/
import Derived.Test.YtgcelppbbjokeaaW1
set_option linter.unusedSimpArgs false
set_option linter.unusedVariables false
namespace Go.Proofs.Ytgcelppbbjokeaa
open Sx

/-- a net: its room, its mails; F: the blocks that it lies in -/
structure XAt (w : World) (p : Nat) (room : Int) (ms : List Mail) (F : Nat → Prop) (ad : Option Addr) (c : Nat) (rs : List RM) : Prop where
  blk : Blk w p [.int .i64 room, .slice ad rs.length c] 63
  row : Row w 65 3 ad rs.length c (rs.flatMap RM.cells)
  all : All2 (RM.is w) rs ms
  inp : F p
  ino : ∀ k, Own ad k → F k ∧ k ≠ p
  ind : ∀ r ∈ rs, 0 < r.n → F (ab r.ad) ∧ ab r.ad ≠ p ∧ ¬ Own ad (ab r.ad)
  lt : ∀ k, F k → k < w.heap.size
  few : room ≤ 4096
  fits : (ms.length : Int) ≤ room
def XNet (w : World) (p : Nat) (room : Int) (ms : List Mail) (F : Nat → Prop) : Prop := ∃ ad c rs, XAt w p room ms F ad c rs

theorem XAt.ext {S : Nat → Prop} {w w' : World} {p : Nat} {room : Int} {ms : List Mail} {F : Nat → Prop} {ad : Option Addr} {c : Nat} {rs : List RM} (h : XAt w p room ms F ad c rs) (x : Ext S w w') (hs : ∀ k, F k → ¬ S k) : XAt w' p room ms F ad c rs :=
  ⟨h.blk.ext x (hs _ h.inp), h.row.ext x (fun k hk => hs _ (h.ino k hk).1), h.all.mono_mem (fun r m hr _ hm => hm.ext x (fun h0 => hs _ (h.ind r hr h0).1)), h.inp, h.ino, h.ind,
    fun k hk => Nat.lt_of_lt_of_le (h.lt k hk) x.size, h.few, h.fits⟩
theorem XAt.ext_no {w w' : World} {p : Nat} {room : Int} {ms : List Mail} {F : Nat → Prop} {ad : Option Addr} {c : Nat} {rs : List RM} (h : XAt w p room ms F ad c rs) (x : Ext No w w') : XAt w' p room ms F ad c rs := h.ext x fun k _ => not_No k
theorem XAt.len {w : World} {p : Nat} {room : Int} {ms : List Mail} {F : Nat → Prop} {ad : Option Addr} {c : Nat} {rs : List RM} (h : XAt w p room ms F ad c rs) : rs.length = ms.length := h.all.length
theorem XNet.ext {S : Nat → Prop} {w w' : World} {p : Nat} {room : Int} {ms : List Mail} {F : Nat → Prop} (h : XNet w p room ms F) (x : Ext S w w') (hs : ∀ k, F k → ¬ S k) : XNet w' p room ms F := by
  obtain ⟨ad, c, rs, h⟩ := h
  exact ⟨ad, c, rs, h.ext x hs⟩
theorem XNet.ext_no {w w' : World} {p : Nat} {room : Int} {ms : List Mail} {F : Nat → Prop} (h : XNet w p room ms F) (x : Ext No w w') : XNet w' p room ms F := h.ext x fun k _ => not_No k
theorem XNet.cast {w : World} {p : Nat} {room : Int} {ms ms' : List Mail} {F : Nat → Prop} (h : XNet w p room ms F) (e : ms = ms') : XNet w p room ms' F := e ▸ h
theorem XNet.wider {w : World} {p : Nat} {room : Int} {ms : List Mail} {F F' : Nat → Prop} (h : XNet w p room ms F) (hs : ∀ k, F k → F' k) (hl : ∀ k, F' k → k < w.heap.size) : XNet w p room ms F' := by
  obtain ⟨ad, c, rs, h⟩ := h
  exact ⟨ad, c, rs, h.blk, h.row, h.all, hs _ h.inp, fun k hk => ⟨hs _ (h.ino k hk).1, (h.ino k hk).2⟩, fun r hr h0 => ⟨hs _ (h.ind r hr h0).1, (h.ind r hr h0).2⟩, hl, h.few, h.fits⟩
theorem XNet.lt {w : World} {p : Nat} {room : Int} {ms : List Mail} {F : Nat → Prop} (h : XNet w p room ms F) : ∀ k, F k → k < w.heap.size := by
  obtain ⟨ad, c, rs, h⟩ := h
  exact h.lt



theorem XNet.mk' {w' : World} {p : Nat} {room : Int} {ms : List Mail} {F : Nat → Prop} {ad : Option Addr} {c n : Nat} {rs : List RM} (hb : Blk w' p [.int .i64 room, .slice ad n c] 63) (hn : n = rs.length)
    (hr : Row w' 65 3 ad n c (rs.flatMap RM.cells)) (ha : All2 (RM.is w') rs ms) (hp : F p) (ho : ∀ k, Own ad k → F k ∧ k ≠ p) (hd : ∀ r ∈ rs, 0 < r.n → F (ab r.ad) ∧ ab r.ad ≠ p ∧ ¬ Own ad (ab r.ad))
    (hl : ∀ k, F k → k < w'.heap.size) (hf : room ≤ 4096) (hm : (ms.length : Int) ≤ room) : XNet w' p room ms F := by
  subst hn
  exact ⟨ad, c, rs, hb, hr, ha, hp, ho, hd, hl, hf, hm⟩
theorem bcells_take {l : List UInt8} {k : Nat} {b : UInt8} (h : l[k]? = some b) : bcells (l.take k) ++ [.int .u8 b.toNat] = bcells (l.take (k + 1)) := by
  obtain ⟨hk, rfl⟩ := List.getElem?_eq_some_iff.1 h
  unfold bcells
  rw [List.take_succ_eq_append_getElem hk, List.map_append]
  rfl
theorem cut_same {α : Type} {rs : List α} {k i : Nat} {r : α} (h : rs[k]? = some r) (hk : k = i) : (rs.take (k + 1)).eraseIdx i = (rs.take k).eraseIdx i := by
  obtain ⟨hk2, rfl⟩ := List.getElem?_eq_some_iff.1 h
  subst hk
  rw [List.eraseIdx_of_length_le (l := rs.take k) (by simp; omega), List.eraseIdx_eq_take_drop_succ, List.take_take, Nat.min_eq_left (by omega), List.drop_eq_nil_of_le (by simp; omega), List.append_nil]
theorem cut_more {α : Type} {rs : List α} {k i : Nat} {r : α} (h : rs[k]? = some r) (hk : k ≠ i) : (rs.take (k + 1)).eraseIdx i = (rs.take k).eraseIdx i ++ [r] := by
  obtain ⟨hk2, rfl⟩ := List.getElem?_eq_some_iff.1 h
  rw [List.take_succ_eq_append_getElem hk2]
  rcases Nat.lt_or_gt_of_ne hk with h1 | h1
  · rw [List.eraseIdx_of_length_le (by simp; omega), List.eraseIdx_of_length_le (by simp; omega)]
  · rw [List.eraseIdx_append_of_lt_length (by simp; omega)]
theorem cut_all {α : Type} {rs : List α} {k i : Nat} (hk : rs.length ≤ k) : (rs.take k).eraseIdx i = rs.take i ++ rs.drop (i + 1) := by
  rw [List.take_of_length_le hk, List.eraseIdx_eq_take_drop_succ]

end Go.Proofs.Ytgcelppbbjokeaa
