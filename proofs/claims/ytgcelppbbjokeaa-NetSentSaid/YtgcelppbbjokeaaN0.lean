/- Mails and nets in memory. -/
import Derived.Test.YtgcelppbbjokeaaSxI
set_option linter.unusedSimpArgs false
set_option linter.unusedVariables false
namespace Go.Proofs.Ytgcelppbbjokeaa
open Sx
/-- a mail -/
structure Mail where
  src : Int
  dst : Int
  data : List UInt8
  deriving DecidableEq
/-- a mail as it lies in a row -/
structure RM where
  f : Int
  t : Int
  ad : Option Addr
  n : Nat
  c : Nat
def RM.cells (r : RM) : List Value := [.int .i64 r.f, .int .i64 r.t, .slice r.ad r.n r.c]
theorem RM.len (r : RM) : r.cells.length = 3 := rfl
theorem RM.one (r : RM) : ∀ u ∈ r.cells, u.oneCell' = true := by simp [RM.cells, Value.oneCell']
structure RM.is (w : World) (r : RM) (m : Mail) : Prop where
  src : r.f = m.src
  dst : r.t = m.dst
  n : r.n = m.data.length
  bs : Bs w r.ad m.data
  nil : r.ad = none → r.n = 0 ∧ r.c = 0
  small : r.n ≤ 1099511627776
theorem RM.is.ext {S : Nat → Prop} {w w' : World} {r : RM} {m : Mail} (h : r.is w m) (x : Ext S w w') (hb : 0 < r.n → ¬ S (ab r.ad)) : r.is w' m :=
  ⟨h.src, h.dst, h.n, h.bs.ext x (fun h0 => hb (by rw [h.n]; exact h0)), h.nil, h.small⟩

/-- a net: its room, its mails; F: the blocks that it lies in -/
structure NetAt (w : World) (p : Nat) (room : Int) (ms : List Mail) (F : Nat → Prop) (ad : Option Addr) (c : Nat) (rs : List RM) : Prop where
  blk : Blk w p [.int .i64 room, .slice ad rs.length c] 57
  row : Row w 34 3 ad rs.length c (rs.flatMap RM.cells)
  all : All2 (RM.is w) rs ms
  inp : F p
  ino : ∀ k, Own ad k → F k ∧ k ≠ p
  ind : ∀ r ∈ rs, 0 < r.n → F (ab r.ad) ∧ ab r.ad ≠ p ∧ ¬ Own ad (ab r.ad)
  lt : ∀ k, F k → k < w.heap.size
  few : room ≤ 4096
  fits : (ms.length : Int) ≤ room
def Net (w : World) (p : Nat) (room : Int) (ms : List Mail) (F : Nat → Prop) : Prop := ∃ ad c rs, NetAt w p room ms F ad c rs

theorem NetAt.ext {S : Nat → Prop} {w w' : World} {p : Nat} {room : Int} {ms : List Mail} {F : Nat → Prop} {ad : Option Addr} {c : Nat} {rs : List RM} (h : NetAt w p room ms F ad c rs) (x : Ext S w w') (hs : ∀ k, F k → ¬ S k) : NetAt w' p room ms F ad c rs :=
  ⟨h.blk.ext x (hs _ h.inp), h.row.ext x (fun k hk => hs _ (h.ino k hk).1), h.all.mono_mem (fun r m hr _ hm => hm.ext x (fun h0 => hs _ (h.ind r hr h0).1)), h.inp, h.ino, h.ind,
    fun k hk => Nat.lt_of_lt_of_le (h.lt k hk) x.size, h.few, h.fits⟩
theorem NetAt.ext_no {w w' : World} {p : Nat} {room : Int} {ms : List Mail} {F : Nat → Prop} {ad : Option Addr} {c : Nat} {rs : List RM} (h : NetAt w p room ms F ad c rs) (x : Ext No w w') : NetAt w' p room ms F ad c rs := h.ext x fun k _ => not_No k
theorem NetAt.len {w : World} {p : Nat} {room : Int} {ms : List Mail} {F : Nat → Prop} {ad : Option Addr} {c : Nat} {rs : List RM} (h : NetAt w p room ms F ad c rs) : rs.length = ms.length := h.all.length
theorem Net.ext {S : Nat → Prop} {w w' : World} {p : Nat} {room : Int} {ms : List Mail} {F : Nat → Prop} (h : Net w p room ms F) (x : Ext S w w') (hs : ∀ k, F k → ¬ S k) : Net w' p room ms F := by
  obtain ⟨ad, c, rs, h⟩ := h
  exact ⟨ad, c, rs, h.ext x hs⟩
theorem Net.ext_no {w w' : World} {p : Nat} {room : Int} {ms : List Mail} {F : Nat → Prop} (h : Net w p room ms F) (x : Ext No w w') : Net w' p room ms F := h.ext x fun k _ => not_No k
theorem Net.cast {w : World} {p : Nat} {room : Int} {ms ms' : List Mail} {F : Nat → Prop} (h : Net w p room ms F) (e : ms = ms') : Net w p room ms' F := e ▸ h
theorem Net.wider {w : World} {p : Nat} {room : Int} {ms : List Mail} {F F' : Nat → Prop} (h : Net w p room ms F) (hs : ∀ k, F k → F' k) (hl : ∀ k, F' k → k < w.heap.size) : Net w p room ms F' := by
  obtain ⟨ad, c, rs, h⟩ := h
  exact ⟨ad, c, rs, h.blk, h.row, h.all, hs _ h.inp, fun k hk => ⟨hs _ (h.ino k hk).1, (h.ino k hk).2⟩, fun r hr h0 => ⟨hs _ (h.ind r hr h0).1, (h.ind r hr h0).2⟩, hl, h.few, h.fits⟩
theorem Net.lt {w : World} {p : Nat} {room : Int} {ms : List Mail} {F : Nat → Prop} (h : Net w p room ms F) : ∀ k, F k → k < w.heap.size := by
  obtain ⟨ad, c, rs, h⟩ := h
  exact h.lt

theorem _root_.Go.Sx.All2.ext {S : Nat → Prop} {w w' : World} {rs : List RM} {ms : List Mail} (h : All2 (RM.is w) rs ms) (x : Ext S w w') (hs : ∀ r ∈ rs, 0 < r.n → ¬ S (ab r.ad)) : All2 (RM.is w') rs ms :=
  h.mono_mem fun r m hr _ hm => hm.ext x (hs r hr)
theorem _root_.Go.Sx.All2.ext_no {w w' : World} {rs : List RM} {ms : List Mail} (h : All2 (RM.is w) rs ms) (x : Ext No w w') : All2 (RM.is w') rs ms := h.ext x fun _ _ _ => not_No _
theorem RM.is.ext_no {w w' : World} {r : RM} {m : Mail} (h : r.is w m) (x : Ext No w w') : r.is w' m := h.ext x fun _ => not_No _

/-- what is done -/
structure OpV where
  kind : Int
  a : Int
  b : Int
  data : List UInt8
structure ROp where
  kind : Int
  a : Int
  b : Int
  ad : Option Addr
  n : Nat
  c : Nat
def ROp.cells (r : ROp) : List Value := [.int .i64 r.kind, .int .i64 r.a, .int .i64 r.b, .slice r.ad r.n r.c]
theorem ROp.len (r : ROp) : r.cells.length = 4 := rfl
structure ROp.is (w : World) (r : ROp) (o : OpV) : Prop where
  kind : r.kind = o.kind
  a : r.a = o.a
  b : r.b = o.b
  n : r.n = o.data.length
  bs : Bs w r.ad o.data
  nil : r.ad = none → r.n = 0 ∧ r.c = 0
  small : r.n ≤ 9223372036854775807
structure Ops (w : World) (ad : Option Addr) (rs : List ROp) (os : List OpV) : Prop where
  ss : Ss w ad ROp.cells 4 rs
  all : All2 (ROp.is w) rs os
  small : rs.length ≤ 9223372036854775807
/-- how many bytes the first k bring -/
def sumTo (os : List OpV) (k : Nat) : Nat := ((os.take k).map fun o => min o.data.length 20001).sum
def fewB (os : List OpV) : Bool := decide (os.length ≤ 400) && decide (sumTo os 400 ≤ 20000)
theorem sumTo_succ {os : List OpV} {k : Nat} {o : OpV} (h : os[k]? = some o) : sumTo os (k + 1) = sumTo os k + min o.data.length 20001 := by
  obtain ⟨hk, rfl⟩ := List.getElem?_eq_some_iff.1 h
  unfold sumTo
  rw [List.take_succ_eq_append_getElem hk]
  simp only [List.map_append, List.sum_append, List.map_cons, List.map_nil, List.sum_cons, List.sum_nil, Nat.add_zero]
theorem sumTo_le (os : List OpV) : ∀ k, sumTo os k ≤ k * 20001
  | 0 => by simp [sumTo]
  | k + 1 => by
    have ih := sumTo_le os k
    rcases h : os[k]? with _ | o
    · have : os.take (k + 1) = os.take k := by
        have := List.getElem?_eq_none_iff.1 h
        rw [List.take_of_length_le (by omega), List.take_of_length_le (by omega)]
      have e : sumTo os (k + 1) = sumTo os k := by unfold sumTo; rw [this]
      rw [e]
      exact Nat.le_trans ih (Nat.mul_le_mul_right _ (Nat.le_succ k))
    · rw [sumTo_succ h]; omega
theorem sumTo_all {os : List OpV} {k : Nat} (h : os.length ≤ k) : sumTo os k = sumTo os os.length := by
  unfold sumTo
  rw [List.take_of_length_le h, List.take_length]
theorem sumTo_mono (os : List OpV) {j k : Nat} (h : j ≤ k) : sumTo os j ≤ sumTo os k := by
  induction k with
  | zero => have : j = 0 := by omega
            subst this; exact Nat.le_refl _
  | succ k ih =>
    rcases Nat.lt_or_ge k j with h1 | h1
    · have : j = k + 1 := by omega
      subst this; exact Nat.le_refl _
    · have := ih h1
      rcases h2 : os[k]? with _ | o
      · have hn := List.getElem?_eq_none_iff.1 h2
        rw [sumTo_all (k := k + 1) (by omega)]
        rw [sumTo_all (k := k) (by omega)] at this
        exact this
      · rw [sumTo_succ h2]; omega
/-- few operations bring little each -/
theorem few_small {os : List OpV} (h : fewB os = true) : os.length ≤ 400 ∧ ∀ o ∈ os, o.data.length ≤ 20000 := by
  simp only [fewB, Bool.and_eq_true, decide_eq_true_eq] at h
  refine ⟨h.1, fun o ho => ?_⟩
  obtain ⟨k, hk⟩ := List.mem_iff_getElem?.1 ho
  have hlt := (List.getElem?_eq_some_iff.1 hk).1
  have h1 := sumTo_succ hk
  have h2 := sumTo_mono os (j := k + 1) (k := 400) (by omega)
  omega
def OpV.mail (o : OpV) : Mail := ⟨o.a, o.b, o.data⟩

/-- a mail that is told: new memory -/
theorem own_ab_eq {ad : Option Addr} {k : Nat} (h : Own ad k) : k = ab ad := by
  cases ad with
  | none => simp [Own] at h
  | some p => simp [Own] at h; exact h.symm
structure Told (w : World) (base : Nat) (ad : Option Addr) (c : Nat) (l : List UInt8) : Prop where
  bs : Bs w ad l
  nil : ad = none → l.length = 0 ∧ c = 0
  new : 0 < l.length → base ≤ ab ad
  row : 0 < l.length → Row w 5 1 ad l.length c (bcells l)
theorem Told.ext {S : Nat → Prop} {w w' : World} {base : Nat} {ad : Option Addr} {c : Nat} {l : List UInt8} (h : Told w base ad c l) (x : Ext S w w') (hb : 0 < l.length → ¬ S (ab ad)) : Told w' base ad c l := ⟨h.bs.ext x hb, h.nil, h.new, fun h0 => (h.row h0).ext x (fun k hk h9 => hb h0 (by rw [own_ab_eq hk] at h9; exact h9))⟩
theorem Told.ext_no {w w' : World} {base : Nat} {ad : Option Addr} {c : Nat} {l : List UInt8} (h : Told w base ad c l) (x : Ext No w w') : Told w' base ad c l := h.ext x fun _ => not_No _
/-- the i-th mail -/
def mailAt (ms : List Mail) (i : Int) : Option Mail := if 0 ≤ i then ms[i.toNat]? else none

end Go.Proofs.Ytgcelppbbjokeaa
