/- The contracts of a net, over chunks. -/
import Derived.Test.YtgcelppbbjokeaaW5
import Derived.Test.YtgcelppbbjokeaaSxN
set_option linter.unusedSimpArgs false
set_option linter.unusedVariables false
namespace Go.Proofs.Ytgcelppbbjokeaa
open Sx

def netC (p : Nat) (room : Int) (ms : List Mail) (F : Nat → Prop) : Chunk := (F, fun w => Net w p room ms F)
theorem Net.ck {w : World} {p : Nat} {room : Int} {ms : List Mail} {F : Nat → Prop} (h : Net w p room ms F) : Ck F (fun w => Net w p room ms F) w := fun w' x => h.ext x fun k hk hn => hn hk
theorem Net.small {w : World} {p : Nat} {room : Int} {ms : List Mail} {F : Nat → Prop} (h : Net w p room ms F) {k : Nat} {m : Mail} (hm : ms[k]? = some m) : m.data.length ≤ 1099511627776 := by
  obtain ⟨ad, c, rs, h⟩ := h
  obtain ⟨r, -, hr⟩ := h.all.get hm
  have h1 := hr.small
  have h2 := hr.n
  omega
theorem hn_of {w0 w : World} {S : Nat → Prop} {l : List Chunk} {p : Nat} {room : Int} {ms : List Mail} {F : Nat → Prop} (H : Hp w0 S w l) (i : Nat) (h : cget l i = some (netC p room ms F)) : Net w p room ms F := H.at (F := F) (p := fun w => Net w p room ms F) i h

theorem hAt_yes {p : Nat} {room : Int} {ms : List Mail} {F : Nat → Prop} {w : World} (hn : Net w p room ms F) (i : Int) (k : Nat) (m : Mail) (hi : i = k) (hm : ms[k]? = some m) :
    Calls Try.prog 11 #[.pointer (some ⟨p, 0, none⟩), .int .i64 i] w fun e w' => ∃ ad' c' G, e = .returned (.tuple #[.agg #[.int .i64 m.src, .int .i64 m.dst, .slice ad' m.data.length c'], .bool true]) ∧ (ad' = none → m.data.length = 0 ∧ c' = 0) ∧ Hp w No w' [(G, fun w => Bs w ad' m.data)] := by
  refine (nAt_yes hn i k m hi hm).mono fun e w' h => ?_
  obtain ⟨ad', c', rfl, hto, E⟩ := h
  refine ⟨ad', c', fun k => 0 < m.data.length ∧ k = ab ad', rfl, hto.nil, (Hp.start No w).cons (c := (fun k => 0 < m.data.length ∧ k = ab ad', fun w => Bs w ad' m.data)) E (fun w' x => hto.bs.ext x fun h0 hn => hn ⟨h0, rfl⟩) fun k hk => ?_⟩
  obtain ⟨h0, rfl⟩ := hk
  exact ⟨hto.new h0, hto.bs.lt h0⟩

theorem hSend_ok {p : Nat} {room : Int} {ms : List Mail} {F : Nat → Prop} {w : World} {S : Nat → Prop} (H : Hp w S w [netC p room ms F]) (src dst : Int) (ad2 : Option Addr) (n2 c2 : Nat) (l : List UInt8) (hroom : ms.length < room) (hd : Bs w ad2 l) (hn : n2 = l.length) (hnil : ad2 = none → n2 = 0 ∧ c2 = 0) (hs : n2 ≤ 1099511627776) :
    Calls Try.prog 10 #[.pointer (some ⟨p, 0, none⟩), .int .i64 src, .int .i64 dst, .slice ad2 n2 c2] w fun e w' => ∃ F', e = .returned (.int .i64 0) ∧ Hp w S w' [netC p room (ms ++ [⟨src, dst, l⟩]) F'] := by
  refine (nSend_ok (hn_of H 0 rfl) src dst ad2 n2 c2 l hroom hd hn hnil hs).mono fun e w' h => ?_
  obtain ⟨rfl, hnet, E⟩ := h
  exact ⟨_, rfl, H.eff (d := netC p room _ _) 0 rfl E hnet.ck (fun k hk => ⟨hnet.lt k hk, hk.imp id (·.1)⟩) rfl⟩

theorem hTake_yes {p : Nat} {room : Int} {ms : List Mail} {F : Nat → Prop} {w : World} {S : Nat → Prop} (H : Hp w S w [netC p room ms F]) (i : Int) (k : Nat) (m : Mail) (hi : i = k) (hm : ms[k]? = some m) :
    Calls Try.prog 16 #[.pointer (some ⟨p, 0, none⟩), .int .i64 i] w fun e w' => ∃ ad' c' G F', e = .returned (.tuple #[.agg #[.int .i64 m.src, .int .i64 m.dst, .slice ad' m.data.length c'], .bool true]) ∧ Hp w S w' [(G, fun w => Bs w ad' m.data), netC p room (ms.take k ++ ms.drop (k + 1)) F'] := by
  have hlt := (hn_of H 0 rfl).lt
  refine (nTake_yes (hn_of H 0 rfl) i k m hi hm).mono fun e w' h => ?_
  obtain ⟨ad', c', rfl, hto, hnet, E⟩ := h
  refine ⟨ad', c', fun k => 0 < m.data.length ∧ k = ab ad', F, rfl, (H.eff (d := netC p room _ F) 0 rfl E hnet.ck (fun k hk => ⟨hnet.lt k hk, .inl hk⟩) rfl).consD (c := (fun k => 0 < m.data.length ∧ k = ab ad', fun w => Bs w ad' m.data)) (fun w' x => hto.bs.ext x fun h0 hn => hn ⟨h0, rfl⟩) (fun k hk => ?_) fun d hd k hk h9 => ?_⟩
  · obtain ⟨h0, rfl⟩ := hk
    exact ⟨hto.new h0, hto.bs.lt h0⟩
  · simp at hd
    subst hd
    obtain ⟨h0, rfl⟩ := hk
    have h1 := hlt _ h9
    have h2 := hto.new h0
    omega

theorem out_perm {ms : List Mail} {k : Nat} {m : Mail} (hm : ms[k]? = some m) : (m :: (ms.take k ++ ms.drop (k + 1))).Perm ms := by
  obtain ⟨hk, rfl⟩ := List.getElem?_eq_some_iff.1 hm
  have h := List.take_append_drop k ms
  rw [List.drop_eq_getElem_cons hk] at h
  refine List.Perm.trans ?_ (List.Perm.of_eq h)
  exact List.perm_middle.symm
theorem moved_perm {ms : List Mail} {k j : Nat} {m : Mail} (hm : ms[k]? = some m) : ((ms.take k ++ ms.drop (k + 1)).take j ++ [m] ++ (ms.take k ++ ms.drop (k + 1)).drop j).Perm ms := by
  refine List.Perm.trans ?_ (out_perm hm)
  rw [List.append_assoc, List.singleton_append]
  refine List.perm_middle.trans ?_
  rw [List.take_append_drop]

theorem hDrop_yes {p : Nat} {room : Int} {ms : List Mail} {F : Nat → Prop} {w : World} {S : Nat → Prop} (H : Hp w S w [netC p room ms F]) (i : Int) (k : Nat) (m : Mail) (hi : i = k) (hm : ms[k]? = some m) :
    Calls Try.prog 21 #[.pointer (some ⟨p, 0, none⟩), .int .i64 i] w fun e w' => ∃ F', e = .returned (.bool true) ∧ Hp w S w' [netC p room (ms.take k ++ ms.drop (k + 1)) F'] := by
  refine (nDrop_yes (hn_of H 0 rfl) i k m hi hm).mono fun e w' h => ?_
  obtain ⟨rfl, hnet, E⟩ := h
  exact ⟨_, rfl, H.eff (d := netC p room _ _) 0 rfl E hnet.ck (fun k hk => ⟨hnet.lt k hk, .inl hk⟩) rfl⟩
theorem hTwice_ok {p : Nat} {room : Int} {ms : List Mail} {F : Nat → Prop} {w : World} {S : Nat → Prop} (H : Hp w S w [netC p room ms F]) (i : Int) (k : Nat) (m : Mail) (hi : i = k) (hm : ms[k]? = some m) (hroom : ms.length < room) :
    Calls Try.prog 22 #[.pointer (some ⟨p, 0, none⟩), .int .i64 i] w fun e w' => ∃ F', e = .returned (.int .i64 0) ∧ Hp w S w' [netC p room (ms ++ [m]) F'] := by
  refine (nTwice_ok (hn_of H 0 rfl) i k m hi hm hroom).mono fun e w' h => ?_
  obtain ⟨rfl, hnet, E⟩ := h
  exact ⟨_, rfl, H.eff (d := netC p room _ _) 0 rfl E hnet.ck (fun k hk => ⟨hnet.lt k hk, hk.imp id (·.1)⟩) rfl⟩
theorem hMove_yes {p : Nat} {room : Int} {ms : List Mail} {F : Nat → Prop} {w : World} {S : Nat → Prop} (H : Hp w S w [netC p room ms F]) (i to : Int) (k : Nat) (m : Mail) (hi : i = k) (hm : ms[k]? = some m) :
    Calls Try.prog 12 #[.pointer (some ⟨p, 0, none⟩), .int .i64 i, .int .i64 to] w fun e w' => ∃ ms' F', e = .returned (.bool true) ∧ ms'.Perm ms ∧ Hp w S w' [netC p room ms' F'] := by
  refine (nMove_yes (hn_of H 0 rfl) i to k m hi hm).mono fun e w' h => ?_
  obtain ⟨rfl, hnet, E⟩ := h
  exact ⟨_, _, rfl, moved_perm hm, H.eff (d := netC p room _ _) 0 rfl E hnet.ck (fun k hk => ⟨hnet.lt k hk, hk.imp id (·.1)⟩) rfl⟩

theorem out_both {ts ms : List Mail} {j k : Nat} {m : Mail} (h : ts.Perm ms) (hj : ts[j]? = some m) (hk : ms[k]? = some m) : (ts.take j ++ ts.drop (j + 1)).Perm (ms.take k ++ ms.drop (k + 1)) :=
  (List.perm_cons m).1 ((out_perm hj).trans (h.trans (out_perm hk).symm))

end Go.Proofs.Ytgcelppbbjokeaa
