/- PLAIN: begins of streams and of hidden bytes; what the walk of AesXors keeps. -/
import Derived.Test.YtdopdaoapdeabaaStreamP
namespace Go.Proofs.Ytdopdaoapdeabaa
open Go.RowKit

theorem stream_take {ks at_ : List Nat} (h : at_.length = 16) (h' : ∀ x ∈ at_, x < 256) {n m : Nat} (hn : n ≤ m) : (streamL ks at_ m).take n = streamL ks at_ n := by
  obtain ⟨d, hd⟩ : ∃ d, (m + 15) / 16 = (n + 15) / 16 + d := ⟨(m + 15) / 16 - (n + 15) / 16, by omega⟩
  rw [streamL, streamL, List.take_take, Nat.min_eq_left hn, hd, strB_add h h', List.take_append_of_le_length (by rw [strB_length h]; omega)]
theorem getD_take {l : List Nat} {n i : Nat} (h : i < n) : (l.take n).getD i 0 = l.getD i 0 := by simp [h]
theorem xorL_take {l s : List Nat} (h : s.length = l.length) {n : Nat} (hn : n ≤ l.length) : (xorL l s).take n = xorL (l.take n) (s.take n) := by
  have e : (s.take n).length = (l.take n).length := by rw [List.length_take, List.length_take, h]
  apply ext_getD2
  · rw [List.length_take, xorL_length, xorL_length, List.length_take]
  · intro i hi
    rw [List.length_take, xorL_length] at hi
    rw [getD_take (by omega), xorL_get h (by omega), xorL_get e (by rw [List.length_take]; omega), getD_take (by omega), getD_take (by omega)]
theorem xor4 (s a b : Nat) : (s ^^^ a) ^^^ (s ^^^ b) = a ^^^ b := by
  rw [Nat.xor_comm s a, Nat.xor_assoc, ← Nat.xor_assoc s s b, Nat.xor_self, Nat.zero_xor]

/-- what stands while AesXors looks -/
structure XH (w X : World) (N b bb : Nat) (ks key at_ l1 l2 c1 c2 : List Nat) (v1 v2 x y : Value) : Prop where
  cip : IsCipher X b bb ks
  key : Bytes X N key 35
  place : Bytes X (N + 1) at_ 30
  r1 : Reads X v1 (bs l1)
  r2 : Reads X v2 (bs l2)
  rx : Reads X x (bs c1)
  ry : Reads X y (bs c2)
  bel : Below N w X
  size : N ≤ X.heap.size
theorem XH.below {w X X' : World} {N b bb : Nat} {ks key at_ l1 l2 c1 c2 : List Nat} {v1 v2 x y : Value} (h : XH w X N b bb ks key at_ l1 l2 c1 c2 v1 v2 x y) (hb : Below X.heap.size X X') : XH w X' N b bb ks key at_ l1 l2 c1 c2 v1 v2 x y :=
  ⟨h.cip.below hb h.cip.lt1 h.cip.lt2, h.key.below hb h.key.lt, h.place.below hb h.place.lt, h.r1.below hb (Nat.le_refl _), h.r2.below hb (Nat.le_refl _), h.rx.below hb (Nat.le_refl _), h.ry.below hb (Nat.le_refl _), h.bel.trans (hb.mono h.size), Nat.le_trans h.size hb.size⟩
theorem XH.setx {w X : World} {N b bb : Nat} {ks key at_ l1 l2 c1 c2 c : List Nat} {v1 v2 x y z : Value} (h : XH w X N b bb ks key at_ l1 l2 c1 c2 v1 v2 x y) (hz : Reads X z (bs c)) : XH w X N b bb ks key at_ l1 l2 c c2 v1 v2 z y := ⟨h.cip, h.key, h.place, h.r1, h.r2, hz, h.ry, h.bel, h.size⟩
theorem XH.sety {w X : World} {N b bb : Nat} {ks key at_ l1 l2 c1 c2 c : List Nat} {v1 v2 x y z : Value} (h : XH w X N b bb ks key at_ l1 l2 c1 c2 v1 v2 x y) (hz : Reads X z (bs c)) : XH w X N b bb ks key at_ l1 l2 c1 c v1 v2 x z := ⟨h.cip, h.key, h.place, h.r1, h.r2, h.rx, hz, h.bel, h.size⟩
theorem XH.drew {w X : World} {N b bb : Nat} {ks key at_ l1 l2 c1 c2 : List Nat} {v1 v2 x y : Value} (h : XH w X N b bb ks key at_ l1 l2 c1 c2 v1 v2 x y) : XH w X.drew N b bb ks key at_ l1 l2 c1 c2 v1 v2 x y := h.below (Below.refl _ _).drew
/-- a slice of bytes that is read has no less room than length -/
theorem Reads.room {w : World} {a : Option Addr} {len cap : Nat} {xs : List Value} (h : Reads w (.slice a len cap) xs) : len ≤ cap := by
  rcases h with ⟨h, rfl⟩ | ⟨a, cap', hv, hc, hx⟩
  · injection h with e1 e2 e3; omega
  · injection hv with e1 e2 e3; omega
end Go.Proofs.Ytdopdaoapdeabaa
