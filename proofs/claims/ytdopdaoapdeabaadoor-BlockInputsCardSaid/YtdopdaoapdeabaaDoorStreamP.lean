/- PLAIN: streams: their lengths, their parts; what is hidden twice; slices of what is read. -/
import Derived.Test.YtdopdaoapdeabaaDoorSameW
namespace Go.Proofs.YtdopdaoapdeabaaDoor
open Go.RowKit

theorem xorL_length (l s : List Nat) : (xorL l s).length = s.length := upd_length _ _ _
theorem xorL_lt {l s : List Nat} (hl : ∀ x ∈ l, x < 256) (hs : ∀ x ∈ s, x < 256) : ∀ x ∈ xorL l s, x < 256 := upd_lt (fun i _ => xor_lt_256 (getD_lt hs i) (getD_lt hl i)) hs
theorem xorL_get {l s : List Nat} (h : s.length = l.length) {i : Nat} (hi : i < l.length) : (xorL l s).getD i 0 = s.getD i 0 ^^^ l.getD i 0 := by
  rw [xorL, upd_get (by omega), if_pos hi]; rfl
theorem ext_getD2 {l m : List Nat} (h : l.length = m.length) (hg : ∀ i, i < l.length → l.getD i 0 = m.getD i 0) : l = m := by
  apply List.ext_getElem h
  intro i h1 h2
  have := hg i h1
  simpa [h1, h2] using this
theorem xorL_xorL {l s : List Nat} (h : s.length = l.length) : xorL (xorL l s) s = l := by
  apply ext_getD2
  · rw [xorL_length, h]
  · intro i hi
    rw [xorL_length, h] at hi
    rw [xorL_get (by rw [xorL_length]) (by rw [xorL_length]; omega), xorL_get h hi, ← Nat.xor_assoc, Nat.xor_self, Nat.zero_xor]
theorem strB_add {ks at_ : List Nat} (h : at_.length = 16) (h' : ∀ x ∈ at_, x < 256) (a : Nat) : ∀ i, strB ks at_ (a + i) = strB ks at_ a ++ strB ks (nextL at_ a) i
  | 0 => by simp [strB]
  | i + 1 => by
    rw [← Nat.add_assoc, strB, strB_add h h' a i, strB, nextL_add a i h h', List.append_assoc]
theorem stream_drop {ks at_ : List Nat} (h : at_.length = 16) (h' : ∀ x ∈ at_, x < 256) (a n : Nat) : (streamL ks at_ (16 * a + n)).drop (16 * a) = streamL ks (nextL at_ a) n := by
  rw [streamL, show (16 * a + n + 15) / 16 = a + (n + 15) / 16 by omega, strB_add h h', streamL, List.drop_take, List.drop_append]
  rw [strB_length h, List.drop_eq_nil_of_le (by rw [strB_length h]; omega), Nat.sub_self, List.drop_zero, List.nil_append, Nat.add_sub_cancel_left]

theorem bs_drop (l : List Nat) (n : Nat) : (bs l).drop n = bs (l.drop n) := by simp [bs]
theorem bs_take' (l : List Nat) (n : Nat) : (bs l).take n = bs (l.take n) := by simp [bs]
/-- a slice's end is read -/
theorem Reads.drop {w : World} {b off len cap : Nat} {xs : List Value} (h : Reads w (.slice (some ⟨b, off, none⟩) len cap) xs) {k : Nat} (hk : k ≤ len) : Reads w (.slice (some ⟨b, off + k, none⟩) (len - k) (cap - k)) (xs.drop k) := by
  rcases h with ⟨h, _⟩ | ⟨a, cap', hv, hc, hx⟩
  · cases h
  · injection hv with e1 e2 e3
    injection e1 with e1
    subst e1 e2 e3
    refine .inr ⟨⟨b, off + k, none⟩, cap - k, by rw [List.length_drop], by rw [List.length_drop]; omega, fun j u hj => ?_⟩
    have := hx (k + j) u (by rw [← hj]; simp)
    rw [Addr.add_mid] at this ⊢
    rwa [← Nat.add_assoc] at this
/-- a slice's begin is read -/
theorem Reads.take {w : World} {a : Option Addr} {len cap : Nat} {xs : List Value} (h : Reads w (.slice a len cap) xs) {k : Nat} (hk : k ≤ len) : Reads w (.slice a k cap) (xs.take k) := by
  rcases h with ⟨h, rfl⟩ | ⟨a, cap', hv, hc, hx⟩
  · injection h with e1 e2 e3
    subst e1 e2 e3
    obtain rfl : k = 0 := by omega
    exact .inl ⟨rfl, rfl⟩
  · injection hv with e1 e2 e3
    subst e1 e2 e3
    refine .inr ⟨a, cap, by rw [List.length_take]; congr 1; omega, by rw [List.length_take]; omega, fun j u hj => ?_⟩
    refine hx j u ?_
    have hjk : j < k := by
      have := (List.getElem?_eq_some_iff.1 hj).1
      rw [List.length_take] at this; omega
    rw [← hj]; simp [hjk]

/-- a cipher and a place, while they stand -/
structure BK (X : World) (N b bb ab : Nat) (ks at_ : List Nat) : Prop where
  cip : IsCipher X b bb ks
  place : Bytes X ab at_ 39
  size : N ≤ X.heap.size
theorem BK.below {X X' : World} {N b bb ab : Nat} {ks at_ : List Nat} (h : BK X N b bb ab ks at_) (hb : Below X.heap.size X X') : BK X' N b bb ab ks at_ :=
  ⟨h.cip.below hb h.cip.lt1 h.cip.lt2, h.place.below hb h.place.lt, Nat.le_trans h.size hb.size⟩
theorem BK.trans {w X X' : World} {N b bb ab : Nat} {ks at_ : List Nat} (h : BK X N b bb ab ks at_) (hw : Below N w X) (hb : Below X.heap.size X X') : Below N w X' := hw.trans (hb.mono h.size)
/-- a whole row is loaded, behind a guard that says yes -/
theorem wpList_load_row_g {P : Program} {ops : Array Oper} {rest : List Oper} {o : Oper} {a : Act} {w : World} {Q : Exit → Act → World → Prop} (hgd : Region.wanted o (yielded ops a.tmps) = true) (ty : TypeId) (x : Operand) (ho : o.op = .load ty x)
    (g : Nat) (hx : a.eval x = .pointer (some ⟨g, 0, none⟩)) (t : TypeId) (cs : Array Value) (fr : Nat × Nat) (d : TypeDesc) (hg : w.heap[g]? = some (.cells cs t fr))
    (hu : P.underlying ty = some d) (hd : (match d with | .struct _ | .array _ _ => true | _ => false) = true) (hi : (P.info? ty).map (·.size) = some cs.size)
    (h : wpList P ops Q rest (a.put o.dst (.agg cs)) w) : wpList P ops Q (o :: rest) a w :=
  wpList_step fun K hK => by rw [if_pos hgd]; exact wp_load_row ty x ho g hx t cs fr d hg hu hd hi (hK _ _ h)
end Go.Proofs.YtdopdaoapdeabaaDoor
