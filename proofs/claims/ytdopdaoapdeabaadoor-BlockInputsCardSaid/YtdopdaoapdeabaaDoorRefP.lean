/- PLAIN: the reference's box, step by step. -/
import Derived.Test.YtdopdaoapdeabaaDoorLayW
namespace Go.Proofs.YtdopdaoapdeabaaDoor
open Go.RowKit

/-- the inverses below a -/
def invL (a : Nat) : List Nat := (List.range 256).map fun x => if x < a then ginv x else 0
theorem invL_length (a : Nat) : (invL a).length = 256 := by simp [invL]
theorem invL_get {a x : Nat} (hx : x < 256) : (invL a).getD x 0 = if x < a then ginv x else 0 := by
  simp [invL, hx]
theorem invL_set {a : Nat} (ha : a < 256) : (invL a).set a (ginv a) = invL (a + 1) := by
  apply List.ext_getElem?
  intro i
  by_cases hi : i < 256
  · rw [List.getElem?_set]
    simp only [invL, List.length_map, List.length_range, List.getElem?_map, List.getElem?_range hi]
    by_cases e : a = i
    · subst e; simp [ha]
    · simp only [e, if_false, Option.map_some]
      congr 1
      by_cases h1 : i < a
      · simp [h1, show i < a + 1 by omega]
      · simp [h1, show ¬ i < a + 1 by omega]
  · rw [List.getElem?_eq_none (by simp [invL]; omega), List.getElem?_eq_none (by simp [invL]; omega)]
theorem invL_one : invL 1 = zeros 256 := by decide +kernel

/-- a bit of the box's number -/
def rbitUp (v i : Nat) : Nat → Nat
  | 0 => 99 / 2 ^ i % 2
  | k + 1 => rbitUp v i k + v / 2 ^ ((i + [0, 4, 5, 6, 7].getD k 0) % 8) % 2
def rnum (v : Nat) : Nat → Nat
  | 0 => 0
  | i + 1 => rnum v i + rbitUp v i 5 % 2 * 2 ^ i
theorem rnum_box : ∀ a < 256, rnum (ginv a) 8 = sbox.getD a 0 := by decide +kernel
theorem rbitUp_lt (v i : Nat) : ∀ k, rbitUp v i k ≤ k + 1
  | 0 => by unfold rbitUp; omega
  | k + 1 => by unfold rbitUp; have := rbitUp_lt v i k; omega
theorem rnum_lt (v : Nat) : ∀ i, rnum v i < 2 ^ i
  | 0 => by simp [rnum]
  | i + 1 => by
    unfold rnum
    have h1 := rnum_lt v i
    rw [Nat.pow_succ]
    rcases Nat.mod_two_eq_zero_or_one (rbitUp v i 5) with e | e <;> rw [e] <;> omega

theorem shr99 (i : Nat) : ((99 : Int) / 2 ^ i).tmod 2 = ((99 / 2 ^ i % 2 : Nat) : Int) := by
  have h : ((99 : Int) / 2 ^ i) = ((99 / 2 ^ i : Nat) : Int) := by push_cast; rfl
  rw [h, Int.tmod_eq_emod_of_nonneg (Int.natCast_nonneg _)]
  omega
def jk (k : Nat) : Nat := [0, 4, 5, 6, 7].getD k 0
theorem jk_le : ∀ k < 5, jk k ≤ 7 := by decide
theorem shrV (V n : Nat) : ((V : Int) / 2 ^ n).tmod 2 = ((V / 2 ^ n % 2 : Nat) : Int) := by
  have h : ((V : Int) / 2 ^ n) = ((V / 2 ^ n : Nat) : Int) := by push_cast; rfl
  rw [h, Int.tmod_eq_emod_of_nonneg (Int.natCast_nonneg _)]
  omega
theorem rbit_step {x V n : Nat} (hx : x ≤ 100) : wrap64 ((x : Int) + ((V : Int) / 2 ^ n).tmod 2) = ((x + V / 2 ^ n % 2 : Nat) : Int) := by
  rw [shrV]
  unfold wrap64
  omega
theorem rnum_step {r b i : Nat} (hi : i < 8) (hr : r < 2 ^ i) : wrap64 ((r : Int) + wrap64 ((b : Int) % 2 * 2 ^ i)) = ((r + b % 2 * 2 ^ i : Nat) : Int) := by
  have h : i = 0 ∨ i = 1 ∨ i = 2 ∨ i = 3 ∨ i = 4 ∨ i = 5 ∨ i = 6 ∨ i = 7 := by omega
  unfold wrap64
  rcases h with rfl | rfl | rfl | rfl | rfl | rfl | rfl | rfl <;> simp at hr ⊢ <;> omega
theorem owns_mono {w : World} {b b' : Nat} {e : TypeId} {s : Nat} {v : Value} {n : Nat} {xs : List Value} (h : w.ownsRow b e s v n xs) (hb : b' ≤ b) : w.ownsRow b' e s v n xs := by
  refine ⟨h.1, ?_⟩
  rcases h.2 with h2 | ⟨g, cap, cur, hv, hg, r⟩
  · exact .inl h2
  · exact .inr ⟨g, cap, cur, hv, by omega, r⟩
theorem take_snoc_ks {k : IntKind} {l : List Nat} {a : Nat} (ha : a < l.length) : ks k (l.take a) ++ [.int k (l.getD a 0 : Nat)] = ks k (l.take (a + 1)) := by
  have h : l.take (a + 1) = l.take a ++ [l.getD a 0] := by
    rw [List.take_add_one, List.getElem?_eq_getElem ha]; simp [ha]
  rw [h, ← ks_append]; rfl
end Go.Proofs.YtdopdaoapdeabaaDoor
