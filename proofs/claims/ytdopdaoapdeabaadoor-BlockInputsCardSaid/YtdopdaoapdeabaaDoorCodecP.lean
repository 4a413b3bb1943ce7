/- PLAIN: numbers as bytes. -/
import Derived.Test.YtdopdaoapdeabaaDoorApp
namespace Go.Proofs.YtdopdaoapdeabaaDoor

/-- a number's bytes, the greatest first -/
def putL (n wide : Nat) : List Nat := (List.range wide).map fun p => n / 256 ^ (wide - 1 - p) % 256
theorem putL_length (n wide : Nat) : (putL n wide).length = wide := by simp [putL]
theorem putL_lt (n wide : Nat) : ∀ x ∈ putL n wide, x < 256 := fun x hx => by
  simp only [putL, List.mem_map] at hx
  obtain ⟨p, _, rfl⟩ := hx
  exact Nat.mod_lt _ (by decide)
/-- while they are laid: the last i are there -/
def putS (n wide i : Nat) : List Nat := (List.range wide).map fun p => if wide - 1 - p < i then n / 256 ^ (wide - 1 - p) % 256 else 0
theorem putS_length (n wide i : Nat) : (putS n wide i).length = wide := by simp [putS]
theorem putS_zero (n wide : Nat) : putS n wide 0 = zeros wide := by
  apply List.ext_getElem
  · simp [putS, zeros]
  · intro i h1 h2
    simp [putS, zeros]
theorem putS_full (n wide : Nat) : putS n wide wide = putL n wide := by
  apply List.ext_getElem
  · simp [putS, putL]
  · intro i h1 h2
    simp only [putS_length] at h1
    simp only [putS, putL, List.getElem_map, List.getElem_range]
    rw [if_pos (by omega)]
theorem putS_set {n wide i : Nat} (hi : i < wide) : (putS n wide i).set (wide - 1 - i) (n / 256 ^ i % 256) = putS n wide (i + 1) := by
  apply List.ext_getElem
  · simp [putS]
  · intro p h1 h2
    simp only [putS_length] at h2
    rw [List.getElem_set]
    simp only [putS, List.getElem_map, List.getElem_range]
    by_cases e : wide - 1 - i = p
    · rw [if_pos e, if_pos (by omega), show wide - 1 - p = i by omega]
    · rw [if_neg e]
      by_cases h3 : wide - 1 - p < i
      · rw [if_pos h3, if_pos (by omega)]
      · rw [if_neg h3, if_neg (by omega)]
theorem shr_pow (n i : Nat) : (n : Int) / 2 ^ (8 * i) = ((n / 256 ^ i : Nat) : Int) := by
  rw [show (256 : Nat) = 2 ^ 8 from rfl, ← Nat.pow_mul]
  push_cast
  rfl
/-- the way back -/
def getL (l : List Nat) : Nat := l.foldl (fun n c => 256 * n + c) 0
theorem getL_snoc (l : List Nat) (c : Nat) : getL (l ++ [c]) = 256 * getL l + c := by simp [getL]
theorem snocInd {p : List Nat → Prop} (h0 : p []) (h1 : ∀ l c, p l → p (l ++ [c])) (l : List Nat) : p l := by
  have : ∀ m : List Nat, p m.reverse := fun m => by
    induction m with
    | nil => exact h0
    | cons c m ih => rw [List.reverse_cons]; exact h1 _ c ih
  have h := this l.reverse
  rwa [List.reverse_reverse] at h
theorem getL_lt {l : List Nat} (h : ∀ x ∈ l, x < 256) : getL l < 256 ^ l.length := by
  revert h
  refine snocInd (p := fun l => (∀ x ∈ l, x < 256) → getL l < 256 ^ l.length) (fun _ => by simp [getL]) (fun l c ih h => ?_) l
  have h1 := ih (fun x hx => h x (by simp [hx]))
  have h2 := h c (by simp)
  rw [getL_snoc, List.length_append, List.length_singleton, Nat.pow_succ]
  omega
theorem putL_succ (n wide : Nat) : putL n (wide + 1) = putL (n / 256) wide ++ [n % 256] := by
  apply List.ext_getElem
  · simp [putL]
  · intro i h1 h2
    simp only [putL_length] at h1
    simp only [putL, List.getElem_map, List.getElem_range]
    by_cases e : i < wide
    · rw [List.getElem_append_left (by simpa using e)]
      simp only [List.getElem_map, List.getElem_range]
      rw [Nat.div_div_eq_div_mul, show wide + 1 - 1 - i = (wide - 1 - i) + 1 by omega, Nat.pow_succ, Nat.mul_comm 256]
    · obtain rfl : i = wide := by omega
      simp
theorem getL_putL : ∀ (wide n : Nat), getL (putL n wide) = n % 256 ^ wide
  | 0, n => by simp [getL, putL, Nat.mod_one]
  | wide + 1, n => by
    rw [putL_succ, getL_snoc, getL_putL wide, Nat.pow_succ, Nat.mul_comm (256 ^ wide) 256, Nat.mod_mul]
    omega
theorem putL_getL {l : List Nat} (h : ∀ x ∈ l, x < 256) : putL (getL l) l.length = l := by
  revert h
  refine snocInd (p := fun l => (∀ x ∈ l, x < 256) → putL (getL l) l.length = l) (fun _ => by simp [putL]) (fun l c ih h => ?_) l
  have h1 := ih (fun x hx => h x (by simp [hx]))
  have h2 := h c (by simp)
  rw [getL_snoc, List.length_append, List.length_singleton, putL_succ, show (256 * getL l + c) / 256 = getL l by omega, show (256 * getL l + c) % 256 = c by omega, h1]
theorem putL_inj {n m wide : Nat} (h : putL n wide = putL m wide) (hn : n < 256 ^ wide) (hm : m < 256 ^ wide) : n = m := by
  have := congrArg getL h
  rwa [getL_putL, getL_putL, Nat.mod_eq_of_lt hn, Nat.mod_eq_of_lt hm] at this
theorem shl_or (n : Nat) {c : Nat} (hc : c < 256) : (256 * n) ||| c = 256 * n + c := by
  have h := Nat.shiftLeft_add_eq_or_of_lt (i := 8) hc n
  rw [Nat.shiftLeft_eq, show (2 : Nat) ^ 8 = 256 from rfl, Nat.mul_comm n 256] at h
  exact h.symm
end Go.Proofs.YtdopdaoapdeabaaDoor
