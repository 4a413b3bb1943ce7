/- PLAIN: the cipher on lists of bytes. -/
import Derived.Test.YtdopdaoapdeabaaDoorNum
import Derived.Test.YtdopdaoapdeabaaDoorLayW
namespace Go.Proofs.YtdopdaoapdeabaaDoor

/-- the first n are new -/
def upd (f : Nat → Nat) (l : List Nat) (n : Nat) : List Nat := (List.range l.length).map fun i => if i < n then f i else l.getD i 0
theorem upd_length (f : Nat → Nat) (l : List Nat) (n : Nat) : (upd f l n).length = l.length := by simp [upd]
theorem upd_get {f : Nat → Nat} {l : List Nat} {n i : Nat} (hi : i < l.length) : (upd f l n).getD i 0 = if i < n then f i else l.getD i 0 := by
  simp [upd, hi]
theorem upd_zero (f : Nat → Nat) (l : List Nat) : upd f l 0 = l := by
  apply List.ext_getElem?
  intro i
  by_cases hi : i < l.length
  · simp [upd, hi]
  · rw [List.getElem?_eq_none (by simp [upd]; omega), List.getElem?_eq_none (by omega)]
theorem upd_set {f : Nat → Nat} {l : List Nat} {n : Nat} (hn : n < l.length) : (upd f l n).set n (f n) = upd f l (n + 1) := by
  apply List.ext_getElem?
  intro i
  by_cases hi : i < l.length
  · rw [List.getElem?_set]
    simp only [upd, List.length_map, List.length_range, List.getElem?_map, List.getElem?_range hi]
    by_cases e : n = i
    · subst e; simp [hn]
    · simp only [e, if_false, Option.map_some]
      congr 1
      by_cases h1 : i < n
      · simp [h1, show i < n + 1 by omega]
      · simp [h1, show ¬ i < n + 1 by omega]
  · rw [List.getElem?_eq_none (by simp [upd]; omega), List.getElem?_eq_none (by simp [upd]; omega)]
theorem upd_lt {f : Nat → Nat} {l : List Nat} {n : Nat} (hf : ∀ i, i < l.length → f i < 256) (hl : ∀ x ∈ l, x < 256) : ∀ x ∈ upd f l n, x < 256 := by
  intro x hx
  simp only [upd, List.mem_map, List.mem_range] at hx
  obtain ⟨i, hi, rfl⟩ := hx
  split
  · exact hf i hi
  · exact getD_lt hl i

/-- a round's key -/
def keyL (ks : List Nat) (r : Nat) : List Nat := (ks.drop (16 * r)).take 16
theorem keyL_length {ks : List Nat} {r : Nat} (h : 16 * r + 16 ≤ ks.length) : (keyL ks r).length = 16 := by simp [keyL]; omega
theorem keyL_lt {ks : List Nat} (r : Nat) (h : ∀ x ∈ ks, x < 256) : ∀ x ∈ keyL ks r, x < 256 := fun x hx => h x (List.mem_of_mem_drop (List.mem_of_mem_take hx))
def addF (l k : List Nat) (i : Nat) : Nat := l.getD i 0 ^^^ k.getD i 0
def addL (l k : List Nat) : List Nat := upd (addF l k) l 16
def shiftF (l : List Nat) (i : Nat) : Nat := sbox.getD (l.getD ((i + 4 * (i % 4)) % 16) 0) 0
def shiftL (l : List Nat) : List Nat := upd (shiftF l) l 16
def mixF (l : List Nat) (i : Nat) : Nat :=
  gmul (l.getD (i / 4 * 4 + i % 4) 0) 2 ^^^ gmul (l.getD (i / 4 * 4 + (i + 1) % 4) 0) 3 ^^^ l.getD (i / 4 * 4 + (i + 2) % 4) 0 ^^^ l.getD (i / 4 * 4 + (i + 3) % 4) 0
def mixL (l : List Nat) : List Nat := upd (mixF l) l 16
theorem addL_length (l k : List Nat) : (addL l k).length = l.length := upd_length _ _ _
theorem shiftL_length (l : List Nat) : (shiftL l).length = l.length := upd_length _ _ _
theorem mixL_length (l : List Nat) : (mixL l).length = l.length := upd_length _ _ _
theorem sbox_lt : ∀ x ∈ sbox, x < 256 := by decide +kernel
theorem addL_lt {l k : List Nat} (hl : ∀ x ∈ l, x < 256) (hk : ∀ x ∈ k, x < 256) : ∀ x ∈ addL l k, x < 256 := upd_lt (fun i _ => xor_lt_256 (getD_lt hl i) (getD_lt hk i)) hl
theorem shiftL_lt {l : List Nat} (hl : ∀ x ∈ l, x < 256) : ∀ x ∈ shiftL l, x < 256 := upd_lt (fun _ _ => getD_lt sbox_lt _) hl
theorem mixF_lt {l : List Nat} (hl : ∀ x ∈ l, x < 256) (i : Nat) : mixF l i < 256 :=
  xor_lt_256 (xor_lt_256 (xor_lt_256 (gmul_lt 2 (getD_lt hl _)) (gmul_lt 3 (getD_lt hl _))) (getD_lt hl _)) (getD_lt hl _)
theorem mixL_lt {l : List Nat} (hl : ∀ x ∈ l, x < 256) : ∀ x ∈ mixL l, x < 256 := upd_lt (fun i _ => mixF_lt hl i) hl
/-- a round but the last -/
def roundL (ks l : List Nat) (r : Nat) : List Nat := addL (mixL (shiftL l)) (keyL ks r)
def roundsL (ks l : List Nat) : Nat → List Nat
  | 0 => addL l (keyL ks 0)
  | r + 1 => roundL ks (roundsL ks l r) (r + 1)
/-- a block, enciphered -/
def blockL (ks l : List Nat) : List Nat := addL (shiftL (roundsL ks l 9)) (keyL ks 10)
theorem roundsL_length (ks l : List Nat) : ∀ r, (roundsL ks l r).length = l.length
  | 0 => addL_length _ _
  | r + 1 => by rw [roundsL, roundL, addL_length, mixL_length, shiftL_length, roundsL_length ks l r]
theorem roundsL_lt {ks l : List Nat} (hk : ∀ x ∈ ks, x < 256) (hl : ∀ x ∈ l, x < 256) : ∀ r, ∀ x ∈ roundsL ks l r, x < 256
  | 0 => addL_lt hl (keyL_lt 0 hk)
  | r + 1 => addL_lt (mixL_lt (shiftL_lt (roundsL_lt hk hl r))) (keyL_lt (r + 1) hk)
theorem blockL_length (ks l : List Nat) : (blockL ks l).length = l.length := by rw [blockL, addL_length, shiftL_length, roundsL_length]
theorem blockL_lt {ks l : List Nat} (hk : ∀ x ∈ ks, x < 256) (hl : ∀ x ∈ l, x < 256) : ∀ x ∈ blockL ks l, x < 256 := addL_lt (shiftL_lt (roundsL_lt hk hl 9)) (keyL_lt 10 hk)
theorem take4 {l : List Nat} {p : Nat} (h : p + 4 ≤ l.length) : (l.drop p).take 4 = [l.getD p 0, l.getD (p + 1) 0, l.getD (p + 2) 0, l.getD (p + 3) 0] := by
  apply List.ext_getElem?
  intro i
  have hi : i = 0 ∨ i = 1 ∨ i = 2 ∨ i = 3 ∨ 4 ≤ i := by omega
  rcases hi with rfl | rfl | rfl | rfl | hi
  · simp [show p < l.length by omega]
  · simp [show p + 1 < l.length by omega]
  · simp [show p + 2 < l.length by omega]
  · simp [show p + 3 < l.length by omega]
  · rw [List.getElem?_eq_none (by simp; omega), List.getElem?_eq_none (by simpa using hi)]
/-- a column, turned -/
def rot4 (l : List Nat) (p k : Nat) : List Nat := ((l.drop p).take 4).drop k ++ ((l.drop p).take 4).take k
theorem mix_rot {l : List Nat} {c k : Nat} (hk : k < 4) (h : 4 * c + 4 ≤ l.length) :
    mixF l (4 * c + k) = gmul ((rot4 l (4 * c) k).getD 0 0) 2 ^^^ gmul ((rot4 l (4 * c) k).getD 1 0) 3 ^^^ (rot4 l (4 * c) k).getD 2 0 ^^^ (rot4 l (4 * c) k).getD 3 0 := by
  have hk' : k = 0 ∨ k = 1 ∨ k = 2 ∨ k = 3 := by omega
  unfold rot4 mixF
  rw [take4 h]
  rcases hk' with rfl | rfl | rfl | rfl
  · rw [show (4 * c + 0) / 4 * 4 + (4 * c + 0) % 4 = 4 * c by omega, show (4 * c + 0) / 4 * 4 + (4 * c + 0 + 1) % 4 = 4 * c + 1 by omega, show (4 * c + 0) / 4 * 4 + (4 * c + 0 + 2) % 4 = 4 * c + 2 by omega, show (4 * c + 0) / 4 * 4 + (4 * c + 0 + 3) % 4 = 4 * c + 3 by omega]; rfl
  · rw [show (4 * c + 1) / 4 * 4 + (4 * c + 1) % 4 = 4 * c + 1 by omega, show (4 * c + 1) / 4 * 4 + (4 * c + 1 + 1) % 4 = 4 * c + 2 by omega, show (4 * c + 1) / 4 * 4 + (4 * c + 1 + 2) % 4 = 4 * c + 3 by omega, show (4 * c + 1) / 4 * 4 + (4 * c + 1 + 3) % 4 = 4 * c by omega]; rfl
  · rw [show (4 * c + 2) / 4 * 4 + (4 * c + 2) % 4 = 4 * c + 2 by omega, show (4 * c + 2) / 4 * 4 + (4 * c + 2 + 1) % 4 = 4 * c + 3 by omega, show (4 * c + 2) / 4 * 4 + (4 * c + 2 + 2) % 4 = 4 * c by omega, show (4 * c + 2) / 4 * 4 + (4 * c + 2 + 3) % 4 = 4 * c + 1 by omega]; rfl
  · rw [show (4 * c + 3) / 4 * 4 + (4 * c + 3) % 4 = 4 * c + 3 by omega, show (4 * c + 3) / 4 * 4 + (4 * c + 3 + 1) % 4 = 4 * c by omega, show (4 * c + 3) / 4 * 4 + (4 * c + 3 + 2) % 4 = 4 * c + 1 by omega, show (4 * c + 3) / 4 * 4 + (4 * c + 3 + 3) % 4 = 4 * c + 2 by omega]; rfl
theorem rot4_length {l : List Nat} {p k : Nat} (hk : k < 4) (h : p + 4 ≤ l.length) : (rot4 l p k).length = 4 := by
  unfold rot4; rw [take4 h]; simp; omega
theorem rot4_lt {l : List Nat} (p k : Nat) (h : ∀ x ∈ l, x < 256) : ∀ x ∈ rot4 l p k, x < 256 := fun x hx => by
  rcases List.mem_append.1 hx with h' | h'
  · exact h x (List.mem_of_mem_drop (List.mem_of_mem_take (List.mem_of_mem_drop h')))
  · exact h x (List.mem_of_mem_drop (List.mem_of_mem_take (List.mem_of_mem_take h')))
end Go.Proofs.YtdopdaoapdeabaaDoor
