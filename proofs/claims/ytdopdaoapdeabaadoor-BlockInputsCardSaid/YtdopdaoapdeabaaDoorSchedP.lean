/- PLAIN: a key, spread. -/
import Derived.Test.YtdopdaoapdeabaaDoorAesP
namespace Go.Proofs.YtdopdaoapdeabaaDoor

/-- a round's number -/
def rc : Nat → Nat
  | 0 => 0
  | 1 => 1
  | n + 2 => gmul (rc (n + 1)) 2
theorem rc_lt : ∀ n, rc n < 256
  | 0 => by decide
  | 1 => by decide
  | n + 2 => gmul_lt 2 (rc_lt (n + 1))
theorem rc_succ {n : Nat} (h : 1 ≤ n) : rc (n + 1) = gmul (rc n) 2 := by
  obtain ⟨m, rfl⟩ : ∃ m, n = m + 1 := ⟨n - 1, by omega⟩
  rfl
/-- a word's byte, ahead of a row -/
def wordF (l : List Nat) (i j : Nat) : Nat := sbox.getD (l.getD (16 * i - 4 + (j + 1) % 4) 0) 0 ^^^ (if j = 0 then rc i else 0)
/-- the next byte -/
def kstep (l : List Nat) : Nat :=
  l.getD (l.length - 16) 0 ^^^ (if l.length % 16 < 4 then wordF l (l.length / 16) (l.length % 16) else l.getD (l.length - 4) 0)
def sched (key : List Nat) : Nat → List Nat
  | 0 => key
  | m + 1 => sched key m ++ [kstep (sched key m)]
theorem sched_length (key : List Nat) : ∀ m, (sched key m).length = key.length + m
  | 0 => rfl
  | m + 1 => by rw [sched, List.length_append, sched_length key m]; simp; omega
theorem wordF_lt {l : List Nat} (_h : ∀ x ∈ l, x < 256) (i j : Nat) : wordF l i j < 256 := by
  unfold wordF
  refine xor_lt_256 (getD_lt sbox_lt _) ?_
  split
  · exact rc_lt i
  · omega
theorem kstep_lt {l : List Nat} (h : ∀ x ∈ l, x < 256) : kstep l < 256 := by
  unfold kstep
  refine xor_lt_256 (getD_lt h _) ?_
  split
  · exact wordF_lt h _ _
  · exact getD_lt h _
theorem sched_lt {key : List Nat} (h : ∀ x ∈ key, x < 256) : ∀ m, ∀ x ∈ sched key m, x < 256
  | 0 => h
  | m + 1 => fun x hx => by
    rcases List.mem_append.1 hx with h' | h'
    · exact sched_lt h m x h'
    · rw [List.mem_singleton] at h'; rw [h']; exact kstep_lt (sched_lt h m)
/-- what stands stays -/
theorem sched_get {key : List Nat} {m n i : Nat} (hmn : m ≤ n) (hi : i < key.length + m) : (sched key n).getD i 0 = (sched key m).getD i 0 := by
  obtain ⟨d, rfl⟩ : ∃ d, n = m + d := ⟨n - m, by omega⟩
  clear hmn
  induction d with
  | zero => rfl
  | succ d ih =>
    rw [← ih, ← Nat.add_assoc, sched, List.getD_eq_getElem?_getD, List.getD_eq_getElem?_getD, List.getElem?_append_left (by rw [sched_length]; omega)]
theorem sched_at {key : List Nat} {m : Nat} : (sched key (m + 1)).getD (key.length + m) 0 = kstep (sched key m) := by
  rw [sched, List.getD_eq_getElem?_getD, List.getElem?_append_right (by rw [sched_length]; omega), sched_length]
  simp
/-- filled with noughts -/
def pad176 (l : List Nat) : List Nat := l ++ List.replicate (176 - l.length) 0
theorem pad176_length {l : List Nat} (h : l.length ≤ 176) : (pad176 l).length = 176 := by simp [pad176]; omega
theorem pad176_set {l : List Nat} (h : l.length < 176) (x : Nat) : (pad176 l).set l.length x = pad176 (l ++ [x]) := by
  obtain ⟨d, hd⟩ : ∃ d, 176 - l.length = d + 1 := ⟨176 - l.length - 1, by omega⟩
  unfold pad176
  rw [List.length_append, List.length_singleton, hd, show 176 - (l.length + 1) = d by omega, List.set_append_right _ _ (Nat.le_refl _), Nat.sub_self, List.replicate_succ, List.set_cons_zero, List.append_assoc]
  rfl
theorem pad176_get {l : List Nat} {i : Nat} (h : i < l.length) : (pad176 l).getD i 0 = l.getD i 0 := by
  rw [pad176, List.getD_eq_getElem?_getD, List.getElem?_append_left h, List.getD_eq_getElem?_getD]
theorem pad176_full {l : List Nat} (h : l.length = 176) : pad176 l = l := by simp [pad176, h]
/-- the spread key -/
def keysL (key : List Nat) : List Nat := sched key 160

/-- the word, within a row: behind k bytes of row i -/
def wordAt (l : List Nat) (i k j : Nat) : Nat := if j < k then l.getD (16 * i + (k - 1) - (k - 1 - j) % 4) 0 else wordF l i j
def wordL (l : List Nat) (i k : Nat) : List Nat := (List.range 4).map fun j => wordAt l i k j
theorem wordL_length (l : List Nat) (i k : Nat) : (wordL l i k).length = 4 := by simp [wordL]
theorem wordL_get {l : List Nat} {i k j : Nat} (hj : j < 4) : (wordL l i k).getD j 0 = wordAt l i k j := by simp [wordL, hj]
theorem wordAt_lt {l : List Nat} (h : ∀ x ∈ l, x < 256) (i k j : Nat) : wordAt l i k j < 256 := by
  unfold wordAt; split
  · exact getD_lt h _
  · exact wordF_lt h _ _
theorem wordF_more {l : List Nat} {x i j : Nat} (hi : 1 ≤ i) (hl : 16 * i ≤ l.length) : wordF (l ++ [x]) i j = wordF l i j := by
  unfold wordF
  rw [List.getD_eq_getElem?_getD (l := l ++ [x]), List.getElem?_append_left (by omega), ← List.getD_eq_getElem?_getD]
/-- one byte of a row more -/
theorem kstep_row {l : List Nat} {i k : Nat} (hi : 1 ≤ i) (hk : k < 16) (hl : l.length = 16 * i + k) : kstep l = wordAt l i k (k % 4) ^^^ l.getD (16 * (i - 1) + k) 0 := by
  unfold kstep
  rw [hl, show (16 * i + k) % 16 = k by omega, show (16 * i + k) / 16 = i by omega, show 16 * i + k - 16 = 16 * (i - 1) + k by omega, Nat.xor_comm]
  congr 1
  unfold wordAt
  by_cases h4 : k < 4
  · rw [if_pos h4, if_neg (by omega), show k % 4 = k by omega]
  · rw [if_neg h4, if_pos (by omega)]
    congr 1
    omega
theorem wordL_step {l : List Nat} {i k x : Nat} (hi : 1 ≤ i) (hk : k < 16) (hl : l.length = 16 * i + k) : (wordL l i k).set (k % 4) x = wordL (l ++ [x]) i (k + 1) := by
  apply List.ext_getElem?
  intro j
  by_cases hj : j < 4
  · rw [List.getElem?_set]
    simp only [wordL, List.length_map, List.length_range, List.getElem?_map, List.getElem?_range hj, Option.map_some]
    by_cases e : k % 4 = j
    · rw [if_pos e, if_pos (by omega)]
      congr 1
      unfold wordAt
      rw [if_pos (by omega), show 16 * i + (k + 1 - 1) - (k + 1 - 1 - j) % 4 = l.length by omega]
      simp
    · rw [if_neg e]
      congr 1
      unfold wordAt
      by_cases h1 : j < k
      · rw [if_pos h1, if_pos (by omega), List.getD_eq_getElem?_getD (l := l ++ [x]), List.getElem?_append_left (by omega), ← List.getD_eq_getElem?_getD]
        congr 1
        omega
      · rw [if_neg h1, if_neg (by omega), wordF_more hi (by omega)]
  · rw [List.getElem?_eq_none (by simp [wordL]; omega), List.getElem?_eq_none (by simp [wordL]; omega)]
theorem zeros_splice (key : List Nat) : (zeros 176).take 0 ++ key ++ (zeros 176).drop (0 + key.length) = pad176 (sched key 0) := by
  rw [List.take_zero, List.nil_append, zeros, List.drop_replicate, Nat.zero_add]; rfl
/-- the last word of a row, turned -/
def rotW (l : List Nat) (i : Nat) : List Nat := (List.range 4).map fun j => l.getD (16 * i - 4 + (j + 1) % 4) 0
theorem rotW_length (l : List Nat) (i : Nat) : (rotW l i).length = 4 := by simp [rotW]
theorem rotW_get {l : List Nat} {i j : Nat} (hj : j < 4) : (rotW l i).getD j 0 = l.getD (16 * i - 4 + (j + 1) % 4) 0 := by simp [rotW, hj]
theorem rotW_lt {l : List Nat} (h : ∀ x ∈ l, x < 256) (i : Nat) : ∀ x ∈ rotW l i, x < 256 := fun x hx => by
  simp only [rotW, List.mem_map] at hx
  obtain ⟨j, _, rfl⟩ := hx
  exact getD_lt h _
theorem rotW_eq {l : List Nat} {m : Nat} (hl : 16 * m + 16 ≤ l.length) : ((keyL l m).drop 12).drop 1 ++ ((keyL l m).drop 12).take 1 = rotW l (m + 1) := by
  have e : (keyL l m).drop 12 = [l.getD (16 * m + 12) 0, l.getD (16 * m + 12 + 1) 0, l.getD (16 * m + 12 + 2) 0, l.getD (16 * m + 12 + 3) 0] := by
    rw [← take4 (by omega), keyL, List.drop_take, List.drop_drop]
  rw [e, rotW, show (List.range 4) = [0, 1, 2, 3] from rfl]
  simp only [List.map_cons, List.map_nil, List.drop_succ_cons, List.drop_zero, List.take_succ_cons, List.take_zero, List.cons_append, List.nil_append]
  rw [show 16 * (m + 1) - 4 + (0 + 1) % 4 = 16 * m + 12 + 1 by omega, show 16 * (m + 1) - 4 + (1 + 1) % 4 = 16 * m + 12 + 2 by omega, show 16 * (m + 1) - 4 + (2 + 1) % 4 = 16 * m + 12 + 3 by omega, show 16 * (m + 1) - 4 + (3 + 1) % 4 = 16 * m + 12 by omega]
def boxW (l : List Nat) (i j : Nat) : Nat := sbox.getD ((rotW l i).getD j 0) 0
theorem ext_getD {l m : List Nat} (hl : l.length = m.length) (h : ∀ i, i < l.length → l.getD i 0 = m.getD i 0) : l = m := by
  apply List.ext_getElem hl
  intro i h1 h2
  have := h i h1
  simpa [h1, h2] using this
theorem set_getD {l : List Nat} {i j v : Nat} (hi : i < l.length) : (l.set i v).getD j 0 = if i = j then v else l.getD j 0 := by
  rw [List.getD_eq_getElem?_getD, List.getElem?_set, List.getD_eq_getElem?_getD]
  by_cases e : i = j
  · rw [if_pos e, if_pos e, if_pos hi]; rfl
  · rw [if_neg e, if_neg e]
theorem wordL_zero (l : List Nat) (i : Nat) : (upd (boxW l i) (rotW l i) 4).set 0 ((upd (boxW l i) (rotW l i) 4).getD 0 0 ^^^ rc i) = wordL l i 0 := by
  have hlen : (upd (boxW l i) (rotW l i) 4).length = 4 := by rw [upd_length, rotW_length]
  refine ext_getD (by rw [List.length_set, hlen, wordL_length]) fun j hj => ?_
  rw [List.length_set, hlen] at hj
  have hg : ∀ j, j < 4 → (upd (boxW l i) (rotW l i) 4).getD j 0 = sbox.getD (l.getD (16 * i - 4 + (j + 1) % 4) 0) 0 := fun j hj => by
    rw [upd_get (by rw [rotW_length]; exact hj), if_pos hj]
    unfold boxW
    rw [rotW_get hj]
  rw [set_getD (by omega), wordL_get hj, hg 0 (by omega)]
  unfold wordAt wordF
  rw [if_neg (show ¬ j < 0 by omega)]
  by_cases e : 0 = j
  · subst e; rw [if_pos rfl, if_pos rfl]
  · rw [if_neg e, hg j hj, if_neg (show ¬ j = 0 by omega), Nat.xor_zero]
theorem keyL_get {l : List Nat} {m k : Nat} (hk : k < 16) : (keyL l m).getD k 0 = l.getD (16 * m + k) 0 := by
  simp [keyL, hk]
end Go.Proofs.YtdopdaoapdeabaaDoor
