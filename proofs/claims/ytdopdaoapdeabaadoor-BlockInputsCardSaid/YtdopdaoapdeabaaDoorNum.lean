/- PLAIN: bytes as a number, the greatest first; so much more. -/
namespace Go.Proofs.YtdopdaoapdeabaaDoor

/-- so much more: bytes from the last on -/
def nextUp : Nat → List Nat → Nat → List Nat
  | 0, l, _ => l
  | k + 1, l, c => nextUp k (l.set k ((c + l.getD k 0) % 256)) ((c + l.getD k 0) / 256)

theorem mem_set_lt {l : List Nat} {i v : Nat} (h : ∀ x ∈ l, x < 256) (hv : v < 256) : ∀ x ∈ l.set i v, x < 256 := by
  intro x hx
  rcases List.mem_or_eq_of_mem_set hx with h' | h'
  · exact h x h'
  · omega
theorem getD_lt {l : List Nat} (h : ∀ x ∈ l, x < 256) (i : Nat) : l.getD i 0 < 256 := by
  rw [List.getD_eq_getElem?_getD]
  cases e : l[i]? with
  | none => simp
  | some x => exact h x (List.mem_of_getElem? e)

theorem nextUp_length : ∀ (k : Nat) (l : List Nat) (c : Nat), (nextUp k l c).length = l.length
  | 0, _, _ => rfl
  | k + 1, l, c => by rw [nextUp, nextUp_length k, List.length_set]
theorem nextUp_lt : ∀ (k : Nat) (l : List Nat) (c : Nat), (∀ x ∈ l, x < 256) → ∀ x ∈ nextUp k l c, x < 256
  | 0, _, _, h => h
  | k + 1, l, c, h => by rw [nextUp]; exact nextUp_lt k _ _ (mem_set_lt h (Nat.mod_lt _ (by omega)))

/-- as a number -/
def num (l : List Nat) : Nat := l.foldl (fun n x => n * 256 + x) 0
theorem num_snoc (l : List Nat) (x : Nat) : num (l ++ [x]) = num l * 256 + x := by simp [num]
theorem num_lt : ∀ (n : Nat) (l : List Nat), l.length = n → (∀ x ∈ l, x < 256) → num l < 256 ^ n
  | 0, l, hl, _ => by
    have : l = [] := List.eq_nil_of_length_eq_zero hl
    subst this; simp [num]
  | n + 1, l, hl, h => by
    have hne : l ≠ [] := by intro e; subst e; simp at hl
    have e := List.dropLast_concat_getLast hne
    have h1 := num_lt n l.dropLast (by simp [hl]) (fun x hx => h x ((List.dropLast_sublist _).subset hx))
    have h2 := h _ (List.getLast_mem hne)
    rw [← e, num_snoc, Nat.pow_succ]
    omega
theorem num_inj : ∀ (n : Nat) (l m : List Nat), l.length = n → m.length = n → (∀ x ∈ l, x < 256) → (∀ x ∈ m, x < 256) → num l = num m → l = m
  | 0, l, m, hl, hm, _, _, _ => by
    rw [List.eq_nil_of_length_eq_zero hl, List.eq_nil_of_length_eq_zero hm]
  | n + 1, l, m, hl, hm, h, h', e => by
    have hne : l ≠ [] := by intro e; subst e; simp at hl
    have hme : m ≠ [] := by intro e; subst e; simp at hm
    have el := List.dropLast_concat_getLast hne
    have em := List.dropLast_concat_getLast hme
    have h2 := h _ (List.getLast_mem hne)
    have h3 := h' _ (List.getLast_mem hme)
    rw [← el, ← em, num_snoc, num_snoc] at e
    have h4 := num_inj n l.dropLast m.dropLast (by simp [hl]) (by simp [hm]) (fun x hx => h x ((List.dropLast_sublist _).subset hx)) (fun x hx => h' x ((List.dropLast_sublist _).subset hx)) (by omega)
    have h5 : l.getLast hne = m.getLast hme := by omega
    rw [← el, ← em, h4, h5]

theorem nextUp_drop : ∀ (k : Nat) (l : List Nat) (c : Nat), k ≤ l.length → (nextUp k l c).drop k = l.drop k
  | 0, _, _, _ => rfl
  | k + 1, l, c, hk => by
    have h1 := nextUp_drop k (l.set k ((c + l.getD k 0) % 256)) ((c + l.getD k 0) / 256) (by rw [List.length_set]; omega)
    rw [nextUp]
    have h2 := congrArg (List.drop 1) h1
    rw [List.drop_drop, List.drop_drop, Nat.add_comm, List.drop_set_of_lt (by omega)] at h2
    rw [Nat.add_comm k 1]
    exact h2
theorem nextUp_num : ∀ (k : Nat) (l : List Nat) (c : Nat), k ≤ l.length → num ((nextUp k l c).take k) = (num (l.take k) + c) % 256 ^ k
  | 0, _, _, _ => by simp [num, Nat.mod_one]
  | k + 1, l, c, hk => by
    have hx : (l.getD k 0) = l[k] := by simp [List.getElem?_eq_getElem (show k < l.length by omega)]
    have hlen : (l.set k ((c + l.getD k 0) % 256)).length = l.length := List.length_set
    have h1 := nextUp_num k (l.set k ((c + l.getD k 0) % 256)) ((c + l.getD k 0) / 256) (by omega)
    have h3 := nextUp_drop k (l.set k ((c + l.getD k 0) % 256)) ((c + l.getD k 0) / 256) (by omega)
    have hn := nextUp_length k (l.set k ((c + l.getD k 0) % 256)) ((c + l.getD k 0) / 256)
    rw [List.take_set_of_le (Nat.le_refl k)] at h1
    rw [nextUp]
    generalize hr : nextUp k (l.set k ((c + l.getD k 0) % 256)) ((c + l.getD k 0) / 256) = r at h1 h3 hn
    have e1 : r.take (k + 1) = r.take k ++ [(c + l.getD k 0) % 256] := by
      have hrk : r[k]? = some ((c + l.getD k 0) % 256) := by
        have := congrArg (fun x => x[0]?) h3
        simpa [List.getElem?_drop, show k < l.length by omega] using this
      rw [List.take_add_one, hrk]; rfl
    have e2 : l.take (k + 1) = l.take k ++ [l.getD k 0] := by
      rw [List.take_add_one, hx, List.getElem?_eq_getElem (show k < l.length by omega)]; rfl
    rw [e1, e2, num_snoc, num_snoc, h1, Nat.pow_succ]
    generalize num (l.take k) = a
    generalize l.getD k 0 = x
    generalize 256 ^ k = m
    have e3 : a * 256 + x + c = (a + (c + x) / 256) * 256 + (c + x) % 256 := by omega
    rw [e3, Nat.mul_comm m 256, Nat.mod_mul]
    have e4 : ((a + (c + x) / 256) * 256 + (c + x) % 256) % 256 = (c + x) % 256 := by omega
    have e5 : ((a + (c + x) / 256) * 256 + (c + x) % 256) / 256 = a + (c + x) / 256 := by omega
    rw [e4, e5, Nat.add_comm, Nat.mul_comm]

/-- so much more than a place -/
def nextL (l : List Nat) (c : Nat) : List Nat := nextUp 16 l c
theorem nextL_length {l : List Nat} (c : Nat) (hl : l.length = 16) : (nextL l c).length = 16 := by rw [nextL, nextUp_length, hl]
theorem nextL_lt {l : List Nat} (c : Nat) (h : ∀ x ∈ l, x < 256) : ∀ x ∈ nextL l c, x < 256 := nextUp_lt 16 l c h
theorem nextL_num {l : List Nat} (c : Nat) (hl : l.length = 16) : num (nextL l c) = (num l + c) % 256 ^ 16 := by
  have h := nextUp_num 16 l c (by omega)
  rwa [List.take_of_length_le (by rw [nextUp_length]; omega), List.take_of_length_le (by omega)] at h
theorem nextL_add {l : List Nat} (a b : Nat) (hl : l.length = 16) (h : ∀ x ∈ l, x < 256) : nextL (nextL l a) b = nextL l (a + b) := by
  refine num_inj 16 _ _ (nextL_length _ (nextL_length _ hl)) (nextL_length _ hl) (nextL_lt _ (nextL_lt _ h)) (nextL_lt _ h) ?_
  rw [nextL_num _ (nextL_length _ hl), nextL_num _ hl, nextL_num _ hl]
  omega
theorem nextL_zero {l : List Nat} (hl : l.length = 16) (h : ∀ x ∈ l, x < 256) : nextL l 0 = l := by
  refine num_inj 16 _ _ (nextL_length _ hl) hl (nextL_lt _ h) h ?_
  have := num_lt 16 l hl h
  rw [nextL_num _ hl]
  omega
theorem nextL_eq {l : List Nat} (a b : Nat) (hl : l.length = 16) (ha : a < 256 ^ 16) (hb : b < 256 ^ 16) (e : nextL l a = nextL l b) : a = b := by
  have h := congrArg num e
  rw [nextL_num _ hl, nextL_num _ hl] at h
  omega

end Go.Proofs.YtdopdaoapdeabaaDoor
