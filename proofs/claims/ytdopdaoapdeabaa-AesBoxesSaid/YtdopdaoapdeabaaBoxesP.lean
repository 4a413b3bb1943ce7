/- PLAIN: the box and the cipher are one to one; counts. -/
import Derived.Test.YtdopdaoapdeabaaSchedP
namespace Go.Proofs.Ytdopdaoapdeabaa

/-- how many below n are such -/
def cntN (p : Nat → Bool) : Nat → Nat
  | 0 => 0
  | n + 1 => cntN p n + if p n then 1 else 0
theorem cntN_one {p : Nat → Bool} {v : Nat} (h : ∀ n, n < 256 → (p n = true ↔ n = v)) : ∀ n, n ≤ 256 → cntN p n = if v < n then 1 else 0
  | 0, _ => by simp [cntN]
  | n + 1, hn => by
    rw [cntN, cntN_one h n (by omega)]
    have := h n (by omega)
    by_cases e : n = v
    · have hp : p n = true := this.2 e
      rw [if_pos hp, if_neg (by omega), if_pos (by omega)]
    · have hp : ¬ p n = true := fun hh => e (this.1 hh)
      rw [if_neg hp]
      by_cases h1 : v < n
      · rw [if_pos h1, if_pos (by omega)]
      · rw [if_neg h1, if_neg (by omega)]
theorem cntN_none {p : Nat → Bool} (h : ∀ n, p n = false) : ∀ n, cntN p n = 0
  | 0 => rfl
  | n + 1 => by rw [cntN, cntN_none h n, h n]; rfl
theorem cntN_le (p : Nat → Bool) : ∀ n, cntN p n ≤ n
  | 0 => Nat.le_refl 0
  | n + 1 => by rw [cntN]; have := cntN_le p n; split <;> omega

/-- how many bytes below n make 1 with i -/
def onesN (i n : Nat) : Nat := cntN (fun j => gmul i j == 1) n
theorem onesN_all {i : Nat} (hi : i < 256) : onesN i 256 = min i 1 := by
  by_cases h0 : i = 0
  · subst h0
    rw [onesN]
    have : ∀ n, n ≤ 256 → cntN (fun j => gmul 0 j == 1) n = 0 := by
      intro n hn
      induction n with
      | zero => rfl
      | succ n ih =>
        rw [cntN, ih (by omega), gmul_comm (by omega) (by omega), gmul_zero]
        rfl
    rw [this 256 (Nat.le_refl _)]
    rfl
  · have hv := ginv_lt hi
    have hm := ginv_mul hi h0
    rw [onesN, cntN_one (v := ginv i) (fun n hn => ?_) 256 (Nat.le_refl _), if_pos hv]
    · omega
    · rw [beq_iff_eq]
      constructor
      · intro h
        rw [gmul_comm hv hi] at hm
        exact gmul_cancel hi hn hv h0 (by rw [h, hm])
      · rintro rfl
        rw [gmul_comm hi hv]; exact hm

/-- the box, back -/
def isbox : List Nat := [82, 9, 106, 213, 48, 54, 165, 56, 191, 64, 163, 158, 129, 243, 215, 251, 124, 227, 57, 130, 155, 47, 255, 135, 52, 142, 67, 68, 196, 222, 233, 203, 84, 123, 148, 50, 166, 194, 35, 61, 238, 76, 149, 11, 66, 250, 195, 78, 8, 46, 161, 102, 40, 217, 36, 178, 118, 91, 162, 73, 109, 139, 209, 37, 114, 248, 246, 100, 134, 104, 152, 22, 212, 164, 92, 204, 93, 101, 182, 146, 108, 112, 72, 80, 253, 237, 185, 218, 94, 21, 70, 87, 167, 141, 157, 132, 144, 216, 171, 0, 140, 188, 211, 10, 247, 228, 88, 5, 184, 179, 69, 6, 208, 44, 30, 143, 202, 63, 15, 2, 193, 175, 189, 3, 1, 19, 138, 107, 58, 145, 17, 65, 79, 103, 220, 234, 151, 242, 207, 206, 240, 180, 230, 115, 150, 172, 116, 34, 231, 173, 53, 133, 226, 249, 55, 232, 28, 117, 223, 110, 71, 241, 26, 113, 29, 41, 197, 137, 111, 183, 98, 14, 170, 24, 190, 27, 252, 86, 62, 75, 198, 210, 121, 32, 154, 219, 192, 254, 120, 205, 90, 244, 31, 221, 168, 51, 136, 7, 199, 49, 177, 18, 16, 89, 39, 128, 236, 95, 96, 81, 127, 169, 25, 181, 74, 13, 45, 229, 122, 159, 147, 201, 156, 239, 160, 224, 59, 77, 174, 42, 245, 176, 200, 235, 187, 60, 131, 83, 153, 97, 23, 43, 4, 126, 186, 119, 214, 38, 225, 105, 20, 99, 85, 33, 12, 125]
theorem isbox_box : ∀ a < 256, isbox.getD (sbox.getD a 0) 0 = a := by decide +kernel
theorem box_isbox : ∀ a < 256, sbox.getD (isbox.getD a 0) 0 = a ∧ isbox.getD a 0 < 256 := by decide +kernel
theorem box_inj {a b : Nat} (ha : a < 256) (hb : b < 256) (h : sbox.getD a 0 = sbox.getD b 0) : a = b := by
  rw [← isbox_box a ha, ← isbox_box b hb, h]

/-- how often each box has been seen -/
def seenL (i : Nat) : List Nat := (List.range 256).map fun k => cntN (fun a => sbox.getD a 0 == k) i
theorem seenL_length (i : Nat) : (seenL i).length = 256 := by simp [seenL]
theorem seenL_get {i k : Nat} (hk : k < 256) : (seenL i).getD k 0 = cntN (fun a => sbox.getD a 0 == k) i := by simp [seenL, hk]
theorem seenL_zero : seenL 0 = zeros 256 := by decide +kernel
theorem getD_set_self {l : List Nat} {q v : Nat} (h : q < l.length) : (l.set q v).getD q 0 = v := by simp [h]
theorem getD_set_ne {l : List Nat} {q k v : Nat} (h : q ≠ k) : (l.set q v).getD k 0 = l.getD k 0 := by simp [h]
theorem seenL_set (i q : Nat) (hq : sbox.getD i 0 = q) : (seenL i).set q (cntN (fun a => sbox.getD a 0 == q) i + 1) = seenL (i + 1) := by
  have hb : q < 256 := by rw [← hq]; exact getD_lt sbox_lt i
  apply ext_getD
  · rw [List.length_set, seenL_length, seenL_length]
  · intro k hk
    rw [List.length_set, seenL_length] at hk
    rw [seenL_get hk, cntN]
    by_cases e : q = k
    · subst e
      rw [getD_set_self (by rw [seenL_length]; exact hb), hq, if_pos (by simp)]
    · rw [getD_set_ne e, seenL_get hk, hq, if_neg (by simp [e])]
      rfl
theorem seenL_all {k : Nat} (hk : k < 256) : (seenL 256).getD k 0 = 1 := by
  rw [seenL_get hk, cntN_one (v := isbox.getD k 0) (fun n hn => ?_) 256 (Nat.le_refl _), if_pos (box_isbox k hk).2]
  rw [beq_iff_eq]
  constructor
  · rintro rfl; exact (isbox_box n hn).symm
  · rintro rfl; exact (box_isbox k hk).1

theorem xor_cancel {a b c : Nat} (h : a ^^^ c = b ^^^ c) : a = b := by
  have := congrArg (· ^^^ c) h
  simpa [Nat.xor_assoc] using this
theorem upd_full {f : Nat → Nat} {l : List Nat} (hl : l.length = 16) {i : Nat} (hi : i < 16) : (upd f l 16).getD i 0 = f i := by
  rw [upd_get (by omega), if_pos hi]
theorem addL_inj {l m k : List Nat} (hl : l.length = 16) (hm : m.length = 16) (h : addL l k = addL m k) : l = m := by
  apply ext_getD (by omega)
  intro i hi
  have := congrArg (·.getD i 0) h
  simp only [addL] at this
  rw [upd_full hl (by omega), upd_full hm (by omega)] at this
  exact xor_cancel this
theorem shiftL_inj {l m : List Nat} (hl : l.length = 16) (hm : m.length = 16) (hl' : ∀ x ∈ l, x < 256) (hm' : ∀ x ∈ m, x < 256) (h : shiftL l = shiftL m) : l = m := by
  apply ext_getD (by omega)
  intro i hi
  have key : ∀ i < 16, ((i + 12 * (i % 4)) % 16 < 16) ∧ ((i + 12 * (i % 4)) % 16 + 4 * ((i + 12 * (i % 4)) % 16 % 4)) % 16 = i := by decide
  obtain ⟨h1, h2⟩ := key i (by omega)
  have := congrArg (·.getD ((i + 12 * (i % 4)) % 16) 0) h
  simp only [shiftL] at this
  rw [upd_full hl h1, upd_full hm h1, shiftF, shiftF, h2] at this
  exact box_inj (getD_lt hl' i) (getD_lt hm' i) this
theorem unmix {a b c d : Nat} (ha : a < 256) (hb : b < 256) (hc : c < 256) (hd : d < 256) :
    gmul 14 (gmul a 2 ^^^ gmul b 3 ^^^ c ^^^ d) ^^^ gmul 11 (gmul b 2 ^^^ gmul c 3 ^^^ d ^^^ a) ^^^ gmul 13 (gmul c 2 ^^^ gmul d 3 ^^^ a ^^^ b) ^^^ gmul 9 (gmul d 2 ^^^ gmul a 3 ^^^ b ^^^ c) = a := by
  have e : ∀ x y z, x < 256 → y < 256 → z < 256 → gmul x (gmul z y) = gmul (gmul x y) z := fun x y z hx hy hz => by rw [gmul_comm hz hy, gmul_assoc hx hy hz]
  simp only [gmul_right]
  rw [e 14 2 a (by omega) (by omega) ha, e 14 3 b (by omega) (by omega) hb, e 11 2 b (by omega) (by omega) hb, e 11 3 c (by omega) (by omega) hc,
    e 13 2 c (by omega) (by omega) hc, e 13 3 d (by omega) (by omega) hd, e 9 2 d (by omega) (by omega) hd, e 9 3 a (by omega) (by omega) ha]
  have ka : gmul (gmul 14 2) a ^^^ gmul 11 a ^^^ gmul 13 a ^^^ gmul (gmul 9 3) a = a := by
    rw [← gmul_left _ (by decide) (by decide), ← gmul_left _ (by decide) (by decide), ← gmul_left _ (by decide) (by decide), show gmul 14 2 ^^^ 11 ^^^ 13 ^^^ gmul 9 3 = 1 by decide, gmul_comm (by omega) ha, gmul_one ha]
  have kb : gmul (gmul 14 3) b ^^^ gmul (gmul 11 2) b ^^^ gmul 13 b ^^^ gmul 9 b = 0 := by
    rw [← gmul_left _ (by decide) (by decide), ← gmul_left _ (by decide) (by decide), ← gmul_left _ (by decide) (by decide), show gmul 14 3 ^^^ gmul 11 2 ^^^ 13 ^^^ 9 = 0 by decide, gmul_comm (by omega) hb, gmul_zero]
  have kc : gmul 14 c ^^^ gmul (gmul 11 3) c ^^^ gmul (gmul 13 2) c ^^^ gmul 9 c = 0 := by
    rw [← gmul_left _ (by decide) (by decide), ← gmul_left _ (by decide) (by decide), ← gmul_left _ (by decide) (by decide), show 14 ^^^ gmul 11 3 ^^^ gmul 13 2 ^^^ 9 = 0 by decide, gmul_comm (by omega) hc, gmul_zero]
  have kd : gmul 14 d ^^^ gmul 11 d ^^^ gmul (gmul 13 3) d ^^^ gmul (gmul 9 2) d = 0 := by
    rw [← gmul_left _ (by decide) (by decide), ← gmul_left _ (by decide) (by decide), ← gmul_left _ (by decide) (by decide), show 14 ^^^ 11 ^^^ gmul 13 3 ^^^ gmul 9 2 = 0 by decide, gmul_comm (by omega) hd, gmul_zero]
  have es : gmul (gmul 14 2) a ^^^ gmul (gmul 14 3) b ^^^ gmul 14 c ^^^ gmul 14 d ^^^ (gmul (gmul 11 2) b ^^^ gmul (gmul 11 3) c ^^^ gmul 11 d ^^^ gmul 11 a) ^^^ (gmul (gmul 13 2) c ^^^ gmul (gmul 13 3) d ^^^ gmul 13 a ^^^ gmul 13 b) ^^^ (gmul (gmul 9 2) d ^^^ gmul (gmul 9 3) a ^^^ gmul 9 b ^^^ gmul 9 c) =
      (gmul (gmul 14 2) a ^^^ gmul 11 a ^^^ gmul 13 a ^^^ gmul (gmul 9 3) a) ^^^ (gmul (gmul 14 3) b ^^^ gmul (gmul 11 2) b ^^^ gmul 13 b ^^^ gmul 9 b) ^^^ (gmul 14 c ^^^ gmul (gmul 11 3) c ^^^ gmul (gmul 13 2) c ^^^ gmul 9 c) ^^^ (gmul 14 d ^^^ gmul 11 d ^^^ gmul (gmul 13 3) d ^^^ gmul (gmul 9 2) d) := by ac_rfl
  rw [es, ka, kb, kc, kd]
  simp
theorem mixL_inj {l m : List Nat} (hl : l.length = 16) (hm : m.length = 16) (hl' : ∀ x ∈ l, x < 256) (hm' : ∀ x ∈ m, x < 256) (h : mixL l = mixL m) : l = m := by
  have key : ∀ i < 16, ∀ l : List Nat, (∀ x ∈ l, x < 256) → gmul 14 (mixF l i) ^^^ gmul 11 (mixF l (i / 4 * 4 + (i + 1) % 4)) ^^^ gmul 13 (mixF l (i / 4 * 4 + (i + 2) % 4)) ^^^ gmul 9 (mixF l (i / 4 * 4 + (i + 3) % 4)) = l.getD i 0 := by
    intro i hi l hl
    have hq : ∃ q r, i = q * 4 + r ∧ r < 4 := ⟨i / 4, i % 4, by omega, by omega⟩
    obtain ⟨q, r, rfl, hr⟩ := hq
    have hu := unmix (getD_lt hl (q * 4 + r)) (getD_lt hl (q * 4 + (r + 1) % 4)) (getD_lt hl (q * 4 + (r + 2) % 4)) (getD_lt hl (q * 4 + (r + 3) % 4))
    have d0 : (q * 4 + r) / 4 = q := by omega
    have m0 : (q * 4 + r) % 4 = r := by omega
    have m1 : (q * 4 + r + 1) % 4 = (r + 1) % 4 := by omega
    have m2 : (q * 4 + r + 2) % 4 = (r + 2) % 4 := by omega
    have m3 : (q * 4 + r + 3) % 4 = (r + 3) % 4 := by omega
    have f0 : mixF l (q * 4 + r) = gmul (l.getD (q * 4 + r) 0) 2 ^^^ gmul (l.getD (q * 4 + (r + 1) % 4) 0) 3 ^^^ l.getD (q * 4 + (r + 2) % 4) 0 ^^^ l.getD (q * 4 + (r + 3) % 4) 0 := by
      rw [mixF, d0, m0, m1, m2, m3]
    have f1 : mixF l (q * 4 + (r + 1) % 4) = gmul (l.getD (q * 4 + (r + 1) % 4) 0) 2 ^^^ gmul (l.getD (q * 4 + (r + 2) % 4) 0) 3 ^^^ l.getD (q * 4 + (r + 3) % 4) 0 ^^^ l.getD (q * 4 + r) 0 := by
      rw [mixF, show (q * 4 + (r + 1) % 4) / 4 = q by omega, show (q * 4 + (r + 1) % 4) % 4 = (r + 1) % 4 by omega, show (q * 4 + (r + 1) % 4 + 1) % 4 = (r + 2) % 4 by omega, show (q * 4 + (r + 1) % 4 + 2) % 4 = (r + 3) % 4 by omega, show (q * 4 + (r + 1) % 4 + 3) % 4 = r by omega]
    have f2 : mixF l (q * 4 + (r + 2) % 4) = gmul (l.getD (q * 4 + (r + 2) % 4) 0) 2 ^^^ gmul (l.getD (q * 4 + (r + 3) % 4) 0) 3 ^^^ l.getD (q * 4 + r) 0 ^^^ l.getD (q * 4 + (r + 1) % 4) 0 := by
      rw [mixF, show (q * 4 + (r + 2) % 4) / 4 = q by omega, show (q * 4 + (r + 2) % 4) % 4 = (r + 2) % 4 by omega, show (q * 4 + (r + 2) % 4 + 1) % 4 = (r + 3) % 4 by omega, show (q * 4 + (r + 2) % 4 + 2) % 4 = r by omega, show (q * 4 + (r + 2) % 4 + 3) % 4 = (r + 1) % 4 by omega]
    have f3 : mixF l (q * 4 + (r + 3) % 4) = gmul (l.getD (q * 4 + (r + 3) % 4) 0) 2 ^^^ gmul (l.getD (q * 4 + r) 0) 3 ^^^ l.getD (q * 4 + (r + 1) % 4) 0 ^^^ l.getD (q * 4 + (r + 2) % 4) 0 := by
      rw [mixF, show (q * 4 + (r + 3) % 4) / 4 = q by omega, show (q * 4 + (r + 3) % 4) % 4 = (r + 3) % 4 by omega, show (q * 4 + (r + 3) % 4 + 1) % 4 = r by omega, show (q * 4 + (r + 3) % 4 + 2) % 4 = (r + 1) % 4 by omega, show (q * 4 + (r + 3) % 4 + 3) % 4 = (r + 2) % 4 by omega]
    rw [d0, m1, m2, m3, f0, f1, f2, f3]
    exact hu
  have same : ∀ i < 16, mixF l i = mixF m i := fun i hi => by
    have := congrArg (·.getD i 0) h
    simp only [mixL] at this
    rwa [upd_full hl hi, upd_full hm hi] at this
  apply ext_getD (by omega)
  intro i hi
  rw [← key i (by omega) l hl', ← key i (by omega) m hm', same i (by omega), same (i / 4 * 4 + (i + 1) % 4) (by omega), same (i / 4 * 4 + (i + 2) % 4) (by omega), same (i / 4 * 4 + (i + 3) % 4) (by omega)]

theorem roundsL_inj {ks l m : List Nat} (hk : ∀ x ∈ ks, x < 256) (hl : l.length = 16) (hm : m.length = 16) (hl' : ∀ x ∈ l, x < 256) (hm' : ∀ x ∈ m, x < 256) : ∀ r, roundsL ks l r = roundsL ks m r → l = m
  | 0, h => addL_inj hl hm h
  | r + 1, h => by
    rw [roundsL, roundsL, roundL, roundL] at h
    have l1 := roundsL_length ks l r
    have l2 := roundsL_length ks m r
    have t1 := roundsL_lt hk hl' r
    have t2 := roundsL_lt hk hm' r
    have h1 := addL_inj (by rw [mixL_length, shiftL_length, l1, hl]) (by rw [mixL_length, shiftL_length, l2, hm]) h
    have h2 := mixL_inj (by rw [shiftL_length, l1, hl]) (by rw [shiftL_length, l2, hm]) (shiftL_lt t1) (shiftL_lt t2) h1
    exact roundsL_inj hk hl hm hl' hm' r (shiftL_inj (by rw [l1, hl]) (by rw [l2, hm]) t1 t2 h2)
/-- no two blocks are enciphered to one -/
theorem blockL_inj {ks l m : List Nat} (hk : ∀ x ∈ ks, x < 256) (hl : l.length = 16) (hm : m.length = 16) (hl' : ∀ x ∈ l, x < 256) (hm' : ∀ x ∈ m, x < 256) (h : blockL ks l = blockL ks m) : l = m := by
  rw [blockL, blockL] at h
  have h1 := addL_inj (by rw [shiftL_length, roundsL_length, hl]) (by rw [shiftL_length, roundsL_length, hm]) h
  exact roundsL_inj hk hl hm hl' hm' 9 (shiftL_inj (by rw [roundsL_length, hl]) (by rw [roundsL_length, hm]) (roundsL_lt hk hl' 9) (roundsL_lt hk hm' 9) h1)
end Go.Proofs.Ytdopdaoapdeabaa
