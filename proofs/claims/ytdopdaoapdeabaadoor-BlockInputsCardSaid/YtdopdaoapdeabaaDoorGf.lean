/- PLAIN: the field of 256, by rounds; no program in sight. -/
namespace Go.Proofs.YtdopdaoapdeabaaDoor

/-- one round's first number -/
def xt (a : Nat) : Nat := (a * 2 % 256) ^^^ (27 * (a / 128))

/-- so many rounds of the product -/
def gm : Nat → Nat → Nat → Nat → Nat
  | 0, _, _, o => o
  | n + 1, a, b, o => gm n (xt a) (b / 2) (if b % 2 = 1 then o ^^^ a else o)

def gmul (a b : Nat) : Nat := gm 8 a b 0

theorem xor_lt_256 {a b : Nat} (ha : a < 256) (hb : b < 256) : a ^^^ b < 256 := Nat.xor_lt_two_pow (n := 8) ha hb

theorem xt_lt {a : Nat} (ha : a < 256) : xt a < 256 := by
  unfold xt
  exact xor_lt_256 (Nat.mod_lt _ (by omega)) (by omega)

theorem gm_lt : ∀ (n a b o : Nat), a < 256 → o < 256 → gm n a b o < 256
  | 0, _, _, _, _, ho => ho
  | n + 1, a, b, o, ha, ho => gm_lt n _ _ _ (xt_lt ha) (by split; exact xor_lt_256 ho ha; exact ho)

theorem gmul_lt {a : Nat} (b : Nat) (ha : a < 256) : gmul a b < 256 := gm_lt 8 a b 0 ha (by omega)

theorem xt_xor {a b : Nat} (ha : a < 256) (hb : b < 256) : xt (a ^^^ b) = xt a ^^^ xt b := by
  have h : ∀ a < 256, ∀ b < 256, xt (a ^^^ b) = xt a ^^^ xt b := by decide +kernel
  exact h a ha b hb

theorem gm_right : ∀ (n a b c o p : Nat), gm n a (b ^^^ c) (o ^^^ p) = gm n a b o ^^^ gm n a c p
  | 0, _, _, _, _, _ => rfl
  | n + 1, a, b, c, o, p => by
    have h2 : (b ^^^ c) / 2 = b / 2 ^^^ c / 2 := Nat.xor_div_two
    have h3 : (b ^^^ c) % 2 = 1 ↔ ¬ (b % 2 = 1 ↔ c % 2 = 1) := Nat.xor_mod_two_eq_one
    have h1 : (if (b ^^^ c) % 2 = 1 then (o ^^^ p) ^^^ a else o ^^^ p) = (if b % 2 = 1 then o ^^^ a else o) ^^^ (if c % 2 = 1 then p ^^^ a else p) := by
      by_cases hb : b % 2 = 1 <;> by_cases hc : c % 2 = 1 <;> simp only [h3, hb, hc, if_true, if_false, iff_self, not_true, not_false_iff, iff_false, iff_true]
      · rw [show o ^^^ a ^^^ (p ^^^ a) = (o ^^^ p) ^^^ (a ^^^ a) from by ac_rfl, Nat.xor_self, Nat.xor_zero]
      · ac_rfl
      · ac_rfl
    simp only [gm, h2, h1]
    exact gm_right n _ _ _ _ _

theorem gm_left : ∀ (n a b c o p : Nat), a < 256 → b < 256 → gm n (a ^^^ b) c (o ^^^ p) = gm n a c o ^^^ gm n b c p
  | 0, _, _, _, _, _, _, _ => rfl
  | n + 1, a, b, c, o, p, ha, hb => by
    have h1 : (if c % 2 = 1 then (o ^^^ p) ^^^ (a ^^^ b) else o ^^^ p) = (if c % 2 = 1 then o ^^^ a else o) ^^^ (if c % 2 = 1 then p ^^^ b else p) := by
      split
      · ac_rfl
      · rfl
    simp only [gm, xt_xor ha hb, h1]
    exact gm_left n _ _ _ _ _ (xt_lt ha) (xt_lt hb)

theorem gmul_right (a b c : Nat) : gmul a (b ^^^ c) = gmul a b ^^^ gmul a c := by
  have := gm_right 8 a b c 0 0
  simpa [gmul] using this

theorem gmul_left {a b : Nat} (c : Nat) (ha : a < 256) (hb : b < 256) : gmul (a ^^^ b) c = gmul a c ^^^ gmul b c := by
  have := gm_left 8 a b c 0 0 ha hb
  simpa [gmul] using this

/-- additive functions that agree at the eight bits agree -/
theorem add_ext (f g : Nat → Nat) (hf : ∀ a b, a < 256 → b < 256 → f (a ^^^ b) = f a ^^^ f b) (hg : ∀ a b, a < 256 → b < 256 → g (a ^^^ b) = g a ^^^ g b)
    (h : ∀ i < 8, f (2 ^ i) = g (2 ^ i)) {a : Nat} (ha : a < 256) : f a = g a := by
  have f0 : f 0 = 0 := by have := hf 0 0 (by omega) (by omega); simpa using this
  have g0 : g 0 = 0 := by have := hg 0 0 (by omega) (by omega); simpa using this
  have hs : ∀ a < 256, a = a / 128 % 2 * 128 ^^^ (a / 64 % 2 * 64 ^^^ (a / 32 % 2 * 32 ^^^ (a / 16 % 2 * 16 ^^^ (a / 8 % 2 * 8 ^^^ (a / 4 % 2 * 4 ^^^ (a / 2 % 2 * 2 ^^^ a % 2)))))) := by decide +kernel
  have hb : ∀ i < 8, ∀ x, f (x % 2 * 2 ^ i) = g (x % 2 * 2 ^ i) := by
    intro i hi x
    rcases Nat.mod_two_eq_zero_or_one x with e | e <;> rw [e]
    · simp [f0, g0]
    · simpa using h i hi
  have hl : ∀ i < 8, ∀ x, x % 2 * 2 ^ i < 256 := by
    intro i hi x
    have : x % 2 ≤ 1 := by omega
    have h2 : 2 ^ i ≤ 2 ^ 7 := Nat.pow_le_pow_right (by omega) (by omega)
    calc x % 2 * 2 ^ i ≤ 1 * 2 ^ 7 := Nat.mul_le_mul this h2
      _ < 256 := by omega
  have b0 := hb 0 (by omega) a
  have b1 := hb 1 (by omega) (a / 2)
  have b2 := hb 2 (by omega) (a / 4)
  have b3 := hb 3 (by omega) (a / 8)
  have b4 := hb 4 (by omega) (a / 16)
  have b5 := hb 5 (by omega) (a / 32)
  have b6 := hb 6 (by omega) (a / 64)
  have b7 := hb 7 (by omega) (a / 128)
  have l0 := hl 0 (by omega) a
  have l1 := hl 1 (by omega) (a / 2)
  have l2 := hl 2 (by omega) (a / 4)
  have l3 := hl 3 (by omega) (a / 8)
  have l4 := hl 4 (by omega) (a / 16)
  have l5 := hl 5 (by omega) (a / 32)
  have l6 := hl 6 (by omega) (a / 64)
  have l7 := hl 7 (by omega) (a / 128)
  simp only [Nat.reducePow, Nat.mul_one] at b0 b1 b2 b3 b4 b5 b6 b7 l0 l1 l2 l3 l4 l5 l6 l7
  have x1 := xor_lt_256 l1 l0
  have x2 := xor_lt_256 l2 x1
  have x3 := xor_lt_256 l3 x2
  have x4 := xor_lt_256 l4 x3
  have x5 := xor_lt_256 l5 x4
  have x6 := xor_lt_256 l6 x5
  rw [hs a ha, hf _ _ l7 x6, hf _ _ l6 x5, hf _ _ l5 x4, hf _ _ l4 x3, hf _ _ l3 x2, hf _ _ l2 x1, hf _ _ l1 l0,
    hg _ _ l7 x6, hg _ _ l6 x5, hg _ _ l5 x4, hg _ _ l4 x3, hg _ _ l3 x2, hg _ _ l2 x1, hg _ _ l1 l0, b0, b1, b2, b3, b4, b5, b6, b7]

theorem pow_lt_256 {i : Nat} (hi : i < 8) : 2 ^ i < 256 := Nat.lt_of_le_of_lt (Nat.pow_le_pow_right (by omega) (show i ≤ 7 by omega)) (by omega)

theorem gmul_comm {a b : Nat} (ha : a < 256) (hb : b < 256) : gmul a b = gmul b a := by
  refine add_ext (fun a => gmul a b) (fun a => gmul b a) (fun x y hx hy => gmul_left b hx hy) (fun x y _ _ => gmul_right b x y) (fun i hi => ?_) ha
  refine add_ext (fun b => gmul (2 ^ i) b) (fun b => gmul b (2 ^ i)) (fun x y _ _ => gmul_right _ x y) (fun x y hx hy => gmul_left _ hx hy) (fun j hj => ?_) hb
  have h : ∀ i < 8, ∀ j < 8, gmul (2 ^ i) (2 ^ j) = gmul (2 ^ j) (2 ^ i) := by decide +kernel
  exact h i hi j hj

theorem gmul_assoc {a b c : Nat} (ha : a < 256) (hb : b < 256) (hc : c < 256) : gmul a (gmul b c) = gmul (gmul a b) c := by
  refine add_ext (fun a => gmul a (gmul b c)) (fun a => gmul (gmul a b) c) (fun x y hx hy => gmul_left _ hx hy)
    (fun x y hx hy => by show gmul (gmul (x ^^^ y) b) c = _; rw [gmul_left b hx hy, gmul_left c (gmul_lt b hx) (gmul_lt b hy)]) (fun i hi => ?_) ha
  refine add_ext (fun b => gmul (2 ^ i) (gmul b c)) (fun b => gmul (gmul (2 ^ i) b) c)
    (fun x y hx hy => by show gmul _ (gmul (x ^^^ y) c) = _; rw [gmul_left c hx hy, gmul_right])
    (fun x y hx hy => by show gmul (gmul _ (x ^^^ y)) c = _; rw [gmul_right, gmul_left c (gmul_lt x (pow_lt_256 hi)) (gmul_lt y (pow_lt_256 hi))]) (fun j hj => ?_) hb
  refine add_ext (fun c => gmul (2 ^ i) (gmul (2 ^ j) c)) (fun c => gmul (gmul (2 ^ i) (2 ^ j)) c)
    (fun x y _ _ => by show gmul _ (gmul _ (x ^^^ y)) = _; rw [gmul_right, gmul_right])
    (fun x y _ _ => gmul_right _ x y) (fun k hk => ?_) hc
  have h : ∀ i < 8, ∀ j < 8, ∀ k < 8, gmul (2 ^ i) (gmul (2 ^ j) (2 ^ k)) = gmul (gmul (2 ^ i) (2 ^ j)) (2 ^ k) := by decide +kernel
  exact h i hi j hj k hk

theorem gmul_one {a : Nat} (ha : a < 256) : gmul a 1 = a := by
  have h : ∀ a < 256, gmul a 1 = a := by decide +kernel
  exact h a ha

theorem gmul_zero (a : Nat) : gmul a 0 = 0 := by
  have := gmul_right a 0 0
  simpa using this

/-- the number that it makes 1 with -/
def ginvUp : Nat → Nat → Nat → Nat
  | 0, _, b => gmul b b
  | n + 1, a, b => ginvUp n a (gmul (gmul b b) a)
def ginv (a : Nat) : Nat := ginvUp 6 a a

theorem ginv_lt {a : Nat} (ha : a < 256) : ginv a < 256 := by
  have h : ∀ a < 256, ginv a < 256 := by decide +kernel
  exact h a ha

theorem ginv_mul {a : Nat} (ha : a < 256) (h0 : a ≠ 0) : gmul (ginv a) a = 1 := by
  have h : ∀ a < 256, a = 0 ∨ gmul (ginv a) a = 1 := by decide +kernel
  exact (h a ha).resolve_left h0

theorem gmul_cancel {a b c : Nat} (ha : a < 256) (hb : b < 256) (hc : c < 256) (h0 : a ≠ 0) (h : gmul a b = gmul a c) : b = c := by
  have hi := ginv_lt ha
  have e : ∀ x < 256, gmul (ginv a) (gmul a x) = x := by
    intro x hx
    rw [gmul_assoc hi ha hx, ginv_mul ha h0, gmul_comm (by omega) hx, gmul_one hx]
  rw [← e b hb, h, e c hc]

theorem gmul_eq_zero {a b : Nat} (ha : a < 256) (hb : b < 256) : gmul a b = 0 ↔ a = 0 ∨ b = 0 := by
  constructor
  · intro h
    by_cases h0 : a = 0
    · exact .inl h0
    · exact .inr (gmul_cancel ha hb (by omega) h0 (by rw [h, gmul_zero]))
  · rintro (rfl | rfl)
    · rw [gmul_comm ha hb, gmul_zero]
    · exact gmul_zero a
end Go.Proofs.YtdopdaoapdeabaaDoor
