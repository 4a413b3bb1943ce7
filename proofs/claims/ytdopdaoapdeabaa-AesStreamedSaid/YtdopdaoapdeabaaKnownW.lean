/- WALKS: Stream of a nil Cipher; sacristanlaw04.known. -/
import Derived.Test.YtdopdaoapdeabaaCipW
namespace Go.Proofs.Ytdopdaoapdeabaa
open Go.RowKit

set_option maxHeartbeats 400000 in
theorem stream_nil (v : Array Value) (n : Int) (w : World) :
    Calls Try.prog 23 #[.pointer none, .agg v, .int .i64 n] w fun e w' => e = .returned (.slice none 0 0) ∧ Below w.heap.size w w' := by
  go_enter Try.func23, Try.ntmps23
  go_wp2
  go_ret
  exact ⟨rfl, (Below.refl _ _).alloc (Nat.le_refl _) _⟩

theorem gm_1 : gmul (Int.toNat 87) (Int.toNat 131) = 193 := by decide +kernel
theorem sb_0 : sbox.getD (Int.toNat 0) 0 = 99 := by decide +kernel
theorem sb_1 : sbox.getD (Int.toNat 83) 0 = 237 := by decide +kernel

set_option maxHeartbeats 400000 in
theorem known_any (w : World) :
    Calls Try.prog 16 #[] w fun e w' => e = .returned (.bool true) ∧ Below w.heap.size w w' := by
  go_enter Try.func16, Try.ntmps16
  go_wp2_with fail
  refine (mul_any _ _ _ (by omega) (by omega) (by omega) (by omega)).mono ?_
  rw [gm_1]
  rintro e w' ⟨rfl, rfl⟩
  go_wp2_with fail
  refine (box_any _ _ (by omega) (by omega)).mono ?_
  rw [sb_0]
  rintro e w1 ⟨rfl, hb1⟩
  go_wp2_with fail
  refine (box_any _ _ (by omega) (by omega)).mono ?_
  rw [sb_1]
  rintro e w2 ⟨rfl, hb2⟩
  go_wp2_with fail
  refine (stream_nil _ _ _).mono ?_
  rintro e w3 ⟨rfl, hb3⟩
  go_wp2_with fail
  go_ret
  exact ⟨rfl, hb1.trans ((hb2.mono hb1.size).trans (hb3.mono (Nat.le_trans hb1.size hb2.size)))⟩

theorem beq_cast (a b : Nat) : (((a : Nat) : Int) == (b : Int)) = decide (a = b) := by
  rw [Bool.eq_iff_iff]; simp; omega

set_option maxRecDepth 100000 in
set_option maxHeartbeats 1000000 in
theorem aesField_walk (a b c : Nat) (w : World) (ha : a < 256) (hb : b < 256) (hc : c < 256) :
    Calls Try.prog 5 #[.int .u8 a, .int .u8 b, .int .u8 c] w fun e w' => e = .returned (.bool true) ∧ Below w.heap.size w w' := by
  have m (x y : Nat) (w : World) (hx : x < 256) (hy : y < 256) := mul_any x y w (by omega) (by omega) (by omega) (by omega)
  simp only [Int.toNat_natCast] at m
  have M := Lib.hid m
  clear m
  have hab := gmul_lt b ha
  have hbc := gmul_lt c hb
  have x1 : bits BinOp.xor IntKind.u8 (b : Int) (c : Int) = ((b ^^^ c : Nat) : Int) := bits_xor hb hc
  have hx := xor_lt_256 hb hc
  have x2 : bits BinOp.xor IntKind.u8 ((gmul a b : Nat) : Int) ((gmul a c : Nat) : Int) = ((gmul a b ^^^ gmul a c : Nat) : Int) := bits_xor (gmul_lt b ha) (gmul_lt c ha)
  have e0 : ∃ p q : Bool, ((a : Int) == 0) = p ∧ ((b : Int) == 0) = q ∧ (((gmul a b : Nat) : Int) == 0) = (p || q) := by
    refine ⟨_, _, rfl, rfl, ?_⟩
    have := gmul_eq_zero ha hb
    rw [Bool.eq_iff_iff]
    simp
    omega
  obtain ⟨p, q, ep, eq, epq⟩ := e0
  cases p <;> cases q
  all_goals
    simp only [Bool.or_false, Bool.or_true] at epq
    go_enter Try.func5, Try.ntmps5
    go_wp2_with fail
    refine (M.out a b _ ha hb).mono ?_
    rintro e w' ⟨rfl, rfl⟩
    go_wp2_with fail
    refine (M.out b a _ hb ha).mono ?_
    rintro e w' ⟨rfl, rfl⟩
    rw [gmul_comm hb ha]
    go_wp2_with fail
    refine (M.out b c _ hb hc).mono ?_
    rintro e w' ⟨rfl, rfl⟩
    go_wp2_with fail
    refine (M.out a (gmul b c) _ ha hbc).mono ?_
    rintro e w' ⟨rfl, rfl⟩
    rw [gmul_assoc ha hb hc]
    go_wp2_with fail
    refine (M.out a b _ ha hb).mono ?_
    rintro e w' ⟨rfl, rfl⟩
    go_wp2_with fail
    refine (M.out (gmul a b) c _ hab hc).mono ?_
    rintro e w' ⟨rfl, rfl⟩
    go_wp2_with fail
    refine (M.out a (b ^^^ c) _ ha hx).mono ?_
    rintro e w' ⟨rfl, rfl⟩
    rw [gmul_right a b c]
    go_wp2_with fail
    refine (M.out a b _ ha hb).mono ?_
    rintro e w' ⟨rfl, rfl⟩
    go_wp2_with fail
    refine (M.out a c _ ha hc).mono ?_
    rintro e w' ⟨rfl, rfl⟩
    go_wp2_with fail
    refine (M.out a 1 _ ha (by omega)).mono ?_
    rintro e w' ⟨rfl, rfl⟩
    rw [gmul_one ha]
    go_wp2_with fail
    refine (M.out a 0 _ ha (by omega)).mono ?_
    rintro e w' ⟨rfl, rfl⟩
    rw [gmul_zero]
    go_wp2_with fail
    refine (M.out a b _ ha hb).mono ?_
    rintro e w' ⟨rfl, rfl⟩
    go_wp2_with fail
    refine (known_any _).mono ?_
    rintro e w1 ⟨rfl, hb1⟩
    go_wp2_with fail
    go_ret
    exact ⟨rfl, hb1⟩
end Go.Proofs.Ytdopdaoapdeabaa
