/- WALKS: aes.Mul; bits.RotateLeft8; aes.lay. -/
import Derived.Test.YtdopdaoapdeabaaDoorProg
import Derived.Test.YtdopdaoapdeabaaDoorGf
import Derived.WalkKit
import Derived.WalkSpells
import Derived.WalkLawsBesides
namespace Go.Proofs.YtdopdaoapdeabaaDoor
open Go.RowKit

theorem bits_and1 {y : Nat} (hy : y < 256) : (bits BinOp.and IntKind.u8 (y : Int) 1 == 1) = decide (y % 2 = 1) := by
  rw [show (1 : Int) = ((1 : Nat) : Int) from rfl, u8_and_nat y 1 hy (by omega), Nat.and_one_is_mod]
  rw [Bool.eq_iff_iff]; simp; omega

theorem bits_xor {x y : Nat} (hx : x < 256) (hy : y < 256) : bits BinOp.xor IntKind.u8 (x : Int) (y : Int) = ((x ^^^ y : Nat) : Int) := u8_xor_nat x y hx hy

theorem bits_xt {x : Nat} (hx : x < 256) : bits BinOp.xor IntKind.u8 ((x : Int) * 2 % 256) (27 * ((x : Int) / 128)) = ((xt x : Nat) : Int) := by
  have e1 : (x : Int) * 2 % 256 = ((x * 2 % 256 : Nat) : Int) := by omega
  have e2 : 27 * ((x : Int) / 128) = ((27 * (x / 128) : Nat) : Int) := by omega
  rw [e1, e2]
  exact bits_xor (Nat.mod_lt _ (by omega)) (by omega)

set_option maxHeartbeats 400000 in
theorem mul_any (a b : Int) (w : World) (ha : 0 ≤ a) (ha' : a < 256) (hb : 0 ≤ b) (hb' : b < 256) :
    Calls Tryd.prog 38 #[.int .u8 a, .int .u8 b] w fun e w' => e = .returned (.int .u8 (gmul a.toNat b.toNat : Nat)) ∧ w = w' := by
  obtain ⟨A, rfl⟩ := Int.eq_ofNat_of_zero_le ha
  obtain ⟨B, rfl⟩ := Int.eq_ofNat_of_zero_le hb
  have hA : A < 256 := by omega
  have hB : B < 256 := by omega
  clear ha ha' hb hb'
  rw [Int.toNat_natCast, Int.toNat_natCast]
  go_enter Tryd.func38, Tryd.ntmps38
  go_wp2
  go_loop [0, 1, 5, 7] (fun a' b' o i => ∃ k x y z : Nat, k ≤ 8 ∧ i = .int .i64 k ∧ x < 256 ∧ y < 256 ∧ z < 256 ∧ a' = .int .u8 x ∧ b' = .int .u8 y ∧ o = .int .u8 z ∧ Hid (gm (8 - k) x y z = gmul A B)) (fun _ _ _ i => 8 - (intOf i).toNat)
  case atStart => exact ⟨0, A, B, 0, by omega, rfl, hA, hB, by omega, rfl, rfl, rfl, rfl⟩
  case round =>
    obtain ⟨k, x, y, z, hk, rfl, hx, hy, hz, rfl, rfl, rfl, hg⟩ := hrel
    have h1 := bits_and1 hy
    have h2 := bits_xor hz hx
    have h3 := bits_xt hx
    have hxt := xt_lt hx
    have hzx := xor_lt_256 hz hx
    by_cases hodd : y % 2 = 1
    all_goals
      simp only [hodd, decide_true, decide_false] at h1
      go_wp2
      · go_round
        case rel =>
          have hs : 8 - k = (8 - (k + 1)) + 1 := by omega
          have hg' := hg.out
          rw [hs] at hg'
          simp only [gm, hodd, if_true, if_false] at hg'
          exact ⟨k + 1, xt x, y / 2, _, by omega, by go_num, hxt, by omega, by first | exact hzx | exact hz, rfl, by go_num, rfl, hg'⟩
        case measure => simp [intOf]; omega
      · go_ret
        have hk8 : k = 8 := by omega
        subst hk8
        exact ⟨by rw [← hg.out]; rfl, rfl⟩
end Go.Proofs.YtdopdaoapdeabaaDoor
