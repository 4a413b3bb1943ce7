/- WALKS: sacristanref04.Mul, Box. -/
import Derived.Test.YtdopdaoapdeabaaDoorLayW
namespace Go.Proofs.YtdopdaoapdeabaaDoor
open Go.RowKit

theorem xor_i64 {x y : Nat} (hx : x < 4611686018427387904) (hy : y < 4611686018427387904) : bits BinOp.xor IntKind.i64 (x : Int) (y : Int) = ((x ^^^ y : Nat) : Int) := by
  have hb : x ^^^ y < 2 ^ 62 := Nat.xor_lt_two_pow (by omega) (by omega)
  show IntKind.i64.wrap ((BitVec.ofInt 64 (x : Int) ^^^ BitVec.ofInt 64 (y : Int)).toNat : Int) = _
  rw [BitVec.toNat_xor, BitVec.ofInt_natCast, BitVec.ofInt_natCast, BitVec.toNat_ofNat, BitVec.toNat_ofNat, Nat.mod_eq_of_lt (by omega), Nat.mod_eq_of_lt (by omega), IntKind.wrap_i64]
  omega
theorem xt_big {x : Nat} (hx : x < 256) (h : 256 ≤ 2 * x) : 2 * x ^^^ 283 = xt x := by
  have h' : ∀ x < 256, 256 ≤ 2 * x → 2 * x ^^^ 283 = xt x := by decide +kernel
  exact h' x hx h
theorem xt_small {x : Nat} (hx : x < 256) (h : ¬ 256 ≤ 2 * x) : 2 * x = xt x := by
  have h' : ∀ x < 256, ¬ 256 ≤ 2 * x → 2 * x = xt x := by decide +kernel
  exact h' x hx h

set_option maxHeartbeats 400000 in
theorem rmul_any (a b : Int) (w : World) (ha : 0 ≤ a) (ha' : a < 256) (hb : 0 ≤ b) (hb' : b < 256) :
    Calls Tryd.prog 29 #[.int .i64 a, .int .i64 b] w fun e w' => e = .returned (.int .i64 (gmul a.toNat b.toNat : Nat)) ∧ w = w' := by
  obtain ⟨A, rfl⟩ := Int.eq_ofNat_of_zero_le ha
  obtain ⟨B, rfl⟩ := Int.eq_ofNat_of_zero_le hb
  have hA : A < 256 := by omega
  have hB : B < 256 := by omega
  clear ha ha' hb hb'
  rw [Int.toNat_natCast, Int.toNat_natCast]
  go_enter Tryd.func29, Tryd.ntmps29
  go_wp2
  go_loopg [0, 1, 5, 6] 8 (fun g a' b' o i wr => ∃ x y z : Nat, w = wr ∧ g ≤ 8 ∧ i = .int .i64 (8 - (g : Int)) ∧ x < 256 ∧ y < 256 ∧ z < 256 ∧ a' = .int .i64 x ∧ b' = .int .i64 y ∧ o = .int .i64 z ∧ Hid (gm g x y z = gmul A B))
  case atStart => exact ⟨A, B, 0, rfl, by omega, rfl, hA, hB, by omega, rfl, rfl, rfl, rfl⟩
  case round =>
    obtain ⟨x, y, z, rfl, hg8, rfl, hx, hy, hz, rfl, rfl, rfl, hg⟩ := hrel
    have hzx := xor_lt_256 hz hx
    have hxt := xt_lt hx
    rcases Nat.eq_zero_or_pos gk with h0 | h0
    · subst h0
      go_wp2
      go_ret
      exact ⟨by rw [← hg.out]; rfl, rfl⟩
    · obtain ⟨j, rfl⟩ : ∃ j, gk = j + 1 := ⟨gk - 1, by omega⟩
      have hi : (8 : Int) - ((j + 1 : Nat) : Int) = 7 - (j : Int) := by omega
      rw [hi]
      have x1 := xor_i64 (x := z) (y := x) (by omega) (by omega)
      have x2 : bits BinOp.xor IntKind.i64 (2 * (x : Int)) 283 = ((2 * x ^^^ 283 : Nat) : Int) := xor_i64 (x := 2 * x) (y := 283) (by omega) (by omega)
      have xe : ∃ p : Bool, ((y : Int) % 2 == 1) = p ∧ (p = true ↔ y % 2 = 1) := ⟨_, rfl, by simp; omega⟩
      obtain ⟨p, ep, hp⟩ := xe
      have Hp := Lib.hid hp
      clear hp
      by_cases hbig : 256 ≤ 2 * x
      · have xb := xt_big hx hbig
        have hbi : (256 : Int) ≤ 2 * (x : Int) := by omega
        cases p
        all_goals
          go_wp2
          go_roundg j
          case measure => omega
          case rel =>
            have hg' := hg.out
            rw [gm] at hg'
            refine ⟨xt x, y / 2, _, rfl, by omega, by congr 1; omega, hxt, by omega, ?_, by rw [← xb], by go_num, rfl, ?_⟩
            rotate_left
            · have := Hp.out
              simp at this
              first | (rw [if_pos this] at hg'; exact hg') | (rw [if_neg (by omega)] at hg'; exact hg')
            · first | exact hzx | exact hz
      · have xb := xt_small hx hbig
        have hbi : ¬ (256 : Int) ≤ 2 * (x : Int) := by omega
        cases p
        all_goals
          go_wp2
          go_roundg j
          case measure => omega
          case rel =>
            have hg' := hg.out
            rw [gm] at hg'
            refine ⟨xt x, y / 2, _, rfl, by omega, by congr 1; omega, hxt, by omega, ?_, by rw [← xb]; rfl, by go_num, rfl, ?_⟩
            rotate_left
            · have := Hp.out
              simp at this
              first | (rw [if_pos this] at hg'; exact hg') | (rw [if_neg (by omega)] at hg'; exact hg')
            · first | exact hzx | exact hz
end Go.Proofs.YtdopdaoapdeabaaDoor
