/- WALK: sacristanlaw04.AesFields. -/
import Derived.Test.YtdopdaoapdeabaaKnownW
import Derived.Test.YtdopdaoapdeabaaRBoxW
namespace Go.Proofs.Ytdopdaoapdeabaa
open Go.RowKit

/-- a row that the call owns, not empty -/
theorem owns_pos {w : World} {base : Nat} {e : TypeId} {v : Value} {n : Nat} {xs : List Value} (h : w.ownsRow base e 1 v n xs) (hn : 0 < n) :
    ∃ g cap, v = .slice (some ⟨g, 0, none⟩) n cap ∧ base ≤ g ∧ g < w.heap.size ∧ n ≤ cap ∧ ∀ j, j < n → w.cell? ⟨g, j, none⟩ = xs[j]? := by
  rcases h.2 with ⟨_, h0⟩ | ⟨g, cap, cur, hv, hb, hg, hnc, _⟩
  · omega
  · subst hv
    exact ⟨g, cap, rfl, hb, lt_of_block hg, hnc, fun j hj => h.cellAt j (by omega)⟩

set_option maxRecDepth 100000 in
set_option maxHeartbeats 1000000 in
theorem aesFields_walk (a b : Nat) (w : World) (ha : a < 256) (hb : b < 256) :
    Calls Try.prog 3 #[.int .u8 a, .int .u8 b] w fun e w' => e = .returned (.bool true) ∧ Below w.heap.size w w' := by
  have hab := gmul_lt b ha
  have hsb : sbox.getD a 0 < 256 := getD_lt (by decide +kernel) a
  go_enter Try.func3, Try.ntmps3
  go_wp2_with fail
  refine (mul_any a b _ (by omega) (by omega) (by omega) (by omega)).mono ?_
  rw [Int.toNat_natCast, Int.toNat_natCast]
  rintro e w' ⟨rfl, rfl⟩
  go_wp2_with fail
  refine (rmul_any a b _ (by omega) (by omega) (by omega) (by omega)).mono ?_
  rw [Int.toNat_natCast, Int.toNat_natCast]
  rintro e w' ⟨rfl, rfl⟩
  go_wp2_with fail
  refine (box_any a _ (by omega) (by omega)).mono ?_
  rw [Int.toNat_natCast]
  rintro e w1 ⟨rfl, hb1⟩
  generalize hx : sbox.getD a 0 = x at hsb ⊢
  have Hx := Lib.hid hx
  clear hx
  go_wp2_with fail
  refine (rbox_any _).mono ?_
  rintro e w2 ⟨v, rfl, hown, hb2⟩
  obtain ⟨g, cap, rfl, hg1, hg2, hcap, hcell⟩ := owns_pos hown (by omega)
  have hc := hcell a ha
  rw [ks_get (by rw [sbox_length]; exact ha), Hx.out] at hc
  clear hcell hown
  go_wp2_with fail
  refine (known_any _).mono ?_
  rintro e w3 ⟨rfl, hb3⟩
  go_wp2_with fail
  go_ret
  exact ⟨rfl, hb1.trans ((hb2.mono hb1.size).trans (hb3.mono (Nat.le_trans hb1.size hb2.size)))⟩
end Go.Proofs.Ytdopdaoapdeabaa
