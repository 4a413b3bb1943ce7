/- WALKS: bits.RotateLeft8; aes.lay. -/
import Derived.Test.YtdopdaoapdeabaaDoorMulW
import Derived.Test.YtdopdaoapdeabaaDoorMem
import Derived.Deep.LoopGhost
namespace Go.Proofs.YtdopdaoapdeabaaDoor
open Go.RowKit

def rotl (x k : Nat) : Nat := (x * 2 ^ k % 256) ||| (x / 2 ^ (8 - k))
theorem rotl_lt {x : Nat} (hx : x < 256) {k : Nat} : rotl x k < 256 := by
  unfold rotl
  exact Nat.or_lt_two_pow (n := 8) (Nat.mod_lt _ (by omega)) (Nat.lt_of_le_of_lt (Nat.div_le_self _ _) hx)

theorem bits_or {x y : Nat} (hx : x < 256) (hy : y < 256) : bits BinOp.or IntKind.u8 (x : Int) (y : Int) = ((x ||| y : Nat) : Int) := u8_or_nat x y hx hy

set_option maxHeartbeats 400000 in
theorem rot_any (a k : Int) (w : World) (ha : 0 ≤ a) (ha' : a < 256) (hk : 1 ≤ k) (hk' : k ≤ 4) :
    Calls Tryd.prog 44 #[.int .u8 a, .int .i64 k] w fun e w' => e = .returned (.int .u8 (rotl a.toNat k.toNat : Nat)) ∧ w = w' := by
  obtain ⟨A, rfl⟩ := Int.eq_ofNat_of_zero_le ha
  have hA : A < 256 := by omega
  have h : k = 1 ∨ k = 2 ∨ k = 3 ∨ k = 4 := by omega
  clear ha ha' hk hk'
  rw [Int.toNat_natCast]
  have b1 : bits BinOp.and IntKind.u64 1 7 = 1 := by decide
  have b2 : bits BinOp.and IntKind.u64 2 7 = 2 := by decide
  have b3 : bits BinOp.and IntKind.u64 3 7 = 3 := by decide
  have b4 : bits BinOp.and IntKind.u64 4 7 = 4 := by decide
  rcases h with rfl | rfl | rfl | rfl
  all_goals
    go_enter Tryd.func44, Tryd.ntmps44
    go_wp2
    go_ret
    refine ⟨?_, rfl⟩
    congr 2
    first
      | exact (by have := bits_or (x := A * 2 % 256) (y := A / 128) (Nat.mod_lt _ (by omega)) (by omega); simpa [rotl] using this)
      | exact (by have := bits_or (x := A * 4 % 256) (y := A / 64) (Nat.mod_lt _ (by omega)) (by omega); simpa [rotl] using this)
      | exact (by have := bits_or (x := A * 8 % 256) (y := A / 32) (Nat.mod_lt _ (by omega)) (by omega); simpa [rotl] using this)
      | exact (by have := bits_or (x := A * 16 % 256) (y := A / 16) (Nat.mod_lt _ (by omega)) (by omega); simpa [rotl] using this)

/-- the powers of 3, those of its inverse -/
def lx : Nat → Nat | 0 => 1 | k + 1 => gmul (lx k) 3
def ly : Nat → Nat | 0 => 1 | k + 1 => gmul (ly k) 246
def aff (y : Nat) : Nat := y ^^^ rotl y 1 ^^^ rotl y 2 ^^^ rotl y 3 ^^^ rotl y 4 ^^^ 99
/-- the box behind so many rounds -/
def lb : Nat → List Nat | 0 => (zeros 256).set 0 99 | k + 1 => (lb k).set (lx k) (aff (ly k))
def sbox : List Nat := lb 255

theorem lx_lt : ∀ k, lx k < 256 | 0 => by decide | k + 1 => gmul_lt 3 (lx_lt k)
theorem ly_lt : ∀ k, ly k < 256 | 0 => by decide | k + 1 => gmul_lt 246 (ly_lt k)
theorem lb_length : ∀ k, (lb k).length = 256 | 0 => by rw [lb, List.length_set, zeros_length] | k + 1 => by rw [lb, List.length_set, lb_length k]
theorem aff_lt {y : Nat} (hy : y < 256) : aff y < 256 := by
  unfold aff
  exact xor_lt_256 (xor_lt_256 (xor_lt_256 (xor_lt_256 (xor_lt_256 hy (rotl_lt hy)) (rotl_lt hy)) (rotl_lt hy)) (rotl_lt hy)) (by omega)
theorem lx_back : ∀ k < 255, (lx (k + 1) = 1 ↔ k = 254) := by decide +kernel

set_option maxRecDepth 100000 in
set_option maxHeartbeats 400000 in
theorem lay_any (w : World) :
    Calls Tryd.prog 36 #[] w fun e w' => e = .returned (.agg (bx sbox)) ∧ Below w.heap.size w w' := by
  have hz : ∀ w, (zeroValue 70).run Tryd.prog w = .ok (.agg (bx (zeros 256))) w := fun _ => by kernel_rfl
  have hg0 : (bx (zeros 256))[0]? = some (.int .u8 0) := by kernel_rfl
  go_enter Tryd.func36, Tryd.ntmps36
  go_wp2
  go_step3
  go_wp2
  go_step3
  go_wp2
  have hb0 : Bytes (w.alloc (Obj.cells ((bx (zeros 256)).setIfInBounds 0 (Value.int IntKind.u8 99)) 70)) w.heap.size (lb 0) 70 := by
    rw [show (Value.int IntKind.u8 99) = .int .u8 ((99 : Nat) : Int) from rfl, bx_set]; exact Bytes.new _ _ _
  have hw0 : Below w.heap.size w (w.alloc (Obj.cells ((bx (zeros 256)).setIfInBounds 0 (Value.int IntKind.u8 99)) 70)) := (Below.refl _ _).alloc (Nat.le_refl _) _
  generalize hW : w.alloc (Obj.cells ((bx (zeros 256)).setIfInBounds 0 (Value.int IntKind.u8 99)) 70) = W at hb0 hw0 ⊢
  clear hW
  generalize hN : w.heap.size = N at hb0 hw0 ⊢
  have HN : Hid (w.heap.size = N) := hN
  clear hN hz hg0
  go_loopg [1, 2] 254 (fun g x y wr => ∃ k : Nat, k + g = 254 ∧ x = .int .u8 (lx k) ∧ y = .int .u8 (ly k) ∧ Bytes wr N (lb k) 70 ∧ Below N w wr)
  case atStart => exact ⟨0, rfl, rfl, rfl, hb0, hw0⟩
  case round =>
    obtain ⟨k, hk, rfl, rfl, hb, hw⟩ := hrel
    have hx := lx_lt k
    have hy := ly_lt k
    have hX : (0 : Int) ≤ (lx k : Int) ∧ (lx k : Int) < 256 := ⟨by omega, by omega⟩
    have hf := hb.free (lx k)
    have hc := hb.cell (i := lx k) (by rw [lb_length]; exact hx)
    have x1 := bits_xor hy (rotl_lt hy (k := 1))
    have y1 := xor_lt_256 hy (rotl_lt hy (k := 1))
    have x2 := bits_xor y1 (rotl_lt hy (k := 2))
    have y2 := xor_lt_256 y1 (rotl_lt hy (k := 2))
    have x3 := bits_xor y2 (rotl_lt hy (k := 3))
    have y3 := xor_lt_256 y2 (rotl_lt hy (k := 3))
    have x4 := bits_xor y3 (rotl_lt hy (k := 4))
    have y4 := xor_lt_256 y3 (rotl_lt hy (k := 4))
    have x5 : bits BinOp.xor IntKind.u8 ((ly k ^^^ rotl (ly k) 1 ^^^ rotl (ly k) 2 ^^^ rotl (ly k) 3 ^^^ rotl (ly k) 4 : Nat) : Int) 99 = ((aff (ly k) : Nat) : Int) := bits_xor y4 (show 99 < 256 by omega)
    have hset := hb.set (lx k) (aff (ly k))
    have hlen := lb_length k
    have hinfo : (Tryd.prog.info? 70).map (·.size) = some (bx ((lb k).set (lx k) (aff (ly k)))).size := by rw [bx_size, List.length_set, hlen]; kernel_rfl
    have hB : Hid (Bytes wr N (lb k) 70) := hb
    clear y1 y2 y3 y4 hb
    by_cases hend : k = 254
    · have hone : lx (k + 1) = 1 := (lx_back k (by omega)).2 hend
      have he : (((gmul (lx k) 3 : Nat) : Int) == 1) = true := by rw [show gmul (lx k) 3 = 1 from hone]; rfl
      have Hend : Hid (k = 254) := hend
      clear hend hone
      go_wp2_with (first | (go_at_call 44; refine (rot_any _ _ _ (by omega) (by omega) (by omega) (by omega)).mono ?_; rintro e w' ⟨rfl, rfl⟩) | (go_at_call 38; refine (mul_any _ _ _ (by omega) (by omega) (by omega) (by omega)).mono ?_; rintro e w' ⟨rfl, rfl⟩) | (refine wpList_load_row rfl 70 _ rfl N rfl 70 _ _ _ hset.row Tryd.underlying70 rfl hinfo ?_) | (refine wpList_store_row rfl 70 _ _ rfl N _ rfl rfl 70 _ hset.row hinfo rfl (bx_one _) ?_))
      have hsr := hset.setRow ((lb k).set (lx k) (aff (ly k)))
      have hbw : Below N w ((wr.setCell { block := N, off := lx k } (Value.int IntKind.u8 (aff (ly k) : Nat))).setRow N (bx ((lb k).set (lx k) (aff (ly k))))) := Below.setRow (hw.setCell (Nat.le_refl _) _) (Nat.le_refl _) _
      have hsb : ((lb k).set (lx k) (aff (ly k))) = sbox := by have := Hend.out; subst this; rfl
      rw [Exit.noGoto_ret]
      refine bodyPost_ret (results_cell_row rfl _ _ N 70 _ _ _ rfl hsr.row Tryd.underlying70 rfl hinfo) rfl ?_
      rw [hsb] at hbw ⊢
      refine ⟨rfl, ?_⟩
      rw [HN.out]
      exact hbw
    · have hone : lx (k + 1) ≠ 1 := fun h => hend ((lx_back k (by omega)).1 h)
      have he : (((gmul (lx k) 3 : Nat) : Int) == 1) = false := by rw [beq_eq_false_iff_ne]; intro h; exact hone (by show gmul (lx k) 3 = 1; omega)
      have hk' : k < 254 := by omega
      clear hend hone
      go_wp2_with (first | (go_at_call 44; refine (rot_any _ _ _ (by omega) (by omega) (by omega) (by omega)).mono ?_; rintro e w' ⟨rfl, rfl⟩) | (go_at_call 38; refine (mul_any _ _ _ (by omega) (by omega) (by omega) (by omega)).mono ?_; rintro e w' ⟨rfl, rfl⟩))
      go_roundg (gk - 1)
      case measure => omega
      case rel => exact ⟨k + 1, by omega, rfl, rfl, hset, hw.setCell (Nat.le_refl _) _⟩
end Go.Proofs.YtdopdaoapdeabaaDoor
