/- WALKS: codec.Put, codec.Get. -/
import Derived.Test.YtdopdaoapdeabaaDoorCodecP
namespace Go.Proofs.YtdopdaoapdeabaaDoor
open Go.RowKit

theorem Bytes.owns {w : World} {b : Nat} {l : List Nat} {t : TypeId} (h : Bytes w b l t) {B : Nat} (hB : B ≤ b) (hl : l.length ≤ maxLen) : w.ownsRow B t 1 (.slice (some ⟨b, 0, none⟩) l.length l.length) l.length (bs l) :=
  ⟨by rw [bs_length]; omega, .inr ⟨b, l.length, bx l, rfl, hB, h, Nat.le_refl _, hl, by rw [bx_size]; omega, by rw [Nat.mul_one, bx, List.take_of_length_le (by rw [bs_length]; exact Nat.le_refl _)]⟩⟩

set_option maxRecDepth 100000 in
set_option maxHeartbeats 1000000 in
theorem put_any (n wide : Nat) (w : World) (hw : wide = 4 ∨ wide = 8) :
    Calls Tryd.prog 30 #[.int .u64 n, .int .i64 (wide : Nat)] w fun e w' => ∃ v, e = .returned v ∧ w'.ownsRow w.heap.size 5 1 v wide (bs (putL n wide)) ∧ Below w.heap.size w w' := by
  have hmk : ∀ w, (Instr.makeSlice 26 (.int .i64 (wide : Nat)) (.int .i64 (wide : Nat))).run Tryd.prog w = .ok (.slice (some ⟨w.heap.size, 0, none⟩) wide wide) (w.alloc (.cells (bx (zeros wide)) 5)) := by
    rcases hw with rfl | rfl
    · intro w; kernel_rfl
    · intro w; kernel_rfl
  obtain ⟨N, hN⟩ : ∃ N, w.heap.size = N := ⟨_, rfl⟩
  have HN := Lib.hid hN
  have hB0 := Bytes.new w (zeros wide) 5
  rw [hN] at hB0 ⊢
  have hW0 : Below N w (w.alloc (.cells (bx (zeros wide)) 5)) := (Below.refl _ _).alloc (by omega) _
  have hw8 : (wide : Int) ≤ 8 := by omega
  have hw0 : (0 : Int) ≤ (wide : Int) := by omega
  have hw8' : wide ≤ 8 := by omega
  have hwp : 0 < wide := by omega
  clear hw
  go_enter Tryd.func30, Tryd.ntmps30
  go_wp2_with fail
  generalize w.alloc (Obj.cells (bx (zeros wide)) 5) = W at hB0 hW0 ⊢
  clear hmk hN
  go_loopg [13] wide (fun g i' wr => ∃ i : Nat, i + g = wide ∧ i' = .int .i64 i ∧ Bytes wr N (putS n wide i) 5 ∧ Below N w wr)
  case atStart => exact ⟨0, by omega, rfl, by rw [putS_zero]; exact hB0, hW0⟩
  case round =>
    clear hB0 hW0
    obtain ⟨i, hig, rfl, hB, hb⟩ := hrel
    by_cases hlt : i < wide
    · have hlti : (i : Int) < (wide : Int) := by omega
      have hi0 : (0 : Int) ≤ (i : Int) := by omega
      have hp0 : (0 : Int) ≤ (wide : Int) - 1 - (i : Int) := by omega
      have hpn : ((wide : Int) - 1 - (i : Int)).toNat = wide - 1 - i := by omega
      have hshr := shr_pow n i
      have hc := hB.cell (i := wide - 1 - i) (by rw [putS_length]; omega)
      have hf := hB.free (wide - 1 - i)
      have hset := hB.set (wide - 1 - i) (n / 256 ^ i % 256)
      rw [putS_set hlt] at hset
      have HS := Lib.hid (And.intro hset (hb.setCell (p := ⟨N, wide - 1 - i, none⟩) (Nat.le_refl _) (.int .u8 (n / 256 ^ i % 256 : Nat))))
      clear hset hB hb
      obtain ⟨q, hq⟩ : ∃ q, n / 256 ^ i = q := ⟨_, rfl⟩
      rw [hq] at hshr HS
      clear hq
      go_wp2_with fail
      go_roundg (gk - 1)
      case measure => omega
      case rel => exact ⟨i + 1, by omega, by go_num, HS.out.1, HS.out.2⟩
    · have hlti : ¬ (i : Int) < (wide : Int) := by omega
      obtain rfl : i = wide := by omega
      rw [putS_full] at hB
      have HB := Lib.hid (And.intro hB hb)
      clear hB hb
      go_wp2_with fail
      go_ret
      refine ⟨_, rfl, ?_, HB.out.2⟩
      have := HB.out.1.owns (B := N) (Nat.le_refl _) (by rw [putL_length]; unfold maxLen; omega)
      rw [putL_length] at this
      exact this

theorem or_u64 {x y : Nat} (hx : x < 18446744073709551616) (hy : y < 18446744073709551616) : bits BinOp.or IntKind.u64 (x : Int) (y : Int) = ((x ||| y : Nat) : Int) := by
  have hb : x ||| y < 2 ^ 64 := Nat.or_lt_two_pow (by omega) (by omega)
  show IntKind.u64.wrap ((BitVec.ofInt 64 (x : Int) ||| BitVec.ofInt 64 (y : Int)).toNat : Int) = _
  rw [BitVec.toNat_or, BitVec.ofInt_natCast, BitVec.ofInt_natCast, BitVec.toNat_ofNat, BitVec.toNat_ofNat, Nat.mod_eq_of_lt (by omega), Nat.mod_eq_of_lt (by omega), IntKind.wrap_u64]
  omega

set_option maxRecDepth 100000 in
set_option maxHeartbeats 1000000 in
theorem get_any (l : List Nat) (v : Value) (w : World) (hr : Reads w v (bs l)) (hl : ∀ x ∈ l, x < 256) (h0 : 0 < l.length) (h8 : l.length ≤ 8) :
    Calls Tryd.prog 34 #[v] w fun e w' => e = .returned (.int .u64 (getL l : Nat)) ∧ w = w' := by
  obtain ⟨b, off, cap, rfl, hcap, hb, hcell⟩ := hr.pos (by rw [bs_length]; exact h0)
  rw [bs_length] at hcap ⊢
  obtain ⟨m, hm⟩ : ∃ m, l.length = m := ⟨_, rfl⟩
  rw [hm] at hcap h0 h8 ⊢
  have hne : ¬ cap = 0 := by omega
  have h8i : ¬ (8 : Int) < (m : Int) := by omega
  have hmc : (m : Int) ≤ (cap : Int) := by omega
  have HL := Lib.hid (And.intro hm (And.intro hl hcell))
  clear hr hm hl hcell
  go_enter Tryd.func34, Tryd.ntmps34
  go_wp2_with fail
  go_loopg [3, 13] m (fun g n' i' wr => ∃ i : Nat, i + g = m ∧ i' = .int .i64 i ∧ n' = .int .u64 (getL (l.take i) : Nat) ∧ w = wr)
  case atStart => exact ⟨0, by omega, rfl, rfl, rfl⟩
  case round =>
    obtain ⟨i, hig, rfl, rfl, rfl⟩ := hrel
    by_cases hlt : i < m
    · have hlti : (i : Int) < (m : Int) := by omega
      have hi0 : (0 : Int) ≤ (i : Int) := by omega
      obtain ⟨x, hx⟩ : ∃ x, l.getD i 0 = x := ⟨_, rfl⟩
      have hx256 : x < 256 := by rw [← hx]; exact getD_lt HL.out.2.1 i
      have hc := HL.out.2.2 i _ (bs_get (by rw [HL.out.1]; exact hlt))
      rw [hx] at hc
      have hg := getL_lt (l := l.take i) (fun x hx => HL.out.2.1 x (List.mem_of_mem_take hx))
      obtain ⟨q, hq⟩ : ∃ q, getL (l.take i) = q := ⟨_, rfl⟩
      have hp : 256 ^ (l.take i).length ≤ 256 ^ 7 := Nat.pow_le_pow_right (by omega) (by rw [List.length_take]; omega)
      rw [hq] at hg ⊢
      have hq7 : q < 72057594037927936 := by have h7 : (256 : Nat) ^ 7 = 72057594037927936 := by decide
                                             omega
      have hor := or_u64 (x := 256 * q) (y := x) (by omega) (by omega)
      rw [shl_or q hx256, show ((256 * q : Nat) : Int) = (q : Int) * 256 by omega] at hor
      have hs : getL (l.take (i + 1)) = 256 * q + x := by
        have e : l.take (i + 1) = l.take i ++ [x] := by
          rw [List.take_add_one, List.getElem?_eq_getElem (by rw [HL.out.1]; exact hlt)]
          rw [← hx]; simp [HL.out.1, hlt]
        rw [e, getL_snoc, hq]
      obtain ⟨r, hr⟩ : ∃ r, 256 * q + x = r := ⟨_, rfl⟩
      rw [hr] at hor hs
      have Hs := Lib.hid hs
      clear hs hq hx hg hp hr
      go_wp2_with fail
      go_roundg (gk - 1)
      case measure => omega
      case rel => exact ⟨i + 1, by omega, by go_num, by rw [Hs.out], rfl⟩
    · have hlti : ¬ (i : Int) < (m : Int) := by omega
      obtain rfl : i = m := by omega
      rw [List.take_of_length_le (by rw [HL.out.1]; exact Nat.le_refl _)]
      go_wp2_with fail
      go_ret
      exact ⟨rfl, rfl⟩
end Go.Proofs.YtdopdaoapdeabaaDoor
