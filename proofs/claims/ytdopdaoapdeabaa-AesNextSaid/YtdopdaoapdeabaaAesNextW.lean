/- WALK: sacristanlaw04.AesNext. -/
import Derived.Test.YtdopdaoapdeabaaKnownW
import Derived.Test.YtdopdaoapdeabaaReg
namespace Go.Proofs.Ytdopdaoapdeabaa
open Go.RowKit

set_option maxRecDepth 100000 in
set_option maxHeartbeats 2000000 in
theorem aesNext_walk (l : List Nat) (a b : Nat) (w : World) (hl : l.length = 16) (hl' : ∀ x ∈ l, x < 256) (ha : a < 4294967296) (hb : b < 4294967296) :
    Calls Try.prog 4 #[.agg (bx l), .int .u32 a, .int .u32 b] w fun e w' => e = .returned (.bool true) ∧ Below w.heap.size w w' := by
  have g : Good l := ⟨hl, hl'⟩
  have q1 : ∀ w, (binOp .eql 30 (.agg (bs (nextL (nextL l a) b)).toArray) (.agg (bs (nextL l (a + b))).toArray)).run Try.prog w = .ok (.bool true) w := fun w => by
    rw [eql_nonce ((g.next _).next _) (g.next _), nextL_add a b hl hl']; simp
  have q2 : ∀ w, (binOp .eql 30 (.agg (bs l).toArray) (.agg (bs l).toArray)).run Try.prog w = .ok (.bool true) w := fun w => by rw [eql_nonce g g]; simp
  have q3 : a ≠ 0 → ∀ w, (binOp .neq 30 (.agg (bs (nextL l a)).toArray) (.agg (bs l).toArray)).run Try.prog w = .ok (.bool true) w := fun h0 w => by
    rw [neq_nonce (g.next _) g, decide_eq_false (fun e => h0 (nextL_eq a 0 hl (by omega) (by omega) (e.trans (nextL_zero hl hl').symm)))]; rfl
  have z0 : nextL l 0 = l := nextL_zero hl hl'
  have hu := Try.underlying30
  have hi : (Try.prog.info? 30).map (·.size) = some (bs l).length := by rw [bs_length, hl]; kernel_rfl
  have hcs : (bs l).length = 16 := by rw [bs_length, hl]
  have h1 := bs_one l
  have hB : (w.alloc (Obj.cells (bx l) 30)).rangeAt w.heap.size 0 (bs l) := (Bytes.new w l 30).range
  have hW0 : Below w.heap.size w (w.alloc (Obj.cells (bx l) 30)) := (Below.refl _ _).alloc (Nat.le_refl _) _
  have eab : ((a : Int) + (b : Int)).toNat = a + b := by omega
  have e0 : Int.toNat 0 = 0 := by decide
  have e5 : Int.toNat (-5) = 0 := by decide
  have ha0 : (0 : Int) ≤ a ∧ (a : Int) < 4294967296 := ⟨by omega, by omega⟩
  have hb0 : (0 : Int) ≤ b ∧ (b : Int) < 4294967296 := ⟨by omega, by omega⟩
  have wa : IntKind.i64.wrap (a : Int) = a := by rw [IntKind.wrap_i64]; omega
  have wb : IntKind.i64.wrap (b : Int) = b := by rw [IntKind.wrap_i64]; omega
  have wab : IntKind.i64.wrap ((a : Int) + b) = (a : Int) + b := by rw [IntKind.wrap_i64]; omega
  obtain ⟨W, hWe⟩ : ∃ W, W = w.alloc (Obj.cells (bx l) 30) := ⟨_, rfl⟩
  by_cases h0 : a = 0
  · have ea : ((a : Int) == 0) = true := by simp [h0]
    have H0 := Lib.hid h0
    clear h0 q3
    go_enter Try.func4, Try.ntmps4
    go_wp2_with fail
    rw [← hWe] at hB hW0 ⊢
    clear hWe
    refine wp_region_held_drew (S := (fun w' => w'.rangeAt w.heap.size 0 (bs l) ∧ Below w.heap.size w w')) (by kernel_rfl) ?_ (fun hHeld => ?_)
    · exact ⟨by simpa using hB, hW0.drew⟩
    refine take_at 0 (some 7) rfl rfl (by kernel_rfl) (by kernel_rfl) (by kernel_rfl) (fun _ _ _ h => h) (yieldsIf_load_mid (by rfl) 30 _ rfl w.heap.size 0 rfl (bs l) _ (fun _ h => h.1) hu rfl hi) hHeld ?_
    simp only [Act.put, List.setIfInBounds_toArray, List.set_cons_zero, List.set_cons_succ]
    refine take_run (v := ?_) 1 (some 8) rfl rfl (by kernel_rfl) (by kernel_rfl) (by kernel_rfl) (fun _ _ _ h => h) hHeld (by rfl) ?_ ?_
    rotate_left
    · intro _ hSw; go_simp; try with_reducible rfl
    simp only [Act.put, List.setIfInBounds_toArray, List.set_cons_zero, List.set_cons_succ]
    refine take_run (v := ?_) 2 (some 9) rfl rfl (by kernel_rfl) (by kernel_rfl) (by kernel_rfl) (fun _ _ _ h => h) hHeld (by rfl) ?_ ?_
    rotate_left
    · intro _ hSw; go_simp; try with_reducible rfl
    simp only [Act.put, List.setIfInBounds_toArray, List.set_cons_zero, List.set_cons_succ]
    refine take_run (v := ?_) 4 (some 11) rfl rfl (by kernel_rfl) (by kernel_rfl) (by kernel_rfl) (fun _ _ _ h => h) hHeld (by rfl) ?_ ?_
    rotate_left
    · intro _ hSw; go_simp; try with_reducible rfl
    simp only [Act.put, List.setIfInBounds_toArray, List.set_cons_zero, List.set_cons_succ]
    refine take_run (v := ?_) 5 (some 12) rfl rfl (by kernel_rfl) (by kernel_rfl) (by kernel_rfl) (fun _ _ _ h => h) hHeld (by rfl) ?_ ?_
    rotate_left
    · intro _ hSw; go_simp; try with_reducible rfl
    simp only [Act.put, List.setIfInBounds_toArray, List.set_cons_zero, List.set_cons_succ]
    refine take_at 7 (some 14) rfl rfl (by kernel_rfl) (by kernel_rfl) (by kernel_rfl) (fun _ _ _ h => h) (yieldsIf_load_mid (by rfl) 30 _ rfl w.heap.size 0 rfl (bs l) _ (fun _ h => h.1) hu rfl hi) hHeld ?_
    simp only [Act.put, List.setIfInBounds_toArray, List.set_cons_zero, List.set_cons_succ]
    refine take_run (v := ?_) 8 (some 15) rfl rfl (by kernel_rfl) (by kernel_rfl) (by kernel_rfl) (fun _ _ _ h => h) hHeld (by rfl) ?_ ?_
    rotate_left
    · intro _ hSw; go_simp; try with_reducible rfl
    simp only [Act.put, List.setIfInBounds_toArray, List.set_cons_zero, List.set_cons_succ]
    refine take_run (v := ?_) 9 (some 16) rfl rfl (by kernel_rfl) (by kernel_rfl) (by kernel_rfl) (fun _ _ _ h => h) hHeld (by rfl) ?_ ?_
    rotate_left
    · intro _ hSw; go_simp; try with_reducible rfl
    simp only [Act.put, List.setIfInBounds_toArray, List.set_cons_zero, List.set_cons_succ]
    refine take_run (v := ?_) 10 (some 17) rfl rfl (by kernel_rfl) (by kernel_rfl) (by kernel_rfl) (fun _ _ _ h => h) hHeld (by rfl) ?_ ?_
    rotate_left
    · intro _ hSw; go_simp; try with_reducible rfl
    simp only [Act.put, List.setIfInBounds_toArray, List.set_cons_zero, List.set_cons_succ]
    refine take_run (v := ?_) 11 (some 18) rfl rfl (by kernel_rfl) (by kernel_rfl) (by kernel_rfl) (fun _ _ _ h => h) hHeld (by rfl) ?_ ?_
    rotate_left
    · intro _ hSw; go_simp; try with_reducible rfl
    simp only [Act.put, List.setIfInBounds_toArray, List.set_cons_zero, List.set_cons_succ]
    refine take_run (v := ?_) 12 (some 19) rfl rfl (by kernel_rfl) (by kernel_rfl) (by kernel_rfl) (fun _ _ _ h => h) hHeld (by rfl) ?_ ?_
    rotate_left
    · intro _ hSw; go_simp; try with_reducible rfl
    simp only [Act.put, List.setIfInBounds_toArray, List.set_cons_zero, List.set_cons_succ]
    refine call_at (f := ?_) (args := ?_) 3 (some 10) rfl rfl (by kernel_rfl) (by rfl) ?_ ?_
    rotate_left 2
    · go_simp; first | (refine ⟨?_, ?_⟩ <;> with_reducible rfl) | with_reducible rfl
    refine (next_good g (a : Int) _ (by omega) (by omega)).mono ?_
    rintro _ w1 ⟨rfl, hc⟩
    refine ⟨_, rfl, ?_, fun hHeld => ?_⟩
    · exact ⟨rangeAt_below hHeld.1 hc (Nat.le_refl _), hHeld.2.trans (hc.mono hHeld.2.size)⟩
    simp only [Int.toNat_natCast]
    simp only [Act.put, List.setIfInBounds_toArray, List.set_cons_zero, List.set_cons_succ]
    refine call_at (f := ?_) (args := ?_) 6 (some 13) rfl rfl (by kernel_rfl) (by rfl) ?_ ?_
    rotate_left 2
    · go_simp; first | (refine ⟨?_, ?_⟩ <;> with_reducible rfl) | with_reducible rfl
    refine (next_good (g.next _) (b : Int) _ (by omega) (by omega)).mono ?_
    rintro _ w1 ⟨rfl, hc⟩
    refine ⟨_, rfl, ?_, fun hHeld => ?_⟩
    · exact ⟨rangeAt_below hHeld.1 hc (Nat.le_refl _), hHeld.2.trans (hc.mono hHeld.2.size)⟩
    simp only [Int.toNat_natCast]
    simp only [Act.put, List.setIfInBounds_toArray, List.set_cons_zero, List.set_cons_succ]
    refine call_at (f := ?_) (args := ?_) 13 (some 20) rfl rfl (by kernel_rfl) (by rfl) ?_ ?_
    rotate_left 2
    · go_simp; first | (refine ⟨?_, ?_⟩ <;> with_reducible rfl) | with_reducible rfl
    refine (next_good g ((a : Int) + b) _ (by omega) (by omega)).mono ?_
    rintro _ w1 ⟨rfl, hc⟩
    refine ⟨_, rfl, ?_, fun hHeld => ?_⟩
    · exact ⟨rangeAt_below hHeld.1 hc (Nat.le_refl _), hHeld.2.trans (hc.mono hHeld.2.size)⟩
    simp only [eab]
    simp only [Act.put, List.setIfInBounds_toArray, List.set_cons_zero, List.set_cons_succ]
    refine take_run (v := ?_) 14 (some 21) rfl rfl (by kernel_rfl) (by kernel_rfl) (by kernel_rfl) (fun _ _ _ h => h) hHeld (by rfl) ?_ ?_
    rotate_left
    · intro _ hSw; go_simp; try with_reducible rfl
    simp only [Act.put, List.setIfInBounds_toArray, List.set_cons_zero, List.set_cons_succ]
    refine take_run (v := ?_) 15 (some 22) rfl rfl (by kernel_rfl) (by kernel_rfl) (by kernel_rfl) (fun _ _ _ h => h) hHeld (by rfl) ?_ ?_
    rotate_left
    · intro _ hSw; go_simp; try with_reducible rfl
    simp only [Act.put, List.setIfInBounds_toArray, List.set_cons_zero, List.set_cons_succ]
    refine take_at 16 (some 23) rfl rfl (by kernel_rfl) (by kernel_rfl) (by kernel_rfl) (fun _ _ _ h => h) (yieldsIf_load_mid (by rfl) 30 _ rfl w.heap.size 0 rfl (bs l) _ (fun _ h => h.1) hu rfl hi) hHeld ?_
    simp only [Act.put, List.setIfInBounds_toArray, List.set_cons_zero, List.set_cons_succ]
    refine take_at 18 (some 25) rfl rfl (by kernel_rfl) (by kernel_rfl) (by kernel_rfl) (fun _ _ _ h => h) (yieldsIf_load_mid (by rfl) 30 _ rfl w.heap.size 0 rfl (bs l) _ (fun _ h => h.1) hu rfl hi) hHeld ?_
    simp only [Act.put, List.setIfInBounds_toArray, List.set_cons_zero, List.set_cons_succ]
    refine call_at (f := ?_) (args := ?_) 17 (some 24) rfl rfl (by kernel_rfl) (by rfl) ?_ ?_
    rotate_left 2
    · go_simp; first | (refine ⟨?_, ?_⟩ <;> with_reducible rfl) | with_reducible rfl
    refine (next_good g 0 _ (by omega) (by omega)).mono ?_
    rintro _ w1 ⟨rfl, hc⟩
    refine ⟨_, rfl, ?_, fun hHeld => ?_⟩
    · exact ⟨rangeAt_below hHeld.1 hc (Nat.le_refl _), hHeld.2.trans (hc.mono hHeld.2.size)⟩
    simp only [e0, z0]
    simp only [Act.put, List.setIfInBounds_toArray, List.set_cons_zero, List.set_cons_succ]
    refine take_run (v := ?_) 19 (some 26) rfl rfl (by kernel_rfl) (by kernel_rfl) (by kernel_rfl) (fun _ _ _ h => h) hHeld (by rfl) ?_ ?_
    rotate_left
    · intro _ hSw; go_simp; try with_reducible rfl
    simp only [Act.put, List.setIfInBounds_toArray, List.set_cons_zero, List.set_cons_succ]
    refine take_run (v := ?_) 20 (some 27) rfl rfl (by kernel_rfl) (by kernel_rfl) (by kernel_rfl) (fun _ _ _ h => h) hHeld (by rfl) ?_ ?_
    rotate_left
    · intro _ hSw; go_simp; try with_reducible rfl
    simp only [Act.put, List.setIfInBounds_toArray, List.set_cons_zero, List.set_cons_succ]
    refine take_run (v := ?_) 21 (some 28) rfl rfl (by kernel_rfl) (by kernel_rfl) (by kernel_rfl) (fun _ _ _ h => h) hHeld (by rfl) ?_ ?_
    rotate_left
    · intro _ hSw; go_simp; try with_reducible rfl
    simp only [Act.put, List.setIfInBounds_toArray, List.set_cons_zero, List.set_cons_succ]
    refine take_at 22 (some 29) rfl rfl (by kernel_rfl) (by kernel_rfl) (by kernel_rfl) (fun _ _ _ h => h) (yieldsIf_load_mid (by rfl) 30 _ rfl w.heap.size 0 rfl (bs l) _ (fun _ h => h.1) hu rfl hi) hHeld ?_
    simp only [Act.put, List.setIfInBounds_toArray, List.set_cons_zero, List.set_cons_succ]
    refine take_at 24 (some 31) rfl rfl (by kernel_rfl) (by kernel_rfl) (by kernel_rfl) (fun _ _ _ h => h) (yieldsIf_load_mid (by rfl) 30 _ rfl w.heap.size 0 rfl (bs l) _ (fun _ h => h.1) hu rfl hi) hHeld ?_
    simp only [Act.put, List.setIfInBounds_toArray, List.set_cons_zero, List.set_cons_succ]
    refine call_at (f := ?_) (args := ?_) 23 (some 30) rfl rfl (by kernel_rfl) (by rfl) ?_ ?_
    rotate_left 2
    · go_simp; first | (refine ⟨?_, ?_⟩ <;> with_reducible rfl) | with_reducible rfl
    refine (next_good g (-5) _ (by omega) (by omega)).mono ?_
    rintro _ w1 ⟨rfl, hc⟩
    refine ⟨_, rfl, ?_, fun hHeld => ?_⟩
    · exact ⟨rangeAt_below hHeld.1 hc (Nat.le_refl _), hHeld.2.trans (hc.mono hHeld.2.size)⟩
    simp only [e5, z0]
    simp only [Act.put, List.setIfInBounds_toArray, List.set_cons_zero, List.set_cons_succ]
    refine take_run (v := ?_) 25 (some 32) rfl rfl (by kernel_rfl) (by kernel_rfl) (by kernel_rfl) (fun _ _ _ h => h) hHeld (by rfl) ?_ ?_
    rotate_left
    · intro _ hSw; go_simp; try with_reducible rfl
    simp only [Act.put, List.setIfInBounds_toArray, List.set_cons_zero, List.set_cons_succ]
    refine take_run (v := ?_) 26 (some 33) rfl rfl (by kernel_rfl) (by kernel_rfl) (by kernel_rfl) (fun _ _ _ h => h) hHeld (by rfl) ?_ ?_
    rotate_left
    · intro _ hSw; go_simp; try with_reducible rfl
    simp only [Act.put, List.setIfInBounds_toArray, List.set_cons_zero, List.set_cons_succ]
    refine take_run (v := ?_) 27 (some 34) rfl rfl (by kernel_rfl) (by kernel_rfl) (by kernel_rfl) (fun _ _ _ h => h) hHeld (by rfl) ?_ ?_
    rotate_left
    · intro _ hSw; go_simp; try with_reducible rfl
    simp only [Act.put, List.setIfInBounds_toArray, List.set_cons_zero, List.set_cons_succ]
    refine take_run (v := ?_) 28 (some 35) rfl rfl (by kernel_rfl) (by kernel_rfl) (by kernel_rfl) (fun _ _ _ h => h) hHeld (by rfl) ?_ ?_
    rotate_left
    · intro _ hSw; go_simp; try with_reducible rfl
    simp only [Act.put, List.setIfInBounds_toArray, List.set_cons_zero, List.set_cons_succ]
    refine take_run (v := ?_) 29 (some 36) rfl rfl (by kernel_rfl) (by kernel_rfl) (by kernel_rfl) (fun _ _ _ h => h) hHeld (by rfl) ?_ ?_
    rotate_left
    · intro _ hSw; go_simp; try with_reducible rfl
    simp only [Act.put, List.setIfInBounds_toArray, List.set_cons_zero, List.set_cons_succ]
    refine take_run (v := ?_) 30 (some 37) rfl rfl (by kernel_rfl) (by kernel_rfl) (by kernel_rfl) (fun _ _ _ h => h) hHeld (by rfl) ?_ ?_
    rotate_left
    · intro _ hSw; go_simp; try with_reducible rfl
    simp only [Act.put, List.setIfInBounds_toArray, List.set_cons_zero, List.set_cons_succ]
    refine take_skip 31 (some 38) rfl rfl (by kernel_rfl) (by kernel_rfl) (by kernel_rfl) (fun _ _ _ h => h) hHeld (by rfl) ?_
    simp only [Act.put, List.setIfInBounds_toArray, List.set_cons_zero, List.set_cons_succ]
    refine take_skip 32 (some 39) rfl rfl (by kernel_rfl) (by kernel_rfl) (by kernel_rfl) (fun _ _ _ h => h) hHeld (by rfl) ?_
    simp only [Act.put, List.setIfInBounds_toArray, List.set_cons_zero, List.set_cons_succ]
    refine take_skip 33 (some 40) rfl rfl (by kernel_rfl) (by kernel_rfl) (by kernel_rfl) (fun _ _ _ h => h) hHeld (by rfl) ?_
    simp only [Act.put, List.setIfInBounds_toArray, List.set_cons_zero, List.set_cons_succ]
    refine take_skip 34 (some 41) rfl rfl (by kernel_rfl) (by kernel_rfl) (by kernel_rfl) (fun _ _ _ h => h) hHeld (by rfl) ?_
    simp only [Act.put, List.setIfInBounds_toArray, List.set_cons_zero, List.set_cons_succ]
    refine take_skip 35 (some 42) rfl rfl (by kernel_rfl) (by kernel_rfl) (by kernel_rfl) (fun _ _ _ h => h) hHeld (by rfl) ?_
    simp only [Act.put, List.setIfInBounds_toArray, List.set_cons_zero, List.set_cons_succ]
    refine take_skip 36 (some 43) rfl rfl (by kernel_rfl) (by kernel_rfl) (by kernel_rfl) (fun _ _ _ h => h) hHeld (by rfl) ?_
    simp only [Act.put, List.setIfInBounds_toArray, List.set_cons_zero, List.set_cons_succ]
    refine take_run (v := ?_) 37 (some 44) rfl rfl (by kernel_rfl) (by kernel_rfl) (by kernel_rfl) (fun _ _ _ h => h) hHeld (by rfl) ?_ ?_
    rotate_left
    · intro _ hSw; go_simp; try with_reducible rfl
    simp only [Act.put, List.setIfInBounds_toArray, List.set_cons_zero, List.set_cons_succ]
    refine take_run (v := ?_) 38 (some 45) rfl rfl (by kernel_rfl) (by kernel_rfl) (by kernel_rfl) (fun _ _ _ h => h) hHeld (by rfl) ?_ ?_
    rotate_left
    · intro _ hSw; go_simp; try with_reducible rfl
    simp only [Act.put, List.setIfInBounds_toArray, List.set_cons_zero, List.set_cons_succ]
    refine take_run (v := ?_) 39 (some 46) rfl rfl (by kernel_rfl) (by kernel_rfl) (by kernel_rfl) (fun _ _ _ h => h) hHeld (by rfl) ?_ ?_
    rotate_left
    · intro _ hSw; go_simp; try with_reducible rfl
    simp only [Act.put, List.setIfInBounds_toArray, List.set_cons_zero, List.set_cons_succ]
    refine call_at (f := ?_) (args := ?_) 40 (some 47) rfl rfl (by kernel_rfl) (by rfl) ?_ ?_
    rotate_left 2
    · go_simp; first | (refine ⟨?_, ?_⟩ <;> with_reducible rfl) | with_reducible rfl
    refine (known_any _).mono ?_
    rintro _ w1 ⟨rfl, hc⟩
    refine ⟨_, rfl, ?_, fun hHeld => ?_⟩
    · exact ⟨rangeAt_below hHeld.1 hc (Nat.le_refl _), hHeld.2.trans (hc.mono hHeld.2.size)⟩
    simp only [Act.put, List.setIfInBounds_toArray, List.set_cons_zero, List.set_cons_succ]
    refine take_run (v := ?_) 41 (some 48) rfl rfl (by kernel_rfl) (by kernel_rfl) (by kernel_rfl) (fun _ _ _ h => h) hHeld (by rfl) ?_ ?_
    rotate_left
    · intro _ hSw; go_simp; try with_reducible rfl
    simp only [Act.put, List.setIfInBounds_toArray, List.set_cons_zero, List.set_cons_succ]
    refine take_run (v := ?_) 42 (some 6) rfl rfl (by kernel_rfl) (by kernel_rfl) (by kernel_rfl) (fun _ _ _ h => h) hHeld (by rfl) ?_ ?_
    rotate_left
    · intro _ hSw; go_simp; try with_reducible rfl
    simp only [Act.put, List.setIfInBounds_toArray, List.set_cons_zero, List.set_cons_succ]
    refine wpAnyH_done (by kernel_rfl) ?_ _
    go_wp2_with fail
    go_ret
    exact ⟨rfl, hHeld.2⟩
  · have ea : ((a : Int) == 0) = false := by simp [h0]
    have q4 := q3 h0
    clear h0 q3
    go_enter Try.func4, Try.ntmps4
    go_wp2_with fail
    rw [← hWe] at hB hW0 ⊢
    clear hWe
    refine wp_region_held_drew (S := (fun w' => w'.rangeAt w.heap.size 0 (bs l) ∧ Below w.heap.size w w')) (by kernel_rfl) ?_ (fun hHeld => ?_)
    · exact ⟨by simpa using hB, hW0.drew⟩
    refine take_at 0 (some 7) rfl rfl (by kernel_rfl) (by kernel_rfl) (by kernel_rfl) (fun _ _ _ h => h) (yieldsIf_load_mid (by rfl) 30 _ rfl w.heap.size 0 rfl (bs l) _ (fun _ h => h.1) hu rfl hi) hHeld ?_
    simp only [Act.put, List.setIfInBounds_toArray, List.set_cons_zero, List.set_cons_succ]
    refine take_run (v := ?_) 1 (some 8) rfl rfl (by kernel_rfl) (by kernel_rfl) (by kernel_rfl) (fun _ _ _ h => h) hHeld (by rfl) ?_ ?_
    rotate_left
    · intro _ hSw; go_simp; try with_reducible rfl
    simp only [Act.put, List.setIfInBounds_toArray, List.set_cons_zero, List.set_cons_succ]
    refine take_run (v := ?_) 2 (some 9) rfl rfl (by kernel_rfl) (by kernel_rfl) (by kernel_rfl) (fun _ _ _ h => h) hHeld (by rfl) ?_ ?_
    rotate_left
    · intro _ hSw; go_simp; try with_reducible rfl
    simp only [Act.put, List.setIfInBounds_toArray, List.set_cons_zero, List.set_cons_succ]
    refine take_run (v := ?_) 4 (some 11) rfl rfl (by kernel_rfl) (by kernel_rfl) (by kernel_rfl) (fun _ _ _ h => h) hHeld (by rfl) ?_ ?_
    rotate_left
    · intro _ hSw; go_simp; try with_reducible rfl
    simp only [Act.put, List.setIfInBounds_toArray, List.set_cons_zero, List.set_cons_succ]
    refine take_run (v := ?_) 5 (some 12) rfl rfl (by kernel_rfl) (by kernel_rfl) (by kernel_rfl) (fun _ _ _ h => h) hHeld (by rfl) ?_ ?_
    rotate_left
    · intro _ hSw; go_simp; try with_reducible rfl
    simp only [Act.put, List.setIfInBounds_toArray, List.set_cons_zero, List.set_cons_succ]
    refine take_at 7 (some 14) rfl rfl (by kernel_rfl) (by kernel_rfl) (by kernel_rfl) (fun _ _ _ h => h) (yieldsIf_load_mid (by rfl) 30 _ rfl w.heap.size 0 rfl (bs l) _ (fun _ h => h.1) hu rfl hi) hHeld ?_
    simp only [Act.put, List.setIfInBounds_toArray, List.set_cons_zero, List.set_cons_succ]
    refine take_run (v := ?_) 8 (some 15) rfl rfl (by kernel_rfl) (by kernel_rfl) (by kernel_rfl) (fun _ _ _ h => h) hHeld (by rfl) ?_ ?_
    rotate_left
    · intro _ hSw; go_simp; try with_reducible rfl
    simp only [Act.put, List.setIfInBounds_toArray, List.set_cons_zero, List.set_cons_succ]
    refine take_run (v := ?_) 9 (some 16) rfl rfl (by kernel_rfl) (by kernel_rfl) (by kernel_rfl) (fun _ _ _ h => h) hHeld (by rfl) ?_ ?_
    rotate_left
    · intro _ hSw; go_simp; try with_reducible rfl
    simp only [Act.put, List.setIfInBounds_toArray, List.set_cons_zero, List.set_cons_succ]
    refine take_run (v := ?_) 10 (some 17) rfl rfl (by kernel_rfl) (by kernel_rfl) (by kernel_rfl) (fun _ _ _ h => h) hHeld (by rfl) ?_ ?_
    rotate_left
    · intro _ hSw; go_simp; try with_reducible rfl
    simp only [Act.put, List.setIfInBounds_toArray, List.set_cons_zero, List.set_cons_succ]
    refine take_run (v := ?_) 11 (some 18) rfl rfl (by kernel_rfl) (by kernel_rfl) (by kernel_rfl) (fun _ _ _ h => h) hHeld (by rfl) ?_ ?_
    rotate_left
    · intro _ hSw; go_simp; try with_reducible rfl
    simp only [Act.put, List.setIfInBounds_toArray, List.set_cons_zero, List.set_cons_succ]
    refine take_run (v := ?_) 12 (some 19) rfl rfl (by kernel_rfl) (by kernel_rfl) (by kernel_rfl) (fun _ _ _ h => h) hHeld (by rfl) ?_ ?_
    rotate_left
    · intro _ hSw; go_simp; try with_reducible rfl
    simp only [Act.put, List.setIfInBounds_toArray, List.set_cons_zero, List.set_cons_succ]
    refine call_at (f := ?_) (args := ?_) 3 (some 10) rfl rfl (by kernel_rfl) (by rfl) ?_ ?_
    rotate_left 2
    · go_simp; first | (refine ⟨?_, ?_⟩ <;> with_reducible rfl) | with_reducible rfl
    refine (next_good g (a : Int) _ (by omega) (by omega)).mono ?_
    rintro _ w1 ⟨rfl, hc⟩
    refine ⟨_, rfl, ?_, fun hHeld => ?_⟩
    · exact ⟨rangeAt_below hHeld.1 hc (Nat.le_refl _), hHeld.2.trans (hc.mono hHeld.2.size)⟩
    simp only [Int.toNat_natCast]
    simp only [Act.put, List.setIfInBounds_toArray, List.set_cons_zero, List.set_cons_succ]
    refine call_at (f := ?_) (args := ?_) 6 (some 13) rfl rfl (by kernel_rfl) (by rfl) ?_ ?_
    rotate_left 2
    · go_simp; first | (refine ⟨?_, ?_⟩ <;> with_reducible rfl) | with_reducible rfl
    refine (next_good (g.next _) (b : Int) _ (by omega) (by omega)).mono ?_
    rintro _ w1 ⟨rfl, hc⟩
    refine ⟨_, rfl, ?_, fun hHeld => ?_⟩
    · exact ⟨rangeAt_below hHeld.1 hc (Nat.le_refl _), hHeld.2.trans (hc.mono hHeld.2.size)⟩
    simp only [Int.toNat_natCast]
    simp only [Act.put, List.setIfInBounds_toArray, List.set_cons_zero, List.set_cons_succ]
    refine call_at (f := ?_) (args := ?_) 13 (some 20) rfl rfl (by kernel_rfl) (by rfl) ?_ ?_
    rotate_left 2
    · go_simp; first | (refine ⟨?_, ?_⟩ <;> with_reducible rfl) | with_reducible rfl
    refine (next_good g ((a : Int) + b) _ (by omega) (by omega)).mono ?_
    rintro _ w1 ⟨rfl, hc⟩
    refine ⟨_, rfl, ?_, fun hHeld => ?_⟩
    · exact ⟨rangeAt_below hHeld.1 hc (Nat.le_refl _), hHeld.2.trans (hc.mono hHeld.2.size)⟩
    simp only [eab]
    simp only [Act.put, List.setIfInBounds_toArray, List.set_cons_zero, List.set_cons_succ]
    refine take_run (v := ?_) 14 (some 21) rfl rfl (by kernel_rfl) (by kernel_rfl) (by kernel_rfl) (fun _ _ _ h => h) hHeld (by rfl) ?_ ?_
    rotate_left
    · intro _ hSw; go_simp; try with_reducible rfl
    simp only [Act.put, List.setIfInBounds_toArray, List.set_cons_zero, List.set_cons_succ]
    refine take_run (v := ?_) 15 (some 22) rfl rfl (by kernel_rfl) (by kernel_rfl) (by kernel_rfl) (fun _ _ _ h => h) hHeld (by rfl) ?_ ?_
    rotate_left
    · intro _ hSw; go_simp; try with_reducible rfl
    simp only [Act.put, List.setIfInBounds_toArray, List.set_cons_zero, List.set_cons_succ]
    refine take_at 16 (some 23) rfl rfl (by kernel_rfl) (by kernel_rfl) (by kernel_rfl) (fun _ _ _ h => h) (yieldsIf_load_mid (by rfl) 30 _ rfl w.heap.size 0 rfl (bs l) _ (fun _ h => h.1) hu rfl hi) hHeld ?_
    simp only [Act.put, List.setIfInBounds_toArray, List.set_cons_zero, List.set_cons_succ]
    refine take_at 18 (some 25) rfl rfl (by kernel_rfl) (by kernel_rfl) (by kernel_rfl) (fun _ _ _ h => h) (yieldsIf_load_mid (by rfl) 30 _ rfl w.heap.size 0 rfl (bs l) _ (fun _ h => h.1) hu rfl hi) hHeld ?_
    simp only [Act.put, List.setIfInBounds_toArray, List.set_cons_zero, List.set_cons_succ]
    refine call_at (f := ?_) (args := ?_) 17 (some 24) rfl rfl (by kernel_rfl) (by rfl) ?_ ?_
    rotate_left 2
    · go_simp; first | (refine ⟨?_, ?_⟩ <;> with_reducible rfl) | with_reducible rfl
    refine (next_good g 0 _ (by omega) (by omega)).mono ?_
    rintro _ w1 ⟨rfl, hc⟩
    refine ⟨_, rfl, ?_, fun hHeld => ?_⟩
    · exact ⟨rangeAt_below hHeld.1 hc (Nat.le_refl _), hHeld.2.trans (hc.mono hHeld.2.size)⟩
    simp only [e0, z0]
    simp only [Act.put, List.setIfInBounds_toArray, List.set_cons_zero, List.set_cons_succ]
    refine take_run (v := ?_) 19 (some 26) rfl rfl (by kernel_rfl) (by kernel_rfl) (by kernel_rfl) (fun _ _ _ h => h) hHeld (by rfl) ?_ ?_
    rotate_left
    · intro _ hSw; go_simp; try with_reducible rfl
    simp only [Act.put, List.setIfInBounds_toArray, List.set_cons_zero, List.set_cons_succ]
    refine take_run (v := ?_) 20 (some 27) rfl rfl (by kernel_rfl) (by kernel_rfl) (by kernel_rfl) (fun _ _ _ h => h) hHeld (by rfl) ?_ ?_
    rotate_left
    · intro _ hSw; go_simp; try with_reducible rfl
    simp only [Act.put, List.setIfInBounds_toArray, List.set_cons_zero, List.set_cons_succ]
    refine take_run (v := ?_) 21 (some 28) rfl rfl (by kernel_rfl) (by kernel_rfl) (by kernel_rfl) (fun _ _ _ h => h) hHeld (by rfl) ?_ ?_
    rotate_left
    · intro _ hSw; go_simp; try with_reducible rfl
    simp only [Act.put, List.setIfInBounds_toArray, List.set_cons_zero, List.set_cons_succ]
    refine take_at 22 (some 29) rfl rfl (by kernel_rfl) (by kernel_rfl) (by kernel_rfl) (fun _ _ _ h => h) (yieldsIf_load_mid (by rfl) 30 _ rfl w.heap.size 0 rfl (bs l) _ (fun _ h => h.1) hu rfl hi) hHeld ?_
    simp only [Act.put, List.setIfInBounds_toArray, List.set_cons_zero, List.set_cons_succ]
    refine take_at 24 (some 31) rfl rfl (by kernel_rfl) (by kernel_rfl) (by kernel_rfl) (fun _ _ _ h => h) (yieldsIf_load_mid (by rfl) 30 _ rfl w.heap.size 0 rfl (bs l) _ (fun _ h => h.1) hu rfl hi) hHeld ?_
    simp only [Act.put, List.setIfInBounds_toArray, List.set_cons_zero, List.set_cons_succ]
    refine call_at (f := ?_) (args := ?_) 23 (some 30) rfl rfl (by kernel_rfl) (by rfl) ?_ ?_
    rotate_left 2
    · go_simp; first | (refine ⟨?_, ?_⟩ <;> with_reducible rfl) | with_reducible rfl
    refine (next_good g (-5) _ (by omega) (by omega)).mono ?_
    rintro _ w1 ⟨rfl, hc⟩
    refine ⟨_, rfl, ?_, fun hHeld => ?_⟩
    · exact ⟨rangeAt_below hHeld.1 hc (Nat.le_refl _), hHeld.2.trans (hc.mono hHeld.2.size)⟩
    simp only [e5, z0]
    simp only [Act.put, List.setIfInBounds_toArray, List.set_cons_zero, List.set_cons_succ]
    refine take_run (v := ?_) 25 (some 32) rfl rfl (by kernel_rfl) (by kernel_rfl) (by kernel_rfl) (fun _ _ _ h => h) hHeld (by rfl) ?_ ?_
    rotate_left
    · intro _ hSw; go_simp; try with_reducible rfl
    simp only [Act.put, List.setIfInBounds_toArray, List.set_cons_zero, List.set_cons_succ]
    refine take_run (v := ?_) 26 (some 33) rfl rfl (by kernel_rfl) (by kernel_rfl) (by kernel_rfl) (fun _ _ _ h => h) hHeld (by rfl) ?_ ?_
    rotate_left
    · intro _ hSw; go_simp; try with_reducible rfl
    simp only [Act.put, List.setIfInBounds_toArray, List.set_cons_zero, List.set_cons_succ]
    refine take_run (v := ?_) 27 (some 34) rfl rfl (by kernel_rfl) (by kernel_rfl) (by kernel_rfl) (fun _ _ _ h => h) hHeld (by rfl) ?_ ?_
    rotate_left
    · intro _ hSw; go_simp; try with_reducible rfl
    simp only [Act.put, List.setIfInBounds_toArray, List.set_cons_zero, List.set_cons_succ]
    refine take_run (v := ?_) 28 (some 35) rfl rfl (by kernel_rfl) (by kernel_rfl) (by kernel_rfl) (fun _ _ _ h => h) hHeld (by rfl) ?_ ?_
    rotate_left
    · intro _ hSw; go_simp; try with_reducible rfl
    simp only [Act.put, List.setIfInBounds_toArray, List.set_cons_zero, List.set_cons_succ]
    refine take_run (v := ?_) 29 (some 36) rfl rfl (by kernel_rfl) (by kernel_rfl) (by kernel_rfl) (fun _ _ _ h => h) hHeld (by rfl) ?_ ?_
    rotate_left
    · intro _ hSw; go_simp; try with_reducible rfl
    simp only [Act.put, List.setIfInBounds_toArray, List.set_cons_zero, List.set_cons_succ]
    refine take_run (v := ?_) 30 (some 37) rfl rfl (by kernel_rfl) (by kernel_rfl) (by kernel_rfl) (fun _ _ _ h => h) hHeld (by rfl) ?_ ?_
    rotate_left
    · intro _ hSw; go_simp; try with_reducible rfl
    simp only [Act.put, List.setIfInBounds_toArray, List.set_cons_zero, List.set_cons_succ]
    refine take_at 31 (some 38) rfl rfl (by kernel_rfl) (by kernel_rfl) (by kernel_rfl) (fun _ _ _ h => h) (yieldsIf_load_mid (by rfl) 30 _ rfl w.heap.size 0 rfl (bs l) _ (fun _ h => h.1) hu rfl hi) hHeld ?_
    simp only [Act.put, List.setIfInBounds_toArray, List.set_cons_zero, List.set_cons_succ]
    refine take_run (v := ?_) 32 (some 39) rfl rfl (by kernel_rfl) (by kernel_rfl) (by kernel_rfl) (fun _ _ _ h => h) hHeld (by rfl) ?_ ?_
    rotate_left
    · intro _ hSw; go_simp; try with_reducible rfl
    simp only [Act.put, List.setIfInBounds_toArray, List.set_cons_zero, List.set_cons_succ]
    refine take_run (v := ?_) 33 (some 40) rfl rfl (by kernel_rfl) (by kernel_rfl) (by kernel_rfl) (fun _ _ _ h => h) hHeld (by rfl) ?_ ?_
    rotate_left
    · intro _ hSw; go_simp; try with_reducible rfl
    simp only [Act.put, List.setIfInBounds_toArray, List.set_cons_zero, List.set_cons_succ]
    refine take_at 35 (some 42) rfl rfl (by kernel_rfl) (by kernel_rfl) (by kernel_rfl) (fun _ _ _ h => h) (yieldsIf_load_mid (by rfl) 30 _ rfl w.heap.size 0 rfl (bs l) _ (fun _ h => h.1) hu rfl hi) hHeld ?_
    simp only [Act.put, List.setIfInBounds_toArray, List.set_cons_zero, List.set_cons_succ]
    refine call_at (f := ?_) (args := ?_) 34 (some 41) rfl rfl (by kernel_rfl) (by rfl) ?_ ?_
    rotate_left 2
    · go_simp; first | (refine ⟨?_, ?_⟩ <;> with_reducible rfl) | with_reducible rfl
    refine (next_good g (a : Int) _ (by omega) (by omega)).mono ?_
    rintro _ w1 ⟨rfl, hc⟩
    refine ⟨_, rfl, ?_, fun hHeld => ?_⟩
    · exact ⟨rangeAt_below hHeld.1 hc (Nat.le_refl _), hHeld.2.trans (hc.mono hHeld.2.size)⟩
    simp only [Int.toNat_natCast]
    simp only [Act.put, List.setIfInBounds_toArray, List.set_cons_zero, List.set_cons_succ]
    refine take_run (v := ?_) 36 (some 43) rfl rfl (by kernel_rfl) (by kernel_rfl) (by kernel_rfl) (fun _ _ _ h => h) hHeld (by rfl) ?_ ?_
    rotate_left
    · intro _ hSw; go_simp; try with_reducible rfl
    simp only [Act.put, List.setIfInBounds_toArray, List.set_cons_zero, List.set_cons_succ]
    refine take_run (v := ?_) 37 (some 44) rfl rfl (by kernel_rfl) (by kernel_rfl) (by kernel_rfl) (fun _ _ _ h => h) hHeld (by rfl) ?_ ?_
    rotate_left
    · intro _ hSw; go_simp; try with_reducible rfl
    simp only [Act.put, List.setIfInBounds_toArray, List.set_cons_zero, List.set_cons_succ]
    refine take_run (v := ?_) 38 (some 45) rfl rfl (by kernel_rfl) (by kernel_rfl) (by kernel_rfl) (fun _ _ _ h => h) hHeld (by rfl) ?_ ?_
    rotate_left
    · intro _ hSw; go_simp; try with_reducible rfl
    simp only [Act.put, List.setIfInBounds_toArray, List.set_cons_zero, List.set_cons_succ]
    refine take_run (v := ?_) 39 (some 46) rfl rfl (by kernel_rfl) (by kernel_rfl) (by kernel_rfl) (fun _ _ _ h => h) hHeld (by rfl) ?_ ?_
    rotate_left
    · intro _ hSw; go_simp; try with_reducible rfl
    simp only [Act.put, List.setIfInBounds_toArray, List.set_cons_zero, List.set_cons_succ]
    refine call_at (f := ?_) (args := ?_) 40 (some 47) rfl rfl (by kernel_rfl) (by rfl) ?_ ?_
    rotate_left 2
    · go_simp; first | (refine ⟨?_, ?_⟩ <;> with_reducible rfl) | with_reducible rfl
    refine (known_any _).mono ?_
    rintro _ w1 ⟨rfl, hc⟩
    refine ⟨_, rfl, ?_, fun hHeld => ?_⟩
    · exact ⟨rangeAt_below hHeld.1 hc (Nat.le_refl _), hHeld.2.trans (hc.mono hHeld.2.size)⟩
    simp only [Act.put, List.setIfInBounds_toArray, List.set_cons_zero, List.set_cons_succ]
    refine take_run (v := ?_) 41 (some 48) rfl rfl (by kernel_rfl) (by kernel_rfl) (by kernel_rfl) (fun _ _ _ h => h) hHeld (by rfl) ?_ ?_
    rotate_left
    · intro _ hSw; go_simp; try with_reducible rfl
    simp only [Act.put, List.setIfInBounds_toArray, List.set_cons_zero, List.set_cons_succ]
    refine take_run (v := ?_) 42 (some 6) rfl rfl (by kernel_rfl) (by kernel_rfl) (by kernel_rfl) (fun _ _ _ h => h) hHeld (by rfl) ?_ ?_
    rotate_left
    · intro _ hSw; go_simp; try with_reducible rfl
    simp only [Act.put, List.setIfInBounds_toArray, List.set_cons_zero, List.set_cons_succ]
    refine wpAnyH_done (by kernel_rfl) ?_ _
    go_wp2_with fail
    go_ret
    exact ⟨rfl, hHeld.2⟩
end Go.Proofs.Ytdopdaoapdeabaa
