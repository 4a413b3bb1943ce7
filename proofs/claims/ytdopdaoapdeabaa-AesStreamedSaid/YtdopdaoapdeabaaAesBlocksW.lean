/- WALK: sacristanlaw04.AesBlocks. -/
import Derived.Test.YtdopdaoapdeabaaRNewW
import Derived.Test.YtdopdaoapdeabaaRNextW
import Derived.Test.YtdopdaoapdeabaaKnownW
namespace Go.Proofs.Ytdopdaoapdeabaa
open Go.RowKit
/-- what stands: a cipher, its key, a place -/
structure QB (w X : World) (N b bb : Nat) (key at_ ks : List Nat) : Prop where
  cip : IsCipher X b bb ks
  key : Bytes X N key 35
  place : Bytes X (N + 1) at_ 30
  bel : Below N w X
theorem QB.below {w X X' : World} {N b bb : Nat} {key at_ ks : List Nat} (h : QB w X N b bb key at_ ks) (hb : Below X.heap.size X X') : QB w X' N b bb key at_ ks :=
  ⟨h.cip.below hb h.cip.lt1 h.cip.lt2, h.key.below hb h.key.lt, h.place.below hb h.place.lt, h.bel.trans (hb.mono (Nat.le_of_lt h.key.lt))⟩
theorem QB.drew {w X : World} {N b bb : Nat} {key at_ ks : List Nat} (h : QB w X N b bb key at_ ks) : QB w X.drew N b bb key at_ ks := h.below ((Below.refl X.heap.size X).drew)


set_option maxRecDepth 100000 in
set_option maxHeartbeats 4000000 in
theorem aesBlocks_walk (key l : List Nat) (n : Int) (w : World) (hkl : key.length = 16) (hkt : ∀ x ∈ key, x < 256) (hal : l.length = 16) (hat : ∀ x ∈ l, x < 256)
    (hn0 : -9223372036854775808 ≤ n) (hn1 : n ≤ 9223372036854775807) :
    Calls Try.prog 6 #[.agg (bx key), .agg (bx l), .int .i64 n] w fun e w' => e = .returned (.bool true) ∧ Below w.heap.size w w' := by
  have Hl := Lib.hid (And.intro hal hat)
  have Hkey := Lib.hid (And.intro hkl hkt)
  have hi : ∀ m : List Nat, m.length = 16 → (Try.prog.info? 30).map (·.size) = some (bx m).size := by intro m hm; rw [bx_size, hm]; kernel_rfl
  have Hi := Lib.hid hi
  have hik : (Try.prog.info? 35).map (·.size) = some (bx key).size := by rw [bx_size, hkl]; kernel_rfl
  have Hik := Lib.hid hik
  have Hi2 : Hid (((Try.prog.info? 35).map (·.size) = some (bs key).length) ∧ ((Try.prog.info? 30).map (·.size) = some (bs l).length)) := ⟨by rw [bs_length, hkl]; kernel_rfl, by rw [bs_length, hal]; kernel_rfl⟩
  obtain ⟨N, hN⟩ : ∃ N, w.heap.size = N := ⟨_, rfl⟩
  have HN := Lib.hid hN
  have hW0 : Below N w ((w.alloc (.cells (bx key) 35)).alloc (.cells (bx l) 30)) := by rw [← hN]; exact ((Below.refl _ _).alloc (Nat.le_refl _) _).alloc (by simp) _
  have hK0 : Bytes ((w.alloc (.cells (bx key) 35)).alloc (.cells (bx l) 30)) N key 35 := by rw [← hN]; exact (Bytes.new _ _ _).old _
  have hA0 : Bytes ((w.alloc (.cells (bx key) 35)).alloc (.cells (bx l) 30)) (N + 1) l 30 := by
    have := Bytes.new (w.alloc (.cells (bx key) 35)) l 30
    rwa [show (w.alloc (.cells (bx key) 35)).heap.size = N + 1 by simp [hN]] at this
  have hNW : N ≤ ((w.alloc (.cells (bx key) 35)).alloc (.cells (bx l) 30)).heap.size := by simp [hN]; omega
  clear hi hik hkl hkt hal hat
  go_enter Try.func6, Try.ntmps6
  go_upto_region 1 with (fail)
  obtain ⟨W, hWe⟩ : ∃ W, W = ((w.alloc (.cells (bx key) 35)).alloc (.cells (bx l) 30)) := ⟨_, rfl⟩
  rw [← hWe] at hW0 hK0 hA0 hNW ⊢
  clear hWe hN
  go_upto_region 2 with (first | (refine wpList_load_row rfl 35 _ rfl N rfl 35 (bx key) _ _ hK0.row Try.underlying35 rfl Hik.out ?_) | (go_at_call 18; refine (new_any key _ Hkey.out.1 Hkey.out.2).mono ?_; rintro e w1 ⟨b, bb, rfl, hc1, hj1, hj2, hb1⟩))
  obtain ⟨ks, hks⟩ : ∃ ks, keysL key = ks := ⟨_, rfl⟩
  rw [hks] at hc1
  have hQ : QB w w1 N b bb key l ks := ⟨hc1, hK0.below hb1 hK0.lt, hA0.below hb1 hA0.lt, hW0.trans (hb1.mono hNW)⟩
  have Hks := Lib.hid hks
  have Hkt := Lib.hid hc1.lt
  clear hW0 hK0 hA0 hNW hb1 hc1 hj1 hj2 hks W
  obtain ⟨blk, hblk⟩ : ∃ blk, blockL ks l = blk := ⟨_, rfl⟩
  have hbl : blk.length = 16 := by rw [← hblk, blockL_length, Hl.out.1]
  have hbt : ∀ x ∈ blk, x < 256 := by rw [← hblk]; exact blockL_lt Hkt.out Hl.out.2
  obtain ⟨nx, hnx⟩ : ∃ nx, nextL l n.toNat = nx := ⟨_, rfl⟩
  have hnl : nx.length = 16 := by rw [← hnx]; exact nextL_length _ Hl.out.1
  have hnt : ∀ x ∈ nx, x < 256 := by rw [← hnx]; exact nextL_lt _ Hl.out.2
  have hE1 : ∀ w, (binOp .eql 30 (.agg (bx blk)) (.agg (bx blk))).run Try.prog w = .ok (.bool true) w := fun w => by
    rw [run_eql_bx Try.underlying30 Try.underlying5 (by kernel_rfl) hbl hbl hbt hbt w, decide_eq_true rfl]
  have hE2 : ∀ w, (binOp .eql 30 (.agg (bx nx)) (.agg (bx nx))).run Try.prog w = .ok (.bool true) w := fun w => by
    rw [run_eql_bx Try.underlying30 Try.underlying5 (by kernel_rfl) hnl hnl hnt hnt w, decide_eq_true rfl]
  have Hblk := Lib.hid hblk
  have Hnx := Lib.hid hnx
  clear hblk hbl hbt hnx hnl hnt
  refine wp_region_held_drew (S := (fun w' => QB w w' N b bb key l ks)) (by kernel_rfl) ?_ (fun hHeld => ?_)
  · exact hQ.drew
  refine take_run (v := ?_) 0 (some 10) rfl rfl (by kernel_rfl) (by kernel_rfl) (by kernel_rfl) (fun _ _ _ h => h) hHeld (by rfl) ?_ ?_
  rotate_left
  · intro _ hSw; go_simp; try with_reducible rfl
  simp only [Act.put, List.setIfInBounds_toArray, List.set_cons_zero, List.set_cons_succ]
  refine take_at 1 (some 11) rfl rfl (by kernel_rfl) (by kernel_rfl) (by kernel_rfl) (fun _ _ _ h => h) (yieldsIf_load_mid (by rfl) 30 _ rfl (N + 1) 0 rfl (bs l) _ (fun _ h => h.place.range) Try.underlying30 rfl Hi2.out.2) hHeld ?_
  simp only [Act.put, List.setIfInBounds_toArray, List.set_cons_zero, List.set_cons_succ]
  refine take_at 3 (some 13) rfl rfl (by kernel_rfl) (by kernel_rfl) (by kernel_rfl) (fun _ _ _ h => h) (yieldsIf_load_mid (by rfl) 35 _ rfl N 0 rfl (bs key) _ (fun _ h => h.key.range) Try.underlying35 rfl Hi2.out.1) hHeld ?_
  simp only [Act.put, List.setIfInBounds_toArray, List.set_cons_zero, List.set_cons_succ]
  refine take_at 5 (some 15) rfl rfl (by kernel_rfl) (by kernel_rfl) (by kernel_rfl) (fun _ _ _ h => h) (yieldsIf_load_mid (by rfl) 30 _ rfl (N + 1) 0 rfl (bs l) _ (fun _ h => h.place.range) Try.underlying30 rfl Hi2.out.2) hHeld ?_
  simp only [Act.put, List.setIfInBounds_toArray, List.set_cons_zero, List.set_cons_succ]
  refine call_at (f := ?_) (args := ?_) 2 (some 12) rfl rfl (by kernel_rfl) (by rfl) ?_ ?_
  rotate_left 2
  · go_simp; first | (refine ⟨?_, ?_⟩ <;> with_reducible rfl) | with_reducible rfl
  refine (block_any b bb ks l _ hHeld.cip Hl.out.1 Hl.out.2).mono ?_
  rintro _ w4 ⟨rfl, hb⟩
  refine ⟨_, rfl, ?_, fun hHeld => ?_⟩
  · exact hHeld.below hb
  rw [Hblk.out]
  simp only [Act.put, List.setIfInBounds_toArray, List.set_cons_zero, List.set_cons_succ]
  refine call_at (f := ?_) (args := ?_) 4 (some 14) rfl rfl (by kernel_rfl) (by rfl) ?_ ?_
  rotate_left 2
  · go_simp; first | (refine ⟨?_, ?_⟩ <;> with_reducible rfl) | with_reducible rfl
  refine (rnew_any key _ Hkey.out.1 Hkey.out.2).mono ?_
  rintro _ w5 ⟨kv, bv, rfl, hC, hb⟩
  refine ⟨_, rfl, ?_, fun hHeld => ?_⟩
  · exact hHeld.below hb
  rw [Hks.out] at hC
  simp only [Act.put, List.setIfInBounds_toArray, List.set_cons_zero, List.set_cons_succ]
  refine call_at (f := ?_) (args := ?_) 6 (some 16) rfl rfl (by kernel_rfl) (by rfl) ?_ ?_
  rotate_left 2
  · go_simp; first | (refine ⟨?_, ?_⟩ <;> with_reducible rfl) | with_reducible rfl
  refine (rblock_any kv bv ks l _ hC Hl.out.1 Hl.out.2).mono ?_
  rintro _ w6 ⟨rfl, hb⟩
  refine ⟨_, rfl, ?_, fun hHeld => ?_⟩
  · exact hHeld.below hb
  rw [Hblk.out]
  simp only [Act.put, List.setIfInBounds_toArray, List.set_cons_zero, List.set_cons_succ]
  refine take_run (v := ?_) 7 (some 17) rfl rfl (by kernel_rfl) (by kernel_rfl) (by kernel_rfl) (fun _ _ _ h => h) hHeld (by rfl) ?_ ?_
  rotate_left
  · intro _ hSw; go_simp; try with_reducible rfl
  simp only [Act.put, List.setIfInBounds_toArray, List.set_cons_zero, List.set_cons_succ]
  refine take_run (v := ?_) 8 (some 18) rfl rfl (by kernel_rfl) (by kernel_rfl) (by kernel_rfl) (fun _ _ _ h => h) hHeld (by rfl) ?_ ?_
  rotate_left
  · intro _ hSw; go_simp; try with_reducible rfl
  simp only [Act.put, List.setIfInBounds_toArray, List.set_cons_zero, List.set_cons_succ]
  refine take_at 9 (some 19) rfl rfl (by kernel_rfl) (by kernel_rfl) (by kernel_rfl) (fun _ _ _ h => h) (yieldsIf_load_mid (by rfl) 30 _ rfl (N + 1) 0 rfl (bs l) _ (fun _ h => h.place.range) Try.underlying30 rfl Hi2.out.2) hHeld ?_
  simp only [Act.put, List.setIfInBounds_toArray, List.set_cons_zero, List.set_cons_succ]
  refine take_run (v := ?_) 10 (some 20) rfl rfl (by kernel_rfl) (by kernel_rfl) (by kernel_rfl) (fun _ _ _ h => h) hHeld (by rfl) ?_ ?_
  rotate_left
  · intro _ hSw; go_simp; try with_reducible rfl
  simp only [Act.put, List.setIfInBounds_toArray, List.set_cons_zero, List.set_cons_succ]
  refine take_at 12 (some 22) rfl rfl (by kernel_rfl) (by kernel_rfl) (by kernel_rfl) (fun _ _ _ h => h) (yieldsIf_load_mid (by rfl) 30 _ rfl (N + 1) 0 rfl (bs l) _ (fun _ h => h.place.range) Try.underlying30 rfl Hi2.out.2) hHeld ?_
  simp only [Act.put, List.setIfInBounds_toArray, List.set_cons_zero, List.set_cons_succ]
  refine take_run (v := ?_) 13 (some 23) rfl rfl (by kernel_rfl) (by kernel_rfl) (by kernel_rfl) (fun _ _ _ h => h) hHeld (by rfl) ?_ ?_
  rotate_left
  · intro _ hSw; go_simp; try with_reducible rfl
  simp only [Act.put, List.setIfInBounds_toArray, List.set_cons_zero, List.set_cons_succ]
  refine call_at (f := ?_) (args := ?_) 11 (some 21) rfl rfl (by kernel_rfl) (by rfl) ?_ ?_
  rotate_left 2
  · go_simp; first | (refine ⟨?_, ?_⟩ <;> with_reducible rfl) | with_reducible rfl
  refine (next_any l n _ Hl.out.1 Hl.out.2 (by omega) (by omega)).mono ?_
  rintro _ w7 ⟨rfl, hb⟩
  refine ⟨_, rfl, ?_, fun hHeld => ?_⟩
  · exact hHeld.below hb
  rw [Hnx.out]
  simp only [Act.put, List.setIfInBounds_toArray, List.set_cons_zero, List.set_cons_succ]
  refine call_at (f := ?_) (args := ?_) 14 (some 24) rfl rfl (by kernel_rfl) (by rfl) ?_ ?_
  rotate_left 2
  · go_simp; first | (refine ⟨?_, ?_⟩ <;> with_reducible rfl) | with_reducible rfl
  refine (rnext_any l n _ Hl.out.1 Hl.out.2 (by omega) (by omega)).mono ?_
  rintro _ w8 ⟨rfl, hb⟩
  refine ⟨_, rfl, ?_, fun hHeld => ?_⟩
  · exact hHeld.below hb
  rw [Hnx.out]
  simp only [Act.put, List.setIfInBounds_toArray, List.set_cons_zero, List.set_cons_succ]
  refine take_run (v := ?_) 15 (some 25) rfl rfl (by kernel_rfl) (by kernel_rfl) (by kernel_rfl) (fun _ _ _ h => h) hHeld (by rfl) ?_ ?_
  rotate_left
  · intro _ hSw; go_simp; try with_reducible rfl
  simp only [Act.put, List.setIfInBounds_toArray, List.set_cons_zero, List.set_cons_succ]
  refine take_run (v := ?_) 16 (some 26) rfl rfl (by kernel_rfl) (by kernel_rfl) (by kernel_rfl) (fun _ _ _ h => h) hHeld (by rfl) ?_ ?_
  rotate_left
  · intro _ hSw; go_simp; try with_reducible rfl
  simp only [Act.put, List.setIfInBounds_toArray, List.set_cons_zero, List.set_cons_succ]
  refine take_run (v := ?_) 17 (some 27) rfl rfl (by kernel_rfl) (by kernel_rfl) (by kernel_rfl) (fun _ _ _ h => h) hHeld (by rfl) ?_ ?_
  rotate_left
  · intro _ hSw; go_simp; try with_reducible rfl
  simp only [Act.put, List.setIfInBounds_toArray, List.set_cons_zero, List.set_cons_succ]
  refine call_at (f := ?_) (args := ?_) 18 (some 28) rfl rfl (by kernel_rfl) (by rfl) ?_ ?_
  rotate_left 2
  · go_simp; first | (refine ⟨?_, ?_⟩ <;> with_reducible rfl) | with_reducible rfl
  refine (known_any _).mono ?_
  rintro _ w9 ⟨rfl, hb⟩
  refine ⟨_, rfl, ?_, fun hHeld => ?_⟩
  · exact hHeld.below hb
  simp only [Act.put, List.setIfInBounds_toArray, List.set_cons_zero, List.set_cons_succ]
  refine take_run (v := ?_) 19 (some 29) rfl rfl (by kernel_rfl) (by kernel_rfl) (by kernel_rfl) (fun _ _ _ h => h) hHeld (by rfl) ?_ ?_
  rotate_left
  · intro _ hSw; go_simp; try with_reducible rfl
  simp only [Act.put, List.setIfInBounds_toArray, List.set_cons_zero, List.set_cons_succ]
  refine take_run (v := ?_) 20 (some 6) rfl rfl (by kernel_rfl) (by kernel_rfl) (by kernel_rfl) (fun _ _ _ h => h) hHeld (by rfl) ?_ ?_
  rotate_left
  · intro _ hSw; go_simp; try with_reducible rfl
  simp only [Act.put, List.setIfInBounds_toArray, List.set_cons_zero, List.set_cons_succ]
  refine wpAnyH_done (by kernel_rfl) ?_ _
  go_wp2_with fail
  go_ret
  exact ⟨rfl, by rw [HN.out]; exact hHeld.bel⟩
end Go.Proofs.Ytdopdaoapdeabaa
