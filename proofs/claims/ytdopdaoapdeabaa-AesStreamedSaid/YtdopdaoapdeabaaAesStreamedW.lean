/- WALK: sacristanlaw04.AesStreamed. -/
import Derived.Test.YtdopdaoapdeabaaAesStreamsW
namespace Go.Proofs.Ytdopdaoapdeabaa
open Go.RowKit

theorem streamL_pre {ks at_ : List Nat} (h : at_.length = 16) (h' : ∀ x ∈ at_, x < 256) {i q k : Nat} (hi : i < q) (hk : k < 16) : (streamL ks at_ (16 * q)).getD (16 * i + k) 0 = (blockL ks (nextL at_ i)).getD k 0 := by
  rw [streamL, show (16 * q + 15) / 16 = q by omega, List.take_of_length_le (by rw [strB_length h]; exact Nat.le_refl _), strB_pre h h' hi hk]

set_option maxRecDepth 100000 in
set_option maxHeartbeats 4000000 in
theorem aesStreamed_walk (key at_ : List Nat) (a : Nat) (w : World) (hkl : key.length = 16) (hkt : ∀ x ∈ key, x < 256) (hal : at_.length = 16) (hat : ∀ x ∈ at_, x < 256) (ha : a < 256) :
    Calls Try.prog 8 #[.agg (bx key), .agg (bx at_), .int .u8 a] w fun e w' => e = .returned (.bool true) ∧ Below w.heap.size w w' := by
  have Hl := Lib.hid (And.intro hal hat)
  have Hkey := Lib.hid (And.intro hkl hkt)
  have hi : ∀ m : List Nat, m.length = 16 → (Try.prog.info? 30).map (·.size) = some (bx m).size := by intro m hm; rw [bx_size, hm]; kernel_rfl
  have Hi := Lib.hid hi
  have hik : (Try.prog.info? 35).map (·.size) = some (bx key).size := by rw [bx_size, hkl]; kernel_rfl
  have Hik := Lib.hid hik
  have Hi2 : Hid (((Try.prog.info? 35).map (·.size) = some (bs key).length) ∧ ((Try.prog.info? 30).map (·.size) = some (bs at_).length)) := ⟨by rw [bs_length, hkl]; kernel_rfl, by rw [bs_length, hal]; kernel_rfl⟩
  obtain ⟨N, hN⟩ : ∃ N, w.heap.size = N := ⟨_, rfl⟩
  have HN := Lib.hid hN
  have hW0 : Below N w ((w.alloc (.cells (bx key) 35)).alloc (.cells (bx at_) 30)) := by rw [← hN]; exact ((Below.refl _ _).alloc (Nat.le_refl _) _).alloc (by simp) _
  have hK0 : Bytes ((w.alloc (.cells (bx key) 35)).alloc (.cells (bx at_) 30)) N key 35 := by rw [← hN]; exact (Bytes.new _ _ _).old _
  have hA0 : Bytes ((w.alloc (.cells (bx key) 35)).alloc (.cells (bx at_) 30)) (N + 1) at_ 30 := by
    have := Bytes.new (w.alloc (.cells (bx key) 35)) at_ 30
    rwa [show (w.alloc (.cells (bx key) 35)).heap.size = N + 1 by simp [hN]] at this
  have hNW : N ≤ ((w.alloc (.cells (bx key) 35)).alloc (.cells (bx at_) 30)).heap.size := by simp [hN]; omega
  have hi2 : ∀ a b : Value, (Try.prog.info? 42).map (·.size) = some (#[a, b] : Array Value).size := fun _ _ => by kernel_rfl
  clear hi hik hkl hkt hal hat
  go_enter Try.func8, Try.ntmps8
  go_upto_region 1 with (fail)
  obtain ⟨W, hWe⟩ : ∃ W, W = ((w.alloc (.cells (bx key) 35)).alloc (.cells (bx at_) 30)) := ⟨_, rfl⟩
  rw [← hWe] at hW0 hK0 hA0 hNW ⊢
  clear hWe hN
  go_upto_region 2 with (first | (refine wpList_load_row rfl 35 _ rfl N rfl 35 (bx key) _ _ hK0.row Try.underlying35 rfl Hik.out ?_) | (go_at_call 18; refine (new_any key _ Hkey.out.1 Hkey.out.2).mono ?_; rintro e w1 ⟨b, bb, rfl, hc1, hj1, hj2, hb1⟩))
  obtain ⟨ks, hks⟩ : ∃ ks, keysL key = ks := ⟨_, rfl⟩
  rw [hks] at hc1
  have hQ : QB w w1 N b bb key at_ ks := ⟨hc1, hK0.below hb1 hK0.lt, hA0.below hb1 hA0.lt, hW0.trans (hb1.mono hNW)⟩
  have Hks := Lib.hid hks
  have Hkt := Lib.hid hc1.lt
  clear hW0 hK0 hA0 hNW hb1 hc1 hj1 hj2 hks W
  go_upto_region 3 with (first | (refine wpList_load_row rfl 35 _ rfl N rfl 35 (bx key) _ _ hQ.key.row Try.underlying35 rfl Hik.out ?_) | (go_at_call 21; refine (rnew_any key _ Hkey.out.1 Hkey.out.2).mono ?_; rintro e w2 ⟨kv, bv, rfl, hC, hb2⟩; rw [Hks.out] at hC; have hone := hC.one; have Hone := Lib.hid hone; clear hone) | (refine wpList_store_new rfl 42 _ _ rfl _ #[kv, bv] 42 rfl rfl (hi2 _ _) rfl Hone.out ?_))
  have hbc := (Below.refl w2.heap.size w2).alloc (Nat.le_refl _) (Obj.cells #[kv, bv] 42)
  have hcc := heap_alloc_new w2 (Obj.cells #[kv, bv] 42)
  have hQ3 := (hQ.below hb2).below hbc
  have hC3 := hC.below hbc (Nat.le_refl _)
  obtain ⟨C, hCe⟩ : ∃ C, w2.heap.size = C := ⟨_, rfl⟩
  rw [hCe] at hcc ⊢
  generalize w2.alloc (Obj.cells #[kv, bv] 42) = w3 at hQ3 hC3 hcc ⊢
  clear hbc hCe hb2 hC hQ
  go_upto_region 4 with (fail)
  obtain ⟨q, hq⟩ : ∃ q : Nat, (a : Int) % 12 = q := ⟨a % 12, by omega⟩
  have hq12 : q < 12 := by omega
  rw [hq]
  clear hq ha
  obtain ⟨Q, hQ⟩ : ∃ Q, 16 * q = Q := ⟨_, rfl⟩
  have hQi : 16 * (q : Int) = (Q : Int) := by omega
  obtain ⟨st, hst⟩ : ∃ st, streamL ks at_ Q = st := ⟨_, rfl⟩
  have hstl : st.length = Q := by rw [← hst]; exact streamL_length Hl.out.1 Q
  have Hst : Hid (st.length = Q ∧ (∀ x ∈ st, x < 256) ∧ streamL ks at_ Q = st) := ⟨hstl, by rw [← hst]; exact streamL_lt Hkt.out Hl.out.2 Q, hst⟩
  have HQ := Lib.hid hQ
  have hQ192 : Q ≤ 192 := by omega
  clear hst hstl hQ
  go_upto_region 5 with (first | (refine wpList_load_row rfl 30 _ rfl (N + 1) rfl 30 (bx at_) _ _ hQ3.place.row Try.underlying30 rfl (Hi.out at_ Hl.out.1) ?_) | (go_at_call 23; refine (stream_any b bb ks at_ (Q : Int) _ hQ3.cip Hl.out.1 Hl.out.2 (by omega)).mono ?_; rw [Int.toNat_natCast]; rintro e w4 ⟨s, rfl, hown, hb4⟩; rw [Hst.out.2.2] at hown))
  have hRs := reads_of_owns hown
  obtain ⟨sa, sc, hse⟩ := hRs.len
  rw [bs_length, Hst.out.1] at hse
  subst hse
  have hT4 : QT w w4 N b bb C key at_ ks kv bv (.slice sa Q sc) st := ⟨hQ3.below hb4, hC3.below hb4 (Nat.le_refl _), by rw [hb4.block C (lt_of_block hcc)]; exact hcc, hRs⟩
  clear hQ3 hC3 hcc hRs hown hb4
  go_upto_region 7 with (first | (refine wpList_load_row_g rfl 30 _ rfl (N + 1) rfl 30 (bx at_) _ _ hT4.q.place.row Try.underlying30 rfl (Hi.out at_ Hl.out.1) ?_) | (go_at_call 23; refine (stream_any b bb ks at_ 0 _ hT4.q.cip Hl.out.1 Hl.out.2 (by omega)).mono ?_; rw [show Int.toNat 0 = 0 from rfl]; rintro e w5 ⟨s5, rfl, hown, hb5⟩; obtain ⟨za, zc, hz⟩ := (reads_of_owns hown).len; rw [bs_length, streamL_length Hl.out.1] at hz; subst hz))
  have hT5 := hT4.below hb5
  clear hT4 hb5 hown hQi
  clear w4
  go_wp2_with fail
  go_loopg [11] q (fun gq i' wr => ∃ i : Nat, i + gq = q ∧ i' = .int .i64 i ∧ QT w wr N b bb C key at_ ks kv bv (.slice sa Q sc) st)
  case atStart => exact ⟨0, by omega, rfl, hT5⟩
  case round =>
    clear hT5
    obtain ⟨i, hig, rfl, hT⟩ := hrel
    by_cases hlt : i < q
    · have hlti : (i : Int) < (q : Int) := by omega
      obtain ⟨blk, hblk⟩ : ∃ blk, blockL ks (nextL at_ i) = blk := ⟨_, rfl⟩
      have Hblk : Hid (blockL ks (nextL at_ i) = blk ∧ blk.length = 16 ∧ ∀ x ∈ blk, x < 256) := ⟨hblk, by rw [← hblk, blockL_length, nextL_length _ Hl.out.1], by rw [← hblk]; exact blockL_lt Hkt.out (nextL_lt _ Hl.out.2)⟩
      clear hblk
      obtain rfl : gk = q - i := by omega
      go_upto_region 11 with (first | (refine wpList_load_row rfl 30 _ rfl (N + 1) rfl 30 (bx at_) _ _ hT.q.place.row Try.underlying30 rfl (Hi.out at_ Hl.out.1) ?_) | (go_at_call 17; refine (next_any at_ i _ Hl.out.1 Hl.out.2 (by omega) (by omega)).mono ?_; rw [Int.toNat_natCast]; rintro e w6 ⟨rfl, hb6⟩; have hT6 := hT.below hb6) | (go_at_call 19; refine (block_any b bb ks (nextL at_ i) _ hT6.q.cip (nextL_length _ Hl.out.1) (nextL_lt _ Hl.out.2)).mono ?_; rw [Hblk.out.1]; rintro e w7 ⟨rfl, hb7⟩; have hT7 := hT6.below hb7) | (refine wpList_store_new rfl 30 _ _ rfl _ (bx blk) 30 rfl rfl (Hi.out blk Hblk.out.2.1) (by rw [bx_size, Hblk.out.2.1]; rfl) (bx_one _) ?_))
      have hT5 := hT7.below ((Below.refl w7.heap.size w7).alloc (Nat.le_refl _) (.cells (bx blk) 30))
      have hB5 := Bytes.new w7 blk 30
      obtain ⟨M1, hM1⟩ : ∃ M, w7.heap.size = M := ⟨_, rfl⟩
      rw [hM1] at hB5 ⊢
      generalize w7.alloc (.cells (bx blk) 30) = W5 at hT5 hB5 ⊢
      clear hT hT6 hT7 hb6 hb7 hM1 w6 w7
      simp only [Act.put]
      go_cut [13] from 49 to 53 (fun s13 wx => ∃ M2 : Nat, s13 = .pointer (some ⟨M2, 0, none⟩) ∧ QT w wx N b bb C key at_ ks kv bv (.slice sa Q sc) st ∧ Bytes wx M1 blk 30 ∧ Bytes wx M2 blk 30)
      case first =>
        refine wp_region_held_drew (S := (fun w' => QT w w' N b bb C key at_ ks kv bv (.slice sa Q sc) st ∧ Bytes w' M1 blk 30)) (by kernel_rfl) ?_ (fun hHeld => ?_)
        · exact ⟨hT5.below ((Below.refl _ _).drew), hB5⟩
        refine take_run (v := ?_) 0 (some 49) rfl rfl (by kernel_rfl) (by kernel_rfl) (by kernel_rfl) (fun _ _ _ h => h) hHeld (by rfl) ?_ ?_
        rotate_left
        · intro _ hSw; have hc0 := hSw.1.c0; have hc1 := hSw.1.c1; go_simp; try with_reducible rfl
        simp only [Act.put, List.setIfInBounds_toArray, List.set_cons_zero, List.set_cons_succ]
        refine take_at 1 (some 50) rfl rfl (by kernel_rfl) (by kernel_rfl) (by kernel_rfl) (fun _ _ _ h => h) (yieldsIf_load_mid (by rfl) 30 _ rfl (N + 1) 0 rfl (bs at_) _ (fun _ h => h.1.q.place.range) Try.underlying30 rfl Hi2.out.2) hHeld ?_
        simp only [Act.put, List.setIfInBounds_toArray, List.set_cons_zero, List.set_cons_succ]
        refine take_run (v := ?_) 2 (some 51) rfl rfl (by kernel_rfl) (by kernel_rfl) (by kernel_rfl) (fun _ _ _ h => h) hHeld (by rfl) ?_ ?_
        rotate_left
        · intro _ hSw; go_simp; try with_reducible rfl
        simp only [Act.put, List.setIfInBounds_toArray, List.set_cons_zero, List.set_cons_succ]
        refine branch2 3 5 (some 52) (some 13) rfl rfl rfl rfl (by kernel_rfl) (by rfl) (by rfl) (fun K hK => ?_) (fun K hK => ?_)
        · refine wp_call (f := ?_) (args := ?_) ?_ ?_
          rotate_left 2
          · go_simp; first | (refine ⟨?_, ?_⟩ <;> with_reducible rfl) | with_reducible rfl
          refine (rnext_nat at_ i _ Hl.out.1 Hl.out.2 (by omega)).mono ?_
          rintro _ w6 ⟨rfl, hb⟩
          refine ⟨_, rfl, hK _ _ ⟨?_, fun hHeld => ?_⟩⟩
          · first | exact hS4 | exact ⟨hHeld.1.below hb, hHeld.2.below hb hHeld.2.lt⟩
          clear hK
          simp only [Act.put, List.setIfInBounds_toArray, List.set_cons_zero, List.set_cons_succ]
          refine branch2 4 5 (some 53) (some 13) rfl rfl rfl rfl (by kernel_rfl) (by rfl) (by rfl) (fun K hK => ?_) (fun K hK => ?_)
          · refine wp_call (f := ?_) (args := ?_) ?_ ?_
            rotate_left 2
            · go_simp; first | (refine ⟨?_, ?_⟩ <;> with_reducible rfl) | with_reducible rfl
            refine (rblock_any kv bv ks (nextL at_ i) _ hHeld.1.isc (nextL_length _ Hl.out.1) (nextL_lt _ Hl.out.2)).mono ?_
            rintro _ w7 ⟨rfl, hb⟩
            refine ⟨_, rfl, hK _ _ ⟨?_, fun hHeld => ?_⟩⟩
            · first | exact hS4 | exact ⟨hHeld.1.below hb, hHeld.2.below hb hHeld.2.lt⟩
            clear hK
            rw [Hblk.out.1]
            simp only [Act.put, List.setIfInBounds_toArray, List.set_cons_zero, List.set_cons_succ]
            refine op_at 5 (some 13) rfl rfl (by kernel_rfl) (by rfl) (fun K hK => ?_)
            refine wp_run (v := .pointer (some ⟨w7.heap.size, 0, none⟩)) (w' := w7.alloc (.cells (bx (zeros 16)) 30)) ?_ ?_
            · kernel_rfl
            have hb := (Below.refl (w7).heap.size (w7)).alloc (Nat.le_refl _) (.cells (bx (zeros 16)) 30)
            have hM := Bytes.new (w7) (zeros 16) 30
            have hQ0 := hHeld
            obtain ⟨M2, hMe⟩ : ∃ M, (w7).heap.size = M := ⟨_, rfl⟩
            have hch := hb
            rw [hMe] at hM hch
            rw [hMe]
            refine hK _ _ ⟨?_, fun hHeld => ?_⟩
            · first | exact hS4 | exact ⟨hHeld.1.below hb, hHeld.2.below hb hHeld.2.lt⟩
            clear hK
            simp only [Act.put, List.setIfInBounds_toArray, List.set_cons_zero, List.set_cons_succ]
            refine op_at 6 none rfl rfl (by kernel_rfl) (by rfl) (fun K hK => ?_)
            refine wp_store_row 30 (.tmp 13) (.tmp 53) ?_ M2 (bx blk) ?_ ?_ 30 (bx (zeros 16)) ?_ ?_ ?_ ?_ ?_
            · rfl
            · rfl
            · rfl
            · exact hM.row
            · exact Hi.out blk Hblk.out.2.1
            · rw [bx_size, bx_size, Hblk.out.2.1]; rfl
            · exact bx_one _
            have hB4 := hM.setRow blk
            have hchS := Below.setRow hch (Nat.le_refl M2) (bx blk)
            have hS4 := And.intro (hQ0.1.below (by rw [hMe]; exact hchS)) (hQ0.2.below hchS (by have := hQ0.2.lt; omega))
            refine hK _ _ ⟨?_, fun hHeld => ?_⟩
            · first | exact hS4 | exact ⟨hHeld.1.below hb, hHeld.2.below hb hHeld.2.lt⟩
            clear hK
            simp only [Act.put]
            refine wpAnyH_done (by kernel_rfl) ?_ _
            go_wp2_with fail
            go_meet
            exact ⟨M2, rfl, hS4.1, hS4.2, hB4⟩
          · refine wp_run (v := .pointer (some ⟨w6.heap.size, 0, none⟩)) (w' := w6.alloc (.cells (bx (zeros 16)) 30)) ?_ ?_
            · kernel_rfl
            have hb := (Below.refl (w6).heap.size (w6)).alloc (Nat.le_refl _) (.cells (bx (zeros 16)) 30)
            have hM := Bytes.new (w6) (zeros 16) 30
            have hQ0 := hHeld
            obtain ⟨M2, hMe⟩ : ∃ M, (w6).heap.size = M := ⟨_, rfl⟩
            have hch := hb
            rw [hMe] at hM hch
            rw [hMe]
            refine hK _ _ ⟨?_, fun hHeld => ?_⟩
            · first | exact hS4 | exact ⟨hHeld.1.below hb, hHeld.2.below hb hHeld.2.lt⟩
            clear hK
            simp only [Act.put, List.setIfInBounds_toArray, List.set_cons_zero, List.set_cons_succ]
            refine call_at (f := ?_) (args := ?_) 4 (some 53) rfl rfl (by kernel_rfl) (by rfl) ?_ ?_
            rotate_left 2
            · go_simp; first | (refine ⟨?_, ?_⟩ <;> with_reducible rfl) | with_reducible rfl
            refine (rblock_any kv bv ks (nextL at_ i) _ hHeld.1.isc (nextL_length _ Hl.out.1) (nextL_lt _ Hl.out.2)).mono ?_
            rintro _ w7 ⟨rfl, hb⟩
            refine ⟨_, rfl, ?_, fun hHeld => ?_⟩
            · first | exact hS4 | exact ⟨hHeld.1.below hb, hHeld.2.below hb hHeld.2.lt⟩
            have hM := hM.below hb hM.lt
            have hch := hch.trans (hb.mono (by have := hch.size; omega))
            rw [Hblk.out.1]
            simp only [Act.put, List.setIfInBounds_toArray, List.set_cons_zero, List.set_cons_succ]
            refine op_at 6 none rfl rfl (by kernel_rfl) (by rfl) (fun K hK => ?_)
            refine wp_store_row 30 (.tmp 13) (.tmp 53) ?_ M2 (bx blk) ?_ ?_ 30 (bx (zeros 16)) ?_ ?_ ?_ ?_ ?_
            · rfl
            · rfl
            · rfl
            · exact hM.row
            · exact Hi.out blk Hblk.out.2.1
            · rw [bx_size, bx_size, Hblk.out.2.1]; rfl
            · exact bx_one _
            have hB4 := hM.setRow blk
            have hchS := Below.setRow hch (Nat.le_refl M2) (bx blk)
            have hS4 := And.intro (hQ0.1.below (by rw [hMe]; exact hchS)) (hQ0.2.below hchS (by have := hQ0.2.lt; omega))
            refine hK _ _ ⟨?_, fun hHeld => ?_⟩
            · first | exact hS4 | exact ⟨hHeld.1.below hb, hHeld.2.below hb hHeld.2.lt⟩
            clear hK
            simp only [Act.put]
            refine wpAnyH_done (by kernel_rfl) ?_ _
            go_wp2_with fail
            go_meet
            exact ⟨M2, rfl, hS4.1, hS4.2, hB4⟩
        · refine wp_run (v := .pointer (some ⟨W5.drew.heap.size, 0, none⟩)) (w' := W5.drew.alloc (.cells (bx (zeros 16)) 30)) ?_ ?_
          · kernel_rfl
          have hb := (Below.refl (W5.drew).heap.size (W5.drew)).alloc (Nat.le_refl _) (.cells (bx (zeros 16)) 30)
          have hM := Bytes.new (W5.drew) (zeros 16) 30
          have hQ0 := hHeld
          obtain ⟨M2, hMe⟩ : ∃ M, (W5.drew).heap.size = M := ⟨_, rfl⟩
          have hch := hb
          rw [hMe] at hM hch
          rw [hMe]
          refine hK _ _ ⟨?_, fun hHeld => ?_⟩
          · first | exact hS4 | exact ⟨hHeld.1.below hb, hHeld.2.below hb hHeld.2.lt⟩
          clear hK
          simp only [Act.put, List.setIfInBounds_toArray, List.set_cons_zero, List.set_cons_succ]
          refine call_at (f := ?_) (args := ?_) 3 (some 52) rfl rfl (by kernel_rfl) (by rfl) ?_ ?_
          rotate_left 2
          · go_simp; first | (refine ⟨?_, ?_⟩ <;> with_reducible rfl) | with_reducible rfl
          refine (rnext_nat at_ i _ Hl.out.1 Hl.out.2 (by omega)).mono ?_
          rintro _ w6 ⟨rfl, hb⟩
          refine ⟨_, rfl, ?_, fun hHeld => ?_⟩
          · first | exact hS4 | exact ⟨hHeld.1.below hb, hHeld.2.below hb hHeld.2.lt⟩
          have hM := hM.below hb hM.lt
          have hch := hch.trans (hb.mono (by have := hch.size; omega))
          simp only [Act.put, List.setIfInBounds_toArray, List.set_cons_zero, List.set_cons_succ]
          refine call_at (f := ?_) (args := ?_) 4 (some 53) rfl rfl (by kernel_rfl) (by rfl) ?_ ?_
          rotate_left 2
          · go_simp; first | (refine ⟨?_, ?_⟩ <;> with_reducible rfl) | with_reducible rfl
          refine (rblock_any kv bv ks (nextL at_ i) _ hHeld.1.isc (nextL_length _ Hl.out.1) (nextL_lt _ Hl.out.2)).mono ?_
          rintro _ w7 ⟨rfl, hb⟩
          refine ⟨_, rfl, ?_, fun hHeld => ?_⟩
          · first | exact hS4 | exact ⟨hHeld.1.below hb, hHeld.2.below hb hHeld.2.lt⟩
          have hM := hM.below hb hM.lt
          have hch := hch.trans (hb.mono (by have := hch.size; omega))
          rw [Hblk.out.1]
          simp only [Act.put, List.setIfInBounds_toArray, List.set_cons_zero, List.set_cons_succ]
          refine op_at 6 none rfl rfl (by kernel_rfl) (by rfl) (fun K hK => ?_)
          refine wp_store_row 30 (.tmp 13) (.tmp 53) ?_ M2 (bx blk) ?_ ?_ 30 (bx (zeros 16)) ?_ ?_ ?_ ?_ ?_
          · rfl
          · rfl
          · rfl
          · exact hM.row
          · exact Hi.out blk Hblk.out.2.1
          · rw [bx_size, bx_size, Hblk.out.2.1]; rfl
          · exact bx_one _
          have hB4 := hM.setRow blk
          have hchS := Below.setRow hch (Nat.le_refl M2) (bx blk)
          have hS4 := And.intro (hQ0.1.below (by rw [hMe]; exact hchS)) (hQ0.2.below hchS (by have := hQ0.2.lt; omega))
          refine hK _ _ ⟨?_, fun hHeld => ?_⟩
          · first | exact hS4 | exact ⟨hHeld.1.below hb, hHeld.2.below hb hHeld.2.lt⟩
          clear hK
          simp only [Act.put]
          refine wpAnyH_done (by kernel_rfl) ?_ _
          go_wp2_with fail
          go_meet
          exact ⟨M2, rfl, hS4.1, hS4.2, hB4⟩
      obtain ⟨M2, rfl, hT8, hB8, hB9⟩ := hcut
      clear hT5 hB5
      go_wp2_with fail
      go_loopg [14] 16 (fun gq j' wr => ∃ j : Nat, j + gq = 16 ∧ j' = .int .i64 j ∧ QT w wr N b bb C key at_ ks kv bv (.slice sa Q sc) st ∧ Bytes wr M1 blk 30 ∧ Bytes wr M2 blk 30)
      case atStart => exact ⟨0, rfl, rfl, hT8, hB8, hB9⟩
      case round =>
        clear hT8 hB8 hB9
        obtain ⟨j, hjg, rfl, hT, hB, hE⟩ := hrel
        by_cases hj : j < 16
        · have hji : (j : Int) < 16 := by omega
          have hj0 : (0 : Int) ≤ (j : Int) := by omega
          obtain ⟨p, hp⟩ : ∃ p, 16 * i + j = p := ⟨_, rfl⟩
          have hpQ : p < Q := by have := HQ.out; omega
          have hpi : (0 : Int) ≤ (p : Int) ∧ (p : Int) < (Q : Int) := ⟨by omega, by omega⟩
          obtain ⟨g, off, cap, hv, hcap, hgb, hcell⟩ := hT.r.pos (by rw [bs_length, Hst.out.1]; omega)
          injection hv with e1 e2 e3
          subst e1 e3
          obtain ⟨x, hx⟩ : ∃ x, blk.getD j 0 = x := ⟨_, rfl⟩
          have hx256 : x < 256 := by rw [← hx]; exact getD_lt Hblk.out.2.2 j
          have hq1 := hcell p _ (bs_get (by rw [Hst.out.1]; exact hpQ))
          rw [← Hst.out.2.2, ← hp, ← HQ.out, streamL_pre Hl.out.1 Hl.out.2 hlt hj, Hblk.out.1, hx, hp] at hq1
          have hq2 := hB.cell (i := j) (by rw [Hblk.out.2.1]; exact hj)
          have hq3 := hE.cell (i := j) (by rw [Hblk.out.2.1]; exact hj)
          rw [hx] at hq2 hq3
          have HT := Lib.hid (And.intro hT (And.intro hB hE))
          obtain ⟨I, hI⟩ : ∃ I, 16 * i = I := ⟨_, rfl⟩
          have hw1 : IntKind.i64.wrap (16 * (i : Int)) = (I : Int) := by rw [wrap_small (by omega) (by omega)]; omega
          have hw2 : IntKind.i64.wrap ((I : Int) + (j : Int)) = (p : Int) := by rw [wrap_small (by omega) (by omega)]; omega
          clear hx hcell hT hB hE hp hI hcap e2
          go_upto_region 15 with (fail)
          refine wp_region_held_drew (S := (fun w' => w'.cell? ⟨g, off + p, none⟩ = some (.int .u8 (x : Nat)) ∧ w'.cell? ⟨M1, j, none⟩ = some (.int .u8 (x : Nat)) ∧ w'.cell? ⟨M2, j, none⟩ = some (.int .u8 (x : Nat)))) (by kernel_rfl) ?_ (fun hHeld => ?_)
          · exact ⟨hq1, hq2, hq3⟩
          refine take_run (v := ?_) 0 (some 58) rfl rfl (by kernel_rfl) (by kernel_rfl) (by kernel_rfl) (fun _ _ _ h => h) hHeld (by rfl) ?_ ?_
          rotate_left
          · intro _ hSw; go_simp; try with_reducible rfl
          simp only [Act.put, List.setIfInBounds_toArray, List.set_cons_zero, List.set_cons_succ]
          refine take_run (v := ?_) 1 (some 59) rfl rfl (by kernel_rfl) (by kernel_rfl) (by kernel_rfl) (fun _ _ _ h => h) hHeld (by rfl) ?_ ?_
          rotate_left
          · intro _ hSw; go_simp; try with_reducible rfl
          simp only [Act.put, List.setIfInBounds_toArray, List.set_cons_zero, List.set_cons_succ]
          refine take_run (v := ?_) 2 (some 60) rfl rfl (by kernel_rfl) (by kernel_rfl) (by kernel_rfl) (fun _ _ _ h => h) hHeld (by rfl) ?_ ?_
          rotate_left
          · intro _ hSw; go_simp; try with_reducible rfl
          simp only [Act.put, List.setIfInBounds_toArray, List.set_cons_zero, List.set_cons_succ]
          refine take_run (v := ?_) 3 (some 61) rfl rfl (by kernel_rfl) (by kernel_rfl) (by kernel_rfl) (fun _ _ _ h => h) hHeld (by rfl) ?_ ?_
          rotate_left
          · intro _ hSw; go_simp; try with_reducible rfl
          simp only [Act.put, List.setIfInBounds_toArray, List.set_cons_zero, List.set_cons_succ]
          refine take_run (v := ?_) 4 (some 62) rfl rfl (by kernel_rfl) (by kernel_rfl) (by kernel_rfl) (fun _ _ _ h => h) hHeld (by rfl) ?_ ?_
          rotate_left
          · intro _ hSw; go_simp; try with_reducible rfl
          simp only [Act.put, List.setIfInBounds_toArray, List.set_cons_zero, List.set_cons_succ]
          refine take_run (v := ?_) 5 (some 63) rfl rfl (by kernel_rfl) (by kernel_rfl) (by kernel_rfl) (fun _ _ _ h => h) hHeld (by rfl) ?_ ?_
          rotate_left
          · intro _ hSw; go_simp; try with_reducible rfl
          simp only [Act.put, List.setIfInBounds_toArray, List.set_cons_zero, List.set_cons_succ]
          refine take_run (v := ?_) 6 (some 64) rfl rfl (by kernel_rfl) (by kernel_rfl) (by kernel_rfl) (fun _ _ _ h => h) hHeld (by rfl) ?_ ?_
          rotate_left
          · intro _ hSw; go_simp; try with_reducible rfl
          simp only [Act.put, List.setIfInBounds_toArray, List.set_cons_zero, List.set_cons_succ]
          refine take_run (v := ?_) 7 (some 65) rfl rfl (by kernel_rfl) (by kernel_rfl) (by kernel_rfl) (fun _ _ _ h => h) hHeld (by rfl) ?_ ?_
          rotate_left
          · intro _ hSw; go_simp; try with_reducible rfl
          simp only [Act.put, List.setIfInBounds_toArray, List.set_cons_zero, List.set_cons_succ]
          refine take_run (v := ?_) 8 (some 66) rfl rfl (by kernel_rfl) (by kernel_rfl) (by kernel_rfl) (fun _ _ _ h => h) hHeld (by rfl) ?_ ?_
          rotate_left
          · intro _ hSw; go_simp; try with_reducible rfl
          simp only [Act.put, List.setIfInBounds_toArray, List.set_cons_zero, List.set_cons_succ]
          refine take_run (v := ?_) 9 (some 67) rfl rfl (by kernel_rfl) (by kernel_rfl) (by kernel_rfl) (fun _ _ _ h => h) hHeld (by rfl) ?_ ?_
          rotate_left
          · intro _ hSw; go_simp; try with_reducible rfl
          simp only [Act.put, List.setIfInBounds_toArray, List.set_cons_zero, List.set_cons_succ]
          refine take_run (v := ?_) 10 (some 68) rfl rfl (by kernel_rfl) (by kernel_rfl) (by kernel_rfl) (fun _ _ _ h => h) hHeld (by rfl) ?_ ?_
          rotate_left
          · intro _ hSw; go_simp; try with_reducible rfl
          simp only [Act.put, List.setIfInBounds_toArray, List.set_cons_zero, List.set_cons_succ]
          refine take_run (v := ?_) 11 (some 69) rfl rfl (by kernel_rfl) (by kernel_rfl) (by kernel_rfl) (fun _ _ _ h => h) hHeld (by rfl) ?_ ?_
          rotate_left
          · intro _ hSw; go_simp; try with_reducible rfl
          simp only [Act.put, List.setIfInBounds_toArray, List.set_cons_zero, List.set_cons_succ]
          refine take_run (v := ?_) 12 (some 70) rfl rfl (by kernel_rfl) (by kernel_rfl) (by kernel_rfl) (fun _ _ _ h => h) hHeld (by rfl) ?_ ?_
          rotate_left
          · intro _ hSw; go_simp; try with_reducible rfl
          simp only [Act.put, List.setIfInBounds_toArray, List.set_cons_zero, List.set_cons_succ]
          refine take_run (v := ?_) 13 (some 71) rfl rfl (by kernel_rfl) (by kernel_rfl) (by kernel_rfl) (fun _ _ _ h => h) hHeld (by rfl) ?_ ?_
          rotate_left
          · intro _ hSw; go_simp; try with_reducible rfl
          simp only [Act.put, List.setIfInBounds_toArray, List.set_cons_zero, List.set_cons_succ]
          refine take_run (v := ?_) 14 (some 72) rfl rfl (by kernel_rfl) (by kernel_rfl) (by kernel_rfl) (fun _ _ _ h => h) hHeld (by rfl) ?_ ?_
          rotate_left
          · intro _ hSw; go_simp; try with_reducible rfl
          simp only [Act.put, List.setIfInBounds_toArray, List.set_cons_zero, List.set_cons_succ]
          refine take_run (v := ?_) 15 (some 73) rfl rfl (by kernel_rfl) (by kernel_rfl) (by kernel_rfl) (fun _ _ _ h => h) hHeld (by rfl) ?_ ?_
          rotate_left
          · intro _ hSw; go_simp; try with_reducible rfl
          simp only [Act.put, List.setIfInBounds_toArray, List.set_cons_zero, List.set_cons_succ]
          refine take_run (v := ?_) 16 (some 74) rfl rfl (by kernel_rfl) (by kernel_rfl) (by kernel_rfl) (fun _ _ _ h => h) hHeld (by rfl) ?_ ?_
          rotate_left
          · intro _ hSw; go_simp; try with_reducible rfl
          simp only [Act.put, List.setIfInBounds_toArray, List.set_cons_zero, List.set_cons_succ]
          refine take_run (v := ?_) 17 (some 75) rfl rfl (by kernel_rfl) (by kernel_rfl) (by kernel_rfl) (fun _ _ _ h => h) hHeld (by rfl) ?_ ?_
          rotate_left
          · intro _ hSw; go_simp; try with_reducible rfl
          simp only [Act.put, List.setIfInBounds_toArray, List.set_cons_zero, List.set_cons_succ]
          refine take_run (v := ?_) 18 (some 76) rfl rfl (by kernel_rfl) (by kernel_rfl) (by kernel_rfl) (fun _ _ _ h => h) hHeld (by rfl) ?_ ?_
          rotate_left
          · intro _ hSw; go_simp; try with_reducible rfl
          simp only [Act.put, List.setIfInBounds_toArray, List.set_cons_zero, List.set_cons_succ]
          refine take_run (v := ?_) 19 (some 77) rfl rfl (by kernel_rfl) (by kernel_rfl) (by kernel_rfl) (fun _ _ _ h => h) hHeld (by rfl) ?_ ?_
          rotate_left
          · intro _ hSw; go_simp; try with_reducible rfl
          simp only [Act.put, List.setIfInBounds_toArray, List.set_cons_zero, List.set_cons_succ]
          refine wpAnyH_done (by kernel_rfl) ?_ _
          go_wp2_with fail
          go_roundg (gk - 1)
          case measure => omega
          case rel => exact ⟨j + 1, by omega, by go_num, HT.out.1.below ((Below.refl _ _).drew), HT.out.2.1, HT.out.2.2⟩
        · have hji : ¬ (j : Int) < 16 := by omega
          go_wp2_with fail
          go_roundg (q - (i + 1))
          case measure => omega
          case rel => exact ⟨i + 1, by omega, by go_num, hT⟩
    · have hlti : ¬ (i : Int) < (q : Int) := by omega
      have HT := Lib.hid hT
      clear hT
      go_wp2_with (go_at_call 16; refine (known_any _).mono ?_; rintro e w3 ⟨rfl, hb3⟩)
      go_ret
      exact ⟨rfl, by rw [HN.out]; exact (HT.out.below hb3).q.bel⟩
end Go.Proofs.Ytdopdaoapdeabaa
