/- WALK: sacristanlaw04.AesStreams. -/
import Derived.Test.YtdopdaoapdeabaaAesBlocksW
import Derived.Test.YtdopdaoapdeabaaRXorW
import Derived.Test.YtdopdaoapdeabaaAesXorsW
namespace Go.Proofs.Ytdopdaoapdeabaa
open Go.RowKit
/-- .. and a spread key of the reference, in a block; bytes -/
structure QT (w X : World) (N b bb C : Nat) (key at_ ks : List Nat) (kv bv v : Value) (l : List Nat) : Prop where
  q : QB w X N b bb key at_ ks
  isc : IsC X kv bv ks
  c : X.heap[C]? = some (.cells #[kv, bv] 42 (0, 0))
  r : Reads X v (bs l)
theorem QT.below {w X X' : World} {N b bb C : Nat} {key at_ ks : List Nat} {kv bv v : Value} {l : List Nat} (h : QT w X N b bb C key at_ ks kv bv v l) (hb : Below X.heap.size X X') : QT w X' N b bb C key at_ ks kv bv v l :=
  ⟨h.q.below hb, h.isc.below hb (Nat.le_refl _), by rw [hb.block C (lt_of_block h.c)]; exact h.c, h.r.below hb (Nat.le_refl _)⟩
theorem QT.c0 {w X : World} {N b bb C : Nat} {key at_ ks : List Nat} {kv bv v : Value} {l : List Nat} (h : QT w X N b bb C key at_ ks kv bv v l) : X.cell? ⟨C, 0, none⟩ = some kv := by rw [cell_of_row X C 0 _ _ _ h.c]; rfl
theorem QT.c1 {w X : World} {N b bb C : Nat} {key at_ ks : List Nat} {kv bv v : Value} {l : List Nat} (h : QT w X N b bb C key at_ ks kv bv v l) : X.cell? ⟨C, 1, none⟩ = some bv := by rw [cell_of_row X C 1 _ _ _ h.c]; rfl
theorem IsC.one {X : World} {kv bv : Value} {K : List Nat} (h : IsC X kv bv K) : (#[kv, bv] : Array Value).all (·.oneCell') = true := by
  obtain ⟨kg, kcap, e, _⟩ := h.keys
  obtain ⟨a, c, e'⟩ := h.box.len
  rw [e, e']
  simp [Value.oneCell']

set_option maxRecDepth 100000 in
set_option maxHeartbeats 4000000 in
theorem aesStreams_walk (key at_ : List Nat) (n : Int) (v : Value) (l : List Nat) (w : World) (hkl : key.length = 16) (hkt : ∀ x ∈ key, x < 256) (hal : at_.length = 16) (hat : ∀ x ∈ at_, x < 256)
    (hn0 : -9223372036854775808 ≤ n) (hn1 : n ≤ 9223372036854775807) (hr : Reads w v (bs l)) (hlt : ∀ x ∈ l, x < 256) (_ : l.length ≤ maxLen) :
    Calls Try.prog 9 #[.agg (bx key), .agg (bx at_), .int .i64 n, v] w fun e w' => e = .returned (.bool true) ∧ Below w.heap.size w w' := by
  obtain ⟨va, vc, hv⟩ := hr.len
  subst hv
  rw [bs_length] at hr ⊢
  have HX := Lib.hid hlt
  obtain ⟨m, hm⟩ : ∃ m, l.length = m := ⟨_, rfl⟩
  rw [hm] at hr ⊢
  have Hm := Lib.hid hm
  have Hl := Lib.hid (And.intro hal hat)
  have Hkey := Lib.hid (And.intro hkl hkt)
  have hi : ∀ m : List Nat, m.length = 16 → (Try.prog.info? 30).map (·.size) = some (bx m).size := by intro m hm; rw [bx_size, hm]; kernel_rfl
  have Hi := Lib.hid hi
  have hik : (Try.prog.info? 35).map (·.size) = some (bx key).size := by rw [bx_size, hkl]; kernel_rfl
  have Hik := Lib.hid hik
  have Hi2 : Hid (((Try.prog.info? 35).map (·.size) = some (bs key).length) ∧ ((Try.prog.info? 30).map (·.size) = some (bs at_).length)) := ⟨by rw [bs_length, hkl]; kernel_rfl, by rw [bs_length, hal]; kernel_rfl⟩
  obtain ⟨N, hN⟩ : ∃ N, w.heap.size = N := ⟨_, rfl⟩
  have HN := Lib.hid hN
  have hW0 : Below N w ((w.alloc (.cells (bx key) 35)).alloc (.cells (bx at_) 30)) := by rw [← hN]; exact ((Below.refl _ _).alloc (Nat.le_refl _) _).alloc (by simp) _
  have hK0 : Bytes ((w.alloc (.cells (bx key) 35)).alloc (.cells (bx at_) 30)) N key 35 := by rw [← hN]; exact (Bytes.new _ _ _).old _
  have hA0 : Bytes ((w.alloc (.cells (bx key) 35)).alloc (.cells (bx at_) 30)) (N + 1) at_ 30 := by
    have := Bytes.new (w.alloc (.cells (bx key) 35)) at_ 30
    rwa [show (w.alloc (.cells (bx key) 35)).heap.size = N + 1 by simp [hN]] at this
  have hNW : N ≤ ((w.alloc (.cells (bx key) 35)).alloc (.cells (bx at_) 30)).heap.size := by simp [hN]; omega
  have hR0 := hr.below hW0 (Nat.le_of_eq hN)
  have hi2 : ∀ a b : Value, (Try.prog.info? 42).map (·.size) = some (#[a, b] : Array Value).size := fun _ _ => by kernel_rfl
  have HR := Lib.hid hR0
  clear hi hik hkl hkt hal hat hr hm hlt hR0
  by_cases hg : n ≤ 300 ∧ m ≤ 300
  · have hg1 : ¬ (300 : Int) < n := by omega
    have hg2 : ¬ (300 : Int) < (m : Int) := by omega
    go_enter Try.func9, Try.ntmps9
    go_upto_region 3 with (fail)
    obtain ⟨W, hWe⟩ : ∃ W, W = ((w.alloc (.cells (bx key) 35)).alloc (.cells (bx at_) 30)) := ⟨_, rfl⟩
    rw [← hWe] at hW0 hK0 hA0 hNW HR ⊢
    clear hWe hN
    go_upto_region 4 with (first | (refine wpList_load_row rfl 35 _ rfl N rfl 35 (bx key) _ _ hK0.row Try.underlying35 rfl Hik.out ?_) | (go_at_call 18; refine (new_any key _ Hkey.out.1 Hkey.out.2).mono ?_; rintro e w1 ⟨b, bb, rfl, hc1, hj1, hj2, hb1⟩))
    obtain ⟨ks, hks⟩ : ∃ ks, keysL key = ks := ⟨_, rfl⟩
    rw [hks] at hc1
    have hQ : QB w w1 N b bb key at_ ks := ⟨hc1, hK0.below hb1 hK0.lt, hA0.below hb1 hA0.lt, hW0.trans (hb1.mono hNW)⟩
    have Hks := Lib.hid hks
    have Hkt := Lib.hid hc1.lt
    have hR1 := HR.out.below hb1 (Nat.le_refl _)
    clear hW0 hK0 hA0 hNW hb1 hc1 hj1 hj2 hks HR W
    go_upto_region 5 with (first | (refine wpList_load_row rfl 35 _ rfl N rfl 35 (bx key) _ _ hQ.key.row Try.underlying35 rfl Hik.out ?_) | (go_at_call 21; refine (rnew_any key _ Hkey.out.1 Hkey.out.2).mono ?_; rintro e w2 ⟨kv, bv, rfl, hC, hb2⟩; rw [Hks.out] at hC; have hone := hC.one; have Hone := Lib.hid hone; clear hone) | (refine wpList_store_new rfl 42 _ _ rfl _ #[kv, bv] 42 rfl rfl (hi2 _ _) rfl Hone.out ?_))
    have hbc := (Below.refl w2.heap.size w2).alloc (Nat.le_refl _) (Obj.cells #[kv, bv] 42)
    have hcc := heap_alloc_new w2 (Obj.cells #[kv, bv] 42)
    obtain ⟨C, hCe⟩ : ∃ C, w2.heap.size = C := ⟨_, rfl⟩
    rw [hCe] at hcc ⊢
    have hT : QT w (w2.alloc (Obj.cells #[kv, bv] 42)) N b bb C key at_ ks kv bv (.slice va m vc) l := ⟨(hQ.below hb2).below hbc, hC.below hbc (Nat.le_refl _), hcc, (hR1.below hb2 (Nat.le_refl _)).below hbc (Nat.le_refl _)⟩
    generalize w2.alloc (Obj.cells #[kv, bv] 42) = w3 at hT ⊢
    clear hbc hcc hCe hb2 hC hQ hR1
    refine wp_region_held_drew (S := (fun w' => QT w w' N b bb C key at_ ks kv bv (.slice va m vc) l)) (by kernel_rfl) ?_ (fun hHeld => ?_)
    · exact hT.below ((Below.refl _ _).drew)
    refine take_run (v := ?_) 0 (some 23) rfl rfl (by kernel_rfl) (by kernel_rfl) (by kernel_rfl) (fun _ _ _ h => h) hHeld (by rfl) ?_ ?_
    rotate_left
    · intro _ hSw; go_simp; try with_reducible rfl
    simp only [Act.put, List.setIfInBounds_toArray, List.set_cons_zero, List.set_cons_succ]
    refine take_at 1 (some 24) rfl rfl (by kernel_rfl) (by kernel_rfl) (by kernel_rfl) (fun _ _ _ h => h) (yieldsIf_load_mid (by rfl) 30 _ rfl (N + 1) 0 rfl (bs at_) _ (fun _ h => h.q.place.range) Try.underlying30 rfl Hi2.out.2) hHeld ?_
    simp only [Act.put, List.setIfInBounds_toArray, List.set_cons_zero, List.set_cons_succ]
    refine take_run (v := ?_) 2 (some 25) rfl rfl (by kernel_rfl) (by kernel_rfl) (by kernel_rfl) (fun _ _ _ h => h) hHeld (by rfl) ?_ ?_
    rotate_left
    · intro _ hSw; go_simp; try with_reducible rfl
    simp only [Act.put, List.setIfInBounds_toArray, List.set_cons_zero, List.set_cons_succ]
    refine take_run (v := ?_) 4 (some 27) rfl rfl (by kernel_rfl) (by kernel_rfl) (by kernel_rfl) (fun _ _ _ h => h) hHeld (by rfl) ?_ ?_
    rotate_left
    · intro _ hSw; have hc0 := hSw.c0; have hc1 := hSw.c1; go_simp; try with_reducible rfl
    simp only [Act.put, List.setIfInBounds_toArray, List.set_cons_zero, List.set_cons_succ]
    refine take_at 5 (some 28) rfl rfl (by kernel_rfl) (by kernel_rfl) (by kernel_rfl) (fun _ _ _ h => h) (yieldsIf_load_mid (by rfl) 30 _ rfl (N + 1) 0 rfl (bs at_) _ (fun _ h => h.q.place.range) Try.underlying30 rfl Hi2.out.2) hHeld ?_
    simp only [Act.put, List.setIfInBounds_toArray, List.set_cons_zero, List.set_cons_succ]
    refine take_run (v := ?_) 6 (some 29) rfl rfl (by kernel_rfl) (by kernel_rfl) (by kernel_rfl) (fun _ _ _ h => h) hHeld (by rfl) ?_ ?_
    rotate_left
    · intro _ hSw; go_simp; try with_reducible rfl
    simp only [Act.put, List.setIfInBounds_toArray, List.set_cons_zero, List.set_cons_succ]
    refine call_at (f := ?_) (args := ?_) 3 (some 26) rfl rfl (by kernel_rfl) (by rfl) ?_ ?_
    rotate_left 2
    · go_simp; first | (refine ⟨?_, ?_⟩ <;> with_reducible rfl) | with_reducible rfl
    refine (stream_any b bb ks at_ n _ hHeld.q.cip Hl.out.1 Hl.out.2 (by omega)).mono ?_
    rintro _ w4 ⟨x1, rfl, hown, hb⟩
    refine ⟨_, rfl, ?_, fun hHeld => ?_⟩
    · exact hHeld.below hb
    have hR1 := reads_of_owns hown
    simp only [Act.put, List.setIfInBounds_toArray, List.set_cons_zero, List.set_cons_succ]
    refine call_at (f := ?_) (args := ?_) 7 (some 30) rfl rfl (by kernel_rfl) (by rfl) ?_ ?_
    rotate_left 2
    · go_simp; first | (refine ⟨?_, ?_⟩ <;> with_reducible rfl) | with_reducible rfl
    refine (rstream_any kv bv ks at_ n _ hHeld.isc Hl.out.1 Hl.out.2 (by omega)).mono ?_
    rintro _ w5 ⟨x2, rfl, hown2, hb⟩
    refine ⟨_, rfl, ?_, fun hHeld => ?_⟩
    · exact hHeld.below hb
    have hR2 := reads_of_owns hown2
    have hR1' := hR1.below hb (Nat.le_refl _)
    simp only [Act.put, List.setIfInBounds_toArray, List.set_cons_zero, List.set_cons_succ]
    refine call_at (f := ?_) (args := ?_) 8 (some 31) rfl rfl (by kernel_rfl) (by rfl) ?_ ?_
    rotate_left 2
    · go_simp; first | (refine ⟨?_, ?_⟩ <;> with_reducible rfl) | with_reducible rfl
    refine (same_true x1 x2 (streamL ks at_ n.toNat) _ hR1' hR2 (streamL_lt Hkt.out Hl.out.2 _)).mono ?_
    rintro _ w6 ⟨rfl, hb⟩
    refine ⟨_, rfl, ?_, fun hHeld => ?_⟩
    · exact hHeld.below hb
    simp only [Act.put, List.setIfInBounds_toArray, List.set_cons_zero, List.set_cons_succ]
    refine take_run (v := ?_) 9 (some 32) rfl rfl (by kernel_rfl) (by kernel_rfl) (by kernel_rfl) (fun _ _ _ h => h) hHeld (by rfl) ?_ ?_
    rotate_left
    · intro _ hSw; go_simp; try with_reducible rfl
    simp only [Act.put, List.setIfInBounds_toArray, List.set_cons_zero, List.set_cons_succ]
    refine take_run (v := ?_) 10 (some 33) rfl rfl (by kernel_rfl) (by kernel_rfl) (by kernel_rfl) (fun _ _ _ h => h) hHeld (by rfl) ?_ ?_
    rotate_left
    · intro _ hSw; go_simp; try with_reducible rfl
    simp only [Act.put, List.setIfInBounds_toArray, List.set_cons_zero, List.set_cons_succ]
    refine take_at 11 (some 34) rfl rfl (by kernel_rfl) (by kernel_rfl) (by kernel_rfl) (fun _ _ _ h => h) (yieldsIf_load_mid (by rfl) 30 _ rfl (N + 1) 0 rfl (bs at_) _ (fun _ h => h.q.place.range) Try.underlying30 rfl Hi2.out.2) hHeld ?_
    simp only [Act.put, List.setIfInBounds_toArray, List.set_cons_zero, List.set_cons_succ]
    refine take_run (v := ?_) 12 (some 35) rfl rfl (by kernel_rfl) (by kernel_rfl) (by kernel_rfl) (fun _ _ _ h => h) hHeld (by rfl) ?_ ?_
    rotate_left
    · intro _ hSw; go_simp; try with_reducible rfl
    simp only [Act.put, List.setIfInBounds_toArray, List.set_cons_zero, List.set_cons_succ]
    refine take_run (v := ?_) 14 (some 37) rfl rfl (by kernel_rfl) (by kernel_rfl) (by kernel_rfl) (fun _ _ _ h => h) hHeld (by rfl) ?_ ?_
    rotate_left
    · intro _ hSw; have hc0 := hSw.c0; have hc1 := hSw.c1; go_simp; try with_reducible rfl
    simp only [Act.put, List.setIfInBounds_toArray, List.set_cons_zero, List.set_cons_succ]
    refine take_at 15 (some 38) rfl rfl (by kernel_rfl) (by kernel_rfl) (by kernel_rfl) (fun _ _ _ h => h) (yieldsIf_load_mid (by rfl) 30 _ rfl (N + 1) 0 rfl (bs at_) _ (fun _ h => h.q.place.range) Try.underlying30 rfl Hi2.out.2) hHeld ?_
    simp only [Act.put, List.setIfInBounds_toArray, List.set_cons_zero, List.set_cons_succ]
    refine take_run (v := ?_) 16 (some 39) rfl rfl (by kernel_rfl) (by kernel_rfl) (by kernel_rfl) (fun _ _ _ h => h) hHeld (by rfl) ?_ ?_
    rotate_left
    · intro _ hSw; go_simp; try with_reducible rfl
    simp only [Act.put, List.setIfInBounds_toArray, List.set_cons_zero, List.set_cons_succ]
    refine call_at (f := ?_) (args := ?_) 13 (some 36) rfl rfl (by kernel_rfl) (by rfl) ?_ ?_
    rotate_left 2
    · go_simp; first | (refine ⟨?_, ?_⟩ <;> with_reducible rfl) | with_reducible rfl
    refine (xor_any b bb ks at_ l _ _ hHeld.q.cip Hl.out.1 Hl.out.2 hHeld.r HX.out (by rw [Hm.out]; omega)).mono ?_
    rintro _ w7 ⟨x3, rfl, hown3, hb⟩
    refine ⟨_, rfl, ?_, fun hHeld => ?_⟩
    · exact hHeld.below hb
    have hR3 := reads_of_owns hown3
    simp only [Act.put, List.setIfInBounds_toArray, List.set_cons_zero, List.set_cons_succ]
    refine call_at (f := ?_) (args := ?_) 17 (some 40) rfl rfl (by kernel_rfl) (by rfl) ?_ ?_
    rotate_left 2
    · go_simp; first | (refine ⟨?_, ?_⟩ <;> with_reducible rfl) | with_reducible rfl
    refine (rxor_any kv bv ks at_ l _ _ hHeld.isc Hl.out.1 Hl.out.2 hHeld.r HX.out (by rw [Hm.out]; omega)).mono ?_
    rintro _ w8 ⟨x4, rfl, hown4, hb⟩
    refine ⟨_, rfl, ?_, fun hHeld => ?_⟩
    · exact hHeld.below hb
    have hR4 := reads_of_owns hown4
    have hR3' := hR3.below hb (Nat.le_refl _)
    simp only [Act.put, List.setIfInBounds_toArray, List.set_cons_zero, List.set_cons_succ]
    refine call_at (f := ?_) (args := ?_) 18 (some 41) rfl rfl (by kernel_rfl) (by rfl) ?_ ?_
    rotate_left 2
    · go_simp; first | (refine ⟨?_, ?_⟩ <;> with_reducible rfl) | with_reducible rfl
    refine (same_true x3 x4 (xorL l (streamL ks at_ l.length)) _ hR3' hR4 (xorL_lt HX.out (streamL_lt Hkt.out Hl.out.2 _))).mono ?_
    rintro _ w9 ⟨rfl, hb⟩
    refine ⟨_, rfl, ?_, fun hHeld => ?_⟩
    · exact hHeld.below hb
    simp only [Act.put, List.setIfInBounds_toArray, List.set_cons_zero, List.set_cons_succ]
    refine take_run (v := ?_) 19 (some 42) rfl rfl (by kernel_rfl) (by kernel_rfl) (by kernel_rfl) (fun _ _ _ h => h) hHeld (by rfl) ?_ ?_
    rotate_left
    · intro _ hSw; go_simp; try with_reducible rfl
    simp only [Act.put, List.setIfInBounds_toArray, List.set_cons_zero, List.set_cons_succ]
    refine take_run (v := ?_) 20 (some 43) rfl rfl (by kernel_rfl) (by kernel_rfl) (by kernel_rfl) (fun _ _ _ h => h) hHeld (by rfl) ?_ ?_
    rotate_left
    · intro _ hSw; go_simp; try with_reducible rfl
    simp only [Act.put, List.setIfInBounds_toArray, List.set_cons_zero, List.set_cons_succ]
    refine call_at (f := ?_) (args := ?_) 21 (some 44) rfl rfl (by kernel_rfl) (by rfl) ?_ ?_
    rotate_left 2
    · go_simp; first | (refine ⟨?_, ?_⟩ <;> with_reducible rfl) | with_reducible rfl
    refine (known_any _).mono ?_
    rintro _ w10 ⟨rfl, hb⟩
    refine ⟨_, rfl, ?_, fun hHeld => ?_⟩
    · exact hHeld.below hb
    simp only [Act.put, List.setIfInBounds_toArray, List.set_cons_zero, List.set_cons_succ]
    refine take_run (v := ?_) 22 (some 45) rfl rfl (by kernel_rfl) (by kernel_rfl) (by kernel_rfl) (fun _ _ _ h => h) hHeld (by rfl) ?_ ?_
    rotate_left
    · intro _ hSw; go_simp; try with_reducible rfl
    simp only [Act.put, List.setIfInBounds_toArray, List.set_cons_zero, List.set_cons_succ]
    refine take_run (v := ?_) 23 (some 8) rfl rfl (by kernel_rfl) (by kernel_rfl) (by kernel_rfl) (fun _ _ _ h => h) hHeld (by rfl) ?_ ?_
    rotate_left
    · intro _ hSw; go_simp; try with_reducible rfl
    simp only [Act.put, List.setIfInBounds_toArray, List.set_cons_zero, List.set_cons_succ]
    refine wpAnyH_done (by kernel_rfl) ?_ _
    go_wp2_with fail
    go_ret
    exact ⟨rfl, by rw [HN.out]; exact hHeld.q.bel⟩
  · have hfin : ∀ w3, Below ((w.alloc (.cells (bx key) 35)).alloc (.cells (bx at_) 30)).heap.size ((w.alloc (.cells (bx key) 35)).alloc (.cells (bx at_) 30)) w3 → Below N w w3 := fun w3 hb => hW0.trans (hb.mono hNW)
    have Hfin := Lib.hid hfin
    clear hfin hK0 hA0 hW0 hNW hN HR
    by_cases h1 : n ≤ 300
    · have hg1 : ¬ (300 : Int) < n := by omega
      have hg2 : (300 : Int) < (m : Int) := by omega
      clear hg
      go_enter Try.func9, Try.ntmps9
      go_wp2_with (go_at_call 16; refine (known_any _).mono ?_; rintro e w3 ⟨rfl, hb3⟩)
      go_ret
      exact ⟨rfl, by rw [HN.out]; exact Hfin.out _ hb3⟩
    · have hg1 : (300 : Int) < n := by omega
      clear hg
      go_enter Try.func9, Try.ntmps9
      go_wp2_with (go_at_call 16; refine (known_any _).mono ?_; rintro e w3 ⟨rfl, hb3⟩)
      go_ret
      exact ⟨rfl, by rw [HN.out]; exact Hfin.out _ hb3⟩
end Go.Proofs.Ytdopdaoapdeabaa
