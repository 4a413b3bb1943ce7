/- WALK: sacristanlaw04.AesXors. -/
import Derived.Test.YtdopdaoapdeabaaAesXorsP
import Derived.Test.YtdopdaoapdeabaaKnownW
namespace Go.Proofs.Ytdopdaoapdeabaa
open Go.RowKit

theorem reads_take {w : World} {a : Option Addr} {len cap : Nat} {l : List Nat} (h : Reads w (.slice a len cap) (bs l)) {k : Nat} (hk : k ≤ len) : Reads w (.slice a k cap) (bs (l.take k)) := by
  have := h.take hk
  rwa [bs_take'] at this
theorem same_true (v1 v2 : Value) (l : List Nat) (w : World) (h1 : Reads w v1 (bs l)) (h2 : Reads w v2 (bs l)) (hl : ∀ x ∈ l, x < 256) :
    Calls Try.prog 24 #[v1, v2] w fun e w' => e = .returned (.bool true) ∧ Below w.heap.size w w' := by
  refine (same_any v1 v2 l l w h1 h2 hl hl).mono ?_
  rintro e w' ⟨rfl, hb⟩
  exact ⟨by rw [decide_eq_true rfl], hb⟩

set_option maxRecDepth 100000 in
set_option maxHeartbeats 4000000 in
theorem aesXors_walk (key at_ : List Nat) (v1 : Value) (l1 : List Nat) (v2 : Value) (l2 : List Nat) (w : World) (hkl : key.length = 16) (hkt : ∀ x ∈ key, x < 256) (hal : at_.length = 16) (hat : ∀ x ∈ at_, x < 256)
    (hr1 : Reads w v1 (bs l1)) (hlt1 : ∀ x ∈ l1, x < 256) (hm1 : l1.length ≤ reachBytes) (hr2 : Reads w v2 (bs l2)) (hlt2 : ∀ x ∈ l2, x < 256) (hm2 : l2.length ≤ reachBytes) :
    Calls Try.prog 11 #[.agg (bx key), .agg (bx at_), v1, v2] w fun e w' => e = .returned (.bool true) ∧ Below w.heap.size w w' := by
  obtain ⟨va1, vc1, hv1⟩ := hr1.len
  obtain ⟨va2, vc2, hv2⟩ := hr2.len
  rw [bs_length] at hv1 hv2
  obtain ⟨m1, e1⟩ : ∃ m1, l1.length = m1 := ⟨_, rfl⟩
  obtain ⟨m2, e2⟩ : ∃ m2, l2.length = m2 := ⟨_, rfl⟩
  rw [e1] at hv1 hm1
  rw [e2] at hv2 hm2
  subst hv1 hv2
  have Hm := Lib.hid (And.intro e1 e2)
  have Hl := Lib.hid (And.intro hal hat)
  have Hkey := Lib.hid (And.intro hkl hkt)
  have HX := Lib.hid (And.intro hlt1 hlt2)
  have hi : ∀ m : List Nat, m.length = 16 → (Try.prog.info? 30).map (·.size) = some (bx m).size := by intro m hm; rw [bx_size, hm]; kernel_rfl
  have Hi := Lib.hid hi
  have hik : (Try.prog.info? 35).map (·.size) = some (bx key).size := by rw [bx_size, hkl]; kernel_rfl
  have Hik := Lib.hid hik
  have hi2 : (Try.prog.info? 35).map (·.size) = some (bs key).length := by rw [bs_length, hkl]; kernel_rfl
  have hi3 : (Try.prog.info? 30).map (·.size) = some (bs at_).length := by rw [bs_length, hal]; kernel_rfl
  have Hi2 := Lib.hid (And.intro hi2 hi3)
  obtain ⟨N, hN⟩ : ∃ N, w.heap.size = N := ⟨_, rfl⟩
  have HN := Lib.hid hN
  have hW0 : Below N w ((w.alloc (.cells (bx key) 35)).alloc (.cells (bx at_) 30)) := by rw [← hN]; exact ((Below.refl _ _).alloc (Nat.le_refl _) _).alloc (by simp) _
  have hK0 : Bytes ((w.alloc (.cells (bx key) 35)).alloc (.cells (bx at_) 30)) N key 35 := by rw [← hN]; exact (Bytes.new _ _ _).old _
  have hA0 : Bytes ((w.alloc (.cells (bx key) 35)).alloc (.cells (bx at_) 30)) (N + 1) at_ 30 := by
    have := Bytes.new (w.alloc (.cells (bx key) 35)) at_ 30
    rwa [show (w.alloc (.cells (bx key) 35)).heap.size = N + 1 by simp [hN]] at this
  have HW := Lib.hid (And.intro hW0 (And.intro hK0 (And.intro hA0 (And.intro (hr1.below hW0 (Nat.le_of_eq hN)) (hr2.below hW0 (Nat.le_of_eq hN))))))
  have hs63 : m1 ≤ 140737488351232 ∧ m2 ≤ 140737488351232 := ⟨hm1, hm2⟩
  clear hr1 hr2 hi hik hi2 hi3 hkl hkt hal hat hlt1 hlt2 hW0 hK0 hA0 e1 e2 hm1 hm2
  by_cases h500 : m1 + m2 ≤ 500
  · have hm0 : ¬ (500 : Int) < (m1 : Int) + (m2 : Int) := by omega
    clear hs63
    go_enter Try.func11, Try.ntmps11
    go_upto_region 3 with (fail)
    have hNW : N ≤ ((w.alloc (.cells (bx key) 35)).alloc (.cells (bx at_) 30)).heap.size := by simp [hN]; omega
    obtain ⟨W, hWe⟩ : ∃ W, W = ((w.alloc (.cells (bx key) 35)).alloc (.cells (bx at_) 30)) := ⟨_, rfl⟩
    rw [← hWe] at HW hNW ⊢
    clear hWe hN
    go_upto_region 4 with (first | (refine wpList_load_row rfl 35 _ rfl N rfl 35 (bx key) _ _ HW.out.2.1.row Try.underlying35 rfl Hik.out ?_) | (go_at_call 18; refine (new_any key _ Hkey.out.1 Hkey.out.2).mono ?_; rintro e w1 ⟨b, bb, rfl, hc1, hj1, hj2, hb1⟩))
    have hX1 : XH w w1 N b bb (keysL key) key at_ l1 l2 [] [] (.slice va1 m1 vc1) (.slice va2 m2 vc2) (.slice none 0 0) (.slice none 0 0) :=
      ⟨hc1, HW.out.2.1.below hb1 HW.out.2.1.lt, HW.out.2.2.1.below hb1 HW.out.2.2.1.lt, HW.out.2.2.2.1.below hb1 (Nat.le_refl _), HW.out.2.2.2.2.below hb1 (Nat.le_refl _), .inl ⟨rfl, rfl⟩, .inl ⟨rfl, rfl⟩, HW.out.1.trans (hb1.mono hNW), Nat.le_trans hNW hb1.size⟩
    have Hk := Lib.hid hc1.lt
    clear HW hNW hb1 hc1 hj1 hj2
    clear W
    obtain ⟨ks, hks⟩ : ∃ ks, ks = keysL key := ⟨_, rfl⟩
    rw [← hks] at hX1 Hk
    have Hks := Lib.hid hks
    clear hks
    obtain ⟨n, hn⟩ : ∃ n, min m1 m2 = n := ⟨_, rfl⟩
    have hn1 : n ≤ m1 := by omega
    have hn2 : n ≤ m2 := by omega
    go_upto_region 5 with (fail)
    have hmin : (if m2 < m1 then (m2 : Int) else (m1 : Int)) = (n : Int) := by split <;> omega
    rw [hmin]
    clear hmin hn hm0
    have hs1 := streamL_length (ks := ks) Hl.out.1 m1
    have hs2 := streamL_length (ks := ks) Hl.out.1 m2
    have ht1 := streamL_lt Hk.out Hl.out.2 m1
    have ht2 := streamL_lt Hk.out Hl.out.2 m2
    have hz1 := stream_take (ks := ks) Hl.out.1 Hl.out.2 hn1
    have hz2 := stream_take (ks := ks) Hl.out.1 Hl.out.2 hn2
    obtain ⟨c1, hc1⟩ : ∃ c, xorL l1 (streamL ks at_ m1) = c := ⟨_, rfl⟩
    obtain ⟨c2, hc2⟩ : ∃ c, xorL l2 (streamL ks at_ m2) = c := ⟨_, rfl⟩
    have hcl1 : c1.length = m1 := by rw [← hc1, xorL_length, hs1]
    have hcl2 : c2.length = m2 := by rw [← hc2, xorL_length, hs2]
    have hct1 : ∀ x ∈ c1, x < 256 := by rw [← hc1]; exact xorL_lt HX.out.1 ht1
    have hct2 : ∀ x ∈ c2, x < 256 := by rw [← hc2]; exact xorL_lt HX.out.2 ht2
    have htake : xorL (l1.take n) (streamL ks at_ n) = c1.take n := by
      rw [← hz1, ← hc1]
      exact (xorL_take (by rw [hs1, Hm.out.1]) (by rw [Hm.out.1]; exact hn1)).symm
    have hget : ∀ i, i < n → ∃ s, s < 256 ∧ c1.getD i 0 = s ^^^ l1.getD i 0 ∧ c2.getD i 0 = s ^^^ l2.getD i 0 := fun i hi => by
      refine ⟨(streamL ks at_ n).getD i 0, getD_lt (streamL_lt Hk.out Hl.out.2 n) i, ?_, ?_⟩
      · rw [← hc1, xorL_get (by rw [hs1, Hm.out.1]) (by rw [Hm.out.1]; omega), ← hz1, getD_take hi]
      · rw [← hc2, xorL_get (by rw [hs2, Hm.out.2]) (by rw [Hm.out.2]; omega), ← hz2, getD_take hi]
    have Hc := Lib.hid (And.intro hcl1 (And.intro hcl2 (And.intro hct1 hct2)))
    have Hce := Lib.hid (And.intro hc1 hc2)
    have Htake := Lib.hid htake
    have Hget := Lib.hid hget
    clear hs1 hs2 ht1 ht2 hz1 hz2 hcl1 hcl2 hct1 hct2 htake hget hc1 hc2
    go_upto_region 6 with (first | (refine wpList_load_row rfl 30 _ rfl (N + 1) rfl 30 (bx at_) _ _ hX1.place.row Try.underlying30 rfl (Hi.out at_ Hl.out.1) ?_) | (go_at_call 26; refine (xor_any b bb ks at_ l1 _ _ hX1.cip Hl.out.1 Hl.out.2 hX1.r1 HX.out.1 (by rw [Hm.out.1]; omega)).mono ?_; rintro e w2 ⟨x, rfl, hown, hb2⟩))
    have hRx := reads_of_owns hown
    rw [Hm.out.1, Hce.out.1] at hRx
    obtain ⟨xa1, xc1, hxe⟩ := hRx.len
    rw [bs_length, Hc.out.1] at hxe
    subst hxe
    have hX2 := (hX1.below hb2).setx hRx
    clear hX1 hRx hown hb2
    clear w1
    go_upto_region 7 with (first | (refine wpList_load_row rfl 30 _ rfl (N + 1) rfl 30 (bx at_) _ _ hX2.place.row Try.underlying30 rfl (Hi.out at_ Hl.out.1) ?_) | (go_at_call 26; refine (xor_any b bb ks at_ l2 _ _ hX2.cip Hl.out.1 Hl.out.2 hX2.r2 HX.out.2 (by rw [Hm.out.2]; omega)).mono ?_; rintro e w3 ⟨y, rfl, hown, hb3⟩))
    have hRy := reads_of_owns hown
    rw [Hm.out.2, Hce.out.2] at hRy
    obtain ⟨xa2, xc2, hxe⟩ := hRy.len
    rw [bs_length, Hc.out.2.1] at hxe
    subst hxe
    have hX3 := (hX2.below hb3).sety hRy
    clear hX2 hRy hown hb3
    clear w2
    go_wp2_with fail
    go_loopg [13] n (fun g i' wr => ∃ i : Nat, i + g = n ∧ i' = .int .i64 i ∧ XH w wr N b bb ks key at_ l1 l2 c1 c2 (.slice va1 m1 vc1) (.slice va2 m2 vc2) (.slice xa1 m1 xc1) (.slice xa2 m2 xc2))
    case atStart => exact ⟨0, by omega, rfl, hX3⟩
    case round =>
      clear hX3
      obtain ⟨i, hig, rfl, hX⟩ := hrel
      by_cases hlt : i < n
      · have hlti : (i : Int) < (n : Int) := by omega
        have hi0 : (0 : Int) ≤ (i : Int) := by omega
        obtain ⟨s, hs256, hg1, hg2⟩ := Hget.out i hlt
        obtain ⟨A, hA⟩ : ∃ A, l1.getD i 0 = A := ⟨_, rfl⟩
        obtain ⟨B, hB⟩ : ∃ B, l2.getD i 0 = B := ⟨_, rfl⟩
        have hA256 : A < 256 := by rw [← hA]; exact getD_lt HX.out.1 i
        have hB256 : B < 256 := by rw [← hB]; exact getD_lt HX.out.2 i
        rw [hA] at hg1
        rw [hB] at hg2
        obtain ⟨b1, o1, k1, hv1, hk1, _, hq1⟩ := hX.r1.pos (by rw [bs_length, Hm.out.1]; omega)
        obtain ⟨b2, o2, k2, hv2, hk2, _, hq2⟩ := hX.r2.pos (by rw [bs_length, Hm.out.2]; omega)
        obtain ⟨b3, o3, k3, hv3, hk3, _, hq3⟩ := hX.rx.pos (by rw [bs_length, Hc.out.1]; omega)
        obtain ⟨b4, o4, k4, hv4, hk4, _, hq4⟩ := hX.ry.pos (by rw [bs_length, Hc.out.2.1]; omega)
        have hq1' := hq1 i _ (bs_get (by rw [Hm.out.1]; omega))
        have hq2' := hq2 i _ (bs_get (by rw [Hm.out.2]; omega))
        have hq3' := hq3 i _ (bs_get (by rw [Hc.out.1]; omega))
        have hq4' := hq4 i _ (bs_get (by rw [Hc.out.2.1]; omega))
        rw [hA] at hq1'
        rw [hB] at hq2'
        rw [hg1] at hq3'
        rw [hg2] at hq4'
        injection hv1 with ea1 _ ec1
        injection hv2 with ea2 _ ec2
        injection hv3 with ea3 _ ec3
        injection hv4 with ea4 _ ec4
        subst ea1 ec1 ea2 ec2 ea3 ec3 ea4 ec4
        have hs1 : s ^^^ A < 256 := xor_lt_256 hs256 hA256
        have hs2 : s ^^^ B < 256 := xor_lt_256 hs256 hB256
        have hx1 := bits_xor hs1 hs2
        rw [xor4] at hx1
        have hx2 := bits_xor hA256 hB256
        have hj1 : i < m1 := by omega
        have hj2 : i < m2 := by omega
        have Hh := Lib.hid hX
        clear hq1 hq2 hq3 hq4 hX hA hB hg1 hg2 hk1 hk2 hk3 hk4 hs256 hs1 hs2
        generalize s ^^^ A = S1 at *
        generalize s ^^^ B = S2 at *
        generalize A ^^^ B = S3 at *
        go_wp2_with fail
        go_region
        all_goals
          go_wp2_with fail
          go_roundg (gk - 1)
          case measure => omega
          case rel => exact ⟨i + 1, by omega, by go_num, Hh.out.drew⟩
      · have hlti : ¬ (i : Int) < (n : Int) := by omega
        obtain rfl : i = n := by omega
        have hv1 := hX.r1.room
        have hv3 := hX.rx.room
        have hsl : (0 : Int) ≤ (i : Int) ∧ (i : Int) ≤ (vc1 : Int) ∧ (i : Int) ≤ (xc1 : Int) := ⟨by omega, by omega, by omega⟩
        have hln : (l1.take i).length = i := by rw [List.length_take, Hm.out.1]; omega
        have Hln := Lib.hid (And.intro hln (show (l1.take i).length ≤ 1048576 by omega))
        have Ht1 : Hid (∀ x ∈ l1.take i, x < 256) := fun x hx => HX.out.1 x (List.mem_of_mem_take hx)
        have Ht2 : Hid (∀ x ∈ c1.take i, x < 256) := fun x hx => Hc.out.2.2.1 x (List.mem_of_mem_take hx)
        clear hln hv1 hv3
        go_wp2_with fail
        refine wp_region_held_drew (S := (fun w' => XH w w' N b bb ks key at_ l1 l2 c1 c2 (.slice va1 m1 vc1) (.slice va2 m2 vc2) (.slice xa1 m1 xc1) (.slice xa2 m2 xc2))) (by kernel_rfl) ?_ (fun hHeld => ?_)
        · exact hX.drew
        refine take_run (v := ?_) 0 (some 72) rfl rfl (by kernel_rfl) (by kernel_rfl) (by kernel_rfl) (fun _ _ _ h => h) hHeld (by rfl) ?_ ?_
        rotate_left
        · intro _ hSw; go_simp; try with_reducible rfl
        simp only [Act.put, List.setIfInBounds_toArray, List.set_cons_zero, List.set_cons_succ]
        refine take_at 1 (some 73) rfl rfl (by kernel_rfl) (by kernel_rfl) (by kernel_rfl) (fun _ _ _ h => h) (yieldsIf_load_mid (by rfl) 30 _ rfl (N + 1) 0 rfl (bs at_) _ (fun _ h => h.place.range) Try.underlying30 rfl Hi2.out.2) hHeld ?_
        simp only [Act.put, List.setIfInBounds_toArray, List.set_cons_zero, List.set_cons_succ]
        refine take_run (v := ?_) 2 (some 74) rfl rfl (by kernel_rfl) (by kernel_rfl) (by kernel_rfl) (fun _ _ _ h => h) hHeld (by rfl) ?_ ?_
        rotate_left
        · intro _ hSw; go_simp; try with_reducible rfl
        simp only [Act.put, List.setIfInBounds_toArray, List.set_cons_zero, List.set_cons_succ]
        refine take_run (v := ?_) 3 (some 75) rfl rfl (by kernel_rfl) (by kernel_rfl) (by kernel_rfl) (fun _ _ _ h => h) hHeld (by rfl) ?_ ?_
        rotate_left
        · intro _ hSw; go_simp; try with_reducible rfl
        simp only [Act.put, List.setIfInBounds_toArray, List.set_cons_zero, List.set_cons_succ]
        refine take_run (v := ?_) 4 (some 76) rfl rfl (by kernel_rfl) (by kernel_rfl) (by kernel_rfl) (fun _ _ _ h => h) hHeld (by rfl) ?_ ?_
        rotate_left
        · intro _ hSw; go_simp; try with_reducible rfl
        simp only [Act.put, List.setIfInBounds_toArray, List.set_cons_zero, List.set_cons_succ]
        refine take_run (v := ?_) 6 (some 78) rfl rfl (by kernel_rfl) (by kernel_rfl) (by kernel_rfl) (fun _ _ _ h => h) hHeld (by rfl) ?_ ?_
        rotate_left
        · intro _ hSw; go_simp; try with_reducible rfl
        simp only [Act.put, List.setIfInBounds_toArray, List.set_cons_zero, List.set_cons_succ]
        refine take_run (v := ?_) 7 (some 79) rfl rfl (by kernel_rfl) (by kernel_rfl) (by kernel_rfl) (fun _ _ _ h => h) hHeld (by rfl) ?_ ?_
        rotate_left
        · intro _ hSw; go_simp; try with_reducible rfl
        simp only [Act.put, List.setIfInBounds_toArray, List.set_cons_zero, List.set_cons_succ]
        refine take_run (v := ?_) 8 (some 80) rfl rfl (by kernel_rfl) (by kernel_rfl) (by kernel_rfl) (fun _ _ _ h => h) hHeld (by rfl) ?_ ?_
        rotate_left
        · intro _ hSw; go_simp; try with_reducible rfl
        simp only [Act.put, List.setIfInBounds_toArray, List.set_cons_zero, List.set_cons_succ]
        refine call_at (f := ?_) (args := ?_) 5 (some 77) rfl rfl (by kernel_rfl) (by rfl) ?_ ?_
        rotate_left 2
        · go_simp; first | (refine ⟨?_, ?_⟩ <;> with_reducible rfl) | with_reducible rfl
        refine (xor_any b bb ks at_ (l1.take i) _ _ hHeld.cip Hl.out.1 Hl.out.2 (reads_take hHeld.r1 hn1) Ht1.out Hln.out.2).mono ?_
        rintro _ w4 ⟨r, rfl, hown, hb⟩
        refine ⟨_, rfl, ?_, fun hHeld => ?_⟩
        · exact hHeld.below hb
        have hR := reads_of_owns hown
        rw [Hln.out.1, Htake.out] at hR
        simp only [Act.put, List.setIfInBounds_toArray, List.set_cons_zero, List.set_cons_succ]
        refine call_at (f := ?_) (args := ?_) 9 (some 81) rfl rfl (by kernel_rfl) (by rfl) ?_ ?_
        rotate_left 2
        · go_simp; first | (refine ⟨?_, ?_⟩ <;> with_reducible rfl) | with_reducible rfl
        refine (same_true _ _ (c1.take i) _ hR (reads_take hHeld.rx hn1) Ht2.out).mono ?_
        rintro _ w5 ⟨rfl, hb⟩
        refine ⟨_, rfl, ?_, fun hHeld => ?_⟩
        · exact hHeld.below hb
        simp only [Act.put, List.setIfInBounds_toArray, List.set_cons_zero, List.set_cons_succ]
        refine take_run (v := ?_) 10 (some 82) rfl rfl (by kernel_rfl) (by kernel_rfl) (by kernel_rfl) (fun _ _ _ h => h) hHeld (by rfl) ?_ ?_
        rotate_left
        · intro _ hSw; go_simp; try with_reducible rfl
        simp only [Act.put, List.setIfInBounds_toArray, List.set_cons_zero, List.set_cons_succ]
        refine take_at 11 (some 83) rfl rfl (by kernel_rfl) (by kernel_rfl) (by kernel_rfl) (fun _ _ _ h => h) (yieldsIf_load_mid (by rfl) 35 _ rfl N 0 rfl (bs key) _ (fun _ h => h.key.range) Try.underlying35 rfl Hi2.out.1) hHeld ?_
        simp only [Act.put, List.setIfInBounds_toArray, List.set_cons_zero, List.set_cons_succ]
        refine take_at 13 (some 85) rfl rfl (by kernel_rfl) (by kernel_rfl) (by kernel_rfl) (fun _ _ _ h => h) (yieldsIf_load_mid (by rfl) 30 _ rfl (N + 1) 0 rfl (bs at_) _ (fun _ h => h.place.range) Try.underlying30 rfl Hi2.out.2) hHeld ?_
        simp only [Act.put, List.setIfInBounds_toArray, List.set_cons_zero, List.set_cons_succ]
        refine take_run (v := ?_) 14 (some 86) rfl rfl (by kernel_rfl) (by kernel_rfl) (by kernel_rfl) (fun _ _ _ h => h) hHeld (by rfl) ?_ ?_
        rotate_left
        · intro _ hSw; go_simp; try with_reducible rfl
        simp only [Act.put, List.setIfInBounds_toArray, List.set_cons_zero, List.set_cons_succ]
        refine take_run (v := ?_) 16 (some 88) rfl rfl (by kernel_rfl) (by kernel_rfl) (by kernel_rfl) (fun _ _ _ h => h) hHeld (by rfl) ?_ ?_
        rotate_left
        · intro _ hSw; go_simp; try with_reducible rfl
        simp only [Act.put, List.setIfInBounds_toArray, List.set_cons_zero, List.set_cons_succ]
        refine call_at (f := ?_) (args := ?_) 12 (some 84) rfl rfl (by kernel_rfl) (by rfl) ?_ ?_
        rotate_left 2
        · go_simp; first | (refine ⟨?_, ?_⟩ <;> with_reducible rfl) | with_reducible rfl
        refine (new_any key _ Hkey.out.1 Hkey.out.2).mono ?_
        rintro _ w6 ⟨b', bb', rfl, hc', _, _, hb⟩
        refine ⟨_, rfl, ?_, fun hHeld => ?_⟩
        · exact hHeld.below hb
        rw [← Hks.out] at hc'
        simp only [Act.put, List.setIfInBounds_toArray, List.set_cons_zero, List.set_cons_succ]
        refine call_at (f := ?_) (args := ?_) 15 (some 87) rfl rfl (by kernel_rfl) (by rfl) ?_ ?_
        rotate_left 2
        · go_simp; first | (refine ⟨?_, ?_⟩ <;> with_reducible rfl) | with_reducible rfl
        refine (xor_any b' bb' ks at_ l1 _ _ hc' Hl.out.1 Hl.out.2 hHeld.r1 HX.out.1 (by rw [Hm.out.1]; omega)).mono ?_
        rintro _ w7 ⟨r2, rfl, hown2, hb⟩
        refine ⟨_, rfl, ?_, fun hHeld => ?_⟩
        · exact hHeld.below hb
        have hR2 := reads_of_owns hown2
        rw [Hm.out.1, Hce.out.1] at hR2
        simp only [Act.put, List.setIfInBounds_toArray, List.set_cons_zero, List.set_cons_succ]
        refine call_at (f := ?_) (args := ?_) 17 (some 89) rfl rfl (by kernel_rfl) (by rfl) ?_ ?_
        rotate_left 2
        · go_simp; first | (refine ⟨?_, ?_⟩ <;> with_reducible rfl) | with_reducible rfl
        refine (same_true _ _ c1 _ hR2 hHeld.rx Hc.out.2.2.1).mono ?_
        rintro _ w8 ⟨rfl, hb⟩
        refine ⟨_, rfl, ?_, fun hHeld => ?_⟩
        · exact hHeld.below hb
        simp only [Act.put, List.setIfInBounds_toArray, List.set_cons_zero, List.set_cons_succ]
        refine take_run (v := ?_) 18 (some 90) rfl rfl (by kernel_rfl) (by kernel_rfl) (by kernel_rfl) (fun _ _ _ h => h) hHeld (by rfl) ?_ ?_
        rotate_left
        · intro _ hSw; go_simp; try with_reducible rfl
        simp only [Act.put, List.setIfInBounds_toArray, List.set_cons_zero, List.set_cons_succ]
        refine take_run (v := ?_) 19 (some 91) rfl rfl (by kernel_rfl) (by kernel_rfl) (by kernel_rfl) (fun _ _ _ h => h) hHeld (by rfl) ?_ ?_
        rotate_left
        · intro _ hSw; go_simp; try with_reducible rfl
        simp only [Act.put, List.setIfInBounds_toArray, List.set_cons_zero, List.set_cons_succ]
        refine call_at (f := ?_) (args := ?_) 20 (some 92) rfl rfl (by kernel_rfl) (by rfl) ?_ ?_
        rotate_left 2
        · go_simp; first | (refine ⟨?_, ?_⟩ <;> with_reducible rfl) | with_reducible rfl
        refine (known_any _).mono ?_
        rintro _ w9 ⟨rfl, hb⟩
        refine ⟨_, rfl, ?_, fun hHeld => ?_⟩
        · exact hHeld.below hb
        simp only [Act.put, List.setIfInBounds_toArray, List.set_cons_zero, List.set_cons_succ]
        refine take_run (v := ?_) 21 (some 93) rfl rfl (by kernel_rfl) (by kernel_rfl) (by kernel_rfl) (fun _ _ _ h => h) hHeld (by rfl) ?_ ?_
        rotate_left
        · intro _ hSw; go_simp; try with_reducible rfl
        simp only [Act.put, List.setIfInBounds_toArray, List.set_cons_zero, List.set_cons_succ]
        refine take_run (v := ?_) 22 (some 8) rfl rfl (by kernel_rfl) (by kernel_rfl) (by kernel_rfl) (fun _ _ _ h => h) hHeld (by rfl) ?_ ?_
        rotate_left
        · intro _ hSw; go_simp; try with_reducible rfl
        simp only [Act.put, List.setIfInBounds_toArray, List.set_cons_zero, List.set_cons_succ]
        refine wpAnyH_done (by kernel_rfl) ?_ _
        go_wp2_with fail
        go_ret
        exact ⟨rfl, by rw [HN.out]; exact hHeld.bel⟩
  · have hm0 : (500 : Int) < (m1 : Int) + (m2 : Int) := by omega
    go_enter Try.func11, Try.ntmps11
    go_wp2_with fail
    refine (known_any _).mono ?_
    rintro e w1 ⟨rfl, hb1⟩
    go_wp2_with fail
    go_ret
    refine ⟨rfl, ?_⟩
    rw [HN.out]
    exact HW.out.1.trans (hb1.mono (by simp; omega))
end Go.Proofs.Ytdopdaoapdeabaa
