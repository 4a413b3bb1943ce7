/- WALK: sacristanlaw07.BlockHeads. -/
import Derived.Test.YtdopdaoapdeabaaDoorKeysW
namespace Go.Proofs.YtdopdaoapdeabaaDoor
open Go.RowKit

theorem headL_inj {a b c d : Nat} (h : headL a b = headL c d) (ha : a < 18446744073709551616) (hb : b < 4294967296) (hc : c < 18446744073709551616) (hd : d < 4294967296) : a = c ∧ b = d := by
  have h8 := congrArg (fun l => l.take 8) h
  have h4 := congrArg (fun l => (l.drop 8).take 4) h
  simp only [headL_8, headL_4] at h8 h4
  exact ⟨putL_inj h8 ha hc, putL_inj h4 hb hd⟩

/-- two heads, in blocks, and a key -/
structure QH (w X : World) (N : Nat) (key : List Nat) (X1 X2 : Nat) (H1 H2 : List Nat) : Prop where
  key : Bytes X N key 23
  x : Bytes X X1 H1 39
  y : Bytes X X2 H2 39
  et : ET X
  bel : Below N w X
theorem QH.below {w X X' : World} {N : Nat} {key : List Nat} {X1 X2 : Nat} {H1 H2 : List Nat} (h : QH w X N key X1 X2 H1 H2) (hb : Below X.heap.size X X') : QH w X' N key X1 X2 H1 H2 :=
  ⟨h.key.below hb h.key.lt, h.x.below hb h.x.lt, h.y.below hb h.y.lt, h.et.below hb h.et.pos, h.bel.trans (hb.mono (Nat.le_of_lt h.key.lt))⟩

set_option maxRecDepth 100000 in
set_option maxHeartbeats 4000000 in
theorem blockHeads_walk (key : List Nat) (a b c d : Nat) (w : World) (hkl : key.length = 16) (hkt : ∀ x ∈ key, x < 256) (ha : a < 18446744073709551616) (hb' : b < 4294967296) (hc' : c < 18446744073709551616) (hd' : d < 4294967296) (hg : ET w) :
    Calls Tryd.prog 4 #[.agg (bx key), .int .u64 a, .int .u32 b, .int .u64 c, .int .u32 d] w fun en w' => en = .returned (.bool true) ∧ Below w.heap.size w w' := by
  have hQ0 := QL.start (key := key) (w := w) (v := .slice none 0 0) (l := []) (.inl ⟨rfl, rfl⟩) hg
  have Hkey := Lib.hid (And.intro hkl hkt)
  have hik : (Tryd.prog.info? 23).map (·.size) = some (bx key).size := by rw [bx_size, hkl]; kernel_rfl
  have Hik := Lib.hid hik
  have hi : ∀ m : List Nat, m.length = 16 → (Tryd.prog.info? 39).map (·.size) = some (bx m).size := by intro m hm; rw [bx_size, hm]; kernel_rfl
  have Hi := Lib.hid hi
  obtain ⟨N, hN⟩ : ∃ N, w.heap.size = N := ⟨_, rfl⟩
  rw [hN] at hQ0
  have HN := Lib.hid hN
  obtain ⟨H1, hH1⟩ : ∃ H, headL a b = H := ⟨_, rfl⟩
  obtain ⟨H2, hH2⟩ : ∃ H, headL c d = H := ⟨_, rfl⟩
  have HH : Hid (headL a b = H1 ∧ H1.length = 16 ∧ (∀ x ∈ H1, x < 256) ∧ H2.length = 16 ∧ (∀ x ∈ H2, x < 256)) := ⟨hH1, by rw [← hH1, headL_length], by rw [← hH1]; exact headL_lt _ _, by rw [← hH2, headL_length], by rw [← hH2]; exact headL_lt _ _⟩
  have HH2 := Lib.hid hH2
  have Hi2 : Hid (((Tryd.prog.info? 39).map (·.size) = some (bs H1).length) ∧ ((Tryd.prog.info? 39).map (·.size) = some (bs H2).length)) := ⟨by rw [bs_length, HH.out.2.1]; kernel_rfl, by rw [bs_length, HH.out.2.2.2.1]; kernel_rfl⟩
  have Hab : Hid (a < 18446744073709551616 ∧ b < 4294967296 ∧ c < 18446744073709551616 ∧ d < 4294967296) := ⟨ha, hb', hc', hd'⟩
  obtain ⟨Z, hZe⟩ : ∃ Z, hideL (keysL key) a b [] = Z := ⟨_, rfl⟩
  have HZl : Hid (Z.length = 272 ∧ ∀ i, i < 16 → Z.getD i 0 = H1.getD i 0) := by
    refine ⟨by rw [← hZe, hideL_length], fun i hi => ?_⟩
    rw [← hH1, ← hide_take (ks := keysL key) (l := []) a b, hZe]
    simp [hi]
  have HZe := Lib.hid hZe
  clear hg hkl hkt hik hi hH1 hH2 hZe
  go_enter Tryd.func4, Tryd.ntmps4
  go_upto_region 1 with (fail)
  generalize w.alloc (.cells (bx key) 23) = W at hQ0 ⊢
  clear hN
  go_upto_region 2 with (first | (go_at_call 14; refine (head_any a b _ Hab.out.2.1).mono ?_; rw [HH.out.1]; rintro en w1 ⟨rfl, hb1⟩) | (refine wpList_store_new rfl 39 _ _ rfl _ (bx H1) 39 rfl rfl (Hi.out H1 HH.out.2.1) (by rw [bx_size, HH.out.2.1]; rfl) (bx_one _) ?_))
  have hbl := (Below.refl w1.heap.size w1).alloc (Nat.le_refl _) (.cells (bx H1) 39)
  have hx1 := Bytes.new w1 H1 39
  have hQ1 := (hQ0.below hb1).below hbl
  obtain ⟨X1, hX1⟩ : ∃ X1, w1.heap.size = X1 := ⟨_, rfl⟩
  rw [hX1] at hx1 ⊢
  generalize w1.alloc (.cells (bx H1) 39) = W1 at hx1 hQ1 ⊢
  clear hQ0 hb1 hbl hX1 w1 W
  go_upto_region 3 with (first | (go_at_call 14; refine (head_any c d _ Hab.out.2.2.2).mono ?_; rw [HH2.out]; rintro en w2 ⟨rfl, hb2⟩) | (refine wpList_store_new rfl 39 _ _ rfl _ (bx H2) 39 rfl rfl (Hi.out H2 HH.out.2.2.2.1) (by rw [bx_size, HH.out.2.2.2.1]; rfl) (bx_one _) ?_))
  have hbl := (Below.refl w2.heap.size w2).alloc (Nat.le_refl _) (.cells (bx H2) 39)
  have hy2 := Bytes.new w2 H2 39
  have hQ2 := (hQ1.below hb2).below hbl
  have hx2 := (hx1.below hb2 hx1.lt).below hbl (hx1.below hb2 hx1.lt).lt
  obtain ⟨X2, hX2⟩ : ∃ X2, w2.heap.size = X2 := ⟨_, rfl⟩
  rw [hX2] at hy2 ⊢
  generalize w2.alloc (.cells (bx H2) 39) = W2 at hx2 hy2 hQ2 ⊢
  clear hQ1 hx1 hb2 hbl hX2 w2 W1
  go_upto_region 4 with (first | (refine wpList_load_row rfl 23 _ rfl N rfl 23 (bx key) _ _ hQ2.key.row Tryd.underlying23 rfl Hik.out ?_) | (go_at_call 10; refine (hide_ok key a b [] _ _ Hkey.out.1 Hkey.out.2 Hab.out.2.1 hQ2.r (by simp) (by decide)).mono ?_; rw [HZe.out]; rintro en w3 ⟨zg, zc, rfl, hZr, hb3⟩))
  have hQ3 : QH w w3 N key X1 X2 H1 H2 := ⟨(hQ2.below hb3).key, hx2.below hb3 hx2.lt, hy2.below hb3 hy2.lt, (hQ2.below hb3).et, (hQ2.below hb3).bel⟩
  have HZ := Lib.hid (hZr.below ((Below.refl w3.heap.size w3).drew) (Nat.le_refl _))
  clear hQ2 hx2 hy2 hb3 hZr W2
  by_cases hac : a = c
  · subst hac
    by_cases hbd : b = d
    · subst hbd
      have he : H1 = H2 := HH.out.1.symm.trans HH2.out
      have hd : decide (H1 = H2) = true := by simp [he]
      have hE1 : ∀ w, (binOp .eql 39 (.agg (bs H1).toArray) (.agg (bs H2).toArray)).run Tryd.prog w = .ok (.bool true) w := fun w => by
        have := run_eql_bx (l := H1) (m := H2) Tryd.underlying39 Tryd.underlying5 (by kernel_rfl) HH.out.2.1 HH.out.2.2.2.1 HH.out.2.2.1 HH.out.2.2.2.2 w
        rwa [hd] at this
      have hE2 : ∀ w, (Op.equalIn 10000 39 (.agg (bs H1).toArray) (.agg (bs H2).toArray)).run Tryd.prog w = .ok true w := fun w => by
        have := run_equalIn_bx (l := H1) (m := H2) Tryd.underlying39 Tryd.underlying5 (by kernel_rfl) HH.out.2.1 HH.out.2.2.2.1 HH.out.2.2.1 HH.out.2.2.2.2 w
        rwa [hd] at this
      have hE3 : ∀ w, (binOp .neq 39 (.agg (bs H1).toArray) (.agg (bx H1))).run Tryd.prog w = .ok (.bool false) w := fun w => by
        have := run_neq_bx (l := H1) (m := H1) Tryd.underlying39 Tryd.underlying5 (by kernel_rfl) HH.out.2.1 HH.out.2.1 HH.out.2.2.1 HH.out.2.2.1 w
        rwa [decide_eq_true rfl] at this
      have hE4 : ∀ w, (Op.equalIn 10000 39 (.agg (bs H1).toArray) (.agg (bx H1))).run Tryd.prog w = .ok true w := fun w => by
        have := run_equalIn_bx (l := H1) (m := H1) Tryd.underlying39 Tryd.underlying5 (by kernel_rfl) HH.out.2.1 HH.out.2.1 HH.out.2.2.1 HH.out.2.2.1 w
        rwa [decide_eq_true rfl] at this
      clear hd he
      refine wp_region_held_drew (S := (fun w' => QH w w' N key X1 X2 H1 H2)) (by kernel_rfl) ?_ (fun hHeld => ?_)
      · exact hQ3.below ((Below.refl _ _).drew)
      refine take_at 0 (some 29) rfl rfl (by kernel_rfl) (by kernel_rfl) (by kernel_rfl) (fun _ _ _ h => h) (yieldsIf_load_mid (by rfl) 39 _ rfl X1 0 rfl (bs H1) _ (fun _ h => h.x.range) Tryd.underlying39 rfl Hi2.out.1) hHeld ?_
      simp only [Act.put, List.setIfInBounds_toArray, List.set_cons_zero, List.set_cons_succ]
      refine take_at 1 (some 30) rfl rfl (by kernel_rfl) (by kernel_rfl) (by kernel_rfl) (fun _ _ _ h => h) (yieldsIf_load_mid (by rfl) 39 _ rfl X2 0 rfl (bs H2) _ (fun _ h => h.y.range) Tryd.underlying39 rfl Hi2.out.2) hHeld ?_
      simp only [Act.put, List.setIfInBounds_toArray, List.set_cons_zero, List.set_cons_succ]
      refine take_run (v := ?_) 2 (some 31) rfl rfl (by kernel_rfl) (by kernel_rfl) (by kernel_rfl) (fun _ _ _ h => h) hHeld (by rfl) ?_ ?_
      rotate_left
      · intro _ hSw; go_simp; try with_reducible rfl
      simp only [Act.put, List.setIfInBounds_toArray, List.set_cons_zero, List.set_cons_succ]
      refine take_run (v := ?_) 3 (some 32) rfl rfl (by kernel_rfl) (by kernel_rfl) (by kernel_rfl) (fun _ _ _ h => h) hHeld (by rfl) ?_ ?_
      rotate_left
      · intro _ hSw; go_simp; try with_reducible rfl
      simp only [Act.put, List.setIfInBounds_toArray, List.set_cons_zero, List.set_cons_succ]
      refine take_run (v := ?_) 4 (some 33) rfl rfl (by kernel_rfl) (by kernel_rfl) (by kernel_rfl) (fun _ _ _ h => h) hHeld (by rfl) ?_ ?_
      rotate_left
      · intro _ hSw; go_simp; try with_reducible rfl
      simp only [Act.put, List.setIfInBounds_toArray, List.set_cons_zero, List.set_cons_succ]
      refine take_run (v := ?_) 5 (some 34) rfl rfl (by kernel_rfl) (by kernel_rfl) (by kernel_rfl) (fun _ _ _ h => h) hHeld (by rfl) ?_ ?_
      rotate_left
      · intro _ hSw; go_simp; try with_reducible rfl
      simp only [Act.put, List.setIfInBounds_toArray, List.set_cons_zero, List.set_cons_succ]
      refine take_run (v := ?_) 6 (some 35) rfl rfl (by kernel_rfl) (by kernel_rfl) (by kernel_rfl) (fun _ _ _ h => h) hHeld (by rfl) ?_ ?_
      rotate_left
      · intro _ hSw; go_simp; try with_reducible rfl
      simp only [Act.put, List.setIfInBounds_toArray, List.set_cons_zero, List.set_cons_succ]
      refine take_run (v := ?_) 7 (some 36) rfl rfl (by kernel_rfl) (by kernel_rfl) (by kernel_rfl) (fun _ _ _ h => h) hHeld (by rfl) ?_ ?_
      rotate_left
      · intro _ hSw; go_simp; try with_reducible rfl
      simp only [Act.put, List.setIfInBounds_toArray, List.set_cons_zero, List.set_cons_succ]
      refine take_run (v := ?_) 8 (some 37) rfl rfl (by kernel_rfl) (by kernel_rfl) (by kernel_rfl) (fun _ _ _ h => h) hHeld (by rfl) ?_ ?_
      rotate_left
      · intro _ hSw; go_simp; try with_reducible rfl
      simp only [Act.put, List.setIfInBounds_toArray, List.set_cons_zero, List.set_cons_succ]
      refine take_run (v := ?_) 9 (some 38) rfl rfl (by kernel_rfl) (by kernel_rfl) (by kernel_rfl) (fun _ _ _ h => h) hHeld (by rfl) ?_ ?_
      rotate_left
      · intro _ hSw; go_simp; try with_reducible rfl
      simp only [Act.put, List.setIfInBounds_toArray, List.set_cons_zero, List.set_cons_succ]
      refine take_run (v := ?_) 10 (some 39) rfl rfl (by kernel_rfl) (by kernel_rfl) (by kernel_rfl) (fun _ _ _ h => h) hHeld (by rfl) ?_ ?_
      rotate_left
      · intro _ hSw; go_simp; try with_reducible rfl
      simp only [Act.put, List.setIfInBounds_toArray, List.set_cons_zero, List.set_cons_succ]
      refine take_run (v := ?_) 11 (some 40) rfl rfl (by kernel_rfl) (by kernel_rfl) (by kernel_rfl) (fun _ _ _ h => h) hHeld (by rfl) ?_ ?_
      rotate_left
      · intro _ hSw; go_simp; try with_reducible rfl
      simp only [Act.put, List.setIfInBounds_toArray, List.set_cons_zero, List.set_cons_succ]
      refine take_run (v := ?_) 12 (some 41) rfl rfl (by kernel_rfl) (by kernel_rfl) (by kernel_rfl) (fun _ _ _ h => h) hHeld (by rfl) ?_ ?_
      rotate_left
      · intro _ hSw; go_simp; try with_reducible rfl
      simp only [Act.put, List.setIfInBounds_toArray, List.set_cons_zero, List.set_cons_succ]
      refine take_run (v := ?_) 13 (some 42) rfl rfl (by kernel_rfl) (by kernel_rfl) (by kernel_rfl) (fun _ _ _ h => h) hHeld (by rfl) ?_ ?_
      rotate_left
      · intro _ hSw; go_simp; try with_reducible rfl
      simp only [Act.put, List.setIfInBounds_toArray, List.set_cons_zero, List.set_cons_succ]
      refine take_run (v := ?_) 14 (some 43) rfl rfl (by kernel_rfl) (by kernel_rfl) (by kernel_rfl) (fun _ _ _ h => h) hHeld (by rfl) ?_ ?_
      rotate_left
      · intro _ hSw; go_simp; try with_reducible rfl
      simp only [Act.put, List.setIfInBounds_toArray, List.set_cons_zero, List.set_cons_succ]
      refine take_run (v := ?_) 15 (some 44) rfl rfl (by kernel_rfl) (by kernel_rfl) (by kernel_rfl) (fun _ _ _ h => h) hHeld (by rfl) ?_ ?_
      rotate_left
      · intro _ hSw; go_simp; try with_reducible rfl
      simp only [Act.put, List.setIfInBounds_toArray, List.set_cons_zero, List.set_cons_succ]
      refine take_run (v := ?_) 16 (some 45) rfl rfl (by kernel_rfl) (by kernel_rfl) (by kernel_rfl) (fun _ _ _ h => h) hHeld (by rfl) ?_ ?_
      rotate_left
      · intro _ hSw; go_simp; try with_reducible rfl
      simp only [Act.put, List.setIfInBounds_toArray, List.set_cons_zero, List.set_cons_succ]
      refine take_run (v := ?_) 17 (some 46) rfl rfl (by kernel_rfl) (by kernel_rfl) (by kernel_rfl) (fun _ _ _ h => h) hHeld (by rfl) ?_ ?_
      rotate_left
      · intro _ hSw; go_simp; try with_reducible rfl
      simp only [Act.put, List.setIfInBounds_toArray, List.set_cons_zero, List.set_cons_succ]
      refine take_run (v := ?_) 18 (some 47) rfl rfl (by kernel_rfl) (by kernel_rfl) (by kernel_rfl) (fun _ _ _ h => h) hHeld (by rfl) ?_ ?_
      rotate_left
      · intro _ hSw; go_simp; try with_reducible rfl
      simp only [Act.put, List.setIfInBounds_toArray, List.set_cons_zero, List.set_cons_succ]
      refine take_run (v := ?_) 19 (some 48) rfl rfl (by kernel_rfl) (by kernel_rfl) (by kernel_rfl) (fun _ _ _ h => h) hHeld (by rfl) ?_ ?_
      rotate_left
      · intro _ hSw; go_simp; try with_reducible rfl
      simp only [Act.put, List.setIfInBounds_toArray, List.set_cons_zero, List.set_cons_succ]
      refine take_run (v := ?_) 20 (some 49) rfl rfl (by kernel_rfl) (by kernel_rfl) (by kernel_rfl) (fun _ _ _ h => h) hHeld (by rfl) ?_ ?_
      rotate_left
      · intro _ hSw; go_simp; try with_reducible rfl
      simp only [Act.put, List.setIfInBounds_toArray, List.set_cons_zero, List.set_cons_succ]
      refine take_run (v := ?_) 21 (some 50) rfl rfl (by kernel_rfl) (by kernel_rfl) (by kernel_rfl) (fun _ _ _ h => h) hHeld (by rfl) ?_ ?_
      rotate_left
      · intro _ hSw; go_simp; try with_reducible rfl
      simp only [Act.put, List.setIfInBounds_toArray, List.set_cons_zero, List.set_cons_succ]
      refine take_at 22 (some 51) rfl rfl (by kernel_rfl) (by kernel_rfl) (by kernel_rfl) (fun _ _ _ h => h) (yieldsIf_load_mid (by rfl) 39 _ rfl X1 0 rfl (bs H1) _ (fun _ h => h.x.range) Tryd.underlying39 rfl Hi2.out.1) hHeld ?_
      simp only [Act.put, List.setIfInBounds_toArray, List.set_cons_zero, List.set_cons_succ]
      refine take_run (v := ?_) 23 (some 52) rfl rfl (by kernel_rfl) (by kernel_rfl) (by kernel_rfl) (fun _ _ _ h => h) hHeld (by rfl) ?_ ?_
      rotate_left
      · intro _ hSw; go_simp; try with_reducible rfl
      simp only [Act.put, List.setIfInBounds_toArray, List.set_cons_zero, List.set_cons_succ]
      refine take_run (v := ?_) 24 (some 53) rfl rfl (by kernel_rfl) (by kernel_rfl) (by kernel_rfl) (fun _ _ _ h => h) hHeld (by rfl) ?_ ?_
      rotate_left
      · intro _ hSw; go_simp; try with_reducible rfl
      simp only [Act.put, List.setIfInBounds_toArray, List.set_cons_zero, List.set_cons_succ]
      refine call_at (f := ?_) (args := ?_) 25 (some 54) rfl rfl (by kernel_rfl) (by rfl) ?_ ?_
      rotate_left 2
      · go_simp; first | (refine ⟨?_, ?_⟩ <;> with_reducible rfl) | with_reducible rfl
      refine (rhead_any a b _ ha hb').mono ?_
      rintro _ w4 ⟨rfl, hbw⟩
      refine ⟨_, rfl, ?_, fun hHeld => ?_⟩
      · exact hHeld.below hbw
      rw [HH.out.1]
      simp only [Act.put, List.setIfInBounds_toArray, List.set_cons_zero, List.set_cons_succ]
      refine take_run (v := ?_) 26 (some 55) rfl rfl (by kernel_rfl) (by kernel_rfl) (by kernel_rfl) (fun _ _ _ h => h) hHeld (by rfl) ?_ ?_
      rotate_left
      · intro _ hSw; go_simp; try with_reducible rfl
      simp only [Act.put, List.setIfInBounds_toArray, List.set_cons_zero, List.set_cons_succ]
      refine take_run (v := ?_) 27 (some 56) rfl rfl (by kernel_rfl) (by kernel_rfl) (by kernel_rfl) (fun _ _ _ h => h) hHeld (by rfl) ?_ ?_
      rotate_left
      · intro _ hSw; go_simp; try with_reducible rfl
      simp only [Act.put, List.setIfInBounds_toArray, List.set_cons_zero, List.set_cons_succ]
      refine wpAnyH_done (by kernel_rfl) ?_ _
      have hZ4 := HZ.out.below hbw (Nat.le_of_eq (by rfl))
      have HQ := Lib.hid (And.intro hHeld hZ4)
      clear hHeld hbw hZ4
      go_wp2_with fail
      go_loopg [15] 16 (fun g i' wr => ∃ i : Nat, i + g = 16 ∧ i' = .int .i64 i ∧ QH w wr N key X1 X2 H1 H2 ∧ Reads wr (.slice (some ⟨zg, 0, none⟩) 272 zc) (bs Z))
      case atStart => exact ⟨0, rfl, rfl, HQ.out.1, HQ.out.2⟩
      case round =>
        obtain ⟨i, hig, rfl, hQ, hZ⟩ := hrel
        by_cases hlt : i < 16
        · have hlti : (i : Int) < 16 := by omega
          have hi0 : (0 : Int) ≤ (i : Int) := by omega
          have hi272 : (i : Int) < 272 := by omega
          obtain ⟨x, hx⟩ : ∃ x, H1.getD i 0 = x := ⟨_, rfl⟩
          have hx256 : x < 256 := by rw [← hx]; exact getD_lt HH.out.2.2.1 i
          have hq1 : wr.drew.cell? ⟨zg, i, none⟩ = some (.int .u8 (x : Nat)) := by
            obtain ⟨zb, zo, zc', hv, _, _, hc⟩ := hZ.pos (by rw [bs_length, HZl.out.1]; omega)
            injection hv with e1 e2 e3
            injection e1 with e1
            injection e1 with e1 e4
            subst e1 e4
            have h := hc i _ (bs_get (by rw [HZl.out.1]; omega))
            rw [Nat.zero_add, HZl.out.2 i hlt, hx] at h
            exact h
          have hq2 : wr.drew.cell? ⟨X1, i, none⟩ = some (.int .u8 (x : Nat)) := by
            have h := hQ.x.cell (i := i) (by rw [HH.out.2.1]; exact hlt)
            rw [hx] at h
            exact h
          have HS := Lib.hid (And.intro hQ hZ)
          clear hx hQ hZ
          go_upto_region 9 with (fail)
          refine wp_region_held_drew (S := (fun w' => w'.cell? ⟨zg, i, none⟩ = some (.int .u8 (x : Nat)) ∧ w'.cell? ⟨X1, i, none⟩ = some (.int .u8 (x : Nat)))) (by kernel_rfl) ?_ (fun hHeld => ?_)
          · exact ⟨hq1, hq2⟩
          refine take_run (v := ?_) 0 (some 61) rfl rfl (by kernel_rfl) (by kernel_rfl) (by kernel_rfl) (fun _ _ _ h => h) hHeld (by rfl) ?_ ?_
          rotate_left
          · intro _ hSw; go_simp; try with_reducible rfl
          simp only [Act.put, List.setIfInBounds_toArray, List.set_cons_zero, List.set_cons_succ]
          refine take_run (v := ?_) 1 (some 62) rfl rfl (by kernel_rfl) (by kernel_rfl) (by kernel_rfl) (fun _ _ _ h => h) hHeld (by rfl) ?_ ?_
          rotate_left
          · intro _ hSw; go_simp; try with_reducible rfl
          simp only [Act.put, List.setIfInBounds_toArray, List.set_cons_zero, List.set_cons_succ]
          refine take_run (v := ?_) 2 (some 63) rfl rfl (by kernel_rfl) (by kernel_rfl) (by kernel_rfl) (fun _ _ _ h => h) hHeld (by rfl) ?_ ?_
          rotate_left
          · intro _ hSw; go_simp; try with_reducible rfl
          simp only [Act.put, List.setIfInBounds_toArray, List.set_cons_zero, List.set_cons_succ]
          refine take_run (v := ?_) 3 (some 64) rfl rfl (by kernel_rfl) (by kernel_rfl) (by kernel_rfl) (fun _ _ _ h => h) hHeld (by rfl) ?_ ?_
          rotate_left
          · intro _ hSw; go_simp; try with_reducible rfl
          simp only [Act.put, List.setIfInBounds_toArray, List.set_cons_zero, List.set_cons_succ]
          refine take_run (v := ?_) 4 (some 65) rfl rfl (by kernel_rfl) (by kernel_rfl) (by kernel_rfl) (fun _ _ _ h => h) hHeld (by rfl) ?_ ?_
          rotate_left
          · intro _ hSw; go_simp; try with_reducible rfl
          simp only [Act.put, List.setIfInBounds_toArray, List.set_cons_zero, List.set_cons_succ]
          refine take_run (v := ?_) 5 (some 66) rfl rfl (by kernel_rfl) (by kernel_rfl) (by kernel_rfl) (fun _ _ _ h => h) hHeld (by rfl) ?_ ?_
          rotate_left
          · intro _ hSw; go_simp; try with_reducible rfl
          simp only [Act.put, List.setIfInBounds_toArray, List.set_cons_zero, List.set_cons_succ]
          refine take_run (v := ?_) 6 (some 67) rfl rfl (by kernel_rfl) (by kernel_rfl) (by kernel_rfl) (fun _ _ _ h => h) hHeld (by rfl) ?_ ?_
          rotate_left
          · intro _ hSw; go_simp; try with_reducible rfl
          simp only [Act.put, List.setIfInBounds_toArray, List.set_cons_zero, List.set_cons_succ]
          refine take_run (v := ?_) 7 (some 68) rfl rfl (by kernel_rfl) (by kernel_rfl) (by kernel_rfl) (fun _ _ _ h => h) hHeld (by rfl) ?_ ?_
          rotate_left
          · intro _ hSw; go_simp; try with_reducible rfl
          simp only [Act.put, List.setIfInBounds_toArray, List.set_cons_zero, List.set_cons_succ]
          refine wpAnyH_done (by kernel_rfl) ?_ _
          go_wp2_with fail
          go_roundg (gk - 1)
          case measure => omega
          case rel => exact ⟨i + 1, by omega, by go_num, HS.out.1.below ((Below.refl _ _).drew), HS.out.2.below ((Below.refl _ _).drew) (Nat.le_refl _)⟩
        · have hlti : ¬ (i : Int) < 16 := by omega
          have HS := Lib.hid hQ
          clear hQ hZ
          go_wp2_with (go_at_call 9; refine (known7_any _ HS.out.et).mono ?_; rintro en w5 ⟨rfl, hb5⟩)
          go_ret
          exact ⟨rfl, by rw [HN.out]; exact (HS.out.below hb5).bel⟩
    · have hd : decide (H1 = H2) = false := by
        simp only [decide_eq_false_iff_not]
        intro he
        rw [← HH.out.1, ← HH2.out] at he
        exact hbd (headL_inj he Hab.out.1 Hab.out.2.1 Hab.out.2.2.1 Hab.out.2.2.2).2
      have hbi : ((b : Int) == (d : Int)) = false := by simp; omega
      have hbi' : ¬ (b : Int) = (d : Int) := by omega
      have hE1 : ∀ w, (binOp .eql 39 (.agg (bs H1).toArray) (.agg (bs H2).toArray)).run Tryd.prog w = .ok (.bool false) w := fun w => by
        have := run_eql_bx (l := H1) (m := H2) Tryd.underlying39 Tryd.underlying5 (by kernel_rfl) HH.out.2.1 HH.out.2.2.2.1 HH.out.2.2.1 HH.out.2.2.2.2 w
        rwa [hd] at this
      have hE2 : ∀ w, (Op.equalIn 10000 39 (.agg (bs H1).toArray) (.agg (bs H2).toArray)).run Tryd.prog w = .ok false w := fun w => by
        have := run_equalIn_bx (l := H1) (m := H2) Tryd.underlying39 Tryd.underlying5 (by kernel_rfl) HH.out.2.1 HH.out.2.2.2.1 HH.out.2.2.1 HH.out.2.2.2.2 w
        rwa [hd] at this
      have hE3 : ∀ w, (binOp .neq 39 (.agg (bs H1).toArray) (.agg (bx H1))).run Tryd.prog w = .ok (.bool false) w := fun w => by
        have := run_neq_bx (l := H1) (m := H1) Tryd.underlying39 Tryd.underlying5 (by kernel_rfl) HH.out.2.1 HH.out.2.1 HH.out.2.2.1 HH.out.2.2.1 w
        rwa [decide_eq_true rfl] at this
      have hE4 : ∀ w, (Op.equalIn 10000 39 (.agg (bs H1).toArray) (.agg (bx H1))).run Tryd.prog w = .ok true w := fun w => by
        have := run_equalIn_bx (l := H1) (m := H1) Tryd.underlying39 Tryd.underlying5 (by kernel_rfl) HH.out.2.1 HH.out.2.1 HH.out.2.2.1 HH.out.2.2.1 w
        rwa [decide_eq_true rfl] at this
      clear hd hbd
      refine wp_region_held_drew (S := (fun w' => QH w w' N key X1 X2 H1 H2)) (by kernel_rfl) ?_ (fun hHeld => ?_)
      · exact hQ3.below ((Below.refl _ _).drew)
      refine take_at 0 (some 29) rfl rfl (by kernel_rfl) (by kernel_rfl) (by kernel_rfl) (fun _ _ _ h => h) (yieldsIf_load_mid (by rfl) 39 _ rfl X1 0 rfl (bs H1) _ (fun _ h => h.x.range) Tryd.underlying39 rfl Hi2.out.1) hHeld ?_
      simp only [Act.put, List.setIfInBounds_toArray, List.set_cons_zero, List.set_cons_succ]
      refine take_at 1 (some 30) rfl rfl (by kernel_rfl) (by kernel_rfl) (by kernel_rfl) (fun _ _ _ h => h) (yieldsIf_load_mid (by rfl) 39 _ rfl X2 0 rfl (bs H2) _ (fun _ h => h.y.range) Tryd.underlying39 rfl Hi2.out.2) hHeld ?_
      simp only [Act.put, List.setIfInBounds_toArray, List.set_cons_zero, List.set_cons_succ]
      refine take_run (v := ?_) 2 (some 31) rfl rfl (by kernel_rfl) (by kernel_rfl) (by kernel_rfl) (fun _ _ _ h => h) hHeld (by rfl) ?_ ?_
      rotate_left
      · intro _ hSw; go_simp; try with_reducible rfl
      simp only [Act.put, List.setIfInBounds_toArray, List.set_cons_zero, List.set_cons_succ]
      refine take_run (v := ?_) 3 (some 32) rfl rfl (by kernel_rfl) (by kernel_rfl) (by kernel_rfl) (fun _ _ _ h => h) hHeld (by rfl) ?_ ?_
      rotate_left
      · intro _ hSw; go_simp; try with_reducible rfl
      simp only [Act.put, List.setIfInBounds_toArray, List.set_cons_zero, List.set_cons_succ]
      refine take_run (v := ?_) 4 (some 33) rfl rfl (by kernel_rfl) (by kernel_rfl) (by kernel_rfl) (fun _ _ _ h => h) hHeld (by rfl) ?_ ?_
      rotate_left
      · intro _ hSw; go_simp; try with_reducible rfl
      simp only [Act.put, List.setIfInBounds_toArray, List.set_cons_zero, List.set_cons_succ]
      refine take_run (v := ?_) 5 (some 34) rfl rfl (by kernel_rfl) (by kernel_rfl) (by kernel_rfl) (fun _ _ _ h => h) hHeld (by rfl) ?_ ?_
      rotate_left
      · intro _ hSw; go_simp; try with_reducible rfl
      simp only [Act.put, List.setIfInBounds_toArray, List.set_cons_zero, List.set_cons_succ]
      refine take_run (v := ?_) 6 (some 35) rfl rfl (by kernel_rfl) (by kernel_rfl) (by kernel_rfl) (fun _ _ _ h => h) hHeld (by rfl) ?_ ?_
      rotate_left
      · intro _ hSw; go_simp; try with_reducible rfl
      simp only [Act.put, List.setIfInBounds_toArray, List.set_cons_zero, List.set_cons_succ]
      refine take_run (v := ?_) 7 (some 36) rfl rfl (by kernel_rfl) (by kernel_rfl) (by kernel_rfl) (fun _ _ _ h => h) hHeld (by rfl) ?_ ?_
      rotate_left
      · intro _ hSw; go_simp; try with_reducible rfl
      simp only [Act.put, List.setIfInBounds_toArray, List.set_cons_zero, List.set_cons_succ]
      refine take_run (v := ?_) 8 (some 37) rfl rfl (by kernel_rfl) (by kernel_rfl) (by kernel_rfl) (fun _ _ _ h => h) hHeld (by rfl) ?_ ?_
      rotate_left
      · intro _ hSw; go_simp; try with_reducible rfl
      simp only [Act.put, List.setIfInBounds_toArray, List.set_cons_zero, List.set_cons_succ]
      refine take_run (v := ?_) 9 (some 38) rfl rfl (by kernel_rfl) (by kernel_rfl) (by kernel_rfl) (fun _ _ _ h => h) hHeld (by rfl) ?_ ?_
      rotate_left
      · intro _ hSw; go_simp; try with_reducible rfl
      simp only [Act.put, List.setIfInBounds_toArray, List.set_cons_zero, List.set_cons_succ]
      refine take_run (v := ?_) 10 (some 39) rfl rfl (by kernel_rfl) (by kernel_rfl) (by kernel_rfl) (fun _ _ _ h => h) hHeld (by rfl) ?_ ?_
      rotate_left
      · intro _ hSw; go_simp; try with_reducible rfl
      simp only [Act.put, List.setIfInBounds_toArray, List.set_cons_zero, List.set_cons_succ]
      refine take_run (v := ?_) 11 (some 40) rfl rfl (by kernel_rfl) (by kernel_rfl) (by kernel_rfl) (fun _ _ _ h => h) hHeld (by rfl) ?_ ?_
      rotate_left
      · intro _ hSw; go_simp; try with_reducible rfl
      simp only [Act.put, List.setIfInBounds_toArray, List.set_cons_zero, List.set_cons_succ]
      refine take_run (v := ?_) 12 (some 41) rfl rfl (by kernel_rfl) (by kernel_rfl) (by kernel_rfl) (fun _ _ _ h => h) hHeld (by rfl) ?_ ?_
      rotate_left
      · intro _ hSw; go_simp; try with_reducible rfl
      simp only [Act.put, List.setIfInBounds_toArray, List.set_cons_zero, List.set_cons_succ]
      refine take_run (v := ?_) 13 (some 42) rfl rfl (by kernel_rfl) (by kernel_rfl) (by kernel_rfl) (fun _ _ _ h => h) hHeld (by rfl) ?_ ?_
      rotate_left
      · intro _ hSw; go_simp; try with_reducible rfl
      simp only [Act.put, List.setIfInBounds_toArray, List.set_cons_zero, List.set_cons_succ]
      refine take_run (v := ?_) 14 (some 43) rfl rfl (by kernel_rfl) (by kernel_rfl) (by kernel_rfl) (fun _ _ _ h => h) hHeld (by rfl) ?_ ?_
      rotate_left
      · intro _ hSw; go_simp; try with_reducible rfl
      simp only [Act.put, List.setIfInBounds_toArray, List.set_cons_zero, List.set_cons_succ]
      refine take_run (v := ?_) 15 (some 44) rfl rfl (by kernel_rfl) (by kernel_rfl) (by kernel_rfl) (fun _ _ _ h => h) hHeld (by rfl) ?_ ?_
      rotate_left
      · intro _ hSw; go_simp; try with_reducible rfl
      simp only [Act.put, List.setIfInBounds_toArray, List.set_cons_zero, List.set_cons_succ]
      refine take_run (v := ?_) 16 (some 45) rfl rfl (by kernel_rfl) (by kernel_rfl) (by kernel_rfl) (fun _ _ _ h => h) hHeld (by rfl) ?_ ?_
      rotate_left
      · intro _ hSw; go_simp; try with_reducible rfl
      simp only [Act.put, List.setIfInBounds_toArray, List.set_cons_zero, List.set_cons_succ]
      refine take_run (v := ?_) 17 (some 46) rfl rfl (by kernel_rfl) (by kernel_rfl) (by kernel_rfl) (fun _ _ _ h => h) hHeld (by rfl) ?_ ?_
      rotate_left
      · intro _ hSw; go_simp; try with_reducible rfl
      simp only [Act.put, List.setIfInBounds_toArray, List.set_cons_zero, List.set_cons_succ]
      refine take_run (v := ?_) 18 (some 47) rfl rfl (by kernel_rfl) (by kernel_rfl) (by kernel_rfl) (fun _ _ _ h => h) hHeld (by rfl) ?_ ?_
      rotate_left
      · intro _ hSw; go_simp; try with_reducible rfl
      simp only [Act.put, List.setIfInBounds_toArray, List.set_cons_zero, List.set_cons_succ]
      refine take_run (v := ?_) 19 (some 48) rfl rfl (by kernel_rfl) (by kernel_rfl) (by kernel_rfl) (fun _ _ _ h => h) hHeld (by rfl) ?_ ?_
      rotate_left
      · intro _ hSw; go_simp; try with_reducible rfl
      simp only [Act.put, List.setIfInBounds_toArray, List.set_cons_zero, List.set_cons_succ]
      refine take_run (v := ?_) 20 (some 49) rfl rfl (by kernel_rfl) (by kernel_rfl) (by kernel_rfl) (fun _ _ _ h => h) hHeld (by rfl) ?_ ?_
      rotate_left
      · intro _ hSw; go_simp; try with_reducible rfl
      simp only [Act.put, List.setIfInBounds_toArray, List.set_cons_zero, List.set_cons_succ]
      refine take_run (v := ?_) 21 (some 50) rfl rfl (by kernel_rfl) (by kernel_rfl) (by kernel_rfl) (fun _ _ _ h => h) hHeld (by rfl) ?_ ?_
      rotate_left
      · intro _ hSw; go_simp; try with_reducible rfl
      simp only [Act.put, List.setIfInBounds_toArray, List.set_cons_zero, List.set_cons_succ]
      refine take_at 22 (some 51) rfl rfl (by kernel_rfl) (by kernel_rfl) (by kernel_rfl) (fun _ _ _ h => h) (yieldsIf_load_mid (by rfl) 39 _ rfl X1 0 rfl (bs H1) _ (fun _ h => h.x.range) Tryd.underlying39 rfl Hi2.out.1) hHeld ?_
      simp only [Act.put, List.setIfInBounds_toArray, List.set_cons_zero, List.set_cons_succ]
      refine take_run (v := ?_) 23 (some 52) rfl rfl (by kernel_rfl) (by kernel_rfl) (by kernel_rfl) (fun _ _ _ h => h) hHeld (by rfl) ?_ ?_
      rotate_left
      · intro _ hSw; go_simp; try with_reducible rfl
      simp only [Act.put, List.setIfInBounds_toArray, List.set_cons_zero, List.set_cons_succ]
      refine take_run (v := ?_) 24 (some 53) rfl rfl (by kernel_rfl) (by kernel_rfl) (by kernel_rfl) (fun _ _ _ h => h) hHeld (by rfl) ?_ ?_
      rotate_left
      · intro _ hSw; go_simp; try with_reducible rfl
      simp only [Act.put, List.setIfInBounds_toArray, List.set_cons_zero, List.set_cons_succ]
      refine call_at (f := ?_) (args := ?_) 25 (some 54) rfl rfl (by kernel_rfl) (by rfl) ?_ ?_
      rotate_left 2
      · go_simp; first | (refine ⟨?_, ?_⟩ <;> with_reducible rfl) | with_reducible rfl
      refine (rhead_any a b _ ha hb').mono ?_
      rintro _ w4 ⟨rfl, hbw⟩
      refine ⟨_, rfl, ?_, fun hHeld => ?_⟩
      · exact hHeld.below hbw
      rw [HH.out.1]
      simp only [Act.put, List.setIfInBounds_toArray, List.set_cons_zero, List.set_cons_succ]
      refine take_run (v := ?_) 26 (some 55) rfl rfl (by kernel_rfl) (by kernel_rfl) (by kernel_rfl) (fun _ _ _ h => h) hHeld (by rfl) ?_ ?_
      rotate_left
      · intro _ hSw; go_simp; try with_reducible rfl
      simp only [Act.put, List.setIfInBounds_toArray, List.set_cons_zero, List.set_cons_succ]
      refine take_run (v := ?_) 27 (some 56) rfl rfl (by kernel_rfl) (by kernel_rfl) (by kernel_rfl) (fun _ _ _ h => h) hHeld (by rfl) ?_ ?_
      rotate_left
      · intro _ hSw; go_simp; try with_reducible rfl
      simp only [Act.put, List.setIfInBounds_toArray, List.set_cons_zero, List.set_cons_succ]
      refine wpAnyH_done (by kernel_rfl) ?_ _
      have hZ4 := HZ.out.below hbw (Nat.le_of_eq (by rfl))
      have HQ := Lib.hid (And.intro hHeld hZ4)
      clear hHeld hbw hZ4
      go_wp2_with fail
      go_loopg [15] 16 (fun g i' wr => ∃ i : Nat, i + g = 16 ∧ i' = .int .i64 i ∧ QH w wr N key X1 X2 H1 H2 ∧ Reads wr (.slice (some ⟨zg, 0, none⟩) 272 zc) (bs Z))
      case atStart => exact ⟨0, rfl, rfl, HQ.out.1, HQ.out.2⟩
      case round =>
        obtain ⟨i, hig, rfl, hQ, hZ⟩ := hrel
        by_cases hlt : i < 16
        · have hlti : (i : Int) < 16 := by omega
          have hi0 : (0 : Int) ≤ (i : Int) := by omega
          have hi272 : (i : Int) < 272 := by omega
          obtain ⟨x, hx⟩ : ∃ x, H1.getD i 0 = x := ⟨_, rfl⟩
          have hx256 : x < 256 := by rw [← hx]; exact getD_lt HH.out.2.2.1 i
          have hq1 : wr.drew.cell? ⟨zg, i, none⟩ = some (.int .u8 (x : Nat)) := by
            obtain ⟨zb, zo, zc', hv, _, _, hc⟩ := hZ.pos (by rw [bs_length, HZl.out.1]; omega)
            injection hv with e1 e2 e3
            injection e1 with e1
            injection e1 with e1 e4
            subst e1 e4
            have h := hc i _ (bs_get (by rw [HZl.out.1]; omega))
            rw [Nat.zero_add, HZl.out.2 i hlt, hx] at h
            exact h
          have hq2 : wr.drew.cell? ⟨X1, i, none⟩ = some (.int .u8 (x : Nat)) := by
            have h := hQ.x.cell (i := i) (by rw [HH.out.2.1]; exact hlt)
            rw [hx] at h
            exact h
          have HS := Lib.hid (And.intro hQ hZ)
          clear hx hQ hZ
          go_upto_region 9 with (fail)
          refine wp_region_held_drew (S := (fun w' => w'.cell? ⟨zg, i, none⟩ = some (.int .u8 (x : Nat)) ∧ w'.cell? ⟨X1, i, none⟩ = some (.int .u8 (x : Nat)))) (by kernel_rfl) ?_ (fun hHeld => ?_)
          · exact ⟨hq1, hq2⟩
          refine take_run (v := ?_) 0 (some 61) rfl rfl (by kernel_rfl) (by kernel_rfl) (by kernel_rfl) (fun _ _ _ h => h) hHeld (by rfl) ?_ ?_
          rotate_left
          · intro _ hSw; go_simp; try with_reducible rfl
          simp only [Act.put, List.setIfInBounds_toArray, List.set_cons_zero, List.set_cons_succ]
          refine take_run (v := ?_) 1 (some 62) rfl rfl (by kernel_rfl) (by kernel_rfl) (by kernel_rfl) (fun _ _ _ h => h) hHeld (by rfl) ?_ ?_
          rotate_left
          · intro _ hSw; go_simp; try with_reducible rfl
          simp only [Act.put, List.setIfInBounds_toArray, List.set_cons_zero, List.set_cons_succ]
          refine take_run (v := ?_) 2 (some 63) rfl rfl (by kernel_rfl) (by kernel_rfl) (by kernel_rfl) (fun _ _ _ h => h) hHeld (by rfl) ?_ ?_
          rotate_left
          · intro _ hSw; go_simp; try with_reducible rfl
          simp only [Act.put, List.setIfInBounds_toArray, List.set_cons_zero, List.set_cons_succ]
          refine take_run (v := ?_) 3 (some 64) rfl rfl (by kernel_rfl) (by kernel_rfl) (by kernel_rfl) (fun _ _ _ h => h) hHeld (by rfl) ?_ ?_
          rotate_left
          · intro _ hSw; go_simp; try with_reducible rfl
          simp only [Act.put, List.setIfInBounds_toArray, List.set_cons_zero, List.set_cons_succ]
          refine take_run (v := ?_) 4 (some 65) rfl rfl (by kernel_rfl) (by kernel_rfl) (by kernel_rfl) (fun _ _ _ h => h) hHeld (by rfl) ?_ ?_
          rotate_left
          · intro _ hSw; go_simp; try with_reducible rfl
          simp only [Act.put, List.setIfInBounds_toArray, List.set_cons_zero, List.set_cons_succ]
          refine take_run (v := ?_) 5 (some 66) rfl rfl (by kernel_rfl) (by kernel_rfl) (by kernel_rfl) (fun _ _ _ h => h) hHeld (by rfl) ?_ ?_
          rotate_left
          · intro _ hSw; go_simp; try with_reducible rfl
          simp only [Act.put, List.setIfInBounds_toArray, List.set_cons_zero, List.set_cons_succ]
          refine take_run (v := ?_) 6 (some 67) rfl rfl (by kernel_rfl) (by kernel_rfl) (by kernel_rfl) (fun _ _ _ h => h) hHeld (by rfl) ?_ ?_
          rotate_left
          · intro _ hSw; go_simp; try with_reducible rfl
          simp only [Act.put, List.setIfInBounds_toArray, List.set_cons_zero, List.set_cons_succ]
          refine take_run (v := ?_) 7 (some 68) rfl rfl (by kernel_rfl) (by kernel_rfl) (by kernel_rfl) (fun _ _ _ h => h) hHeld (by rfl) ?_ ?_
          rotate_left
          · intro _ hSw; go_simp; try with_reducible rfl
          simp only [Act.put, List.setIfInBounds_toArray, List.set_cons_zero, List.set_cons_succ]
          refine wpAnyH_done (by kernel_rfl) ?_ _
          go_wp2_with fail
          go_roundg (gk - 1)
          case measure => omega
          case rel => exact ⟨i + 1, by omega, by go_num, HS.out.1.below ((Below.refl _ _).drew), HS.out.2.below ((Below.refl _ _).drew) (Nat.le_refl _)⟩
        · have hlti : ¬ (i : Int) < 16 := by omega
          have HS := Lib.hid hQ
          clear hQ hZ
          go_wp2_with (go_at_call 9; refine (known7_any _ HS.out.et).mono ?_; rintro en w5 ⟨rfl, hb5⟩)
          go_ret
          exact ⟨rfl, by rw [HN.out]; exact (HS.out.below hb5).bel⟩
  · have hd : decide (H1 = H2) = false := by
      simp only [decide_eq_false_iff_not]
      intro he
      rw [← HH.out.1, ← HH2.out] at he
      exact hac (headL_inj he Hab.out.1 Hab.out.2.1 Hab.out.2.2.1 Hab.out.2.2.2).1
    have hbi : ((a : Int) == (c : Int)) = false := by simp; omega
    have hbi' : ¬ (a : Int) = (c : Int) := by omega
    have hE1 : ∀ w, (binOp .eql 39 (.agg (bs H1).toArray) (.agg (bs H2).toArray)).run Tryd.prog w = .ok (.bool false) w := fun w => by
      have := run_eql_bx (l := H1) (m := H2) Tryd.underlying39 Tryd.underlying5 (by kernel_rfl) HH.out.2.1 HH.out.2.2.2.1 HH.out.2.2.1 HH.out.2.2.2.2 w
      rwa [hd] at this
    have hE2 : ∀ w, (Op.equalIn 10000 39 (.agg (bs H1).toArray) (.agg (bs H2).toArray)).run Tryd.prog w = .ok false w := fun w => by
      have := run_equalIn_bx (l := H1) (m := H2) Tryd.underlying39 Tryd.underlying5 (by kernel_rfl) HH.out.2.1 HH.out.2.2.2.1 HH.out.2.2.1 HH.out.2.2.2.2 w
      rwa [hd] at this
    have hE3 : ∀ w, (binOp .neq 39 (.agg (bs H1).toArray) (.agg (bx H1))).run Tryd.prog w = .ok (.bool false) w := fun w => by
      have := run_neq_bx (l := H1) (m := H1) Tryd.underlying39 Tryd.underlying5 (by kernel_rfl) HH.out.2.1 HH.out.2.1 HH.out.2.2.1 HH.out.2.2.1 w
      rwa [decide_eq_true rfl] at this
    have hE4 : ∀ w, (Op.equalIn 10000 39 (.agg (bs H1).toArray) (.agg (bx H1))).run Tryd.prog w = .ok true w := fun w => by
      have := run_equalIn_bx (l := H1) (m := H1) Tryd.underlying39 Tryd.underlying5 (by kernel_rfl) HH.out.2.1 HH.out.2.1 HH.out.2.2.1 HH.out.2.2.1 w
      rwa [decide_eq_true rfl] at this
    clear hd hac
    refine wp_region_held_drew (S := (fun w' => QH w w' N key X1 X2 H1 H2)) (by kernel_rfl) ?_ (fun hHeld => ?_)
    · exact hQ3.below ((Below.refl _ _).drew)
    refine take_at 0 (some 29) rfl rfl (by kernel_rfl) (by kernel_rfl) (by kernel_rfl) (fun _ _ _ h => h) (yieldsIf_load_mid (by rfl) 39 _ rfl X1 0 rfl (bs H1) _ (fun _ h => h.x.range) Tryd.underlying39 rfl Hi2.out.1) hHeld ?_
    simp only [Act.put, List.setIfInBounds_toArray, List.set_cons_zero, List.set_cons_succ]
    refine take_at 1 (some 30) rfl rfl (by kernel_rfl) (by kernel_rfl) (by kernel_rfl) (fun _ _ _ h => h) (yieldsIf_load_mid (by rfl) 39 _ rfl X2 0 rfl (bs H2) _ (fun _ h => h.y.range) Tryd.underlying39 rfl Hi2.out.2) hHeld ?_
    simp only [Act.put, List.setIfInBounds_toArray, List.set_cons_zero, List.set_cons_succ]
    refine take_run (v := ?_) 2 (some 31) rfl rfl (by kernel_rfl) (by kernel_rfl) (by kernel_rfl) (fun _ _ _ h => h) hHeld (by rfl) ?_ ?_
    rotate_left
    · intro _ hSw; go_simp; try with_reducible rfl
    simp only [Act.put, List.setIfInBounds_toArray, List.set_cons_zero, List.set_cons_succ]
    refine take_run (v := ?_) 3 (some 32) rfl rfl (by kernel_rfl) (by kernel_rfl) (by kernel_rfl) (fun _ _ _ h => h) hHeld (by rfl) ?_ ?_
    rotate_left
    · intro _ hSw; go_simp; try with_reducible rfl
    simp only [Act.put, List.setIfInBounds_toArray, List.set_cons_zero, List.set_cons_succ]
    refine take_run (v := ?_) 4 (some 33) rfl rfl (by kernel_rfl) (by kernel_rfl) (by kernel_rfl) (fun _ _ _ h => h) hHeld (by rfl) ?_ ?_
    rotate_left
    · intro _ hSw; go_simp; try with_reducible rfl
    simp only [Act.put, List.setIfInBounds_toArray, List.set_cons_zero, List.set_cons_succ]
    refine take_run (v := ?_) 5 (some 34) rfl rfl (by kernel_rfl) (by kernel_rfl) (by kernel_rfl) (fun _ _ _ h => h) hHeld (by rfl) ?_ ?_
    rotate_left
    · intro _ hSw; go_simp; try with_reducible rfl
    simp only [Act.put, List.setIfInBounds_toArray, List.set_cons_zero, List.set_cons_succ]
    refine take_run (v := ?_) 6 (some 35) rfl rfl (by kernel_rfl) (by kernel_rfl) (by kernel_rfl) (fun _ _ _ h => h) hHeld (by rfl) ?_ ?_
    rotate_left
    · intro _ hSw; go_simp; try with_reducible rfl
    simp only [Act.put, List.setIfInBounds_toArray, List.set_cons_zero, List.set_cons_succ]
    refine take_skip 7 (some 36) rfl rfl (by kernel_rfl) (by kernel_rfl) (by kernel_rfl) (fun _ _ _ h => h) hHeld (by rfl) ?_
    simp only [Act.put, List.setIfInBounds_toArray, List.set_cons_zero, List.set_cons_succ]
    refine take_skip 8 (some 37) rfl rfl (by kernel_rfl) (by kernel_rfl) (by kernel_rfl) (fun _ _ _ h => h) hHeld (by rfl) ?_
    simp only [Act.put, List.setIfInBounds_toArray, List.set_cons_zero, List.set_cons_succ]
    refine take_skip 9 (some 38) rfl rfl (by kernel_rfl) (by kernel_rfl) (by kernel_rfl) (fun _ _ _ h => h) hHeld (by rfl) ?_
    simp only [Act.put, List.setIfInBounds_toArray, List.set_cons_zero, List.set_cons_succ]
    refine take_run (v := ?_) 10 (some 39) rfl rfl (by kernel_rfl) (by kernel_rfl) (by kernel_rfl) (fun _ _ _ h => h) hHeld (by rfl) ?_ ?_
    rotate_left
    · intro _ hSw; go_simp; try with_reducible rfl
    simp only [Act.put, List.setIfInBounds_toArray, List.set_cons_zero, List.set_cons_succ]
    refine take_run (v := ?_) 11 (some 40) rfl rfl (by kernel_rfl) (by kernel_rfl) (by kernel_rfl) (fun _ _ _ h => h) hHeld (by rfl) ?_ ?_
    rotate_left
    · intro _ hSw; go_simp; try with_reducible rfl
    simp only [Act.put, List.setIfInBounds_toArray, List.set_cons_zero, List.set_cons_succ]
    refine take_run (v := ?_) 12 (some 41) rfl rfl (by kernel_rfl) (by kernel_rfl) (by kernel_rfl) (fun _ _ _ h => h) hHeld (by rfl) ?_ ?_
    rotate_left
    · intro _ hSw; go_simp; try with_reducible rfl
    simp only [Act.put, List.setIfInBounds_toArray, List.set_cons_zero, List.set_cons_succ]
    refine take_run (v := ?_) 13 (some 42) rfl rfl (by kernel_rfl) (by kernel_rfl) (by kernel_rfl) (fun _ _ _ h => h) hHeld (by rfl) ?_ ?_
    rotate_left
    · intro _ hSw; go_simp; try with_reducible rfl
    simp only [Act.put, List.setIfInBounds_toArray, List.set_cons_zero, List.set_cons_succ]
    refine take_run (v := ?_) 14 (some 43) rfl rfl (by kernel_rfl) (by kernel_rfl) (by kernel_rfl) (fun _ _ _ h => h) hHeld (by rfl) ?_ ?_
    rotate_left
    · intro _ hSw; go_simp; try with_reducible rfl
    simp only [Act.put, List.setIfInBounds_toArray, List.set_cons_zero, List.set_cons_succ]
    refine take_run (v := ?_) 15 (some 44) rfl rfl (by kernel_rfl) (by kernel_rfl) (by kernel_rfl) (fun _ _ _ h => h) hHeld (by rfl) ?_ ?_
    rotate_left
    · intro _ hSw; go_simp; try with_reducible rfl
    simp only [Act.put, List.setIfInBounds_toArray, List.set_cons_zero, List.set_cons_succ]
    refine take_run (v := ?_) 16 (some 45) rfl rfl (by kernel_rfl) (by kernel_rfl) (by kernel_rfl) (fun _ _ _ h => h) hHeld (by rfl) ?_ ?_
    rotate_left
    · intro _ hSw; go_simp; try with_reducible rfl
    simp only [Act.put, List.setIfInBounds_toArray, List.set_cons_zero, List.set_cons_succ]
    refine take_run (v := ?_) 17 (some 46) rfl rfl (by kernel_rfl) (by kernel_rfl) (by kernel_rfl) (fun _ _ _ h => h) hHeld (by rfl) ?_ ?_
    rotate_left
    · intro _ hSw; go_simp; try with_reducible rfl
    simp only [Act.put, List.setIfInBounds_toArray, List.set_cons_zero, List.set_cons_succ]
    refine take_run (v := ?_) 18 (some 47) rfl rfl (by kernel_rfl) (by kernel_rfl) (by kernel_rfl) (fun _ _ _ h => h) hHeld (by rfl) ?_ ?_
    rotate_left
    · intro _ hSw; go_simp; try with_reducible rfl
    simp only [Act.put, List.setIfInBounds_toArray, List.set_cons_zero, List.set_cons_succ]
    refine take_run (v := ?_) 19 (some 48) rfl rfl (by kernel_rfl) (by kernel_rfl) (by kernel_rfl) (fun _ _ _ h => h) hHeld (by rfl) ?_ ?_
    rotate_left
    · intro _ hSw; go_simp; try with_reducible rfl
    simp only [Act.put, List.setIfInBounds_toArray, List.set_cons_zero, List.set_cons_succ]
    refine take_run (v := ?_) 20 (some 49) rfl rfl (by kernel_rfl) (by kernel_rfl) (by kernel_rfl) (fun _ _ _ h => h) hHeld (by rfl) ?_ ?_
    rotate_left
    · intro _ hSw; go_simp; try with_reducible rfl
    simp only [Act.put, List.setIfInBounds_toArray, List.set_cons_zero, List.set_cons_succ]
    refine take_run (v := ?_) 21 (some 50) rfl rfl (by kernel_rfl) (by kernel_rfl) (by kernel_rfl) (fun _ _ _ h => h) hHeld (by rfl) ?_ ?_
    rotate_left
    · intro _ hSw; go_simp; try with_reducible rfl
    simp only [Act.put, List.setIfInBounds_toArray, List.set_cons_zero, List.set_cons_succ]
    refine take_at 22 (some 51) rfl rfl (by kernel_rfl) (by kernel_rfl) (by kernel_rfl) (fun _ _ _ h => h) (yieldsIf_load_mid (by rfl) 39 _ rfl X1 0 rfl (bs H1) _ (fun _ h => h.x.range) Tryd.underlying39 rfl Hi2.out.1) hHeld ?_
    simp only [Act.put, List.setIfInBounds_toArray, List.set_cons_zero, List.set_cons_succ]
    refine take_run (v := ?_) 23 (some 52) rfl rfl (by kernel_rfl) (by kernel_rfl) (by kernel_rfl) (fun _ _ _ h => h) hHeld (by rfl) ?_ ?_
    rotate_left
    · intro _ hSw; go_simp; try with_reducible rfl
    simp only [Act.put, List.setIfInBounds_toArray, List.set_cons_zero, List.set_cons_succ]
    refine take_run (v := ?_) 24 (some 53) rfl rfl (by kernel_rfl) (by kernel_rfl) (by kernel_rfl) (fun _ _ _ h => h) hHeld (by rfl) ?_ ?_
    rotate_left
    · intro _ hSw; go_simp; try with_reducible rfl
    simp only [Act.put, List.setIfInBounds_toArray, List.set_cons_zero, List.set_cons_succ]
    refine call_at (f := ?_) (args := ?_) 25 (some 54) rfl rfl (by kernel_rfl) (by rfl) ?_ ?_
    rotate_left 2
    · go_simp; first | (refine ⟨?_, ?_⟩ <;> with_reducible rfl) | with_reducible rfl
    refine (rhead_any a b _ ha hb').mono ?_
    rintro _ w4 ⟨rfl, hbw⟩
    refine ⟨_, rfl, ?_, fun hHeld => ?_⟩
    · exact hHeld.below hbw
    rw [HH.out.1]
    simp only [Act.put, List.setIfInBounds_toArray, List.set_cons_zero, List.set_cons_succ]
    refine take_run (v := ?_) 26 (some 55) rfl rfl (by kernel_rfl) (by kernel_rfl) (by kernel_rfl) (fun _ _ _ h => h) hHeld (by rfl) ?_ ?_
    rotate_left
    · intro _ hSw; go_simp; try with_reducible rfl
    simp only [Act.put, List.setIfInBounds_toArray, List.set_cons_zero, List.set_cons_succ]
    refine take_run (v := ?_) 27 (some 56) rfl rfl (by kernel_rfl) (by kernel_rfl) (by kernel_rfl) (fun _ _ _ h => h) hHeld (by rfl) ?_ ?_
    rotate_left
    · intro _ hSw; go_simp; try with_reducible rfl
    simp only [Act.put, List.setIfInBounds_toArray, List.set_cons_zero, List.set_cons_succ]
    refine wpAnyH_done (by kernel_rfl) ?_ _
    have hZ4 := HZ.out.below hbw (Nat.le_of_eq (by rfl))
    have HQ := Lib.hid (And.intro hHeld hZ4)
    clear hHeld hbw hZ4
    go_wp2_with fail
    go_loopg [15] 16 (fun g i' wr => ∃ i : Nat, i + g = 16 ∧ i' = .int .i64 i ∧ QH w wr N key X1 X2 H1 H2 ∧ Reads wr (.slice (some ⟨zg, 0, none⟩) 272 zc) (bs Z))
    case atStart => exact ⟨0, rfl, rfl, HQ.out.1, HQ.out.2⟩
    case round =>
      obtain ⟨i, hig, rfl, hQ, hZ⟩ := hrel
      by_cases hlt : i < 16
      · have hlti : (i : Int) < 16 := by omega
        have hi0 : (0 : Int) ≤ (i : Int) := by omega
        have hi272 : (i : Int) < 272 := by omega
        obtain ⟨x, hx⟩ : ∃ x, H1.getD i 0 = x := ⟨_, rfl⟩
        have hx256 : x < 256 := by rw [← hx]; exact getD_lt HH.out.2.2.1 i
        have hq1 : wr.drew.cell? ⟨zg, i, none⟩ = some (.int .u8 (x : Nat)) := by
          obtain ⟨zb, zo, zc', hv, _, _, hc⟩ := hZ.pos (by rw [bs_length, HZl.out.1]; omega)
          injection hv with e1 e2 e3
          injection e1 with e1
          injection e1 with e1 e4
          subst e1 e4
          have h := hc i _ (bs_get (by rw [HZl.out.1]; omega))
          rw [Nat.zero_add, HZl.out.2 i hlt, hx] at h
          exact h
        have hq2 : wr.drew.cell? ⟨X1, i, none⟩ = some (.int .u8 (x : Nat)) := by
          have h := hQ.x.cell (i := i) (by rw [HH.out.2.1]; exact hlt)
          rw [hx] at h
          exact h
        have HS := Lib.hid (And.intro hQ hZ)
        clear hx hQ hZ
        go_upto_region 9 with (fail)
        refine wp_region_held_drew (S := (fun w' => w'.cell? ⟨zg, i, none⟩ = some (.int .u8 (x : Nat)) ∧ w'.cell? ⟨X1, i, none⟩ = some (.int .u8 (x : Nat)))) (by kernel_rfl) ?_ (fun hHeld => ?_)
        · exact ⟨hq1, hq2⟩
        refine take_run (v := ?_) 0 (some 61) rfl rfl (by kernel_rfl) (by kernel_rfl) (by kernel_rfl) (fun _ _ _ h => h) hHeld (by rfl) ?_ ?_
        rotate_left
        · intro _ hSw; go_simp; try with_reducible rfl
        simp only [Act.put, List.setIfInBounds_toArray, List.set_cons_zero, List.set_cons_succ]
        refine take_run (v := ?_) 1 (some 62) rfl rfl (by kernel_rfl) (by kernel_rfl) (by kernel_rfl) (fun _ _ _ h => h) hHeld (by rfl) ?_ ?_
        rotate_left
        · intro _ hSw; go_simp; try with_reducible rfl
        simp only [Act.put, List.setIfInBounds_toArray, List.set_cons_zero, List.set_cons_succ]
        refine take_run (v := ?_) 2 (some 63) rfl rfl (by kernel_rfl) (by kernel_rfl) (by kernel_rfl) (fun _ _ _ h => h) hHeld (by rfl) ?_ ?_
        rotate_left
        · intro _ hSw; go_simp; try with_reducible rfl
        simp only [Act.put, List.setIfInBounds_toArray, List.set_cons_zero, List.set_cons_succ]
        refine take_run (v := ?_) 3 (some 64) rfl rfl (by kernel_rfl) (by kernel_rfl) (by kernel_rfl) (fun _ _ _ h => h) hHeld (by rfl) ?_ ?_
        rotate_left
        · intro _ hSw; go_simp; try with_reducible rfl
        simp only [Act.put, List.setIfInBounds_toArray, List.set_cons_zero, List.set_cons_succ]
        refine take_run (v := ?_) 4 (some 65) rfl rfl (by kernel_rfl) (by kernel_rfl) (by kernel_rfl) (fun _ _ _ h => h) hHeld (by rfl) ?_ ?_
        rotate_left
        · intro _ hSw; go_simp; try with_reducible rfl
        simp only [Act.put, List.setIfInBounds_toArray, List.set_cons_zero, List.set_cons_succ]
        refine take_run (v := ?_) 5 (some 66) rfl rfl (by kernel_rfl) (by kernel_rfl) (by kernel_rfl) (fun _ _ _ h => h) hHeld (by rfl) ?_ ?_
        rotate_left
        · intro _ hSw; go_simp; try with_reducible rfl
        simp only [Act.put, List.setIfInBounds_toArray, List.set_cons_zero, List.set_cons_succ]
        refine take_run (v := ?_) 6 (some 67) rfl rfl (by kernel_rfl) (by kernel_rfl) (by kernel_rfl) (fun _ _ _ h => h) hHeld (by rfl) ?_ ?_
        rotate_left
        · intro _ hSw; go_simp; try with_reducible rfl
        simp only [Act.put, List.setIfInBounds_toArray, List.set_cons_zero, List.set_cons_succ]
        refine take_run (v := ?_) 7 (some 68) rfl rfl (by kernel_rfl) (by kernel_rfl) (by kernel_rfl) (fun _ _ _ h => h) hHeld (by rfl) ?_ ?_
        rotate_left
        · intro _ hSw; go_simp; try with_reducible rfl
        simp only [Act.put, List.setIfInBounds_toArray, List.set_cons_zero, List.set_cons_succ]
        refine wpAnyH_done (by kernel_rfl) ?_ _
        go_wp2_with fail
        go_roundg (gk - 1)
        case measure => omega
        case rel => exact ⟨i + 1, by omega, by go_num, HS.out.1.below ((Below.refl _ _).drew), HS.out.2.below ((Below.refl _ _).drew) (Nat.le_refl _)⟩
      · have hlti : ¬ (i : Int) < 16 := by omega
        have HS := Lib.hid hQ
        clear hQ hZ
        go_wp2_with (go_at_call 9; refine (known7_any _ HS.out.et).mono ?_; rintro en w5 ⟨rfl, hb5⟩)
        go_ret
        exact ⟨rfl, by rw [HN.out]; exact (HS.out.below hb5).bel⟩
end Go.Proofs.YtdopdaoapdeabaaDoor
