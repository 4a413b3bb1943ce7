/- WALK: sacristanlaw07.BlockInputs. -/
import Derived.Test.YtdopdaoapdeabaaDoorInputsW
namespace Go.Proofs.YtdopdaoapdeabaaDoor
open Go.RowKit

/-- two slices of sixteen places -/
structure QI (w X : World) (N : Nat) (xg yg : Nat) (H1 H2 : List Nat) : Prop where
  x : ∀ i, i < 16 → X.rangeAt xg (i * 16) (bs (nextL H1 i))
  y : ∀ i, i < 16 → X.rangeAt yg (i * 16) (bs (nextL H2 i))
  et : ET X
  bel : Below N w X
  le : N ≤ X.heap.size
theorem QI.below {w X X' : World} {N : Nat} {xg yg : Nat} {H1 H2 : List Nat} (h : QI w X N xg yg H1 H2) (hb : Below X.heap.size X X') : QI w X' N xg yg H1 H2 :=
  ⟨fun i hi => rangeAt_below (h.x i hi) hb (Nat.le_refl _), fun i hi => rangeAt_below (h.y i hi) hb (Nat.le_refl _), h.et.below hb h.et.pos, h.bel.trans (hb.mono h.le), Nat.le_trans h.le hb.size⟩
theorem QI.x0 {w X : World} {N : Nat} {xg yg : Nat} {H1 H2 : List Nat} (h : QI w X N xg yg H1 H2) (hl : H1.length = 16) (ht : ∀ x ∈ H1, x < 256) : X.rangeAt xg 0 (bs H1) := by
  have := h.x 0 (by decide)
  rwa [Nat.zero_mul, nextL_zero hl ht] at this

set_option maxRecDepth 100000 in
set_option maxHeartbeats 4000000 in
theorem blockInputs_walk (a b c d : Nat) (w : World) (ha : a < 18446744073709551616) (hb' : b < 4294967296) (hc' : c < 18446744073709551616) (hd' : d < 4294967296) (hg : ET w) :
    Calls Tryd.prog 7 #[.int .u64 a, .int .u32 b, .int .u64 c, .int .u32 d] w fun en w' => en = .returned (.bool true) ∧ Below w.heap.size w w' := by
  obtain ⟨N, hN⟩ : ∃ N, w.heap.size = N := ⟨_, rfl⟩
  have HN := Lib.hid hN
  obtain ⟨H1, hH1⟩ : ∃ H, headL a b = H := ⟨_, rfl⟩
  obtain ⟨H2, hH2⟩ : ∃ H, headL c d = H := ⟨_, rfl⟩
  have HH : Hid (headL a b = H1 ∧ H1.length = 16 ∧ (∀ x ∈ H1, x < 256) ∧ H2.length = 16 ∧ (∀ x ∈ H2, x < 256)) := ⟨hH1, by rw [← hH1, headL_length], by rw [← hH1]; exact headL_lt _ _, by rw [← hH2, headL_length], by rw [← hH2]; exact headL_lt _ _⟩
  have HH2 := Lib.hid hH2
  have Hi2 : Hid ((Tryd.prog.info? 39).map (·.size) = some (bs H1).length) := by show _ = _; rw [bs_length, HH.out.2.1]; kernel_rfl
  have Hi16 : Hid (∀ m : List Nat, m.length = 16 → (Tryd.prog.info? 39).map (·.size) = some (bs m).length) := by intro m hm; rw [bs_length, hm]; kernel_rfl
  have Hab : Hid (a < 18446744073709551616 ∧ b < 4294967296 ∧ c < 18446744073709551616 ∧ d < 4294967296) := ⟨ha, hb', hc', hd'⟩
  have Hx : Hid (∀ i k, i < 16 → k < 16 → (nextL H1 i = nextL H1 k ↔ i = k)) := by
    intro i k hi hk
    rw [← HH.out.1]
    exact ⟨fun h => (head_place ha hb' ha hb' hi hk h).1, fun h => by rw [h]⟩
  have hE3 : ∀ w, (binOp .neq 39 (.agg (bs H1).toArray) (.agg (bx H1))).run Tryd.prog w = .ok (.bool false) w := fun w => by
    have := run_neq_bx (l := H1) (m := H1) Tryd.underlying39 Tryd.underlying5 (by kernel_rfl) HH.out.2.1 HH.out.2.1 HH.out.2.2.1 HH.out.2.2.1 w
    rwa [decide_eq_true rfl] at this
  have hE4 : ∀ w, (Op.equalIn 10000 39 (.agg (bs H1).toArray) (.agg (bx H1))).run Tryd.prog w = .ok true w := fun w => by
    have := run_equalIn_bx (l := H1) (m := H1) Tryd.underlying39 Tryd.underlying5 (by kernel_rfl) HH.out.2.1 HH.out.2.1 HH.out.2.2.1 HH.out.2.2.1 w
    rwa [decide_eq_true rfl] at this
  have Hg := Lib.hid hg
  clear hg hH1 hH2 hN
  go_enter Tryd.func7, Tryd.ntmps7
  go_upto_region 2 with (go_at_call 22; refine (inputs_any a b _ Hab.out.2.1).mono ?_; rw [HH.out.1]; rintro en w1 ⟨v1, rfl, ho1, hb1⟩)
  obtain ⟨xg, xc, rfl, hxb, hxl, hxc, hxr⟩ := owns_rows HH.out.2.1 ho1
  have HX := Lib.hid (And.intro hxr (And.intro hb1 (And.intro hxl hxc)))
  clear ho1 hb1 hxb hxl hxc hxr
  go_upto_region 3 with (go_at_call 22; refine (inputs_any c d _ Hab.out.2.2.2).mono ?_; rw [HH2.out]; rintro en w2 ⟨v2, rfl, ho2, hb2⟩)
  obtain ⟨yg, yc, rfl, hyb, hyl, hyc, hyr⟩ := owns_rows HH.out.2.2.2.1 ho2
  have hQ2 : QI w w2 N xg yg H1 H2 := by
    refine ⟨fun i hi => ?_, fun i hi => ?_, (Hg.out.below HX.out.2.1 Hg.out.pos).below hb2 (Hg.out.below HX.out.2.1 Hg.out.pos).pos, ?_, ?_⟩
    · have := rangeAt_below (HX.out.1 i hi) hb2 (Nat.le_refl _)
      rwa [Nat.mul_comm] at this
    · have := hyr i hi
      rwa [Nat.mul_comm] at this
    · rw [← HN.out]; exact HX.out.2.1.trans (hb2.mono HX.out.2.1.size)
    · rw [← HN.out]; exact Nat.le_trans HX.out.2.1.size hb2.size
  clear ho2 hb2 hyb hyl hyr HX hyc
  refine wp_region_held_drew (S := (fun w' => QI w w' N xg yg H1 H2)) (by kernel_rfl) ?_ (fun hHeld => ?_)
  · exact hQ2.below ((Below.refl _ _).drew)
  refine take_run (v := ?_) 0 (some 20) rfl rfl (by kernel_rfl) (by kernel_rfl) (by kernel_rfl) (fun _ _ _ h => h) hHeld (by rfl) ?_ ?_
  rotate_left
  · intro _ hSw; go_simp; try with_reducible rfl
  simp only [Act.put, List.setIfInBounds_toArray, List.set_cons_zero, List.set_cons_succ]
  refine take_run (v := ?_) 1 (some 21) rfl rfl (by kernel_rfl) (by kernel_rfl) (by kernel_rfl) (fun _ _ _ h => h) hHeld (by rfl) ?_ ?_
  rotate_left
  · intro _ hSw; go_simp; try with_reducible rfl
  simp only [Act.put, List.setIfInBounds_toArray, List.set_cons_zero, List.set_cons_succ]
  refine take_run (v := ?_) 2 (some 22) rfl rfl (by kernel_rfl) (by kernel_rfl) (by kernel_rfl) (fun _ _ _ h => h) hHeld (by rfl) ?_ ?_
  rotate_left
  · intro _ hSw; go_simp; try with_reducible rfl
  simp only [Act.put, List.setIfInBounds_toArray, List.set_cons_zero, List.set_cons_succ]
  refine take_run (v := ?_) 3 (some 23) rfl rfl (by kernel_rfl) (by kernel_rfl) (by kernel_rfl) (fun _ _ _ h => h) hHeld (by rfl) ?_ ?_
  rotate_left
  · intro _ hSw; go_simp; try with_reducible rfl
  simp only [Act.put, List.setIfInBounds_toArray, List.set_cons_zero, List.set_cons_succ]
  refine take_run (v := ?_) 4 (some 24) rfl rfl (by kernel_rfl) (by kernel_rfl) (by kernel_rfl) (fun _ _ _ h => h) hHeld (by rfl) ?_ ?_
  rotate_left
  · intro _ hSw; go_simp; try with_reducible rfl
  simp only [Act.put, List.setIfInBounds_toArray, List.set_cons_zero, List.set_cons_succ]
  refine take_run (v := ?_) 5 (some 25) rfl rfl (by kernel_rfl) (by kernel_rfl) (by kernel_rfl) (fun _ _ _ h => h) hHeld (by rfl) ?_ ?_
  rotate_left
  · intro _ hSw; go_simp; try with_reducible rfl
  simp only [Act.put, List.setIfInBounds_toArray, List.set_cons_zero, List.set_cons_succ]
  refine take_run (v := ?_) 6 (some 26) rfl rfl (by kernel_rfl) (by kernel_rfl) (by kernel_rfl) (fun _ _ _ h => h) hHeld (by rfl) ?_ ?_
  rotate_left
  · intro _ hSw; go_simp; try with_reducible rfl
  simp only [Act.put, List.setIfInBounds_toArray, List.set_cons_zero, List.set_cons_succ]
  refine take_run (v := ?_) 7 (some 27) rfl rfl (by kernel_rfl) (by kernel_rfl) (by kernel_rfl) (fun _ _ _ h => h) hHeld (by rfl) ?_ ?_
  rotate_left
  · intro _ hSw; go_simp; try with_reducible rfl
  simp only [Act.put, List.setIfInBounds_toArray, List.set_cons_zero, List.set_cons_succ]
  refine take_run (v := ?_) 8 (some 28) rfl rfl (by kernel_rfl) (by kernel_rfl) (by kernel_rfl) (fun _ _ _ h => h) hHeld (by rfl) ?_ ?_
  rotate_left
  · intro _ hSw; go_simp; try with_reducible rfl
  simp only [Act.put, List.setIfInBounds_toArray, List.set_cons_zero, List.set_cons_succ]
  refine take_run (v := ?_) 9 (some 29) rfl rfl (by kernel_rfl) (by kernel_rfl) (by kernel_rfl) (fun _ _ _ h => h) hHeld (by rfl) ?_ ?_
  rotate_left
  · intro _ hSw; go_simp; try with_reducible rfl
  simp only [Act.put, List.setIfInBounds_toArray, List.set_cons_zero, List.set_cons_succ]
  refine take_run (v := ?_) 10 (some 30) rfl rfl (by kernel_rfl) (by kernel_rfl) (by kernel_rfl) (fun _ _ _ h => h) hHeld (by rfl) ?_ ?_
  rotate_left
  · intro _ hSw; go_simp; try with_reducible rfl
  simp only [Act.put, List.setIfInBounds_toArray, List.set_cons_zero, List.set_cons_succ]
  refine take_at 11 (some 31) rfl rfl (by kernel_rfl) (by kernel_rfl) (by kernel_rfl) (fun _ _ _ h => h) (yieldsIf_load_mid (by rfl) 39 _ rfl xg 0 rfl (bs H1) _ (fun _ h => h.x0 HH.out.2.1 HH.out.2.2.1) Tryd.underlying39 rfl Hi2.out) hHeld ?_
  simp only [Act.put, List.setIfInBounds_toArray, List.set_cons_zero, List.set_cons_succ]
  refine take_run (v := ?_) 12 (some 32) rfl rfl (by kernel_rfl) (by kernel_rfl) (by kernel_rfl) (fun _ _ _ h => h) hHeld (by rfl) ?_ ?_
  rotate_left
  · intro _ hSw; go_simp; try with_reducible rfl
  simp only [Act.put, List.setIfInBounds_toArray, List.set_cons_zero, List.set_cons_succ]
  refine take_run (v := ?_) 13 (some 33) rfl rfl (by kernel_rfl) (by kernel_rfl) (by kernel_rfl) (fun _ _ _ h => h) hHeld (by rfl) ?_ ?_
  rotate_left
  · intro _ hSw; go_simp; try with_reducible rfl
  simp only [Act.put, List.setIfInBounds_toArray, List.set_cons_zero, List.set_cons_succ]
  refine call_at (f := ?_) (args := ?_) 14 (some 34) rfl rfl (by kernel_rfl) (by rfl) ?_ ?_
  rotate_left 2
  · go_simp; first | (refine ⟨?_, ?_⟩ <;> with_reducible rfl) | with_reducible rfl
  refine (head_any a b _ Hab.out.2.1).mono ?_
  rintro _ w5 ⟨rfl, hb⟩
  refine ⟨_, rfl, ?_, fun hHeld => ?_⟩
  · exact hHeld.below hb
  rw [HH.out.1]
  simp only [Act.put, List.setIfInBounds_toArray, List.set_cons_zero, List.set_cons_succ]
  refine take_run (v := ?_) 15 (some 35) rfl rfl (by kernel_rfl) (by kernel_rfl) (by kernel_rfl) (fun _ _ _ h => h) hHeld (by rfl) ?_ ?_
  rotate_left
  · intro _ hSw; go_simp; try with_reducible rfl
  simp only [Act.put, List.setIfInBounds_toArray, List.set_cons_zero, List.set_cons_succ]
  refine take_run (v := ?_) 16 (some 36) rfl rfl (by kernel_rfl) (by kernel_rfl) (by kernel_rfl) (fun _ _ _ h => h) hHeld (by rfl) ?_ ?_
  rotate_left
  · intro _ hSw; go_simp; try with_reducible rfl
  simp only [Act.put, List.setIfInBounds_toArray, List.set_cons_zero, List.set_cons_succ]
  refine wpAnyH_done (by kernel_rfl) ?_ _
  have HQ := Lib.hid hHeld
  clear hHeld hb hE3 hE4
  by_cases hac : a = c
  · by_cases hbd : b = d
    · have Hy : Hid (∀ i k, i < 16 → k < 16 → (nextL H1 i = nextL H2 k ↔ i = k)) := by
        intro i k hi hk
        have e : H1 = H2 := by rw [← HH.out.1, ← HH2.out, hac, hbd]
        rw [← e]
        exact Hx.out i k hi hk
      subst hac hbd
      go_wp2_with fail
      go_loopg [12] 16 (fun g i' wr => ∃ i : Nat, i + g = 16 ∧ i' = .int .i64 i ∧ Hid (QI w wr N xg yg H1 H2))
      case atStart => exact ⟨0, rfl, rfl, HQ⟩
      case round =>
        obtain ⟨i, hig, rfl, hQ⟩ := hrel
        clear HQ
        obtain ⟨g1, hg1⟩ : ∃ g1, g1 = gk := ⟨_, rfl⟩
        subst hg1
        by_cases hlt : i < 16
        · have hlti : (i : Int) < 16 := by omega
          have hi0 : (0 : Int) ≤ (i : Int) := by omega
          go_wp2_with fail
          go_loopg [13] 16 (fun g k' wr => ∃ k : Nat, k + g = 16 ∧ k' = .int .i64 k ∧ Hid (QI w wr N xg yg H1 H2))
          case atStart => exact ⟨0, rfl, rfl, hQ⟩
          case round =>
            clear hQ
            obtain ⟨k, hkg, rfl, hQ⟩ := hrel
            by_cases hkt : k < 16
            · have hlkt : (k : Int) < 16 := by omega
              have hk0 : (0 : Int) ≤ (k : Int) := by omega
              obtain ⟨Pi, hPi⟩ : ∃ P, nextL H1 i = P := ⟨_, rfl⟩
              obtain ⟨Pk, hPk⟩ : ∃ P, nextL H1 k = P := ⟨_, rfl⟩
              obtain ⟨Rk, hRk⟩ : ∃ P, nextL H2 k = P := ⟨_, rfl⟩
              have hxx := Hx.out i k hlt hkt
              have hxy := Hy.out i k hlt hkt
              rw [hPi, hPk] at hxx
              rw [hPi, hRk] at hxy
              have HP : Hid (((∀ w', QI w w' N xg yg H1 H2 → w'.rangeAt xg (i * 16) (bs Pi)) ∧ (∀ w', QI w w' N xg yg H1 H2 → w'.rangeAt xg (k * 16) (bs Pk)) ∧ (∀ w', QI w w' N xg yg H1 H2 → w'.rangeAt yg (k * 16) (bs Rk))) ∧
                  (Pi.length = 16 ∧ Pk.length = 16 ∧ Rk.length = 16) ∧ ((∀ x ∈ Pi, x < 256) ∧ (∀ x ∈ Pk, x < 256) ∧ (∀ x ∈ Rk, x < 256))) := by
                rw [← hPi, ← hPk, ← hRk]
                exact ⟨⟨fun _ h => h.x i hlt, fun _ h => h.x k hkt, fun _ h => h.y k hkt⟩, ⟨nextL_length _ HH.out.2.1, nextL_length _ HH.out.2.1, nextL_length _ HH.out.2.2.2.1⟩, nextL_lt _ HH.out.2.2.1, nextL_lt _ HH.out.2.2.1, nextL_lt _ HH.out.2.2.2.2⟩
              clear hPi hPk hRk
              by_cases hik : i = k
              · have hd1 : decide (Pi = Pk) = true := decide_eq_true (hxx.2 hik)
                have hd2 : decide (Pi = Rk) = true := decide_eq_true (hxy.2 hik)
                have hEa : ∀ w, (binOp .eql 39 (.agg (bs Pi).toArray) (.agg (bs Pk).toArray)).run Tryd.prog w = .ok (.bool true) w := fun w => by
                  have := run_eql_bx (l := Pi) (m := Pk) Tryd.underlying39 Tryd.underlying5 (by kernel_rfl) HP.out.2.1.1 HP.out.2.1.2.1 HP.out.2.2.1 HP.out.2.2.2.1 w
                  rwa [hd1] at this
                have hFa : ∀ w, (Op.equalIn 10000 39 (.agg (bs Pi).toArray) (.agg (bs Pk).toArray)).run Tryd.prog w = .ok true w := fun w => by
                  have := run_equalIn_bx (l := Pi) (m := Pk) Tryd.underlying39 Tryd.underlying5 (by kernel_rfl) HP.out.2.1.1 HP.out.2.1.2.1 HP.out.2.2.1 HP.out.2.2.2.1 w
                  rwa [hd1] at this
                have hEb : ∀ w, (binOp .eql 39 (.agg (bs Pi).toArray) (.agg (bs Rk).toArray)).run Tryd.prog w = .ok (.bool true) w := fun w => by
                  have := run_eql_bx (l := Pi) (m := Rk) Tryd.underlying39 Tryd.underlying5 (by kernel_rfl) HP.out.2.1.1 HP.out.2.1.2.2 HP.out.2.2.1 HP.out.2.2.2.2 w
                  rwa [hd2] at this
                have hFb : ∀ w, (Op.equalIn 10000 39 (.agg (bs Pi).toArray) (.agg (bs Rk).toArray)).run Tryd.prog w = .ok true w := fun w => by
                  have := run_equalIn_bx (l := Pi) (m := Rk) Tryd.underlying39 Tryd.underlying5 (by kernel_rfl) HP.out.2.1.1 HP.out.2.1.2.2 HP.out.2.2.1 HP.out.2.2.2.2 w
                  rwa [hd2] at this
                clear hxx hxy hd1 hd2
                have hiki : ((i : Int) == (k : Int)) = true := by simp [hik]
                have hikj : (i : Int) = (k : Int) := by omega
                subst hik
                clear hikj
                go_wp2_with fail
                refine wp_region_held_drew (S := (fun w' => QI w w' N xg yg H1 H2)) (by kernel_rfl) ?_ (fun hHeld => ?_)
                · exact hQ.out.below ((Below.refl _ _).drew)
                refine take_run (v := ?_) 0 (some 53) rfl rfl (by kernel_rfl) (by kernel_rfl) (by kernel_rfl) (fun _ _ _ h => h) hHeld (by rfl) ?_ ?_
                rotate_left
                · intro _ hSw; go_simp; try with_reducible rfl
                simp only [Act.put, List.setIfInBounds_toArray, List.set_cons_zero, List.set_cons_succ]
                refine take_run (v := ?_) 1 (some 54) rfl rfl (by kernel_rfl) (by kernel_rfl) (by kernel_rfl) (fun _ _ _ h => h) hHeld (by rfl) ?_ ?_
                rotate_left
                · intro _ hSw; go_simp; try with_reducible rfl
                simp only [Act.put, List.setIfInBounds_toArray, List.set_cons_zero, List.set_cons_succ]
                refine take_run (v := ?_) 2 (some 55) rfl rfl (by kernel_rfl) (by kernel_rfl) (by kernel_rfl) (fun _ _ _ h => h) hHeld (by rfl) ?_ ?_
                rotate_left
                · intro _ hSw; go_simp; try with_reducible rfl
                simp only [Act.put, List.setIfInBounds_toArray, List.set_cons_zero, List.set_cons_succ]
                refine take_at 3 (some 56) rfl rfl (by kernel_rfl) (by kernel_rfl) (by kernel_rfl) (fun _ _ _ h => h) (yieldsIf_load_mid (by rfl) 39 _ rfl xg (i * 16) rfl (bs Pi) _ (fun _ h => HP.out.1.1 _ h) Tryd.underlying39 rfl (Hi16.out Pi HP.out.2.1.1)) hHeld ?_
                simp only [Act.put, List.setIfInBounds_toArray, List.set_cons_zero, List.set_cons_succ]
                refine take_run (v := ?_) 4 (some 57) rfl rfl (by kernel_rfl) (by kernel_rfl) (by kernel_rfl) (fun _ _ _ h => h) hHeld (by rfl) ?_ ?_
                rotate_left
                · intro _ hSw; go_simp; try with_reducible rfl
                simp only [Act.put, List.setIfInBounds_toArray, List.set_cons_zero, List.set_cons_succ]
                refine take_run (v := ?_) 5 (some 58) rfl rfl (by kernel_rfl) (by kernel_rfl) (by kernel_rfl) (fun _ _ _ h => h) hHeld (by rfl) ?_ ?_
                rotate_left
                · intro _ hSw; go_simp; try with_reducible rfl
                simp only [Act.put, List.setIfInBounds_toArray, List.set_cons_zero, List.set_cons_succ]
                refine take_run (v := ?_) 6 (some 59) rfl rfl (by kernel_rfl) (by kernel_rfl) (by kernel_rfl) (fun _ _ _ h => h) hHeld (by rfl) ?_ ?_
                rotate_left
                · intro _ hSw; go_simp; try with_reducible rfl
                simp only [Act.put, List.setIfInBounds_toArray, List.set_cons_zero, List.set_cons_succ]
                refine take_at 7 (some 60) rfl rfl (by kernel_rfl) (by kernel_rfl) (by kernel_rfl) (fun _ _ _ h => h) (yieldsIf_load_mid (by rfl) 39 _ rfl xg (i * 16) rfl (bs Pk) _ (fun _ h => HP.out.1.2.1 _ h) Tryd.underlying39 rfl (Hi16.out Pk HP.out.2.1.2.1)) hHeld ?_
                simp only [Act.put, List.setIfInBounds_toArray, List.set_cons_zero, List.set_cons_succ]
                refine take_run (v := ?_) 8 (some 61) rfl rfl (by kernel_rfl) (by kernel_rfl) (by kernel_rfl) (fun _ _ _ h => h) hHeld (by rfl) ?_ ?_
                rotate_left
                · intro _ hSw; go_simp; try with_reducible rfl
                simp only [Act.put, List.setIfInBounds_toArray, List.set_cons_zero, List.set_cons_succ]
                refine take_run (v := ?_) 9 (some 62) rfl rfl (by kernel_rfl) (by kernel_rfl) (by kernel_rfl) (fun _ _ _ h => h) hHeld (by rfl) ?_ ?_
                rotate_left
                · intro _ hSw; go_simp; try with_reducible rfl
                simp only [Act.put, List.setIfInBounds_toArray, List.set_cons_zero, List.set_cons_succ]
                refine take_run (v := ?_) 10 (some 63) rfl rfl (by kernel_rfl) (by kernel_rfl) (by kernel_rfl) (fun _ _ _ h => h) hHeld (by rfl) ?_ ?_
                rotate_left
                · intro _ hSw; go_simp; try with_reducible rfl
                simp only [Act.put, List.setIfInBounds_toArray, List.set_cons_zero, List.set_cons_succ]
                refine take_run (v := ?_) 11 (some 64) rfl rfl (by kernel_rfl) (by kernel_rfl) (by kernel_rfl) (fun _ _ _ h => h) hHeld (by rfl) ?_ ?_
                rotate_left
                · intro _ hSw; go_simp; try with_reducible rfl
                simp only [Act.put, List.setIfInBounds_toArray, List.set_cons_zero, List.set_cons_succ]
                refine take_run (v := ?_) 12 (some 65) rfl rfl (by kernel_rfl) (by kernel_rfl) (by kernel_rfl) (fun _ _ _ h => h) hHeld (by rfl) ?_ ?_
                rotate_left
                · intro _ hSw; go_simp; try with_reducible rfl
                simp only [Act.put, List.setIfInBounds_toArray, List.set_cons_zero, List.set_cons_succ]
                refine take_run (v := ?_) 13 (some 66) rfl rfl (by kernel_rfl) (by kernel_rfl) (by kernel_rfl) (fun _ _ _ h => h) hHeld (by rfl) ?_ ?_
                rotate_left
                · intro _ hSw; go_simp; try with_reducible rfl
                simp only [Act.put, List.setIfInBounds_toArray, List.set_cons_zero, List.set_cons_succ]
                refine take_run (v := ?_) 14 (some 67) rfl rfl (by kernel_rfl) (by kernel_rfl) (by kernel_rfl) (fun _ _ _ h => h) hHeld (by rfl) ?_ ?_
                rotate_left
                · intro _ hSw; go_simp; try with_reducible rfl
                simp only [Act.put, List.setIfInBounds_toArray, List.set_cons_zero, List.set_cons_succ]
                refine take_run (v := ?_) 15 (some 68) rfl rfl (by kernel_rfl) (by kernel_rfl) (by kernel_rfl) (fun _ _ _ h => h) hHeld (by rfl) ?_ ?_
                rotate_left
                · intro _ hSw; go_simp; try with_reducible rfl
                simp only [Act.put, List.setIfInBounds_toArray, List.set_cons_zero, List.set_cons_succ]
                refine take_run (v := ?_) 16 (some 69) rfl rfl (by kernel_rfl) (by kernel_rfl) (by kernel_rfl) (fun _ _ _ h => h) hHeld (by rfl) ?_ ?_
                rotate_left
                · intro _ hSw; go_simp; try with_reducible rfl
                simp only [Act.put, List.setIfInBounds_toArray, List.set_cons_zero, List.set_cons_succ]
                refine take_at 17 (some 70) rfl rfl (by kernel_rfl) (by kernel_rfl) (by kernel_rfl) (fun _ _ _ h => h) (yieldsIf_load_mid (by rfl) 39 _ rfl xg (i * 16) rfl (bs Pi) _ (fun _ h => HP.out.1.1 _ h) Tryd.underlying39 rfl (Hi16.out Pi HP.out.2.1.1)) hHeld ?_
                simp only [Act.put, List.setIfInBounds_toArray, List.set_cons_zero, List.set_cons_succ]
                refine take_run (v := ?_) 18 (some 71) rfl rfl (by kernel_rfl) (by kernel_rfl) (by kernel_rfl) (fun _ _ _ h => h) hHeld (by rfl) ?_ ?_
                rotate_left
                · intro _ hSw; go_simp; try with_reducible rfl
                simp only [Act.put, List.setIfInBounds_toArray, List.set_cons_zero, List.set_cons_succ]
                refine take_run (v := ?_) 19 (some 72) rfl rfl (by kernel_rfl) (by kernel_rfl) (by kernel_rfl) (fun _ _ _ h => h) hHeld (by rfl) ?_ ?_
                rotate_left
                · intro _ hSw; go_simp; try with_reducible rfl
                simp only [Act.put, List.setIfInBounds_toArray, List.set_cons_zero, List.set_cons_succ]
                refine take_run (v := ?_) 20 (some 73) rfl rfl (by kernel_rfl) (by kernel_rfl) (by kernel_rfl) (fun _ _ _ h => h) hHeld (by rfl) ?_ ?_
                rotate_left
                · intro _ hSw; go_simp; try with_reducible rfl
                simp only [Act.put, List.setIfInBounds_toArray, List.set_cons_zero, List.set_cons_succ]
                refine take_at 21 (some 74) rfl rfl (by kernel_rfl) (by kernel_rfl) (by kernel_rfl) (fun _ _ _ h => h) (yieldsIf_load_mid (by rfl) 39 _ rfl yg (i * 16) rfl (bs Rk) _ (fun _ h => HP.out.1.2.2 _ h) Tryd.underlying39 rfl (Hi16.out Rk HP.out.2.1.2.2)) hHeld ?_
                simp only [Act.put, List.setIfInBounds_toArray, List.set_cons_zero, List.set_cons_succ]
                refine take_run (v := ?_) 22 (some 75) rfl rfl (by kernel_rfl) (by kernel_rfl) (by kernel_rfl) (fun _ _ _ h => h) hHeld (by rfl) ?_ ?_
                rotate_left
                · intro _ hSw; go_simp; try with_reducible rfl
                simp only [Act.put, List.setIfInBounds_toArray, List.set_cons_zero, List.set_cons_succ]
                refine take_run (v := ?_) 23 (some 76) rfl rfl (by kernel_rfl) (by kernel_rfl) (by kernel_rfl) (fun _ _ _ h => h) hHeld (by rfl) ?_ ?_
                rotate_left
                · intro _ hSw; go_simp; try with_reducible rfl
                simp only [Act.put, List.setIfInBounds_toArray, List.set_cons_zero, List.set_cons_succ]
                refine take_run (v := ?_) 24 (some 77) rfl rfl (by kernel_rfl) (by kernel_rfl) (by kernel_rfl) (fun _ _ _ h => h) hHeld (by rfl) ?_ ?_
                rotate_left
                · intro _ hSw; go_simp; try with_reducible rfl
                simp only [Act.put, List.setIfInBounds_toArray, List.set_cons_zero, List.set_cons_succ]
                refine take_run (v := ?_) 25 (some 78) rfl rfl (by kernel_rfl) (by kernel_rfl) (by kernel_rfl) (fun _ _ _ h => h) hHeld (by rfl) ?_ ?_
                rotate_left
                · intro _ hSw; go_simp; try with_reducible rfl
                simp only [Act.put, List.setIfInBounds_toArray, List.set_cons_zero, List.set_cons_succ]
                refine take_run (v := ?_) 26 (some 79) rfl rfl (by kernel_rfl) (by kernel_rfl) (by kernel_rfl) (fun _ _ _ h => h) hHeld (by rfl) ?_ ?_
                rotate_left
                · intro _ hSw; go_simp; try with_reducible rfl
                simp only [Act.put, List.setIfInBounds_toArray, List.set_cons_zero, List.set_cons_succ]
                refine take_run (v := ?_) 27 (some 80) rfl rfl (by kernel_rfl) (by kernel_rfl) (by kernel_rfl) (fun _ _ _ h => h) hHeld (by rfl) ?_ ?_
                rotate_left
                · intro _ hSw; go_simp; try with_reducible rfl
                simp only [Act.put, List.setIfInBounds_toArray, List.set_cons_zero, List.set_cons_succ]
                refine take_run (v := ?_) 28 (some 81) rfl rfl (by kernel_rfl) (by kernel_rfl) (by kernel_rfl) (fun _ _ _ h => h) hHeld (by rfl) ?_ ?_
                rotate_left
                · intro _ hSw; go_simp; try with_reducible rfl
                simp only [Act.put, List.setIfInBounds_toArray, List.set_cons_zero, List.set_cons_succ]
                refine take_run (v := ?_) 29 (some 82) rfl rfl (by kernel_rfl) (by kernel_rfl) (by kernel_rfl) (fun _ _ _ h => h) hHeld (by rfl) ?_ ?_
                rotate_left
                · intro _ hSw; go_simp; try with_reducible rfl
                simp only [Act.put, List.setIfInBounds_toArray, List.set_cons_zero, List.set_cons_succ]
                refine take_run (v := ?_) 30 (some 83) rfl rfl (by kernel_rfl) (by kernel_rfl) (by kernel_rfl) (fun _ _ _ h => h) hHeld (by rfl) ?_ ?_
                rotate_left
                · intro _ hSw; go_simp; try with_reducible rfl
                simp only [Act.put, List.setIfInBounds_toArray, List.set_cons_zero, List.set_cons_succ]
                refine wpAnyH_done (by kernel_rfl) ?_ _
                go_wp2_with fail
                go_roundg (gk - 1)
                case measure => omega
                case rel => exact ⟨i + 1, by omega, by go_num, hHeld⟩
              · have hd1 : decide (Pi = Pk) = false := decide_eq_false (fun h => hik (hxx.1 h))
                have hd2 : decide (Pi = Rk) = false := decide_eq_false (fun h => hik (hxy.1 h))
                have hEa : ∀ w, (binOp .eql 39 (.agg (bs Pi).toArray) (.agg (bs Pk).toArray)).run Tryd.prog w = .ok (.bool false) w := fun w => by
                  have := run_eql_bx (l := Pi) (m := Pk) Tryd.underlying39 Tryd.underlying5 (by kernel_rfl) HP.out.2.1.1 HP.out.2.1.2.1 HP.out.2.2.1 HP.out.2.2.2.1 w
                  rwa [hd1] at this
                have hFa : ∀ w, (Op.equalIn 10000 39 (.agg (bs Pi).toArray) (.agg (bs Pk).toArray)).run Tryd.prog w = .ok false w := fun w => by
                  have := run_equalIn_bx (l := Pi) (m := Pk) Tryd.underlying39 Tryd.underlying5 (by kernel_rfl) HP.out.2.1.1 HP.out.2.1.2.1 HP.out.2.2.1 HP.out.2.2.2.1 w
                  rwa [hd1] at this
                have hEb : ∀ w, (binOp .eql 39 (.agg (bs Pi).toArray) (.agg (bs Rk).toArray)).run Tryd.prog w = .ok (.bool false) w := fun w => by
                  have := run_eql_bx (l := Pi) (m := Rk) Tryd.underlying39 Tryd.underlying5 (by kernel_rfl) HP.out.2.1.1 HP.out.2.1.2.2 HP.out.2.2.1 HP.out.2.2.2.2 w
                  rwa [hd2] at this
                have hFb : ∀ w, (Op.equalIn 10000 39 (.agg (bs Pi).toArray) (.agg (bs Rk).toArray)).run Tryd.prog w = .ok false w := fun w => by
                  have := run_equalIn_bx (l := Pi) (m := Rk) Tryd.underlying39 Tryd.underlying5 (by kernel_rfl) HP.out.2.1.1 HP.out.2.1.2.2 HP.out.2.2.1 HP.out.2.2.2.2 w
                  rwa [hd2] at this
                clear hxx hxy hd1 hd2
                have hikj : ¬ (i : Int) = (k : Int) := by omega
                have hiki : ((i : Int) == (k : Int)) = false := by simp; omega
                clear hik
                go_wp2_with fail
                refine wp_region_held_drew (S := (fun w' => QI w w' N xg yg H1 H2)) (by kernel_rfl) ?_ (fun hHeld => ?_)
                · exact hQ.out.below ((Below.refl _ _).drew)
                refine take_run (v := ?_) 0 (some 53) rfl rfl (by kernel_rfl) (by kernel_rfl) (by kernel_rfl) (fun _ _ _ h => h) hHeld (by rfl) ?_ ?_
                rotate_left
                · intro _ hSw; go_simp; try with_reducible rfl
                simp only [Act.put, List.setIfInBounds_toArray, List.set_cons_zero, List.set_cons_succ]
                refine take_run (v := ?_) 1 (some 54) rfl rfl (by kernel_rfl) (by kernel_rfl) (by kernel_rfl) (fun _ _ _ h => h) hHeld (by rfl) ?_ ?_
                rotate_left
                · intro _ hSw; go_simp; try with_reducible rfl
                simp only [Act.put, List.setIfInBounds_toArray, List.set_cons_zero, List.set_cons_succ]
                refine take_run (v := ?_) 2 (some 55) rfl rfl (by kernel_rfl) (by kernel_rfl) (by kernel_rfl) (fun _ _ _ h => h) hHeld (by rfl) ?_ ?_
                rotate_left
                · intro _ hSw; go_simp; try with_reducible rfl
                simp only [Act.put, List.setIfInBounds_toArray, List.set_cons_zero, List.set_cons_succ]
                refine take_at 3 (some 56) rfl rfl (by kernel_rfl) (by kernel_rfl) (by kernel_rfl) (fun _ _ _ h => h) (yieldsIf_load_mid (by rfl) 39 _ rfl xg (i * 16) rfl (bs Pi) _ (fun _ h => HP.out.1.1 _ h) Tryd.underlying39 rfl (Hi16.out Pi HP.out.2.1.1)) hHeld ?_
                simp only [Act.put, List.setIfInBounds_toArray, List.set_cons_zero, List.set_cons_succ]
                refine take_run (v := ?_) 4 (some 57) rfl rfl (by kernel_rfl) (by kernel_rfl) (by kernel_rfl) (fun _ _ _ h => h) hHeld (by rfl) ?_ ?_
                rotate_left
                · intro _ hSw; go_simp; try with_reducible rfl
                simp only [Act.put, List.setIfInBounds_toArray, List.set_cons_zero, List.set_cons_succ]
                refine take_run (v := ?_) 5 (some 58) rfl rfl (by kernel_rfl) (by kernel_rfl) (by kernel_rfl) (fun _ _ _ h => h) hHeld (by rfl) ?_ ?_
                rotate_left
                · intro _ hSw; go_simp; try with_reducible rfl
                simp only [Act.put, List.setIfInBounds_toArray, List.set_cons_zero, List.set_cons_succ]
                refine take_run (v := ?_) 6 (some 59) rfl rfl (by kernel_rfl) (by kernel_rfl) (by kernel_rfl) (fun _ _ _ h => h) hHeld (by rfl) ?_ ?_
                rotate_left
                · intro _ hSw; go_simp; try with_reducible rfl
                simp only [Act.put, List.setIfInBounds_toArray, List.set_cons_zero, List.set_cons_succ]
                refine take_at 7 (some 60) rfl rfl (by kernel_rfl) (by kernel_rfl) (by kernel_rfl) (fun _ _ _ h => h) (yieldsIf_load_mid (by rfl) 39 _ rfl xg (k * 16) rfl (bs Pk) _ (fun _ h => HP.out.1.2.1 _ h) Tryd.underlying39 rfl (Hi16.out Pk HP.out.2.1.2.1)) hHeld ?_
                simp only [Act.put, List.setIfInBounds_toArray, List.set_cons_zero, List.set_cons_succ]
                refine take_run (v := ?_) 8 (some 61) rfl rfl (by kernel_rfl) (by kernel_rfl) (by kernel_rfl) (fun _ _ _ h => h) hHeld (by rfl) ?_ ?_
                rotate_left
                · intro _ hSw; go_simp; try with_reducible rfl
                simp only [Act.put, List.setIfInBounds_toArray, List.set_cons_zero, List.set_cons_succ]
                refine take_run (v := ?_) 9 (some 62) rfl rfl (by kernel_rfl) (by kernel_rfl) (by kernel_rfl) (fun _ _ _ h => h) hHeld (by rfl) ?_ ?_
                rotate_left
                · intro _ hSw; go_simp; try with_reducible rfl
                simp only [Act.put, List.setIfInBounds_toArray, List.set_cons_zero, List.set_cons_succ]
                refine take_run (v := ?_) 10 (some 63) rfl rfl (by kernel_rfl) (by kernel_rfl) (by kernel_rfl) (fun _ _ _ h => h) hHeld (by rfl) ?_ ?_
                rotate_left
                · intro _ hSw; go_simp; try with_reducible rfl
                simp only [Act.put, List.setIfInBounds_toArray, List.set_cons_zero, List.set_cons_succ]
                refine take_run (v := ?_) 11 (some 64) rfl rfl (by kernel_rfl) (by kernel_rfl) (by kernel_rfl) (fun _ _ _ h => h) hHeld (by rfl) ?_ ?_
                rotate_left
                · intro _ hSw; go_simp; try with_reducible rfl
                simp only [Act.put, List.setIfInBounds_toArray, List.set_cons_zero, List.set_cons_succ]
                refine take_run (v := ?_) 12 (some 65) rfl rfl (by kernel_rfl) (by kernel_rfl) (by kernel_rfl) (fun _ _ _ h => h) hHeld (by rfl) ?_ ?_
                rotate_left
                · intro _ hSw; go_simp; try with_reducible rfl
                simp only [Act.put, List.setIfInBounds_toArray, List.set_cons_zero, List.set_cons_succ]
                refine take_run (v := ?_) 13 (some 66) rfl rfl (by kernel_rfl) (by kernel_rfl) (by kernel_rfl) (fun _ _ _ h => h) hHeld (by rfl) ?_ ?_
                rotate_left
                · intro _ hSw; go_simp; try with_reducible rfl
                simp only [Act.put, List.setIfInBounds_toArray, List.set_cons_zero, List.set_cons_succ]
                refine take_run (v := ?_) 14 (some 67) rfl rfl (by kernel_rfl) (by kernel_rfl) (by kernel_rfl) (fun _ _ _ h => h) hHeld (by rfl) ?_ ?_
                rotate_left
                · intro _ hSw; go_simp; try with_reducible rfl
                simp only [Act.put, List.setIfInBounds_toArray, List.set_cons_zero, List.set_cons_succ]
                refine take_run (v := ?_) 15 (some 68) rfl rfl (by kernel_rfl) (by kernel_rfl) (by kernel_rfl) (fun _ _ _ h => h) hHeld (by rfl) ?_ ?_
                rotate_left
                · intro _ hSw; go_simp; try with_reducible rfl
                simp only [Act.put, List.setIfInBounds_toArray, List.set_cons_zero, List.set_cons_succ]
                refine take_run (v := ?_) 16 (some 69) rfl rfl (by kernel_rfl) (by kernel_rfl) (by kernel_rfl) (fun _ _ _ h => h) hHeld (by rfl) ?_ ?_
                rotate_left
                · intro _ hSw; go_simp; try with_reducible rfl
                simp only [Act.put, List.setIfInBounds_toArray, List.set_cons_zero, List.set_cons_succ]
                refine take_at 17 (some 70) rfl rfl (by kernel_rfl) (by kernel_rfl) (by kernel_rfl) (fun _ _ _ h => h) (yieldsIf_load_mid (by rfl) 39 _ rfl xg (i * 16) rfl (bs Pi) _ (fun _ h => HP.out.1.1 _ h) Tryd.underlying39 rfl (Hi16.out Pi HP.out.2.1.1)) hHeld ?_
                simp only [Act.put, List.setIfInBounds_toArray, List.set_cons_zero, List.set_cons_succ]
                refine take_run (v := ?_) 18 (some 71) rfl rfl (by kernel_rfl) (by kernel_rfl) (by kernel_rfl) (fun _ _ _ h => h) hHeld (by rfl) ?_ ?_
                rotate_left
                · intro _ hSw; go_simp; try with_reducible rfl
                simp only [Act.put, List.setIfInBounds_toArray, List.set_cons_zero, List.set_cons_succ]
                refine take_run (v := ?_) 19 (some 72) rfl rfl (by kernel_rfl) (by kernel_rfl) (by kernel_rfl) (fun _ _ _ h => h) hHeld (by rfl) ?_ ?_
                rotate_left
                · intro _ hSw; go_simp; try with_reducible rfl
                simp only [Act.put, List.setIfInBounds_toArray, List.set_cons_zero, List.set_cons_succ]
                refine take_run (v := ?_) 20 (some 73) rfl rfl (by kernel_rfl) (by kernel_rfl) (by kernel_rfl) (fun _ _ _ h => h) hHeld (by rfl) ?_ ?_
                rotate_left
                · intro _ hSw; go_simp; try with_reducible rfl
                simp only [Act.put, List.setIfInBounds_toArray, List.set_cons_zero, List.set_cons_succ]
                refine take_at 21 (some 74) rfl rfl (by kernel_rfl) (by kernel_rfl) (by kernel_rfl) (fun _ _ _ h => h) (yieldsIf_load_mid (by rfl) 39 _ rfl yg (k * 16) rfl (bs Rk) _ (fun _ h => HP.out.1.2.2 _ h) Tryd.underlying39 rfl (Hi16.out Rk HP.out.2.1.2.2)) hHeld ?_
                simp only [Act.put, List.setIfInBounds_toArray, List.set_cons_zero, List.set_cons_succ]
                refine take_run (v := ?_) 22 (some 75) rfl rfl (by kernel_rfl) (by kernel_rfl) (by kernel_rfl) (fun _ _ _ h => h) hHeld (by rfl) ?_ ?_
                rotate_left
                · intro _ hSw; go_simp; try with_reducible rfl
                simp only [Act.put, List.setIfInBounds_toArray, List.set_cons_zero, List.set_cons_succ]
                refine take_run (v := ?_) 23 (some 76) rfl rfl (by kernel_rfl) (by kernel_rfl) (by kernel_rfl) (fun _ _ _ h => h) hHeld (by rfl) ?_ ?_
                rotate_left
                · intro _ hSw; go_simp; try with_reducible rfl
                simp only [Act.put, List.setIfInBounds_toArray, List.set_cons_zero, List.set_cons_succ]
                refine take_run (v := ?_) 24 (some 77) rfl rfl (by kernel_rfl) (by kernel_rfl) (by kernel_rfl) (fun _ _ _ h => h) hHeld (by rfl) ?_ ?_
                rotate_left
                · intro _ hSw; go_simp; try with_reducible rfl
                simp only [Act.put, List.setIfInBounds_toArray, List.set_cons_zero, List.set_cons_succ]
                refine take_run (v := ?_) 25 (some 78) rfl rfl (by kernel_rfl) (by kernel_rfl) (by kernel_rfl) (fun _ _ _ h => h) hHeld (by rfl) ?_ ?_
                rotate_left
                · intro _ hSw; go_simp; try with_reducible rfl
                simp only [Act.put, List.setIfInBounds_toArray, List.set_cons_zero, List.set_cons_succ]
                refine take_run (v := ?_) 26 (some 79) rfl rfl (by kernel_rfl) (by kernel_rfl) (by kernel_rfl) (fun _ _ _ h => h) hHeld (by rfl) ?_ ?_
                rotate_left
                · intro _ hSw; go_simp; try with_reducible rfl
                simp only [Act.put, List.setIfInBounds_toArray, List.set_cons_zero, List.set_cons_succ]
                refine take_run (v := ?_) 27 (some 80) rfl rfl (by kernel_rfl) (by kernel_rfl) (by kernel_rfl) (fun _ _ _ h => h) hHeld (by rfl) ?_ ?_
                rotate_left
                · intro _ hSw; go_simp; try with_reducible rfl
                simp only [Act.put, List.setIfInBounds_toArray, List.set_cons_zero, List.set_cons_succ]
                refine take_run (v := ?_) 28 (some 81) rfl rfl (by kernel_rfl) (by kernel_rfl) (by kernel_rfl) (fun _ _ _ h => h) hHeld (by rfl) ?_ ?_
                rotate_left
                · intro _ hSw; go_simp; try with_reducible rfl
                simp only [Act.put, List.setIfInBounds_toArray, List.set_cons_zero, List.set_cons_succ]
                refine take_run (v := ?_) 29 (some 82) rfl rfl (by kernel_rfl) (by kernel_rfl) (by kernel_rfl) (fun _ _ _ h => h) hHeld (by rfl) ?_ ?_
                rotate_left
                · intro _ hSw; go_simp; try with_reducible rfl
                simp only [Act.put, List.setIfInBounds_toArray, List.set_cons_zero, List.set_cons_succ]
                refine take_run (v := ?_) 30 (some 83) rfl rfl (by kernel_rfl) (by kernel_rfl) (by kernel_rfl) (fun _ _ _ h => h) hHeld (by rfl) ?_ ?_
                rotate_left
                · intro _ hSw; go_simp; try with_reducible rfl
                simp only [Act.put, List.setIfInBounds_toArray, List.set_cons_zero, List.set_cons_succ]
                refine wpAnyH_done (by kernel_rfl) ?_ _
                go_wp2_with fail
                go_roundg (gk - 1)
                case measure => omega
                case rel => exact ⟨k + 1, by omega, by go_num, hHeld⟩
            · have hkti : ¬ (k : Int) < 16 := by omega
              clear hkg
              go_wp2_with fail
              go_roundg (g1 - 1)
              case measure => omega
              case rel => exact ⟨i + 1, by omega, by go_num, hQ⟩
        · have hlti : ¬ (i : Int) < 16 := by omega
          go_wp2_with (go_at_call 9; refine (known7_any _ hQ.out.et).mono ?_; rintro en w6 ⟨rfl, hb6⟩)
          go_ret
          exact ⟨rfl, by rw [HN.out]; exact (hQ.out.below hb6).bel⟩
    · have Hy : Hid (∀ i k, i < 16 → k < 16 → ¬ nextL H1 i = nextL H2 k) := by
        intro i k hi hk h
        rw [← HH.out.1, ← HH2.out] at h
        exact hbd (head_place Hab.out.1 Hab.out.2.1 Hab.out.2.2.1 Hab.out.2.2.2 hi hk h).2.2
      have hbi : ((b : Int) == (d : Int)) = false := by simp; omega
      have hbj : ¬ (b : Int) = (d : Int) := by omega
      clear hbd
      subst hac
      go_wp2_with fail
      go_loopg [12] 16 (fun g i' wr => ∃ i : Nat, i + g = 16 ∧ i' = .int .i64 i ∧ Hid (QI w wr N xg yg H1 H2))
      case atStart => exact ⟨0, rfl, rfl, HQ⟩
      case round =>
        obtain ⟨i, hig, rfl, hQ⟩ := hrel
        clear HQ
        obtain ⟨g1, hg1⟩ : ∃ g1, g1 = gk := ⟨_, rfl⟩
        subst hg1
        by_cases hlt : i < 16
        · have hlti : (i : Int) < 16 := by omega
          have hi0 : (0 : Int) ≤ (i : Int) := by omega
          go_wp2_with fail
          go_loopg [13] 16 (fun g k' wr => ∃ k : Nat, k + g = 16 ∧ k' = .int .i64 k ∧ Hid (QI w wr N xg yg H1 H2))
          case atStart => exact ⟨0, rfl, rfl, hQ⟩
          case round =>
            clear hQ
            obtain ⟨k, hkg, rfl, hQ⟩ := hrel
            by_cases hkt : k < 16
            · have hlkt : (k : Int) < 16 := by omega
              have hk0 : (0 : Int) ≤ (k : Int) := by omega
              obtain ⟨Pi, hPi⟩ : ∃ P, nextL H1 i = P := ⟨_, rfl⟩
              obtain ⟨Pk, hPk⟩ : ∃ P, nextL H1 k = P := ⟨_, rfl⟩
              obtain ⟨Rk, hRk⟩ : ∃ P, nextL H2 k = P := ⟨_, rfl⟩
              have hxx := Hx.out i k hlt hkt
              have hxy := Hy.out i k hlt hkt
              rw [hPi, hPk] at hxx
              rw [hPi, hRk] at hxy
              have HP : Hid (((∀ w', QI w w' N xg yg H1 H2 → w'.rangeAt xg (i * 16) (bs Pi)) ∧ (∀ w', QI w w' N xg yg H1 H2 → w'.rangeAt xg (k * 16) (bs Pk)) ∧ (∀ w', QI w w' N xg yg H1 H2 → w'.rangeAt yg (k * 16) (bs Rk))) ∧
                  (Pi.length = 16 ∧ Pk.length = 16 ∧ Rk.length = 16) ∧ ((∀ x ∈ Pi, x < 256) ∧ (∀ x ∈ Pk, x < 256) ∧ (∀ x ∈ Rk, x < 256))) := by
                rw [← hPi, ← hPk, ← hRk]
                exact ⟨⟨fun _ h => h.x i hlt, fun _ h => h.x k hkt, fun _ h => h.y k hkt⟩, ⟨nextL_length _ HH.out.2.1, nextL_length _ HH.out.2.1, nextL_length _ HH.out.2.2.2.1⟩, nextL_lt _ HH.out.2.2.1, nextL_lt _ HH.out.2.2.1, nextL_lt _ HH.out.2.2.2.2⟩
              clear hPi hPk hRk
              by_cases hik : i = k
              · have hd1 : decide (Pi = Pk) = true := decide_eq_true (hxx.2 hik)
                have hd2 : decide (Pi = Rk) = false := decide_eq_false hxy
                have hEa : ∀ w, (binOp .eql 39 (.agg (bs Pi).toArray) (.agg (bs Pk).toArray)).run Tryd.prog w = .ok (.bool true) w := fun w => by
                  have := run_eql_bx (l := Pi) (m := Pk) Tryd.underlying39 Tryd.underlying5 (by kernel_rfl) HP.out.2.1.1 HP.out.2.1.2.1 HP.out.2.2.1 HP.out.2.2.2.1 w
                  rwa [hd1] at this
                have hFa : ∀ w, (Op.equalIn 10000 39 (.agg (bs Pi).toArray) (.agg (bs Pk).toArray)).run Tryd.prog w = .ok true w := fun w => by
                  have := run_equalIn_bx (l := Pi) (m := Pk) Tryd.underlying39 Tryd.underlying5 (by kernel_rfl) HP.out.2.1.1 HP.out.2.1.2.1 HP.out.2.2.1 HP.out.2.2.2.1 w
                  rwa [hd1] at this
                have hEb : ∀ w, (binOp .eql 39 (.agg (bs Pi).toArray) (.agg (bs Rk).toArray)).run Tryd.prog w = .ok (.bool false) w := fun w => by
                  have := run_eql_bx (l := Pi) (m := Rk) Tryd.underlying39 Tryd.underlying5 (by kernel_rfl) HP.out.2.1.1 HP.out.2.1.2.2 HP.out.2.2.1 HP.out.2.2.2.2 w
                  rwa [hd2] at this
                have hFb : ∀ w, (Op.equalIn 10000 39 (.agg (bs Pi).toArray) (.agg (bs Rk).toArray)).run Tryd.prog w = .ok false w := fun w => by
                  have := run_equalIn_bx (l := Pi) (m := Rk) Tryd.underlying39 Tryd.underlying5 (by kernel_rfl) HP.out.2.1.1 HP.out.2.1.2.2 HP.out.2.2.1 HP.out.2.2.2.2 w
                  rwa [hd2] at this
                clear hxx hxy hd1 hd2
                have hiki : ((i : Int) == (k : Int)) = true := by simp [hik]
                have hikj : (i : Int) = (k : Int) := by omega
                subst hik
                clear hikj
                go_wp2_with fail
                refine wp_region_held_drew (S := (fun w' => QI w w' N xg yg H1 H2)) (by kernel_rfl) ?_ (fun hHeld => ?_)
                · exact hQ.out.below ((Below.refl _ _).drew)
                refine take_run (v := ?_) 0 (some 53) rfl rfl (by kernel_rfl) (by kernel_rfl) (by kernel_rfl) (fun _ _ _ h => h) hHeld (by rfl) ?_ ?_
                rotate_left
                · intro _ hSw; go_simp; try with_reducible rfl
                simp only [Act.put, List.setIfInBounds_toArray, List.set_cons_zero, List.set_cons_succ]
                refine take_run (v := ?_) 1 (some 54) rfl rfl (by kernel_rfl) (by kernel_rfl) (by kernel_rfl) (fun _ _ _ h => h) hHeld (by rfl) ?_ ?_
                rotate_left
                · intro _ hSw; go_simp; try with_reducible rfl
                simp only [Act.put, List.setIfInBounds_toArray, List.set_cons_zero, List.set_cons_succ]
                refine take_run (v := ?_) 2 (some 55) rfl rfl (by kernel_rfl) (by kernel_rfl) (by kernel_rfl) (fun _ _ _ h => h) hHeld (by rfl) ?_ ?_
                rotate_left
                · intro _ hSw; go_simp; try with_reducible rfl
                simp only [Act.put, List.setIfInBounds_toArray, List.set_cons_zero, List.set_cons_succ]
                refine take_at 3 (some 56) rfl rfl (by kernel_rfl) (by kernel_rfl) (by kernel_rfl) (fun _ _ _ h => h) (yieldsIf_load_mid (by rfl) 39 _ rfl xg (i * 16) rfl (bs Pi) _ (fun _ h => HP.out.1.1 _ h) Tryd.underlying39 rfl (Hi16.out Pi HP.out.2.1.1)) hHeld ?_
                simp only [Act.put, List.setIfInBounds_toArray, List.set_cons_zero, List.set_cons_succ]
                refine take_run (v := ?_) 4 (some 57) rfl rfl (by kernel_rfl) (by kernel_rfl) (by kernel_rfl) (fun _ _ _ h => h) hHeld (by rfl) ?_ ?_
                rotate_left
                · intro _ hSw; go_simp; try with_reducible rfl
                simp only [Act.put, List.setIfInBounds_toArray, List.set_cons_zero, List.set_cons_succ]
                refine take_run (v := ?_) 5 (some 58) rfl rfl (by kernel_rfl) (by kernel_rfl) (by kernel_rfl) (fun _ _ _ h => h) hHeld (by rfl) ?_ ?_
                rotate_left
                · intro _ hSw; go_simp; try with_reducible rfl
                simp only [Act.put, List.setIfInBounds_toArray, List.set_cons_zero, List.set_cons_succ]
                refine take_run (v := ?_) 6 (some 59) rfl rfl (by kernel_rfl) (by kernel_rfl) (by kernel_rfl) (fun _ _ _ h => h) hHeld (by rfl) ?_ ?_
                rotate_left
                · intro _ hSw; go_simp; try with_reducible rfl
                simp only [Act.put, List.setIfInBounds_toArray, List.set_cons_zero, List.set_cons_succ]
                refine take_at 7 (some 60) rfl rfl (by kernel_rfl) (by kernel_rfl) (by kernel_rfl) (fun _ _ _ h => h) (yieldsIf_load_mid (by rfl) 39 _ rfl xg (i * 16) rfl (bs Pk) _ (fun _ h => HP.out.1.2.1 _ h) Tryd.underlying39 rfl (Hi16.out Pk HP.out.2.1.2.1)) hHeld ?_
                simp only [Act.put, List.setIfInBounds_toArray, List.set_cons_zero, List.set_cons_succ]
                refine take_run (v := ?_) 8 (some 61) rfl rfl (by kernel_rfl) (by kernel_rfl) (by kernel_rfl) (fun _ _ _ h => h) hHeld (by rfl) ?_ ?_
                rotate_left
                · intro _ hSw; go_simp; try with_reducible rfl
                simp only [Act.put, List.setIfInBounds_toArray, List.set_cons_zero, List.set_cons_succ]
                refine take_run (v := ?_) 9 (some 62) rfl rfl (by kernel_rfl) (by kernel_rfl) (by kernel_rfl) (fun _ _ _ h => h) hHeld (by rfl) ?_ ?_
                rotate_left
                · intro _ hSw; go_simp; try with_reducible rfl
                simp only [Act.put, List.setIfInBounds_toArray, List.set_cons_zero, List.set_cons_succ]
                refine take_run (v := ?_) 10 (some 63) rfl rfl (by kernel_rfl) (by kernel_rfl) (by kernel_rfl) (fun _ _ _ h => h) hHeld (by rfl) ?_ ?_
                rotate_left
                · intro _ hSw; go_simp; try with_reducible rfl
                simp only [Act.put, List.setIfInBounds_toArray, List.set_cons_zero, List.set_cons_succ]
                refine take_run (v := ?_) 11 (some 64) rfl rfl (by kernel_rfl) (by kernel_rfl) (by kernel_rfl) (fun _ _ _ h => h) hHeld (by rfl) ?_ ?_
                rotate_left
                · intro _ hSw; go_simp; try with_reducible rfl
                simp only [Act.put, List.setIfInBounds_toArray, List.set_cons_zero, List.set_cons_succ]
                refine take_run (v := ?_) 12 (some 65) rfl rfl (by kernel_rfl) (by kernel_rfl) (by kernel_rfl) (fun _ _ _ h => h) hHeld (by rfl) ?_ ?_
                rotate_left
                · intro _ hSw; go_simp; try with_reducible rfl
                simp only [Act.put, List.setIfInBounds_toArray, List.set_cons_zero, List.set_cons_succ]
                refine take_run (v := ?_) 13 (some 66) rfl rfl (by kernel_rfl) (by kernel_rfl) (by kernel_rfl) (fun _ _ _ h => h) hHeld (by rfl) ?_ ?_
                rotate_left
                · intro _ hSw; go_simp; try with_reducible rfl
                simp only [Act.put, List.setIfInBounds_toArray, List.set_cons_zero, List.set_cons_succ]
                refine take_run (v := ?_) 14 (some 67) rfl rfl (by kernel_rfl) (by kernel_rfl) (by kernel_rfl) (fun _ _ _ h => h) hHeld (by rfl) ?_ ?_
                rotate_left
                · intro _ hSw; go_simp; try with_reducible rfl
                simp only [Act.put, List.setIfInBounds_toArray, List.set_cons_zero, List.set_cons_succ]
                refine take_run (v := ?_) 15 (some 68) rfl rfl (by kernel_rfl) (by kernel_rfl) (by kernel_rfl) (fun _ _ _ h => h) hHeld (by rfl) ?_ ?_
                rotate_left
                · intro _ hSw; go_simp; try with_reducible rfl
                simp only [Act.put, List.setIfInBounds_toArray, List.set_cons_zero, List.set_cons_succ]
                refine take_run (v := ?_) 16 (some 69) rfl rfl (by kernel_rfl) (by kernel_rfl) (by kernel_rfl) (fun _ _ _ h => h) hHeld (by rfl) ?_ ?_
                rotate_left
                · intro _ hSw; go_simp; try with_reducible rfl
                simp only [Act.put, List.setIfInBounds_toArray, List.set_cons_zero, List.set_cons_succ]
                refine take_at 17 (some 70) rfl rfl (by kernel_rfl) (by kernel_rfl) (by kernel_rfl) (fun _ _ _ h => h) (yieldsIf_load_mid (by rfl) 39 _ rfl xg (i * 16) rfl (bs Pi) _ (fun _ h => HP.out.1.1 _ h) Tryd.underlying39 rfl (Hi16.out Pi HP.out.2.1.1)) hHeld ?_
                simp only [Act.put, List.setIfInBounds_toArray, List.set_cons_zero, List.set_cons_succ]
                refine take_run (v := ?_) 18 (some 71) rfl rfl (by kernel_rfl) (by kernel_rfl) (by kernel_rfl) (fun _ _ _ h => h) hHeld (by rfl) ?_ ?_
                rotate_left
                · intro _ hSw; go_simp; try with_reducible rfl
                simp only [Act.put, List.setIfInBounds_toArray, List.set_cons_zero, List.set_cons_succ]
                refine take_run (v := ?_) 19 (some 72) rfl rfl (by kernel_rfl) (by kernel_rfl) (by kernel_rfl) (fun _ _ _ h => h) hHeld (by rfl) ?_ ?_
                rotate_left
                · intro _ hSw; go_simp; try with_reducible rfl
                simp only [Act.put, List.setIfInBounds_toArray, List.set_cons_zero, List.set_cons_succ]
                refine take_run (v := ?_) 20 (some 73) rfl rfl (by kernel_rfl) (by kernel_rfl) (by kernel_rfl) (fun _ _ _ h => h) hHeld (by rfl) ?_ ?_
                rotate_left
                · intro _ hSw; go_simp; try with_reducible rfl
                simp only [Act.put, List.setIfInBounds_toArray, List.set_cons_zero, List.set_cons_succ]
                refine take_at 21 (some 74) rfl rfl (by kernel_rfl) (by kernel_rfl) (by kernel_rfl) (fun _ _ _ h => h) (yieldsIf_load_mid (by rfl) 39 _ rfl yg (i * 16) rfl (bs Rk) _ (fun _ h => HP.out.1.2.2 _ h) Tryd.underlying39 rfl (Hi16.out Rk HP.out.2.1.2.2)) hHeld ?_
                simp only [Act.put, List.setIfInBounds_toArray, List.set_cons_zero, List.set_cons_succ]
                refine take_run (v := ?_) 22 (some 75) rfl rfl (by kernel_rfl) (by kernel_rfl) (by kernel_rfl) (fun _ _ _ h => h) hHeld (by rfl) ?_ ?_
                rotate_left
                · intro _ hSw; go_simp; try with_reducible rfl
                simp only [Act.put, List.setIfInBounds_toArray, List.set_cons_zero, List.set_cons_succ]
                refine take_run (v := ?_) 23 (some 76) rfl rfl (by kernel_rfl) (by kernel_rfl) (by kernel_rfl) (fun _ _ _ h => h) hHeld (by rfl) ?_ ?_
                rotate_left
                · intro _ hSw; go_simp; try with_reducible rfl
                simp only [Act.put, List.setIfInBounds_toArray, List.set_cons_zero, List.set_cons_succ]
                refine take_run (v := ?_) 24 (some 77) rfl rfl (by kernel_rfl) (by kernel_rfl) (by kernel_rfl) (fun _ _ _ h => h) hHeld (by rfl) ?_ ?_
                rotate_left
                · intro _ hSw; go_simp; try with_reducible rfl
                simp only [Act.put, List.setIfInBounds_toArray, List.set_cons_zero, List.set_cons_succ]
                refine take_skip 25 (some 78) rfl rfl (by kernel_rfl) (by kernel_rfl) (by kernel_rfl) (fun _ _ _ h => h) hHeld (by rfl) ?_
                simp only [Act.put, List.setIfInBounds_toArray, List.set_cons_zero, List.set_cons_succ]
                refine take_skip 26 (some 79) rfl rfl (by kernel_rfl) (by kernel_rfl) (by kernel_rfl) (fun _ _ _ h => h) hHeld (by rfl) ?_
                simp only [Act.put, List.setIfInBounds_toArray, List.set_cons_zero, List.set_cons_succ]
                refine take_skip 27 (some 80) rfl rfl (by kernel_rfl) (by kernel_rfl) (by kernel_rfl) (fun _ _ _ h => h) hHeld (by rfl) ?_
                simp only [Act.put, List.setIfInBounds_toArray, List.set_cons_zero, List.set_cons_succ]
                refine take_run (v := ?_) 28 (some 81) rfl rfl (by kernel_rfl) (by kernel_rfl) (by kernel_rfl) (fun _ _ _ h => h) hHeld (by rfl) ?_ ?_
                rotate_left
                · intro _ hSw; go_simp; try with_reducible rfl
                simp only [Act.put, List.setIfInBounds_toArray, List.set_cons_zero, List.set_cons_succ]
                refine take_run (v := ?_) 29 (some 82) rfl rfl (by kernel_rfl) (by kernel_rfl) (by kernel_rfl) (fun _ _ _ h => h) hHeld (by rfl) ?_ ?_
                rotate_left
                · intro _ hSw; go_simp; try with_reducible rfl
                simp only [Act.put, List.setIfInBounds_toArray, List.set_cons_zero, List.set_cons_succ]
                refine take_run (v := ?_) 30 (some 83) rfl rfl (by kernel_rfl) (by kernel_rfl) (by kernel_rfl) (fun _ _ _ h => h) hHeld (by rfl) ?_ ?_
                rotate_left
                · intro _ hSw; go_simp; try with_reducible rfl
                simp only [Act.put, List.setIfInBounds_toArray, List.set_cons_zero, List.set_cons_succ]
                refine wpAnyH_done (by kernel_rfl) ?_ _
                go_wp2_with fail
                go_roundg (gk - 1)
                case measure => omega
                case rel => exact ⟨i + 1, by omega, by go_num, hHeld⟩
              · have hd1 : decide (Pi = Pk) = false := decide_eq_false (fun h => hik (hxx.1 h))
                have hd2 : decide (Pi = Rk) = false := decide_eq_false hxy
                have hEa : ∀ w, (binOp .eql 39 (.agg (bs Pi).toArray) (.agg (bs Pk).toArray)).run Tryd.prog w = .ok (.bool false) w := fun w => by
                  have := run_eql_bx (l := Pi) (m := Pk) Tryd.underlying39 Tryd.underlying5 (by kernel_rfl) HP.out.2.1.1 HP.out.2.1.2.1 HP.out.2.2.1 HP.out.2.2.2.1 w
                  rwa [hd1] at this
                have hFa : ∀ w, (Op.equalIn 10000 39 (.agg (bs Pi).toArray) (.agg (bs Pk).toArray)).run Tryd.prog w = .ok false w := fun w => by
                  have := run_equalIn_bx (l := Pi) (m := Pk) Tryd.underlying39 Tryd.underlying5 (by kernel_rfl) HP.out.2.1.1 HP.out.2.1.2.1 HP.out.2.2.1 HP.out.2.2.2.1 w
                  rwa [hd1] at this
                have hEb : ∀ w, (binOp .eql 39 (.agg (bs Pi).toArray) (.agg (bs Rk).toArray)).run Tryd.prog w = .ok (.bool false) w := fun w => by
                  have := run_eql_bx (l := Pi) (m := Rk) Tryd.underlying39 Tryd.underlying5 (by kernel_rfl) HP.out.2.1.1 HP.out.2.1.2.2 HP.out.2.2.1 HP.out.2.2.2.2 w
                  rwa [hd2] at this
                have hFb : ∀ w, (Op.equalIn 10000 39 (.agg (bs Pi).toArray) (.agg (bs Rk).toArray)).run Tryd.prog w = .ok false w := fun w => by
                  have := run_equalIn_bx (l := Pi) (m := Rk) Tryd.underlying39 Tryd.underlying5 (by kernel_rfl) HP.out.2.1.1 HP.out.2.1.2.2 HP.out.2.2.1 HP.out.2.2.2.2 w
                  rwa [hd2] at this
                clear hxx hxy hd1 hd2
                have hikj : ¬ (i : Int) = (k : Int) := by omega
                have hiki : ((i : Int) == (k : Int)) = false := by simp; omega
                clear hik
                go_wp2_with fail
                refine wp_region_held_drew (S := (fun w' => QI w w' N xg yg H1 H2)) (by kernel_rfl) ?_ (fun hHeld => ?_)
                · exact hQ.out.below ((Below.refl _ _).drew)
                refine take_run (v := ?_) 0 (some 53) rfl rfl (by kernel_rfl) (by kernel_rfl) (by kernel_rfl) (fun _ _ _ h => h) hHeld (by rfl) ?_ ?_
                rotate_left
                · intro _ hSw; go_simp; try with_reducible rfl
                simp only [Act.put, List.setIfInBounds_toArray, List.set_cons_zero, List.set_cons_succ]
                refine take_run (v := ?_) 1 (some 54) rfl rfl (by kernel_rfl) (by kernel_rfl) (by kernel_rfl) (fun _ _ _ h => h) hHeld (by rfl) ?_ ?_
                rotate_left
                · intro _ hSw; go_simp; try with_reducible rfl
                simp only [Act.put, List.setIfInBounds_toArray, List.set_cons_zero, List.set_cons_succ]
                refine take_run (v := ?_) 2 (some 55) rfl rfl (by kernel_rfl) (by kernel_rfl) (by kernel_rfl) (fun _ _ _ h => h) hHeld (by rfl) ?_ ?_
                rotate_left
                · intro _ hSw; go_simp; try with_reducible rfl
                simp only [Act.put, List.setIfInBounds_toArray, List.set_cons_zero, List.set_cons_succ]
                refine take_at 3 (some 56) rfl rfl (by kernel_rfl) (by kernel_rfl) (by kernel_rfl) (fun _ _ _ h => h) (yieldsIf_load_mid (by rfl) 39 _ rfl xg (i * 16) rfl (bs Pi) _ (fun _ h => HP.out.1.1 _ h) Tryd.underlying39 rfl (Hi16.out Pi HP.out.2.1.1)) hHeld ?_
                simp only [Act.put, List.setIfInBounds_toArray, List.set_cons_zero, List.set_cons_succ]
                refine take_run (v := ?_) 4 (some 57) rfl rfl (by kernel_rfl) (by kernel_rfl) (by kernel_rfl) (fun _ _ _ h => h) hHeld (by rfl) ?_ ?_
                rotate_left
                · intro _ hSw; go_simp; try with_reducible rfl
                simp only [Act.put, List.setIfInBounds_toArray, List.set_cons_zero, List.set_cons_succ]
                refine take_run (v := ?_) 5 (some 58) rfl rfl (by kernel_rfl) (by kernel_rfl) (by kernel_rfl) (fun _ _ _ h => h) hHeld (by rfl) ?_ ?_
                rotate_left
                · intro _ hSw; go_simp; try with_reducible rfl
                simp only [Act.put, List.setIfInBounds_toArray, List.set_cons_zero, List.set_cons_succ]
                refine take_run (v := ?_) 6 (some 59) rfl rfl (by kernel_rfl) (by kernel_rfl) (by kernel_rfl) (fun _ _ _ h => h) hHeld (by rfl) ?_ ?_
                rotate_left
                · intro _ hSw; go_simp; try with_reducible rfl
                simp only [Act.put, List.setIfInBounds_toArray, List.set_cons_zero, List.set_cons_succ]
                refine take_at 7 (some 60) rfl rfl (by kernel_rfl) (by kernel_rfl) (by kernel_rfl) (fun _ _ _ h => h) (yieldsIf_load_mid (by rfl) 39 _ rfl xg (k * 16) rfl (bs Pk) _ (fun _ h => HP.out.1.2.1 _ h) Tryd.underlying39 rfl (Hi16.out Pk HP.out.2.1.2.1)) hHeld ?_
                simp only [Act.put, List.setIfInBounds_toArray, List.set_cons_zero, List.set_cons_succ]
                refine take_run (v := ?_) 8 (some 61) rfl rfl (by kernel_rfl) (by kernel_rfl) (by kernel_rfl) (fun _ _ _ h => h) hHeld (by rfl) ?_ ?_
                rotate_left
                · intro _ hSw; go_simp; try with_reducible rfl
                simp only [Act.put, List.setIfInBounds_toArray, List.set_cons_zero, List.set_cons_succ]
                refine take_run (v := ?_) 9 (some 62) rfl rfl (by kernel_rfl) (by kernel_rfl) (by kernel_rfl) (fun _ _ _ h => h) hHeld (by rfl) ?_ ?_
                rotate_left
                · intro _ hSw; go_simp; try with_reducible rfl
                simp only [Act.put, List.setIfInBounds_toArray, List.set_cons_zero, List.set_cons_succ]
                refine take_run (v := ?_) 10 (some 63) rfl rfl (by kernel_rfl) (by kernel_rfl) (by kernel_rfl) (fun _ _ _ h => h) hHeld (by rfl) ?_ ?_
                rotate_left
                · intro _ hSw; go_simp; try with_reducible rfl
                simp only [Act.put, List.setIfInBounds_toArray, List.set_cons_zero, List.set_cons_succ]
                refine take_run (v := ?_) 11 (some 64) rfl rfl (by kernel_rfl) (by kernel_rfl) (by kernel_rfl) (fun _ _ _ h => h) hHeld (by rfl) ?_ ?_
                rotate_left
                · intro _ hSw; go_simp; try with_reducible rfl
                simp only [Act.put, List.setIfInBounds_toArray, List.set_cons_zero, List.set_cons_succ]
                refine take_run (v := ?_) 12 (some 65) rfl rfl (by kernel_rfl) (by kernel_rfl) (by kernel_rfl) (fun _ _ _ h => h) hHeld (by rfl) ?_ ?_
                rotate_left
                · intro _ hSw; go_simp; try with_reducible rfl
                simp only [Act.put, List.setIfInBounds_toArray, List.set_cons_zero, List.set_cons_succ]
                refine take_run (v := ?_) 13 (some 66) rfl rfl (by kernel_rfl) (by kernel_rfl) (by kernel_rfl) (fun _ _ _ h => h) hHeld (by rfl) ?_ ?_
                rotate_left
                · intro _ hSw; go_simp; try with_reducible rfl
                simp only [Act.put, List.setIfInBounds_toArray, List.set_cons_zero, List.set_cons_succ]
                refine take_run (v := ?_) 14 (some 67) rfl rfl (by kernel_rfl) (by kernel_rfl) (by kernel_rfl) (fun _ _ _ h => h) hHeld (by rfl) ?_ ?_
                rotate_left
                · intro _ hSw; go_simp; try with_reducible rfl
                simp only [Act.put, List.setIfInBounds_toArray, List.set_cons_zero, List.set_cons_succ]
                refine take_run (v := ?_) 15 (some 68) rfl rfl (by kernel_rfl) (by kernel_rfl) (by kernel_rfl) (fun _ _ _ h => h) hHeld (by rfl) ?_ ?_
                rotate_left
                · intro _ hSw; go_simp; try with_reducible rfl
                simp only [Act.put, List.setIfInBounds_toArray, List.set_cons_zero, List.set_cons_succ]
                refine take_run (v := ?_) 16 (some 69) rfl rfl (by kernel_rfl) (by kernel_rfl) (by kernel_rfl) (fun _ _ _ h => h) hHeld (by rfl) ?_ ?_
                rotate_left
                · intro _ hSw; go_simp; try with_reducible rfl
                simp only [Act.put, List.setIfInBounds_toArray, List.set_cons_zero, List.set_cons_succ]
                refine take_at 17 (some 70) rfl rfl (by kernel_rfl) (by kernel_rfl) (by kernel_rfl) (fun _ _ _ h => h) (yieldsIf_load_mid (by rfl) 39 _ rfl xg (i * 16) rfl (bs Pi) _ (fun _ h => HP.out.1.1 _ h) Tryd.underlying39 rfl (Hi16.out Pi HP.out.2.1.1)) hHeld ?_
                simp only [Act.put, List.setIfInBounds_toArray, List.set_cons_zero, List.set_cons_succ]
                refine take_run (v := ?_) 18 (some 71) rfl rfl (by kernel_rfl) (by kernel_rfl) (by kernel_rfl) (fun _ _ _ h => h) hHeld (by rfl) ?_ ?_
                rotate_left
                · intro _ hSw; go_simp; try with_reducible rfl
                simp only [Act.put, List.setIfInBounds_toArray, List.set_cons_zero, List.set_cons_succ]
                refine take_run (v := ?_) 19 (some 72) rfl rfl (by kernel_rfl) (by kernel_rfl) (by kernel_rfl) (fun _ _ _ h => h) hHeld (by rfl) ?_ ?_
                rotate_left
                · intro _ hSw; go_simp; try with_reducible rfl
                simp only [Act.put, List.setIfInBounds_toArray, List.set_cons_zero, List.set_cons_succ]
                refine take_run (v := ?_) 20 (some 73) rfl rfl (by kernel_rfl) (by kernel_rfl) (by kernel_rfl) (fun _ _ _ h => h) hHeld (by rfl) ?_ ?_
                rotate_left
                · intro _ hSw; go_simp; try with_reducible rfl
                simp only [Act.put, List.setIfInBounds_toArray, List.set_cons_zero, List.set_cons_succ]
                refine take_at 21 (some 74) rfl rfl (by kernel_rfl) (by kernel_rfl) (by kernel_rfl) (fun _ _ _ h => h) (yieldsIf_load_mid (by rfl) 39 _ rfl yg (k * 16) rfl (bs Rk) _ (fun _ h => HP.out.1.2.2 _ h) Tryd.underlying39 rfl (Hi16.out Rk HP.out.2.1.2.2)) hHeld ?_
                simp only [Act.put, List.setIfInBounds_toArray, List.set_cons_zero, List.set_cons_succ]
                refine take_run (v := ?_) 22 (some 75) rfl rfl (by kernel_rfl) (by kernel_rfl) (by kernel_rfl) (fun _ _ _ h => h) hHeld (by rfl) ?_ ?_
                rotate_left
                · intro _ hSw; go_simp; try with_reducible rfl
                simp only [Act.put, List.setIfInBounds_toArray, List.set_cons_zero, List.set_cons_succ]
                refine take_run (v := ?_) 23 (some 76) rfl rfl (by kernel_rfl) (by kernel_rfl) (by kernel_rfl) (fun _ _ _ h => h) hHeld (by rfl) ?_ ?_
                rotate_left
                · intro _ hSw; go_simp; try with_reducible rfl
                simp only [Act.put, List.setIfInBounds_toArray, List.set_cons_zero, List.set_cons_succ]
                refine take_run (v := ?_) 24 (some 77) rfl rfl (by kernel_rfl) (by kernel_rfl) (by kernel_rfl) (fun _ _ _ h => h) hHeld (by rfl) ?_ ?_
                rotate_left
                · intro _ hSw; go_simp; try with_reducible rfl
                simp only [Act.put, List.setIfInBounds_toArray, List.set_cons_zero, List.set_cons_succ]
                refine take_skip 25 (some 78) rfl rfl (by kernel_rfl) (by kernel_rfl) (by kernel_rfl) (fun _ _ _ h => h) hHeld (by rfl) ?_
                simp only [Act.put, List.setIfInBounds_toArray, List.set_cons_zero, List.set_cons_succ]
                refine take_skip 26 (some 79) rfl rfl (by kernel_rfl) (by kernel_rfl) (by kernel_rfl) (fun _ _ _ h => h) hHeld (by rfl) ?_
                simp only [Act.put, List.setIfInBounds_toArray, List.set_cons_zero, List.set_cons_succ]
                refine take_skip 27 (some 80) rfl rfl (by kernel_rfl) (by kernel_rfl) (by kernel_rfl) (fun _ _ _ h => h) hHeld (by rfl) ?_
                simp only [Act.put, List.setIfInBounds_toArray, List.set_cons_zero, List.set_cons_succ]
                refine take_run (v := ?_) 28 (some 81) rfl rfl (by kernel_rfl) (by kernel_rfl) (by kernel_rfl) (fun _ _ _ h => h) hHeld (by rfl) ?_ ?_
                rotate_left
                · intro _ hSw; go_simp; try with_reducible rfl
                simp only [Act.put, List.setIfInBounds_toArray, List.set_cons_zero, List.set_cons_succ]
                refine take_run (v := ?_) 29 (some 82) rfl rfl (by kernel_rfl) (by kernel_rfl) (by kernel_rfl) (fun _ _ _ h => h) hHeld (by rfl) ?_ ?_
                rotate_left
                · intro _ hSw; go_simp; try with_reducible rfl
                simp only [Act.put, List.setIfInBounds_toArray, List.set_cons_zero, List.set_cons_succ]
                refine take_run (v := ?_) 30 (some 83) rfl rfl (by kernel_rfl) (by kernel_rfl) (by kernel_rfl) (fun _ _ _ h => h) hHeld (by rfl) ?_ ?_
                rotate_left
                · intro _ hSw; go_simp; try with_reducible rfl
                simp only [Act.put, List.setIfInBounds_toArray, List.set_cons_zero, List.set_cons_succ]
                refine wpAnyH_done (by kernel_rfl) ?_ _
                go_wp2_with fail
                go_roundg (gk - 1)
                case measure => omega
                case rel => exact ⟨k + 1, by omega, by go_num, hHeld⟩
            · have hkti : ¬ (k : Int) < 16 := by omega
              clear hkg
              go_wp2_with fail
              go_roundg (g1 - 1)
              case measure => omega
              case rel => exact ⟨i + 1, by omega, by go_num, hQ⟩
        · have hlti : ¬ (i : Int) < 16 := by omega
          go_wp2_with (go_at_call 9; refine (known7_any _ hQ.out.et).mono ?_; rintro en w6 ⟨rfl, hb6⟩)
          go_ret
          exact ⟨rfl, by rw [HN.out]; exact (hQ.out.below hb6).bel⟩
  · have Hy : Hid (∀ i k, i < 16 → k < 16 → ¬ nextL H1 i = nextL H2 k) := by
      intro i k hi hk h
      rw [← HH.out.1, ← HH2.out] at h
      exact hac (head_place Hab.out.1 Hab.out.2.1 Hab.out.2.2.1 Hab.out.2.2.2 hi hk h).2.1
    have hai : ((a : Int) == (c : Int)) = false := by simp; omega
    have haj : ¬ (a : Int) = (c : Int) := by omega
    clear hac
    go_wp2_with fail
    go_loopg [12] 16 (fun g i' wr => ∃ i : Nat, i + g = 16 ∧ i' = .int .i64 i ∧ Hid (QI w wr N xg yg H1 H2))
    case atStart => exact ⟨0, rfl, rfl, HQ⟩
    case round =>
      obtain ⟨i, hig, rfl, hQ⟩ := hrel
      clear HQ
      obtain ⟨g1, hg1⟩ : ∃ g1, g1 = gk := ⟨_, rfl⟩
      subst hg1
      by_cases hlt : i < 16
      · have hlti : (i : Int) < 16 := by omega
        have hi0 : (0 : Int) ≤ (i : Int) := by omega
        go_wp2_with fail
        go_loopg [13] 16 (fun g k' wr => ∃ k : Nat, k + g = 16 ∧ k' = .int .i64 k ∧ Hid (QI w wr N xg yg H1 H2))
        case atStart => exact ⟨0, rfl, rfl, hQ⟩
        case round =>
          clear hQ
          obtain ⟨k, hkg, rfl, hQ⟩ := hrel
          by_cases hkt : k < 16
          · have hlkt : (k : Int) < 16 := by omega
            have hk0 : (0 : Int) ≤ (k : Int) := by omega
            obtain ⟨Pi, hPi⟩ : ∃ P, nextL H1 i = P := ⟨_, rfl⟩
            obtain ⟨Pk, hPk⟩ : ∃ P, nextL H1 k = P := ⟨_, rfl⟩
            obtain ⟨Rk, hRk⟩ : ∃ P, nextL H2 k = P := ⟨_, rfl⟩
            have hxx := Hx.out i k hlt hkt
            have hxy := Hy.out i k hlt hkt
            rw [hPi, hPk] at hxx
            rw [hPi, hRk] at hxy
            have HP : Hid (((∀ w', QI w w' N xg yg H1 H2 → w'.rangeAt xg (i * 16) (bs Pi)) ∧ (∀ w', QI w w' N xg yg H1 H2 → w'.rangeAt xg (k * 16) (bs Pk)) ∧ (∀ w', QI w w' N xg yg H1 H2 → w'.rangeAt yg (k * 16) (bs Rk))) ∧
                (Pi.length = 16 ∧ Pk.length = 16 ∧ Rk.length = 16) ∧ ((∀ x ∈ Pi, x < 256) ∧ (∀ x ∈ Pk, x < 256) ∧ (∀ x ∈ Rk, x < 256))) := by
              rw [← hPi, ← hPk, ← hRk]
              exact ⟨⟨fun _ h => h.x i hlt, fun _ h => h.x k hkt, fun _ h => h.y k hkt⟩, ⟨nextL_length _ HH.out.2.1, nextL_length _ HH.out.2.1, nextL_length _ HH.out.2.2.2.1⟩, nextL_lt _ HH.out.2.2.1, nextL_lt _ HH.out.2.2.1, nextL_lt _ HH.out.2.2.2.2⟩
            clear hPi hPk hRk
            by_cases hik : i = k
            · have hd1 : decide (Pi = Pk) = true := decide_eq_true (hxx.2 hik)
              have hd2 : decide (Pi = Rk) = false := decide_eq_false hxy
              have hEa : ∀ w, (binOp .eql 39 (.agg (bs Pi).toArray) (.agg (bs Pk).toArray)).run Tryd.prog w = .ok (.bool true) w := fun w => by
                have := run_eql_bx (l := Pi) (m := Pk) Tryd.underlying39 Tryd.underlying5 (by kernel_rfl) HP.out.2.1.1 HP.out.2.1.2.1 HP.out.2.2.1 HP.out.2.2.2.1 w
                rwa [hd1] at this
              have hFa : ∀ w, (Op.equalIn 10000 39 (.agg (bs Pi).toArray) (.agg (bs Pk).toArray)).run Tryd.prog w = .ok true w := fun w => by
                have := run_equalIn_bx (l := Pi) (m := Pk) Tryd.underlying39 Tryd.underlying5 (by kernel_rfl) HP.out.2.1.1 HP.out.2.1.2.1 HP.out.2.2.1 HP.out.2.2.2.1 w
                rwa [hd1] at this
              have hEb : ∀ w, (binOp .eql 39 (.agg (bs Pi).toArray) (.agg (bs Rk).toArray)).run Tryd.prog w = .ok (.bool false) w := fun w => by
                have := run_eql_bx (l := Pi) (m := Rk) Tryd.underlying39 Tryd.underlying5 (by kernel_rfl) HP.out.2.1.1 HP.out.2.1.2.2 HP.out.2.2.1 HP.out.2.2.2.2 w
                rwa [hd2] at this
              have hFb : ∀ w, (Op.equalIn 10000 39 (.agg (bs Pi).toArray) (.agg (bs Rk).toArray)).run Tryd.prog w = .ok false w := fun w => by
                have := run_equalIn_bx (l := Pi) (m := Rk) Tryd.underlying39 Tryd.underlying5 (by kernel_rfl) HP.out.2.1.1 HP.out.2.1.2.2 HP.out.2.2.1 HP.out.2.2.2.2 w
                rwa [hd2] at this
              clear hxx hxy hd1 hd2
              have hiki : ((i : Int) == (k : Int)) = true := by simp [hik]
              have hikj : (i : Int) = (k : Int) := by omega
              subst hik
              clear hikj
              go_wp2_with fail
              refine wp_region_held_drew (S := (fun w' => QI w w' N xg yg H1 H2)) (by kernel_rfl) ?_ (fun hHeld => ?_)
              · exact hQ.out.below ((Below.refl _ _).drew)
              refine take_run (v := ?_) 0 (some 53) rfl rfl (by kernel_rfl) (by kernel_rfl) (by kernel_rfl) (fun _ _ _ h => h) hHeld (by rfl) ?_ ?_
              rotate_left
              · intro _ hSw; go_simp; try with_reducible rfl
              simp only [Act.put, List.setIfInBounds_toArray, List.set_cons_zero, List.set_cons_succ]
              refine take_run (v := ?_) 1 (some 54) rfl rfl (by kernel_rfl) (by kernel_rfl) (by kernel_rfl) (fun _ _ _ h => h) hHeld (by rfl) ?_ ?_
              rotate_left
              · intro _ hSw; go_simp; try with_reducible rfl
              simp only [Act.put, List.setIfInBounds_toArray, List.set_cons_zero, List.set_cons_succ]
              refine take_run (v := ?_) 2 (some 55) rfl rfl (by kernel_rfl) (by kernel_rfl) (by kernel_rfl) (fun _ _ _ h => h) hHeld (by rfl) ?_ ?_
              rotate_left
              · intro _ hSw; go_simp; try with_reducible rfl
              simp only [Act.put, List.setIfInBounds_toArray, List.set_cons_zero, List.set_cons_succ]
              refine take_at 3 (some 56) rfl rfl (by kernel_rfl) (by kernel_rfl) (by kernel_rfl) (fun _ _ _ h => h) (yieldsIf_load_mid (by rfl) 39 _ rfl xg (i * 16) rfl (bs Pi) _ (fun _ h => HP.out.1.1 _ h) Tryd.underlying39 rfl (Hi16.out Pi HP.out.2.1.1)) hHeld ?_
              simp only [Act.put, List.setIfInBounds_toArray, List.set_cons_zero, List.set_cons_succ]
              refine take_run (v := ?_) 4 (some 57) rfl rfl (by kernel_rfl) (by kernel_rfl) (by kernel_rfl) (fun _ _ _ h => h) hHeld (by rfl) ?_ ?_
              rotate_left
              · intro _ hSw; go_simp; try with_reducible rfl
              simp only [Act.put, List.setIfInBounds_toArray, List.set_cons_zero, List.set_cons_succ]
              refine take_run (v := ?_) 5 (some 58) rfl rfl (by kernel_rfl) (by kernel_rfl) (by kernel_rfl) (fun _ _ _ h => h) hHeld (by rfl) ?_ ?_
              rotate_left
              · intro _ hSw; go_simp; try with_reducible rfl
              simp only [Act.put, List.setIfInBounds_toArray, List.set_cons_zero, List.set_cons_succ]
              refine take_run (v := ?_) 6 (some 59) rfl rfl (by kernel_rfl) (by kernel_rfl) (by kernel_rfl) (fun _ _ _ h => h) hHeld (by rfl) ?_ ?_
              rotate_left
              · intro _ hSw; go_simp; try with_reducible rfl
              simp only [Act.put, List.setIfInBounds_toArray, List.set_cons_zero, List.set_cons_succ]
              refine take_at 7 (some 60) rfl rfl (by kernel_rfl) (by kernel_rfl) (by kernel_rfl) (fun _ _ _ h => h) (yieldsIf_load_mid (by rfl) 39 _ rfl xg (i * 16) rfl (bs Pk) _ (fun _ h => HP.out.1.2.1 _ h) Tryd.underlying39 rfl (Hi16.out Pk HP.out.2.1.2.1)) hHeld ?_
              simp only [Act.put, List.setIfInBounds_toArray, List.set_cons_zero, List.set_cons_succ]
              refine take_run (v := ?_) 8 (some 61) rfl rfl (by kernel_rfl) (by kernel_rfl) (by kernel_rfl) (fun _ _ _ h => h) hHeld (by rfl) ?_ ?_
              rotate_left
              · intro _ hSw; go_simp; try with_reducible rfl
              simp only [Act.put, List.setIfInBounds_toArray, List.set_cons_zero, List.set_cons_succ]
              refine take_run (v := ?_) 9 (some 62) rfl rfl (by kernel_rfl) (by kernel_rfl) (by kernel_rfl) (fun _ _ _ h => h) hHeld (by rfl) ?_ ?_
              rotate_left
              · intro _ hSw; go_simp; try with_reducible rfl
              simp only [Act.put, List.setIfInBounds_toArray, List.set_cons_zero, List.set_cons_succ]
              refine take_run (v := ?_) 10 (some 63) rfl rfl (by kernel_rfl) (by kernel_rfl) (by kernel_rfl) (fun _ _ _ h => h) hHeld (by rfl) ?_ ?_
              rotate_left
              · intro _ hSw; go_simp; try with_reducible rfl
              simp only [Act.put, List.setIfInBounds_toArray, List.set_cons_zero, List.set_cons_succ]
              refine take_run (v := ?_) 11 (some 64) rfl rfl (by kernel_rfl) (by kernel_rfl) (by kernel_rfl) (fun _ _ _ h => h) hHeld (by rfl) ?_ ?_
              rotate_left
              · intro _ hSw; go_simp; try with_reducible rfl
              simp only [Act.put, List.setIfInBounds_toArray, List.set_cons_zero, List.set_cons_succ]
              refine take_run (v := ?_) 12 (some 65) rfl rfl (by kernel_rfl) (by kernel_rfl) (by kernel_rfl) (fun _ _ _ h => h) hHeld (by rfl) ?_ ?_
              rotate_left
              · intro _ hSw; go_simp; try with_reducible rfl
              simp only [Act.put, List.setIfInBounds_toArray, List.set_cons_zero, List.set_cons_succ]
              refine take_run (v := ?_) 13 (some 66) rfl rfl (by kernel_rfl) (by kernel_rfl) (by kernel_rfl) (fun _ _ _ h => h) hHeld (by rfl) ?_ ?_
              rotate_left
              · intro _ hSw; go_simp; try with_reducible rfl
              simp only [Act.put, List.setIfInBounds_toArray, List.set_cons_zero, List.set_cons_succ]
              refine take_run (v := ?_) 14 (some 67) rfl rfl (by kernel_rfl) (by kernel_rfl) (by kernel_rfl) (fun _ _ _ h => h) hHeld (by rfl) ?_ ?_
              rotate_left
              · intro _ hSw; go_simp; try with_reducible rfl
              simp only [Act.put, List.setIfInBounds_toArray, List.set_cons_zero, List.set_cons_succ]
              refine take_run (v := ?_) 15 (some 68) rfl rfl (by kernel_rfl) (by kernel_rfl) (by kernel_rfl) (fun _ _ _ h => h) hHeld (by rfl) ?_ ?_
              rotate_left
              · intro _ hSw; go_simp; try with_reducible rfl
              simp only [Act.put, List.setIfInBounds_toArray, List.set_cons_zero, List.set_cons_succ]
              refine take_run (v := ?_) 16 (some 69) rfl rfl (by kernel_rfl) (by kernel_rfl) (by kernel_rfl) (fun _ _ _ h => h) hHeld (by rfl) ?_ ?_
              rotate_left
              · intro _ hSw; go_simp; try with_reducible rfl
              simp only [Act.put, List.setIfInBounds_toArray, List.set_cons_zero, List.set_cons_succ]
              refine take_at 17 (some 70) rfl rfl (by kernel_rfl) (by kernel_rfl) (by kernel_rfl) (fun _ _ _ h => h) (yieldsIf_load_mid (by rfl) 39 _ rfl xg (i * 16) rfl (bs Pi) _ (fun _ h => HP.out.1.1 _ h) Tryd.underlying39 rfl (Hi16.out Pi HP.out.2.1.1)) hHeld ?_
              simp only [Act.put, List.setIfInBounds_toArray, List.set_cons_zero, List.set_cons_succ]
              refine take_run (v := ?_) 18 (some 71) rfl rfl (by kernel_rfl) (by kernel_rfl) (by kernel_rfl) (fun _ _ _ h => h) hHeld (by rfl) ?_ ?_
              rotate_left
              · intro _ hSw; go_simp; try with_reducible rfl
              simp only [Act.put, List.setIfInBounds_toArray, List.set_cons_zero, List.set_cons_succ]
              refine take_run (v := ?_) 19 (some 72) rfl rfl (by kernel_rfl) (by kernel_rfl) (by kernel_rfl) (fun _ _ _ h => h) hHeld (by rfl) ?_ ?_
              rotate_left
              · intro _ hSw; go_simp; try with_reducible rfl
              simp only [Act.put, List.setIfInBounds_toArray, List.set_cons_zero, List.set_cons_succ]
              refine take_run (v := ?_) 20 (some 73) rfl rfl (by kernel_rfl) (by kernel_rfl) (by kernel_rfl) (fun _ _ _ h => h) hHeld (by rfl) ?_ ?_
              rotate_left
              · intro _ hSw; go_simp; try with_reducible rfl
              simp only [Act.put, List.setIfInBounds_toArray, List.set_cons_zero, List.set_cons_succ]
              refine take_at 21 (some 74) rfl rfl (by kernel_rfl) (by kernel_rfl) (by kernel_rfl) (fun _ _ _ h => h) (yieldsIf_load_mid (by rfl) 39 _ rfl yg (i * 16) rfl (bs Rk) _ (fun _ h => HP.out.1.2.2 _ h) Tryd.underlying39 rfl (Hi16.out Rk HP.out.2.1.2.2)) hHeld ?_
              simp only [Act.put, List.setIfInBounds_toArray, List.set_cons_zero, List.set_cons_succ]
              refine take_run (v := ?_) 22 (some 75) rfl rfl (by kernel_rfl) (by kernel_rfl) (by kernel_rfl) (fun _ _ _ h => h) hHeld (by rfl) ?_ ?_
              rotate_left
              · intro _ hSw; go_simp; try with_reducible rfl
              simp only [Act.put, List.setIfInBounds_toArray, List.set_cons_zero, List.set_cons_succ]
              refine take_run (v := ?_) 23 (some 76) rfl rfl (by kernel_rfl) (by kernel_rfl) (by kernel_rfl) (fun _ _ _ h => h) hHeld (by rfl) ?_ ?_
              rotate_left
              · intro _ hSw; go_simp; try with_reducible rfl
              simp only [Act.put, List.setIfInBounds_toArray, List.set_cons_zero, List.set_cons_succ]
              refine take_run (v := ?_) 24 (some 77) rfl rfl (by kernel_rfl) (by kernel_rfl) (by kernel_rfl) (fun _ _ _ h => h) hHeld (by rfl) ?_ ?_
              rotate_left
              · intro _ hSw; go_simp; try with_reducible rfl
              simp only [Act.put, List.setIfInBounds_toArray, List.set_cons_zero, List.set_cons_succ]
              refine take_skip 25 (some 78) rfl rfl (by kernel_rfl) (by kernel_rfl) (by kernel_rfl) (fun _ _ _ h => h) hHeld (by rfl) ?_
              simp only [Act.put, List.setIfInBounds_toArray, List.set_cons_zero, List.set_cons_succ]
              refine take_skip 26 (some 79) rfl rfl (by kernel_rfl) (by kernel_rfl) (by kernel_rfl) (fun _ _ _ h => h) hHeld (by rfl) ?_
              simp only [Act.put, List.setIfInBounds_toArray, List.set_cons_zero, List.set_cons_succ]
              refine take_skip 27 (some 80) rfl rfl (by kernel_rfl) (by kernel_rfl) (by kernel_rfl) (fun _ _ _ h => h) hHeld (by rfl) ?_
              simp only [Act.put, List.setIfInBounds_toArray, List.set_cons_zero, List.set_cons_succ]
              refine take_run (v := ?_) 28 (some 81) rfl rfl (by kernel_rfl) (by kernel_rfl) (by kernel_rfl) (fun _ _ _ h => h) hHeld (by rfl) ?_ ?_
              rotate_left
              · intro _ hSw; go_simp; try with_reducible rfl
              simp only [Act.put, List.setIfInBounds_toArray, List.set_cons_zero, List.set_cons_succ]
              refine take_run (v := ?_) 29 (some 82) rfl rfl (by kernel_rfl) (by kernel_rfl) (by kernel_rfl) (fun _ _ _ h => h) hHeld (by rfl) ?_ ?_
              rotate_left
              · intro _ hSw; go_simp; try with_reducible rfl
              simp only [Act.put, List.setIfInBounds_toArray, List.set_cons_zero, List.set_cons_succ]
              refine take_run (v := ?_) 30 (some 83) rfl rfl (by kernel_rfl) (by kernel_rfl) (by kernel_rfl) (fun _ _ _ h => h) hHeld (by rfl) ?_ ?_
              rotate_left
              · intro _ hSw; go_simp; try with_reducible rfl
              simp only [Act.put, List.setIfInBounds_toArray, List.set_cons_zero, List.set_cons_succ]
              refine wpAnyH_done (by kernel_rfl) ?_ _
              go_wp2_with fail
              go_roundg (gk - 1)
              case measure => omega
              case rel => exact ⟨i + 1, by omega, by go_num, hHeld⟩
            · have hd1 : decide (Pi = Pk) = false := decide_eq_false (fun h => hik (hxx.1 h))
              have hd2 : decide (Pi = Rk) = false := decide_eq_false hxy
              have hEa : ∀ w, (binOp .eql 39 (.agg (bs Pi).toArray) (.agg (bs Pk).toArray)).run Tryd.prog w = .ok (.bool false) w := fun w => by
                have := run_eql_bx (l := Pi) (m := Pk) Tryd.underlying39 Tryd.underlying5 (by kernel_rfl) HP.out.2.1.1 HP.out.2.1.2.1 HP.out.2.2.1 HP.out.2.2.2.1 w
                rwa [hd1] at this
              have hFa : ∀ w, (Op.equalIn 10000 39 (.agg (bs Pi).toArray) (.agg (bs Pk).toArray)).run Tryd.prog w = .ok false w := fun w => by
                have := run_equalIn_bx (l := Pi) (m := Pk) Tryd.underlying39 Tryd.underlying5 (by kernel_rfl) HP.out.2.1.1 HP.out.2.1.2.1 HP.out.2.2.1 HP.out.2.2.2.1 w
                rwa [hd1] at this
              have hEb : ∀ w, (binOp .eql 39 (.agg (bs Pi).toArray) (.agg (bs Rk).toArray)).run Tryd.prog w = .ok (.bool false) w := fun w => by
                have := run_eql_bx (l := Pi) (m := Rk) Tryd.underlying39 Tryd.underlying5 (by kernel_rfl) HP.out.2.1.1 HP.out.2.1.2.2 HP.out.2.2.1 HP.out.2.2.2.2 w
                rwa [hd2] at this
              have hFb : ∀ w, (Op.equalIn 10000 39 (.agg (bs Pi).toArray) (.agg (bs Rk).toArray)).run Tryd.prog w = .ok false w := fun w => by
                have := run_equalIn_bx (l := Pi) (m := Rk) Tryd.underlying39 Tryd.underlying5 (by kernel_rfl) HP.out.2.1.1 HP.out.2.1.2.2 HP.out.2.2.1 HP.out.2.2.2.2 w
                rwa [hd2] at this
              clear hxx hxy hd1 hd2
              have hikj : ¬ (i : Int) = (k : Int) := by omega
              have hiki : ((i : Int) == (k : Int)) = false := by simp; omega
              clear hik
              go_wp2_with fail
              refine wp_region_held_drew (S := (fun w' => QI w w' N xg yg H1 H2)) (by kernel_rfl) ?_ (fun hHeld => ?_)
              · exact hQ.out.below ((Below.refl _ _).drew)
              refine take_run (v := ?_) 0 (some 53) rfl rfl (by kernel_rfl) (by kernel_rfl) (by kernel_rfl) (fun _ _ _ h => h) hHeld (by rfl) ?_ ?_
              rotate_left
              · intro _ hSw; go_simp; try with_reducible rfl
              simp only [Act.put, List.setIfInBounds_toArray, List.set_cons_zero, List.set_cons_succ]
              refine take_run (v := ?_) 1 (some 54) rfl rfl (by kernel_rfl) (by kernel_rfl) (by kernel_rfl) (fun _ _ _ h => h) hHeld (by rfl) ?_ ?_
              rotate_left
              · intro _ hSw; go_simp; try with_reducible rfl
              simp only [Act.put, List.setIfInBounds_toArray, List.set_cons_zero, List.set_cons_succ]
              refine take_run (v := ?_) 2 (some 55) rfl rfl (by kernel_rfl) (by kernel_rfl) (by kernel_rfl) (fun _ _ _ h => h) hHeld (by rfl) ?_ ?_
              rotate_left
              · intro _ hSw; go_simp; try with_reducible rfl
              simp only [Act.put, List.setIfInBounds_toArray, List.set_cons_zero, List.set_cons_succ]
              refine take_at 3 (some 56) rfl rfl (by kernel_rfl) (by kernel_rfl) (by kernel_rfl) (fun _ _ _ h => h) (yieldsIf_load_mid (by rfl) 39 _ rfl xg (i * 16) rfl (bs Pi) _ (fun _ h => HP.out.1.1 _ h) Tryd.underlying39 rfl (Hi16.out Pi HP.out.2.1.1)) hHeld ?_
              simp only [Act.put, List.setIfInBounds_toArray, List.set_cons_zero, List.set_cons_succ]
              refine take_run (v := ?_) 4 (some 57) rfl rfl (by kernel_rfl) (by kernel_rfl) (by kernel_rfl) (fun _ _ _ h => h) hHeld (by rfl) ?_ ?_
              rotate_left
              · intro _ hSw; go_simp; try with_reducible rfl
              simp only [Act.put, List.setIfInBounds_toArray, List.set_cons_zero, List.set_cons_succ]
              refine take_run (v := ?_) 5 (some 58) rfl rfl (by kernel_rfl) (by kernel_rfl) (by kernel_rfl) (fun _ _ _ h => h) hHeld (by rfl) ?_ ?_
              rotate_left
              · intro _ hSw; go_simp; try with_reducible rfl
              simp only [Act.put, List.setIfInBounds_toArray, List.set_cons_zero, List.set_cons_succ]
              refine take_run (v := ?_) 6 (some 59) rfl rfl (by kernel_rfl) (by kernel_rfl) (by kernel_rfl) (fun _ _ _ h => h) hHeld (by rfl) ?_ ?_
              rotate_left
              · intro _ hSw; go_simp; try with_reducible rfl
              simp only [Act.put, List.setIfInBounds_toArray, List.set_cons_zero, List.set_cons_succ]
              refine take_at 7 (some 60) rfl rfl (by kernel_rfl) (by kernel_rfl) (by kernel_rfl) (fun _ _ _ h => h) (yieldsIf_load_mid (by rfl) 39 _ rfl xg (k * 16) rfl (bs Pk) _ (fun _ h => HP.out.1.2.1 _ h) Tryd.underlying39 rfl (Hi16.out Pk HP.out.2.1.2.1)) hHeld ?_
              simp only [Act.put, List.setIfInBounds_toArray, List.set_cons_zero, List.set_cons_succ]
              refine take_run (v := ?_) 8 (some 61) rfl rfl (by kernel_rfl) (by kernel_rfl) (by kernel_rfl) (fun _ _ _ h => h) hHeld (by rfl) ?_ ?_
              rotate_left
              · intro _ hSw; go_simp; try with_reducible rfl
              simp only [Act.put, List.setIfInBounds_toArray, List.set_cons_zero, List.set_cons_succ]
              refine take_run (v := ?_) 9 (some 62) rfl rfl (by kernel_rfl) (by kernel_rfl) (by kernel_rfl) (fun _ _ _ h => h) hHeld (by rfl) ?_ ?_
              rotate_left
              · intro _ hSw; go_simp; try with_reducible rfl
              simp only [Act.put, List.setIfInBounds_toArray, List.set_cons_zero, List.set_cons_succ]
              refine take_run (v := ?_) 10 (some 63) rfl rfl (by kernel_rfl) (by kernel_rfl) (by kernel_rfl) (fun _ _ _ h => h) hHeld (by rfl) ?_ ?_
              rotate_left
              · intro _ hSw; go_simp; try with_reducible rfl
              simp only [Act.put, List.setIfInBounds_toArray, List.set_cons_zero, List.set_cons_succ]
              refine take_run (v := ?_) 11 (some 64) rfl rfl (by kernel_rfl) (by kernel_rfl) (by kernel_rfl) (fun _ _ _ h => h) hHeld (by rfl) ?_ ?_
              rotate_left
              · intro _ hSw; go_simp; try with_reducible rfl
              simp only [Act.put, List.setIfInBounds_toArray, List.set_cons_zero, List.set_cons_succ]
              refine take_run (v := ?_) 12 (some 65) rfl rfl (by kernel_rfl) (by kernel_rfl) (by kernel_rfl) (fun _ _ _ h => h) hHeld (by rfl) ?_ ?_
              rotate_left
              · intro _ hSw; go_simp; try with_reducible rfl
              simp only [Act.put, List.setIfInBounds_toArray, List.set_cons_zero, List.set_cons_succ]
              refine take_run (v := ?_) 13 (some 66) rfl rfl (by kernel_rfl) (by kernel_rfl) (by kernel_rfl) (fun _ _ _ h => h) hHeld (by rfl) ?_ ?_
              rotate_left
              · intro _ hSw; go_simp; try with_reducible rfl
              simp only [Act.put, List.setIfInBounds_toArray, List.set_cons_zero, List.set_cons_succ]
              refine take_run (v := ?_) 14 (some 67) rfl rfl (by kernel_rfl) (by kernel_rfl) (by kernel_rfl) (fun _ _ _ h => h) hHeld (by rfl) ?_ ?_
              rotate_left
              · intro _ hSw; go_simp; try with_reducible rfl
              simp only [Act.put, List.setIfInBounds_toArray, List.set_cons_zero, List.set_cons_succ]
              refine take_run (v := ?_) 15 (some 68) rfl rfl (by kernel_rfl) (by kernel_rfl) (by kernel_rfl) (fun _ _ _ h => h) hHeld (by rfl) ?_ ?_
              rotate_left
              · intro _ hSw; go_simp; try with_reducible rfl
              simp only [Act.put, List.setIfInBounds_toArray, List.set_cons_zero, List.set_cons_succ]
              refine take_run (v := ?_) 16 (some 69) rfl rfl (by kernel_rfl) (by kernel_rfl) (by kernel_rfl) (fun _ _ _ h => h) hHeld (by rfl) ?_ ?_
              rotate_left
              · intro _ hSw; go_simp; try with_reducible rfl
              simp only [Act.put, List.setIfInBounds_toArray, List.set_cons_zero, List.set_cons_succ]
              refine take_at 17 (some 70) rfl rfl (by kernel_rfl) (by kernel_rfl) (by kernel_rfl) (fun _ _ _ h => h) (yieldsIf_load_mid (by rfl) 39 _ rfl xg (i * 16) rfl (bs Pi) _ (fun _ h => HP.out.1.1 _ h) Tryd.underlying39 rfl (Hi16.out Pi HP.out.2.1.1)) hHeld ?_
              simp only [Act.put, List.setIfInBounds_toArray, List.set_cons_zero, List.set_cons_succ]
              refine take_run (v := ?_) 18 (some 71) rfl rfl (by kernel_rfl) (by kernel_rfl) (by kernel_rfl) (fun _ _ _ h => h) hHeld (by rfl) ?_ ?_
              rotate_left
              · intro _ hSw; go_simp; try with_reducible rfl
              simp only [Act.put, List.setIfInBounds_toArray, List.set_cons_zero, List.set_cons_succ]
              refine take_run (v := ?_) 19 (some 72) rfl rfl (by kernel_rfl) (by kernel_rfl) (by kernel_rfl) (fun _ _ _ h => h) hHeld (by rfl) ?_ ?_
              rotate_left
              · intro _ hSw; go_simp; try with_reducible rfl
              simp only [Act.put, List.setIfInBounds_toArray, List.set_cons_zero, List.set_cons_succ]
              refine take_run (v := ?_) 20 (some 73) rfl rfl (by kernel_rfl) (by kernel_rfl) (by kernel_rfl) (fun _ _ _ h => h) hHeld (by rfl) ?_ ?_
              rotate_left
              · intro _ hSw; go_simp; try with_reducible rfl
              simp only [Act.put, List.setIfInBounds_toArray, List.set_cons_zero, List.set_cons_succ]
              refine take_at 21 (some 74) rfl rfl (by kernel_rfl) (by kernel_rfl) (by kernel_rfl) (fun _ _ _ h => h) (yieldsIf_load_mid (by rfl) 39 _ rfl yg (k * 16) rfl (bs Rk) _ (fun _ h => HP.out.1.2.2 _ h) Tryd.underlying39 rfl (Hi16.out Rk HP.out.2.1.2.2)) hHeld ?_
              simp only [Act.put, List.setIfInBounds_toArray, List.set_cons_zero, List.set_cons_succ]
              refine take_run (v := ?_) 22 (some 75) rfl rfl (by kernel_rfl) (by kernel_rfl) (by kernel_rfl) (fun _ _ _ h => h) hHeld (by rfl) ?_ ?_
              rotate_left
              · intro _ hSw; go_simp; try with_reducible rfl
              simp only [Act.put, List.setIfInBounds_toArray, List.set_cons_zero, List.set_cons_succ]
              refine take_run (v := ?_) 23 (some 76) rfl rfl (by kernel_rfl) (by kernel_rfl) (by kernel_rfl) (fun _ _ _ h => h) hHeld (by rfl) ?_ ?_
              rotate_left
              · intro _ hSw; go_simp; try with_reducible rfl
              simp only [Act.put, List.setIfInBounds_toArray, List.set_cons_zero, List.set_cons_succ]
              refine take_run (v := ?_) 24 (some 77) rfl rfl (by kernel_rfl) (by kernel_rfl) (by kernel_rfl) (fun _ _ _ h => h) hHeld (by rfl) ?_ ?_
              rotate_left
              · intro _ hSw; go_simp; try with_reducible rfl
              simp only [Act.put, List.setIfInBounds_toArray, List.set_cons_zero, List.set_cons_succ]
              refine take_skip 25 (some 78) rfl rfl (by kernel_rfl) (by kernel_rfl) (by kernel_rfl) (fun _ _ _ h => h) hHeld (by rfl) ?_
              simp only [Act.put, List.setIfInBounds_toArray, List.set_cons_zero, List.set_cons_succ]
              refine take_skip 26 (some 79) rfl rfl (by kernel_rfl) (by kernel_rfl) (by kernel_rfl) (fun _ _ _ h => h) hHeld (by rfl) ?_
              simp only [Act.put, List.setIfInBounds_toArray, List.set_cons_zero, List.set_cons_succ]
              refine take_skip 27 (some 80) rfl rfl (by kernel_rfl) (by kernel_rfl) (by kernel_rfl) (fun _ _ _ h => h) hHeld (by rfl) ?_
              simp only [Act.put, List.setIfInBounds_toArray, List.set_cons_zero, List.set_cons_succ]
              refine take_run (v := ?_) 28 (some 81) rfl rfl (by kernel_rfl) (by kernel_rfl) (by kernel_rfl) (fun _ _ _ h => h) hHeld (by rfl) ?_ ?_
              rotate_left
              · intro _ hSw; go_simp; try with_reducible rfl
              simp only [Act.put, List.setIfInBounds_toArray, List.set_cons_zero, List.set_cons_succ]
              refine take_run (v := ?_) 29 (some 82) rfl rfl (by kernel_rfl) (by kernel_rfl) (by kernel_rfl) (fun _ _ _ h => h) hHeld (by rfl) ?_ ?_
              rotate_left
              · intro _ hSw; go_simp; try with_reducible rfl
              simp only [Act.put, List.setIfInBounds_toArray, List.set_cons_zero, List.set_cons_succ]
              refine take_run (v := ?_) 30 (some 83) rfl rfl (by kernel_rfl) (by kernel_rfl) (by kernel_rfl) (fun _ _ _ h => h) hHeld (by rfl) ?_ ?_
              rotate_left
              · intro _ hSw; go_simp; try with_reducible rfl
              simp only [Act.put, List.setIfInBounds_toArray, List.set_cons_zero, List.set_cons_succ]
              refine wpAnyH_done (by kernel_rfl) ?_ _
              go_wp2_with fail
              go_roundg (gk - 1)
              case measure => omega
              case rel => exact ⟨k + 1, by omega, by go_num, hHeld⟩
          · have hkti : ¬ (k : Int) < 16 := by omega
            clear hkg
            go_wp2_with fail
            go_roundg (g1 - 1)
            case measure => omega
            case rel => exact ⟨i + 1, by omega, by go_num, hQ⟩
      · have hlti : ¬ (i : Int) < 16 := by omega
        go_wp2_with (go_at_call 9; refine (known7_any _ hQ.out.et).mono ?_; rintro en w6 ⟨rfl, hb6⟩)
        go_ret
        exact ⟨rfl, by rw [HN.out]; exact (hQ.out.below hb6).bel⟩
end Go.Proofs.YtdopdaoapdeabaaDoor
