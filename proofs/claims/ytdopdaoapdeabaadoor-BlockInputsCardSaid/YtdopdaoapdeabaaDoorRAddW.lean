/- WALK: sacristanref04.add. -/
import Derived.Test.YtdopdaoapdeabaaDoorRowL
namespace Go.Proofs.YtdopdaoapdeabaaDoor
open Go.RowKit

set_option maxRecDepth 100000 in
set_option maxHeartbeats 2000000 in
theorem radd_any (v1 v2 : Value) (l k : List Nat) (w : World) (h1 : Reads w v1 (ks .i64 l)) (h2 : Reads w v2 (ks .i64 k)) (hl : l.length = 16) (hk : k.length = 16) (hlt : ∀ x ∈ l, x < 256) (hkt : ∀ x ∈ k, x < 256) :
    Calls Tryd.prog 54 #[v1, v2] w fun e w' => ∃ v, e = .returned v ∧ w'.ownsRow w.heap.size 3 1 v 16 (ks .i64 (addL l k)) ∧ Below w.heap.size w w' := by
  obtain ⟨b1, o1, c1, rfl, hc1, hb1, _⟩ := h1.get (i := 0) (by omega)
  obtain ⟨b2, o2, c2, rfl, hc2, hb2, _⟩ := h2.get (i := 0) (by omega)
  have hinfo : (Tryd.prog.info? 3).map (fun i => (i.zero, i.size, i.bytes)) = some (some (.int .i64 0), 1, 8) := by kernel_rfl
  obtain ⟨i0, hi0, hz0, hz1, hz2⟩ := info_parts hinfo
  have Hi0 := Lib.hid (And.intro hi0 (And.intro hz0 (And.intro hz1 hz2)))
  have Hl := Lib.hid (And.intro hl (And.intro hk (And.intro hlt hkt)))
  have HR := Lib.hid (And.intro h1 h2)
  rw [hl] at hc1 HR ⊢
  rw [hk] at hc2 HR ⊢
  clear hinfo hi0 hz0 hz1 hz2 h1 h2 hl hk hlt hkt
  obtain ⟨N, hN⟩ : ∃ N, w.heap.size = N := ⟨_, rfl⟩
  rw [hN] at hb1 hb2 ⊢
  have HN := Lib.hid hN
  clear hN
  go_enter Tryd.func54, Tryd.ntmps54
  go_wp2_with fail
  go_loopg [5, 6] 16 (fun g v i' wr => ∃ i : Nat, i + g = 16 ∧ i' = .int .i64 i ∧ wr.ownsRow N 3 1 v i (ks .i64 ((addL l k).take i)) ∧ Below N w wr)
  case atStart => exact ⟨0, rfl, rfl, World.ownsRow_nil _ _ _ _, Below.refl _ _⟩
  case round =>
    obtain ⟨i, hig, rfl, hown, hbel⟩ := hrel
    by_cases hlt : i < 16
    · have hlti : (i : Int) < 16 := by omega
      have hi0 : (0 : Int) ≤ (i : Int) := by omega
      obtain ⟨x, hx⟩ : ∃ x, l.getD i 0 = x := ⟨_, rfl⟩
      obtain ⟨y, hy⟩ : ∃ y, k.getD i 0 = y := ⟨_, rfl⟩
      have hx256 : x < 256 := by rw [← hx]; exact getD_lt Hl.out.2.2.1 i
      have hy256 : y < 256 := by rw [← hy]; exact getD_lt Hl.out.2.2.2 i
      have hBsz : N ≤ wr.heap.size := by rw [← HN.out]; exact hbel.size
      have hq1 : wr.cell? ⟨b1, o1 + i, none⟩ = some (.int .i64 (x : Nat)) := by
        obtain ⟨b, o, c, hv, _, _, h⟩ := HR.out.1.get (i := i) (by rw [Hl.out.1]; exact hlt)
        injection hv with e1 e2 e3
        injection e1 with e1
        injection e1 with e1 e4
        subst e1 e4
        rw [hbel.cell (p := ⟨b1, o1 + i, none⟩) hb1, h, hx]
      have hq2 : wr.cell? ⟨b2, o2 + i, none⟩ = some (.int .i64 (y : Nat)) := by
        obtain ⟨b, o, c, hv, _, _, h⟩ := HR.out.2.get (i := i) (by rw [Hl.out.2.1]; exact hlt)
        injection hv with e1 e2 e3
        injection e1 with e1
        injection e1 with e1 e4
        subst e1 e4
        rw [hbel.cell (p := ⟨b2, o2 + i, none⟩) hb2, h, hy]
      have hxy := xor_i64 (x := x) (y := y) (by omega) (by omega)
      obtain ⟨z, hz⟩ : ∃ z, x ^^^ y = z := ⟨_, rfl⟩
      rw [hz] at hxy
      have Hz : Hid ((addL l k).getD i 0 = z) := by
        show (addL l k).getD i 0 = z
        rw [addL, upd_get (by rw [Hl.out.1]; exact hlt), if_pos hlt, addF, hx, hy, hz]
      clear hx hy hz
      go_upto_region 5 with (fail)
      refine wp_region_held_drew (S := (fun w' => w'.cell? ⟨b1, o1 + i, none⟩ = some (.int .i64 (x : Nat)) ∧ w'.cell? ⟨b2, o2 + i, none⟩ = some (.int .i64 (y : Nat)))) (by kernel_rfl) ?_ (fun hHeld => ?_)
      · exact ⟨hq1, hq2⟩
      refine take_run (v := ?_) 0 (some 11) rfl rfl (by kernel_rfl) (by kernel_rfl) (by kernel_rfl) (fun _ _ _ h => h) hHeld (by rfl) ?_ ?_
      rotate_left
      · intro _ hSw; go_simp; try with_reducible rfl
      simp only [Act.put, List.setIfInBounds_toArray, List.set_cons_zero, List.set_cons_succ]
      refine take_run (v := ?_) 1 (some 12) rfl rfl (by kernel_rfl) (by kernel_rfl) (by kernel_rfl) (fun _ _ _ h => h) hHeld (by rfl) ?_ ?_
      rotate_left
      · intro _ hSw; go_simp; try with_reducible rfl
      simp only [Act.put, List.setIfInBounds_toArray, List.set_cons_zero, List.set_cons_succ]
      refine take_run (v := ?_) 2 (some 13) rfl rfl (by kernel_rfl) (by kernel_rfl) (by kernel_rfl) (fun _ _ _ h => h) hHeld (by rfl) ?_ ?_
      rotate_left
      · intro _ hSw; go_simp; try with_reducible rfl
      simp only [Act.put, List.setIfInBounds_toArray, List.set_cons_zero, List.set_cons_succ]
      refine take_run (v := ?_) 3 (some 14) rfl rfl (by kernel_rfl) (by kernel_rfl) (by kernel_rfl) (fun _ _ _ h => h) hHeld (by rfl) ?_ ?_
      rotate_left
      · intro _ hSw; go_simp; try with_reducible rfl
      simp only [Act.put, List.setIfInBounds_toArray, List.set_cons_zero, List.set_cons_succ]
      refine take_run (v := ?_) 4 (some 15) rfl rfl (by kernel_rfl) (by kernel_rfl) (by kernel_rfl) (fun _ _ _ h => h) hHeld (by rfl) ?_ ?_
      rotate_left
      · intro _ hSw; go_simp; try with_reducible rfl
      simp only [Act.put, List.setIfInBounds_toArray, List.set_cons_zero, List.set_cons_succ]
      refine take_run (v := ?_) 5 (some 16) rfl rfl (by kernel_rfl) (by kernel_rfl) (by kernel_rfl) (fun _ _ _ h => h) hHeld (by rfl) ?_ ?_
      rotate_left
      · intro _ hSw; go_simp; try with_reducible rfl
      simp only [Act.put, List.setIfInBounds_toArray, List.set_cons_zero, List.set_cons_succ]
      refine take_run (v := ?_) 6 (some 17) rfl rfl (by kernel_rfl) (by kernel_rfl) (by kernel_rfl) (fun _ _ _ h => h) hHeld (by rfl) ?_ ?_
      rotate_left
      · intro _ hSw; go_simp; try with_reducible rfl
      simp only [Act.put, List.setIfInBounds_toArray, List.set_cons_zero, List.set_cons_succ]
      refine take_run (v := ?_) 7 (some 18) rfl rfl (by kernel_rfl) (by kernel_rfl) (by kernel_rfl) (fun _ _ _ h => h) hHeld (by rfl) ?_ ?_
      rotate_left
      · intro _ hSw; go_simp; try with_reducible rfl
      simp only [Act.put, List.setIfInBounds_toArray, List.set_cons_zero, List.set_cons_succ]
      refine take_run (v := ?_) 8 (some 19) rfl rfl (by kernel_rfl) (by kernel_rfl) (by kernel_rfl) (fun _ _ _ h => h) hHeld (by rfl) ?_ ?_
      rotate_left
      · intro _ hSw; go_simp; try with_reducible rfl
      simp only [Act.put, List.setIfInBounds_toArray, List.set_cons_zero, List.set_cons_succ]
      refine take_run (v := ?_) 9 (some 20) rfl rfl (by kernel_rfl) (by kernel_rfl) (by kernel_rfl) (fun _ _ _ h => h) hHeld (by rfl) ?_ ?_
      rotate_left
      · intro _ hSw; go_simp; try with_reducible rfl
      simp only [Act.put, List.setIfInBounds_toArray, List.set_cons_zero, List.set_cons_succ]
      refine op_at 10 (some 21) rfl rfl (by kernel_rfl) (by rfl) (fun K hK => ?_)
      refine wp_buildVals 34 3 1 #[(0, .tmp 20)] ?_ [(.int .i64 (z : Nat))] ?_ ?_ ?_ ?_ ?_ ?_ ?_ ?_ ?_
      · rfl
      · exact Tryd.underlying34
      · kernel_rfl
      · kernel_rfl
      · rfl
      · decide
      · decide
      · rfl
      · intro v hv; simp only [List.mem_singleton] at hv; subst hv; rfl
      have hB1 : Below N wr (wr.drew.alloc (.cells #[(.int .i64 (z : Nat))] 3)) := (Below.refl _ _).drew.alloc hBsz _
      have hownA := (hown.kept (grownBy_drew wr none) (by by_cases e : u5.ownBlock = none; exact .inl e; exact .inr e)).alloc (.cells #[(.int .i64 (z : Nat))] 3)
      refine hK _ _ ⟨?_, fun hHeld => ?_⟩
      · first | exact ⟨(hB2.cell (p := ⟨b1, o1 + i, none⟩) hb1).trans hq1, (hB2.cell (p := ⟨b2, o2 + i, none⟩) hb2).trans hq2⟩ | exact ⟨(hB1.cell (p := ⟨b1, o1 + i, none⟩) hb1).trans hq1, (hB1.cell (p := ⟨b2, o2 + i, none⟩) hb2).trans hq2⟩
      clear hK
      simp only [Act.put, List.setIfInBounds_toArray, List.set_cons_zero, List.set_cons_succ]
      refine op_at 11 (some 22) rfl rfl (by kernel_rfl) (by rfl) (fun K hK => ?_)
      refine wp_append_own _ (.tmp 11) (.tmp 21) 34 ?_ N 3 i0 (.int .i64 0) 1 8 Tryd.underlying34 Hi0.out.1 Hi0.out.2.1 Hi0.out.2.2.1 Hi0.out.2.2.2 ?_ ?_ u5 i (ks .i64 ((addL l k).take i)) ?_ hownA ⟨wr.drew.heap.size, 0, none⟩ 1 1 [(.int .i64 (z : Nat))] ?_ ?_ (cell_one_new _ _ _) ?_ ?_ ?_ ?_ ?_
      · rfl
      · rfl
      · decide
      · rfl
      · rfl
      · rfl
      · intro u hu; simp only [List.mem_singleton] at hu; subst hu; rfl
      · unfold maxLen; omega
      · omega
      · exact (hB1.size_of hBsz)
      intro v1 w1 hown1 hgr1 _
      have hB2 : Below N wr w1 := hB1.grown hgr1 (hB1.size_of hBsz) (fun k hk => (hown.lt k hk).1)
      refine hK _ _ ⟨?_, fun hHeld => ?_⟩
      · first | exact ⟨(hB2.cell (p := ⟨b1, o1 + i, none⟩) hb1).trans hq1, (hB2.cell (p := ⟨b2, o2 + i, none⟩) hb2).trans hq2⟩ | exact ⟨(hB1.cell (p := ⟨b1, o1 + i, none⟩) hb1).trans hq1, (hB1.cell (p := ⟨b2, o2 + i, none⟩) hb2).trans hq2⟩
      clear hK
      simp only [Act.put, List.setIfInBounds_toArray, List.set_cons_zero, List.set_cons_succ]
      refine take_run (v := ?_) 12 (some 5) rfl rfl (by kernel_rfl) (by kernel_rfl) (by kernel_rfl) (fun _ _ _ h => h) hHeld (by rfl) ?_ ?_
      rotate_left
      · intro _ hSw; go_simp; try with_reducible rfl
      simp only [Act.put, List.setIfInBounds_toArray, List.set_cons_zero, List.set_cons_succ]
      refine wpAnyH_done (by kernel_rfl) ?_ _
      go_wp2_with fail
      go_roundg (gk - 1)
      case measure => omega
      case rel =>
        refine ⟨i + 1, by omega, by go_num, ?_, hbel.trans hB2⟩
        rw [take_snoc_ks' (by rw [addL_length, Hl.out.1]; exact hlt) Hz.out] at hown1
        exact hown1
    · have hlti : ¬ (i : Int) < 16 := by omega
      obtain rfl : i = 16 := by omega
      go_wp2_with fail
      go_ret
      rw [List.take_of_length_le (by rw [addL_length, Hl.out.1]; omega)] at hown
      exact ⟨_, rfl, hown, hbel⟩
end Go.Proofs.YtdopdaoapdeabaaDoor
