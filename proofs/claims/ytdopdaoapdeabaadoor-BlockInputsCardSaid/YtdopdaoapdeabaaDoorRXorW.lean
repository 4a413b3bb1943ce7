/- WALK: sacristanref04.Xor. -/
import Derived.Test.YtdopdaoapdeabaaDoorRStreamW
import Derived.Test.YtdopdaoapdeabaaDoorXorW
namespace Go.Proofs.YtdopdaoapdeabaaDoor
open Go.RowKit

set_option maxRecDepth 100000 in
set_option maxHeartbeats 2000000 in
theorem rxor_any (kv bv : Value) (kk at_ l : List Nat) (v : Value) (w : World) (hc : IsC w kv bv kk) (hl : at_.length = 16) (hl' : ∀ x ∈ at_, x < 256) (hr : Reads w v (bs l)) (hx : ∀ x ∈ l, x < 256) (hn : l.length ≤ 1048576) :
    Calls Tryd.prog 26 #[.agg #[kv, bv], .agg (bx at_), v] w (XorPost kk at_ l w) := by
  obtain ⟨va, vc, rfl⟩ := hr.len
  rw [bs_length] at hr ⊢
  have Hl := Lib.hid (And.intro hl hl')
  have HC := Lib.hid hc
  have HX := Lib.hid hx
  have hi : ∀ m : List Nat, m.length = 16 → (Tryd.prog.info? 39).map (·.size) = some (bx m).size := by intro m hm; rw [bx_size, hm]; kernel_rfl
  have Hi := Lib.hid hi
  have hinfo : (Tryd.prog.info? 5).map (fun i => (i.zero, i.size, i.bytes)) = some (some (.int .u8 0), 1, 1) := by kernel_rfl
  obtain ⟨i0, hi0, hz0, hz1, hz2⟩ := info_parts hinfo
  have Hi0 := Lib.hid (And.intro hi0 (And.intro hz0 (And.intro hz1 hz2)))
  obtain ⟨m, hm⟩ : ∃ m, l.length = m := ⟨_, rfl⟩
  rw [hm] at hn ⊢
  have Hm := Lib.hid hm
  have hn0 : (m : Int) ≤ 1048576 := by omega
  obtain ⟨N, hN⟩ : ∃ N, w.heap.size = N := ⟨_, rfl⟩
  have HN := Lib.hid hN
  have s1 : (w.alloc (Obj.cells #[kv, bv] 36)).heap.size = N + 1 := by simp [hN]
  have s2 : ((w.alloc (Obj.cells #[kv, bv] 36)).alloc (Obj.cells (bx at_) 39)).heap.size = N + 2 := by simp [hN]
  have k0 : (w.alloc (Obj.cells #[kv, bv] 36)).heap[N]? = some (.cells #[kv, bv] 36 (0, 0)) := by rw [← hN]; exact heap_alloc_new w _
  have kk1 : Below (N + 1) (w.alloc (Obj.cells #[kv, bv] 36)) ((w.alloc (Obj.cells #[kv, bv] 36)).alloc (Obj.cells (bx at_) 39)) := (Below.refl (N + 1) _).alloc (by omega) _
  have k1 := Bytes.new (w.alloc (Obj.cells #[kv, bv] 36)) at_ 39
  rw [s1] at k1
  have hW0 : Below N w ((w.alloc (Obj.cells #[kv, bv] 36)).alloc (Obj.cells (bx at_) 39)) := ((Below.refl N w).alloc (by omega) _).alloc (by rw [s1]; omega) _
  have hc0 : ((w.alloc (Obj.cells #[kv, bv] 36)).alloc (Obj.cells (bx at_) 39)).cell? ⟨N, 0, none⟩ = some kv := by rw [kk1.cell (p := ⟨N, 0, none⟩) (show N < N + 1 by omega)]; simp [World.cell?, k0]
  have hc1 : ((w.alloc (Obj.cells #[kv, bv] 36)).alloc (Obj.cells (bx at_) 39)).cell? ⟨N, 1, none⟩ = some bv := by rw [kk1.cell (p := ⟨N, 1, none⟩) (show N < N + 1 by omega)]; simp [World.cell?, k0]
  have hC0 := hc.below hW0 (by omega)
  have hR0 := hr.below hW0 (by omega)
  clear hc hl hl' hr hx hi hm hinfo hi0 hz0 hz1 hz2 k0 kk1 s1
  go_enter Tryd.func26, Tryd.ntmps26
  go_upto_region 3 with (fail)
  generalize (w.alloc (Obj.cells #[kv, bv] 36)).alloc (Obj.cells (bx at_) 39) = W at hC0 hR0 k1 hW0 hc0 hc1 s2 ⊢
  clear hN
  rw [Hm.out] at hR0
  have HR0 := Lib.hid hR0
  clear hR0
  go_upto_region 4 with (first | (refine wpList_load_row rfl 39 _ rfl (N + 1) rfl 39 (bx at_) _ _ k1.row Tryd.underlying39 rfl (Hi.out at_ Hl.out.1) ?_) | (go_at_call 41; refine (rstream_any kv bv kk at_ m _ hC0 Hl.out.1 Hl.out.2 hn0).mono ?_; rintro e w1 ⟨o, rfl, hown, hb1⟩))
  rw [Int.toNat_natCast] at hown
  have hbel := hW0.trans (hb1.mono (by omega))
  have hRl := HR0.out.below hb1 (Nat.le_refl _)
  obtain ⟨str, hstr⟩ : ∃ str, str = streamL kk at_ m := ⟨_, rfl⟩
  have Hstr : Hid (str.length = m ∧ (∀ x ∈ str, x < 256) ∧ streamL kk at_ m = str) := by
    rw [hstr]; exact ⟨streamL_length Hl.out.1 m, streamL_lt hC0.lt Hl.out.2 m, rfl⟩
  rw [← hstr] at hown
  have hRs := reads_of_owns hown
  obtain ⟨sa, sc, rfl⟩ := hRs.len
  rw [bs_length, Hstr.out.1] at hRs ⊢
  have HR := Lib.hid (And.intro hRl hRs)
  obtain ⟨B, hB⟩ : ∃ B, w1.heap.size = B := ⟨_, rfl⟩
  have hNB : N ≤ B := by have := hb1.size; omega
  have Hbel := Lib.hid hbel
  have HB := Lib.hid hB
  clear hC0 HR0 k1 hW0 hc0 hc1 hb1 hstr hown hRs hRl hbel hB
  go_wp2_with fail
  go_loopg [8, 9] m (fun g v i' wr => ∃ i : Nat, i + g = m ∧ i' = .int .i64 i ∧ wr.ownsRow B 5 1 v i (bs ((xorL l str).take i)) ∧ Below B w1 wr)
  case atStart => exact ⟨0, by omega, rfl, World.ownsRow_nil _ _ _ _, Below.refl _ _⟩
  case round =>
    obtain ⟨i, hig, rfl, hown, hbel⟩ := hrel
    by_cases hlt : i < m
    · have hlti : (i : Int) < (m : Int) := by omega
      have hi0 : (0 : Int) ≤ (i : Int) := by omega
      obtain ⟨b1, o1, c1, hv1, _, hb1, hk1⟩ := HR.out.1.pos (by rw [bs_length, Hm.out]; omega)
      obtain ⟨b2, o2, c2, hv2, _, hb2, hk2⟩ := HR.out.2.pos (by rw [bs_length, Hstr.out.1]; omega)
      rw [HB.out] at hb1 hb2
      injection hv1 with e1 e2 e3
      subst e1 e3
      injection hv2 with e4 e5 e6
      subst e4 e6
      obtain ⟨x, hx⟩ : ∃ x, l.getD i 0 = x := ⟨_, rfl⟩
      obtain ⟨y, hy⟩ : ∃ y, str.getD i 0 = y := ⟨_, rfl⟩
      have hx256 : x < 256 := by rw [← hx]; exact getD_lt HX.out i
      have hy256 : y < 256 := by rw [← hy]; exact getD_lt Hstr.out.2.1 i
      have hBsz : B ≤ wr.heap.size := by rw [← HB.out]; exact hbel.size
      have hq1 : wr.cell? ⟨b1, o1 + i, none⟩ = some (.int .u8 (x : Nat)) := by
        rw [hbel.cell (p := ⟨b1, o1 + i, none⟩) hb1, hk1 i _ (bs_get (by rw [Hm.out]; exact hlt)), hx]
      have hq2 : wr.cell? ⟨b2, o2 + i, none⟩ = some (.int .u8 (y : Nat)) := by
        rw [hbel.cell (p := ⟨b2, o2 + i, none⟩) hb2, hk2 i _ (bs_get (by rw [Hstr.out.1]; exact hlt)), hy]
      have hxy := bits_xor hx256 hy256
      obtain ⟨z, hz⟩ : ∃ z, x ^^^ y = z := ⟨_, rfl⟩
      rw [hz] at hxy
      have Hz : Hid ((xorL l str).getD i 0 = z) := by
        show (xorL l str).getD i 0 = z
        rw [xorL_get (by rw [Hstr.out.1, Hm.out]) (by rw [Hm.out]; exact hlt), hx, hy, Nat.xor_comm, hz]
      clear hx hy hz hk1 hk2 e2 e5
      go_upto_region 8 with (fail)
      refine wp_region_held_drew (S := (fun w' => w'.cell? ⟨b1, o1 + i, none⟩ = some (.int .u8 (x : Nat)) ∧ w'.cell? ⟨b2, o2 + i, none⟩ = some (.int .u8 (y : Nat)))) (by kernel_rfl) ?_ (fun hHeld => ?_)
      · exact ⟨hq1, hq2⟩
      refine take_run (v := ?_) 0 (some 24) rfl rfl (by kernel_rfl) (by kernel_rfl) (by kernel_rfl) (fun _ _ _ h => h) hHeld (by rfl) ?_ ?_
      rotate_left
      · intro _ hSw; go_simp; try with_reducible rfl
      simp only [Act.put, List.setIfInBounds_toArray, List.set_cons_zero, List.set_cons_succ]
      refine take_run (v := ?_) 1 (some 25) rfl rfl (by kernel_rfl) (by kernel_rfl) (by kernel_rfl) (fun _ _ _ h => h) hHeld (by rfl) ?_ ?_
      rotate_left
      · intro _ hSw; go_simp; try with_reducible rfl
      simp only [Act.put, List.setIfInBounds_toArray, List.set_cons_zero, List.set_cons_succ]
      refine take_run (v := ?_) 2 (some 26) rfl rfl (by kernel_rfl) (by kernel_rfl) (by kernel_rfl) (fun _ _ _ h => h) hHeld (by rfl) ?_ ?_
      rotate_left
      · intro _ hSw; go_simp; try with_reducible rfl
      simp only [Act.put, List.setIfInBounds_toArray, List.set_cons_zero, List.set_cons_succ]
      refine take_run (v := ?_) 3 (some 27) rfl rfl (by kernel_rfl) (by kernel_rfl) (by kernel_rfl) (fun _ _ _ h => h) hHeld (by rfl) ?_ ?_
      rotate_left
      · intro _ hSw; go_simp; try with_reducible rfl
      simp only [Act.put, List.setIfInBounds_toArray, List.set_cons_zero, List.set_cons_succ]
      refine take_run (v := ?_) 4 (some 28) rfl rfl (by kernel_rfl) (by kernel_rfl) (by kernel_rfl) (fun _ _ _ h => h) hHeld (by rfl) ?_ ?_
      rotate_left
      · intro _ hSw; go_simp; try with_reducible rfl
      simp only [Act.put, List.setIfInBounds_toArray, List.set_cons_zero, List.set_cons_succ]
      refine take_run (v := ?_) 5 (some 29) rfl rfl (by kernel_rfl) (by kernel_rfl) (by kernel_rfl) (fun _ _ _ h => h) hHeld (by rfl) ?_ ?_
      rotate_left
      · intro _ hSw; go_simp; try with_reducible rfl
      simp only [Act.put, List.setIfInBounds_toArray, List.set_cons_zero, List.set_cons_succ]
      refine take_run (v := ?_) 6 (some 30) rfl rfl (by kernel_rfl) (by kernel_rfl) (by kernel_rfl) (fun _ _ _ h => h) hHeld (by rfl) ?_ ?_
      rotate_left
      · intro _ hSw; go_simp; try with_reducible rfl
      simp only [Act.put, List.setIfInBounds_toArray, List.set_cons_zero, List.set_cons_succ]
      refine take_run (v := ?_) 7 (some 31) rfl rfl (by kernel_rfl) (by kernel_rfl) (by kernel_rfl) (fun _ _ _ h => h) hHeld (by rfl) ?_ ?_
      rotate_left
      · intro _ hSw; go_simp; try with_reducible rfl
      simp only [Act.put, List.setIfInBounds_toArray, List.set_cons_zero, List.set_cons_succ]
      refine take_run (v := ?_) 8 (some 32) rfl rfl (by kernel_rfl) (by kernel_rfl) (by kernel_rfl) (fun _ _ _ h => h) hHeld (by rfl) ?_ ?_
      rotate_left
      · intro _ hSw; go_simp; try with_reducible rfl
      simp only [Act.put, List.setIfInBounds_toArray, List.set_cons_zero, List.set_cons_succ]
      refine take_run (v := ?_) 9 (some 33) rfl rfl (by kernel_rfl) (by kernel_rfl) (by kernel_rfl) (fun _ _ _ h => h) hHeld (by rfl) ?_ ?_
      rotate_left
      · intro _ hSw; go_simp; try with_reducible rfl
      simp only [Act.put, List.setIfInBounds_toArray, List.set_cons_zero, List.set_cons_succ]
      refine op_at 10 (some 34) rfl rfl (by kernel_rfl) (by rfl) (fun K hK => ?_)
      refine wp_buildVals 26 5 1 #[(0, .tmp 33)] ?_ [(.int .u8 (z : Nat))] ?_ ?_ ?_ ?_ ?_ ?_ ?_ ?_ ?_
      · rfl
      · exact Tryd.underlying26
      · kernel_rfl
      · kernel_rfl
      · rfl
      · decide
      · decide
      · rfl
      · intro v hv; simp only [List.mem_singleton] at hv; subst hv; rfl
      have hB1 : Below B wr (wr.drew.alloc (.cells #[(.int .u8 (z : Nat))] 5)) := (Below.refl _ _).drew.alloc hBsz _
      have hownA := (hown.kept (grownBy_drew wr none) (by by_cases e : u8.ownBlock = none; exact .inl e; exact .inr e)).alloc (.cells #[(.int .u8 (z : Nat))] 5)
      refine hK _ _ ⟨?_, fun hHeld => ?_⟩
      · first | exact ⟨(hB2.cell (p := ⟨b1, o1 + i, none⟩) hb1).trans hq1, (hB2.cell (p := ⟨b2, o2 + i, none⟩) hb2).trans hq2⟩ | exact ⟨(hB1.cell (p := ⟨b1, o1 + i, none⟩) hb1).trans hq1, (hB1.cell (p := ⟨b2, o2 + i, none⟩) hb2).trans hq2⟩
      clear hK
      simp only [Act.put, List.setIfInBounds_toArray, List.set_cons_zero, List.set_cons_succ]
      refine op_at 11 (some 35) rfl rfl (by kernel_rfl) (by rfl) (fun K hK => ?_)
      refine wp_append_own _ (.tmp 24) (.tmp 34) 26 ?_ B 5 i0 (.int .u8 0) 1 1 Tryd.underlying26 Hi0.out.1 Hi0.out.2.1 Hi0.out.2.2.1 Hi0.out.2.2.2 ?_ ?_ u8 i (bs ((xorL l str).take i)) ?_ hownA ⟨wr.drew.heap.size, 0, none⟩ 1 1 [(.int .u8 (z : Nat))] ?_ ?_ (cell_one_new _ _ _) ?_ ?_ ?_ ?_ ?_
      · rfl
      · rfl
      · decide
      · rfl
      · rfl
      · rfl
      · intro u hu; simp only [List.mem_singleton] at hu; subst hu; rfl
      · unfold maxLen; omega
      · omega
      · exact (hB1.size_of hBsz)
      intro v1 w1 hown1 hgr1 _
      have hB2 : Below B wr w1 := hB1.grown hgr1 (hB1.size_of hBsz) (fun k hk => (hown.lt k hk).1)
      refine hK _ _ ⟨?_, fun hHeld => ?_⟩
      · first | exact ⟨(hB2.cell (p := ⟨b1, o1 + i, none⟩) hb1).trans hq1, (hB2.cell (p := ⟨b2, o2 + i, none⟩) hb2).trans hq2⟩ | exact ⟨(hB1.cell (p := ⟨b1, o1 + i, none⟩) hb1).trans hq1, (hB1.cell (p := ⟨b2, o2 + i, none⟩) hb2).trans hq2⟩
      clear hK
      simp only [Act.put, List.setIfInBounds_toArray, List.set_cons_zero, List.set_cons_succ]
      refine take_run (v := ?_) 12 (some 8) rfl rfl (by kernel_rfl) (by kernel_rfl) (by kernel_rfl) (fun _ _ _ h => h) hHeld (by rfl) ?_ ?_
      rotate_left
      · intro _ hSw; go_simp; try with_reducible rfl
      simp only [Act.put, List.setIfInBounds_toArray, List.set_cons_zero, List.set_cons_succ]
      refine wpAnyH_done (by kernel_rfl) ?_ _
      go_wp2_with fail
      go_roundg (gk - 1)
      case measure => omega
      case rel =>
        refine ⟨i + 1, by omega, by go_num, ?_, hbel.trans hB2⟩
        rw [bs_snoc (by rw [xorL_length, Hstr.out.1]; exact hlt) Hz.out] at hown1
        exact hown1
    · have hlti : ¬ (i : Int) < (m : Int) := by omega
      obtain rfl : i = m := by omega
      rw [List.take_of_length_le (by rw [xorL_length, Hstr.out.1]; exact Nat.le_refl _)] at hown
      have HO := Lib.hid (And.intro hown hbel)
      clear hown hbel
      go_wp2_with fail
      go_ret
      refine ⟨_, rfl, ?_, ?_⟩
      · rw [HN.out, Hm.out, Hstr.out.2.2]; exact owns_mono HO.out.1 hNB
      · rw [HN.out]; exact Hbel.out.trans (HO.out.2.mono hNB)
end Go.Proofs.YtdopdaoapdeabaaDoor
