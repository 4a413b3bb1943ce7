/- WALKS: sacristanref07.When, Show. -/
import Derived.Test.YtdopdaoapdeabaaDoorWhenW
namespace Go.Proofs.YtdopdaoapdeabaaDoor
open Go.RowKit

theorem okB_bytes {l : List Nat} (h : l.length = 272) : okB l ↔ l.getD 12 0 = 0 ∧ l.getD 13 0 = 0 ∧ l.getD 14 0 = 0 ∧ l.getD 15 0 = 0 := by
  unfold okB
  rw [take4 (by omega)]
  simp [h]

set_option maxRecDepth 100000 in
set_option maxHeartbeats 2000000 in
theorem rwhen_any (l : List Nat) (v : Value) (w : World) (hr : Reads w v (bs l)) (hlt : ∀ x ∈ l, x < 256) :
    Calls Tryd.prog 19 #[v] w (WhenPost l w) := by
  obtain ⟨va, vc, rfl⟩ := hr.len
  rw [bs_length] at hr ⊢
  have HT := Lib.hid hlt
  by_cases hl : l.length = 272
  · obtain ⟨b, off, cap, hv, hcap, hb, hcell⟩ := hr.pos (by rw [bs_length]; omega)
    rw [bs_length] at hv hcap
    injection hv with e1 e2 e3
    subst e1 e3
    have h0 := hcell 12 _ (bs_get (by omega))
    have h1 := hcell 13 _ (bs_get (by omega))
    have h2 := hcell 14 _ (bs_get (by omega))
    have h3 := hcell 15 _ (bs_get (by omega))
    have hk := okB_bytes hl
    obtain ⟨x0, hx0⟩ : ∃ x, l.getD 12 0 = x := ⟨_, rfl⟩
    obtain ⟨x1, hx1⟩ : ∃ x, l.getD 13 0 = x := ⟨_, rfl⟩
    obtain ⟨x2, hx2⟩ : ∃ x, l.getD 14 0 = x := ⟨_, rfl⟩
    obtain ⟨x3, hx3⟩ : ∃ x, l.getD 15 0 = x := ⟨_, rfl⟩
    rw [hx0] at h0 hk
    rw [hx1] at h1 hk
    rw [hx2] at h2 hk
    rw [hx3] at h3 hk
    have hr8 := (hr.take (k := 8) (by omega))
    have hr4 := ((hr.drop (k := 8) (by omega)).take (k := 4) (by omega))
    rw [bs_take'] at hr8
    rw [bs_drop, bs_take'] at hr4
    rw [hl] at hcap ⊢
    have hcl : (272 : Int) ≤ (vc : Int) := by omega
    have hc8 : ¬ vc = 8 := by omega
    have hc0 : ¬ vc = 0 := by omega
    have HK := Lib.hid hk
    clear hr hlt hx0 hx1 hx2 hx3 hk hcell e2
    by_cases g0 : x0 = 0
    · subst g0
      by_cases g1 : x1 = 0
      · subst g1
        by_cases g2 : x2 = 0
        · subst g2
          by_cases g3 : x3 = 0
          · subst g3
            have HO : Hid (okB l) := HK.out.2 ⟨rfl, rfl, rfl, rfl⟩
            obtain ⟨E, hE⟩ : ∃ E, getL (l.take 8) = E := ⟨_, rfl⟩
            obtain ⟨Q, hQ⟩ : ∃ Q, getL ((l.drop 8).take 4) = Q := ⟨_, rfl⟩
            have hQ32 : (Q : Int) < 4294967296 := by
              have h := getL_lt (l := (l.drop 8).take 4) (fun x hx => HT.out x (List.mem_of_mem_drop (List.mem_of_mem_take hx)))
              rw [hQ, List.length_take, List.length_drop, HO.out.1] at h
              have h4 : (256 : Nat) ^ (min 4 (272 - 8)) = 4294967296 := by decide
              omega
            have hwQ : IntKind.u32.wrap (Q : Int) = (Q : Int) := by rw [IntKind.wrap_u32]; omega
            have HG := Lib.hid (And.intro hE hQ)
            have hs8 : ∀ w, (Instr.slice 26 (.slice (some ⟨b, off, none⟩) 272 vc) none (some (.int .i64 8)) none).run Tryd.prog w = .ok (.slice (some ⟨b, off, none⟩) 8 vc) w := fun w => by
              rw [run_slice_h w 26 (some ⟨b, off, none⟩) 272 vc Tryd.underlying26 .i64 8 (by omega) (by omega)]
              rw [show (sizeOf (Tryd.prog.elem 26)).run Tryd.prog w = .ok 1 w by kernel_rfl]
              simp [Result.andThen, sliced, hc0, Addr.add_mid]
            have hs4 : ∀ w, (Instr.slice 26 (.slice (some ⟨b, off, none⟩) 272 vc) (some (.int .i64 8)) (some (.int .i64 12)) none).run Tryd.prog w = .ok (.slice (some ⟨b, off + 8, none⟩) 4 (vc - 8)) w := fun w => by
              have := slice_lh (P := Tryd.prog) Tryd.underlying26 (by kernel_rfl) b off 272 vc 8 12 .i64 .i64 (by omega) (by omega) (by omega) w
              exact this
            have HR8 : Hid (Reads w.drew (.slice (some ⟨b, off, none⟩) 8 vc) (bs (l.take 8)) ∧ Reads w.drew (.slice (some ⟨b, off + 8, none⟩) 4 (vc - 8)) (bs ((l.drop 8).take 4))) := ⟨hr8.below ((Below.refl _ _).drew) (Nat.le_refl _), hr4.below ((Below.refl _ _).drew) (Nat.le_refl _)⟩
            clear hE hQ hr8 hr4
            go_enter Tryd.func19, Tryd.ntmps19
            go_upto_region 3 with (fail)
            refine wp_region_held_drew (S := (fun _ => True)) (by kernel_rfl) ?_ (fun hHeld => ?_)
            · trivial
            refine take_run (v := ?_) 0 (some 32) rfl rfl (by kernel_rfl) (by kernel_rfl) (by kernel_rfl) (fun _ _ _ h => h) hHeld (by rfl) ?_ ?_
            rotate_left
            · intro _ hSw; go_simp; try with_reducible rfl
            simp only [Act.put, List.setIfInBounds_toArray, List.set_cons_zero, List.set_cons_succ]
            refine take_run (v := ?_) 1 (some 33) rfl rfl (by kernel_rfl) (by kernel_rfl) (by kernel_rfl) (fun _ _ _ h => h) hHeld (by rfl) ?_ ?_
            rotate_left
            · intro _ hSw; go_simp; try with_reducible rfl
            simp only [Act.put, List.setIfInBounds_toArray, List.set_cons_zero, List.set_cons_succ]
            refine take_run (v := ?_) 3 (some 35) rfl rfl (by kernel_rfl) (by kernel_rfl) (by kernel_rfl) (fun _ _ _ h => h) hHeld (by rfl) ?_ ?_
            rotate_left
            · intro _ hSw; go_simp; try with_reducible rfl
            simp only [Act.put, List.setIfInBounds_toArray, List.set_cons_zero, List.set_cons_succ]
            refine take_run (v := ?_) 4 (some 36) rfl rfl (by kernel_rfl) (by kernel_rfl) (by kernel_rfl) (fun _ _ _ h => h) hHeld (by rfl) ?_ ?_
            rotate_left
            · intro _ hSw; go_simp; try with_reducible rfl
            simp only [Act.put, List.setIfInBounds_toArray, List.set_cons_zero, List.set_cons_succ]
            refine call_at (f := ?_) (args := ?_) 2 (some 34) rfl rfl (by kernel_rfl) (by rfl) ?_ ?_
            rotate_left 2
            · go_simp; first | (refine ⟨?_, ?_⟩ <;> with_reducible rfl) | with_reducible rfl
            refine (rget_any (l.take 8) _ _ HR8.out.1 (fun x hx => HT.out x (List.mem_of_mem_take hx)) (by rw [List.length_take, HO.out.1]; decide) (by rw [List.length_take, HO.out.1]; decide)).mono ?_
            rintro _ _ ⟨rfl, rfl⟩
            refine ⟨_, rfl, ?_, fun hHeld => ?_⟩
            · trivial
            rw [HG.out.1]
            simp only [Act.put, List.setIfInBounds_toArray, List.set_cons_zero, List.set_cons_succ]
            refine call_at (f := ?_) (args := ?_) 5 (some 37) rfl rfl (by kernel_rfl) (by rfl) ?_ ?_
            rotate_left 2
            · go_simp; first | (refine ⟨?_, ?_⟩ <;> with_reducible rfl) | with_reducible rfl
            refine (rget_any ((l.drop 8).take 4) _ _ HR8.out.2 (fun x hx => HT.out x (List.mem_of_mem_drop (List.mem_of_mem_take hx))) (by rw [List.length_take, List.length_drop, HO.out.1]; decide) (by rw [List.length_take, List.length_drop, HO.out.1]; decide)).mono ?_
            rintro _ _ ⟨rfl, rfl⟩
            refine ⟨_, rfl, ?_, fun hHeld => ?_⟩
            · trivial
            rw [HG.out.2]
            simp only [Act.put, List.setIfInBounds_toArray, List.set_cons_zero, List.set_cons_succ]
            refine take_run (v := ?_) 6 (some 38) rfl rfl (by kernel_rfl) (by kernel_rfl) (by kernel_rfl) (fun _ _ _ h => h) hHeld (by rfl) ?_ ?_
            rotate_left
            · intro _ hSw; go_simp; try with_reducible rfl
            simp only [Act.put, List.setIfInBounds_toArray, List.set_cons_zero, List.set_cons_succ]
            refine take_run (v := ?_) 7 (some 2) rfl rfl (by kernel_rfl) (by kernel_rfl) (by kernel_rfl) (fun _ _ _ h => h) hHeld (by rfl) ?_ ?_
            rotate_left
            · intro _ hSw; go_simp; try with_reducible rfl
            simp only [Act.put, List.setIfInBounds_toArray, List.set_cons_zero, List.set_cons_succ]
            refine take_run (v := ?_) 8 (some 3) rfl rfl (by kernel_rfl) (by kernel_rfl) (by kernel_rfl) (fun _ _ _ h => h) hHeld (by rfl) ?_ ?_
            rotate_left
            · intro _ hSw; go_simp; try with_reducible rfl
            simp only [Act.put, List.setIfInBounds_toArray, List.set_cons_zero, List.set_cons_succ]
            refine take_run (v := ?_) 9 (some 4) rfl rfl (by kernel_rfl) (by kernel_rfl) (by kernel_rfl) (fun _ _ _ h => h) hHeld (by rfl) ?_ ?_
            rotate_left
            · intro _ hSw; go_simp; try with_reducible rfl
            simp only [Act.put, List.setIfInBounds_toArray, List.set_cons_zero, List.set_cons_succ]
            refine wpAnyH_done (by kernel_rfl) ?_ _
            go_wp2_with fail
            go_ret3
            exact ⟨(Below.refl _ _).drew, .inl ⟨HO.out, by rw [HG.out.1, HG.out.2]; rfl⟩⟩
          · have Hno : Hid (¬ okB l) := fun h => g3 (HK.out.1 h).2.2.2
            have hb3 : ((x3 : Int) != 0) = true := by simp [g3]
            have hb3' : ((x3 : Int) == 0) = false := by simp [g3]
            have hi3 : ¬ (x3 : Int) = 0 := by omega
            clear g3 hr8 hr4
            go_enter Tryd.func19, Tryd.ntmps19
            go_wp2_with fail
            go_ret3
            exact ⟨Below.refl _ _, .inr ⟨Hno.out, rfl⟩⟩
        · have Hno : Hid (¬ okB l) := fun h => g2 (HK.out.1 h).2.2.1
          have hb3 : ((x2 : Int) != 0) = true := by simp [g2]
          have hi3 : ¬ (x2 : Int) = 0 := by omega
          clear g2 hr8 hr4
          go_enter Tryd.func19, Tryd.ntmps19
          go_wp2_with fail
          go_ret3
          exact ⟨Below.refl _ _, .inr ⟨Hno.out, rfl⟩⟩
      · have Hno : Hid (¬ okB l) := fun h => g1 (HK.out.1 h).2.1
        have hb3 : ((x1 : Int) != 0) = true := by simp [g1]
        have hi3 : ¬ (x1 : Int) = 0 := by omega
        clear g1 hr8 hr4
        go_enter Tryd.func19, Tryd.ntmps19
        go_wp2_with fail
        go_ret3
        exact ⟨Below.refl _ _, .inr ⟨Hno.out, rfl⟩⟩
    · have Hno : Hid (¬ okB l) := fun h => g0 (HK.out.1 h).1
      have hb3 : ((x0 : Int) != 0) = true := by simp [g0]
      have hi3 : ¬ (x0 : Int) = 0 := by omega
      clear g0 hr8 hr4
      go_enter Tryd.func19, Tryd.ntmps19
      go_wp2_with fail
      go_ret3
      exact ⟨Below.refl _ _, .inr ⟨Hno.out, rfl⟩⟩
  · have Hno : Hid (¬ okB l) := fun h => hl h.1
    obtain ⟨m, hm⟩ : ∃ m, l.length = m := ⟨_, rfl⟩
    rw [hm] at hl ⊢
    have hb3 : ((m : Int) != 272) = true := by simp; omega
    have hi3 : ¬ (m : Int) = 272 := by omega
    clear hr hlt hl hm
    go_enter Tryd.func19, Tryd.ntmps19
    go_wp2_with fail
    go_ret3
    exact ⟨Below.refl _ _, .inr ⟨Hno.out, rfl⟩⟩

/-- while the reference shows a block -/
structure SQ7 (w X : World) (N : Nat) (kv bv : Value) (ks : List Nat) (v : Value) (l : List Nat) : Prop where
  isc : IsC w kv bv ks
  r : Reads w v (bs l)
  hN : w.heap.size = N
  c0 : X.cell? ⟨N, 0, none⟩ = some kv
  c1 : X.cell? ⟨N, 1, none⟩ = some bv
  bel : Below N w X
  size : N + 1 ≤ X.heap.size
theorem SQ7.below {w X X' : World} {N : Nat} {kv bv : Value} {ks : List Nat} {v : Value} {l : List Nat} (h : SQ7 w X N kv bv ks v l) (hb : Below (N + 1) X X') : SQ7 w X' N kv bv ks v l :=
  ⟨h.isc, h.r, h.hN, by rw [hb.cell (p := ⟨N, 0, none⟩) (show N < N + 1 by omega)]; exact h.c0, by rw [hb.cell (p := ⟨N, 1, none⟩) (show N < N + 1 by omega)]; exact h.c1, h.bel.trans (hb.mono (Nat.le_succ N)), hb.size_of h.size⟩
theorem SQ7.iscX {w X : World} {N : Nat} {kv bv : Value} {ks : List Nat} {v : Value} {l : List Nat} (h : SQ7 w X N kv bv ks v l) : IsC X kv bv ks := h.isc.below h.bel (Nat.le_of_eq h.hN)
theorem SQ7.rX {w X : World} {N : Nat} {kv bv : Value} {ks : List Nat} {v : Value} {l : List Nat} (h : SQ7 w X N kv bv ks v l) : Reads X v (bs l) := h.r.below h.bel (Nat.le_of_eq h.hN)

/-- a block's head is its first bytes -/
theorem headL_getL {l : List Nat} (h : okB l) (hl : ∀ x ∈ l, x < 256) : headL (getL (l.take 8)) (getL ((l.drop 8).take 4)) = l.take 16 := by
  have h1 : (l.take 8).length = 8 := by rw [List.length_take, h.1]; decide
  have h2 : ((l.drop 8).take 4).length = 4 := by rw [List.length_take, List.length_drop, h.1]; decide
  have e1 := putL_getL (l := l.take 8) (fun x hx => hl x (List.mem_of_mem_take hx))
  have e2 := putL_getL (l := (l.drop 8).take 4) (fun x hx => hl x (List.mem_of_mem_drop (List.mem_of_mem_take hx)))
  rw [h1] at e1
  rw [h2] at e2
  have e3 : putL 0 4 = (l.drop 12).take 4 := by rw [h.2]; decide
  rw [headL, e1, e2, e3, List.append_assoc]
  have a1 : (l.drop 8).take 4 ++ (l.drop 12).take 4 = (l.drop 8).take 8 := by
    have : (l.drop 12) = (l.drop 8).drop 4 := by rw [List.drop_drop]
    rw [this, ← List.take_add]
  rw [a1, ← List.take_add]

set_option maxRecDepth 100000 in
set_option maxHeartbeats 2000000 in
theorem rshow_any (kv bv : Value) (ks l : List Nat) (v : Value) (w : World) (hc : IsC w kv bv ks) (hr : Reads w v (bs l)) (hlt : ∀ x ∈ l, x < 256) :
    Calls Tryd.prog 17 #[.agg #[kv, bv], v] w (ShowPost ks l w) := by
  obtain ⟨N, hN⟩ : ∃ N, w.heap.size = N := ⟨_, rfl⟩
  have HN := Lib.hid hN
  have HT := Lib.hid hlt
  have hW0 : Below N w (w.alloc (Obj.cells #[kv, bv] 36)) := (Below.refl _ _).alloc (by omega) _
  have s0 : (w.alloc (Obj.cells #[kv, bv] 36)).heap.size = N + 1 := by simp [hN]
  have k0 : (w.alloc (Obj.cells #[kv, bv] 36)).heap[N]? = some (.cells #[kv, bv] 36 (0, 0)) := by rw [← hN]; exact heap_alloc_new w _
  have hc0 : (w.alloc (Obj.cells #[kv, bv] 36)).cell? ⟨N, 0, none⟩ = some kv := by simp [World.cell?, k0]
  have hc1 : (w.alloc (Obj.cells #[kv, bv] 36)).cell? ⟨N, 1, none⟩ = some bv := by simp [World.cell?, k0]
  have hR0 := hr.below hW0 (Nat.le_of_eq hN)
  have HC := Lib.hid (And.intro hc hr)
  clear hc k0 hr
  go_enter Tryd.func17, Tryd.ntmps17
  go_wp2_with fail
  generalize w.alloc (Obj.cells #[kv, bv] 36) = W at hW0 s0 hc0 hc1 hR0 ⊢
  clear hN
  refine (rwhen_any l v _ hR0 hlt).mono ?_
  rintro e w1 ⟨hb1, hcase⟩
  have hs1 := hb1.size
  rw [s0] at hb1
  have hW1 := hW0.trans (hb1.mono (by omega))
  have hd0 : w1.cell? ⟨N, 0, none⟩ = some kv := by rw [hb1.cell (p := ⟨N, 0, none⟩) (show N < N + 1 by omega)]; exact hc0
  have hd1 : w1.cell? ⟨N, 1, none⟩ = some bv := by rw [hb1.cell (p := ⟨N, 1, none⟩) (show N < N + 1 by omega)]; exact hc1
  rcases hcase with ⟨hok, rfl⟩ | ⟨hok, rfl⟩
  · obtain ⟨A, hA⟩ : ∃ A, l.take 16 = A := ⟨_, rfl⟩
    have HA : Hid (A.length = 16 ∧ (∀ x ∈ A, x < 256) ∧ l.take 16 = A) := by rw [← hA]; exact ⟨by rw [List.length_take, hok.1]; decide, fun x hx => hlt x (List.mem_of_mem_take hx), rfl⟩
    have HO := Lib.hid hok
    have hl272 := hok.1
    have hh := headL_getL hok hlt
    have g8 := getL_lt (l := l.take 8) (fun x hx => hlt x (List.mem_of_mem_take hx))
    have g4 := getL_lt (l := (l.drop 8).take 4) (fun x hx => hlt x (List.mem_of_mem_drop (List.mem_of_mem_take hx)))
    rw [List.length_take, hl272, show (256 : Nat) ^ (min 8 272) = 18446744073709551616 by decide] at g8
    rw [List.length_take, List.length_drop, hl272, show (256 : Nat) ^ (min 4 (272 - 8)) = 4294967296 by decide] at g4
    obtain ⟨E, hE⟩ : ∃ E, getL (l.take 8) = E := ⟨_, rfl⟩
    obtain ⟨Q, hQ'⟩ : ∃ Q, getL ((l.drop 8).take 4) = Q := ⟨_, rfl⟩
    rw [hE, hQ', hA] at hh
    rw [hE] at g8 ⊢
    rw [hQ'] at g4 ⊢
    have hE64 := g8
    have hQ32 := g4
    have HHd := Lib.hid hh
    obtain ⟨va, vc, hv⟩ := HC.out.2.len
    rw [bs_length, hl272] at hv
    subst hv
    obtain ⟨xa, xc, hs3', hrd⟩ := slice_from (P := Tryd.prog) (t := 26) Tryd.underlying26 (by kernel_rfl) HC.out.2 (k := 16) (by omega)
    have hs3 : ∀ w', (Instr.slice 26 (.slice va 272 vc) (some (.int .i64 16)) none none).run Tryd.prog w' = .ok (.slice xa 256 xc) w' := hs3'
    rw [bs_drop] at hrd
    have hQ : SQ7 w w1 N kv bv ks (.slice xa 256 xc) (l.drop 16) := ⟨HC.out.1, hrd, HN.out, hd0, hd1, hW1, by omega⟩
    clear hs3' hok hlt hW0 s0 hc0 hc1 hR0 hb1 hs1 hW1 hd0 hd1 hA hE hQ' hh g8 g4 hl272 hrd
    clear W
    go_upto_region 4 with (fail)
    refine wp_region_held_drew (S := (fun w' => SQ7 w w' N kv bv ks (.slice xa 256 xc) (l.drop 16))) (by kernel_rfl) ?_ (fun hHeld => ?_)
    · exact hQ.below ((Below.refl _ _).drew)
    refine take_run (v := ?_) 0 (some 18) rfl rfl (by kernel_rfl) (by kernel_rfl) (by kernel_rfl) (fun _ _ _ h => h) hHeld (by rfl) ?_ ?_
    rotate_left
    · intro _ hSw; have hc0 := hSw.c0; have hc1 := hSw.c1; go_simp; try with_reducible rfl
    simp only [Act.put, List.setIfInBounds_toArray, List.set_cons_zero, List.set_cons_succ]
    refine take_run (v := ?_) 1 (some 19) rfl rfl (by kernel_rfl) (by kernel_rfl) (by kernel_rfl) (fun _ _ _ h => h) hHeld (by rfl) ?_ ?_
    rotate_left
    · intro _ hSw; go_simp; try with_reducible rfl
    simp only [Act.put, List.setIfInBounds_toArray, List.set_cons_zero, List.set_cons_succ]
    refine take_run (v := ?_) 2 (some 20) rfl rfl (by kernel_rfl) (by kernel_rfl) (by kernel_rfl) (fun _ _ _ h => h) hHeld (by rfl) ?_ ?_
    rotate_left
    · intro _ hSw; go_simp; try with_reducible rfl
    simp only [Act.put, List.setIfInBounds_toArray, List.set_cons_zero, List.set_cons_succ]
    refine take_run (v := ?_) 4 (some 22) rfl rfl (by kernel_rfl) (by kernel_rfl) (by kernel_rfl) (fun _ _ _ h => h) hHeld (by rfl) ?_ ?_
    rotate_left
    · intro _ hSw; go_simp; try with_reducible rfl
    simp only [Act.put, List.setIfInBounds_toArray, List.set_cons_zero, List.set_cons_succ]
    refine take_run (v := ?_) 5 (some 23) rfl rfl (by kernel_rfl) (by kernel_rfl) (by kernel_rfl) (fun _ _ _ h => h) hHeld (by rfl) ?_ ?_
    rotate_left
    · intro _ hSw; go_simp; try with_reducible rfl
    simp only [Act.put, List.setIfInBounds_toArray, List.set_cons_zero, List.set_cons_succ]
    refine call_at (f := ?_) (args := ?_) 3 (some 21) rfl rfl (by kernel_rfl) (by rfl) ?_ ?_
    rotate_left 2
    · go_simp; first | (refine ⟨?_, ?_⟩ <;> with_reducible rfl) | with_reducible rfl
    refine (rhead_any E Q _ hE64 hQ32).mono ?_
    rintro _ w4 ⟨rfl, hb⟩
    refine ⟨_, rfl, ?_, fun hHeld => ?_⟩
    · exact hHeld.below (hb.mono hHeld.size)
    rw [HHd.out]
    have hN4 : N ≤ w4.heap.size := Nat.le_trans (Nat.le_succ N) hHeld.size
    simp only [Act.put, List.setIfInBounds_toArray, List.set_cons_zero, List.set_cons_succ]
    refine call_at (f := ?_) (args := ?_) 6 (some 24) rfl rfl (by kernel_rfl) (by rfl) ?_ ?_
    rotate_left 2
    · go_simp; first | (refine ⟨?_, ?_⟩ <;> with_reducible rfl) | with_reducible rfl
    refine (rxor_any kv bv ks A (l.drop 16) _ _ hHeld.iscX HA.out.1 HA.out.2.1 hHeld.rX (fun x hx => HT.out x (List.mem_of_mem_drop hx)) (by rw [List.length_drop]; have := HO.out.1; omega)).mono ?_
    rintro _ w5 ⟨xv, rfl, hox, hb⟩
    refine ⟨_, rfl, ?_, fun hHeld => ?_⟩
    · exact hHeld.below (hb.mono hHeld.size)
    rw [show (l.drop 16).length = 256 by rw [List.length_drop, HO.out.1]] at hox
    simp only [Act.put, List.setIfInBounds_toArray, List.set_cons_zero, List.set_cons_succ]
    refine take_run (v := ?_) 7 (some 4) rfl rfl (by kernel_rfl) (by kernel_rfl) (by kernel_rfl) (fun _ _ _ h => h) hHeld (by rfl) ?_ ?_
    rotate_left
    · intro _ hSw; go_simp; try with_reducible rfl
    simp only [Act.put, List.setIfInBounds_toArray, List.set_cons_zero, List.set_cons_succ]
    refine take_run (v := ?_) 8 (some 5) rfl rfl (by kernel_rfl) (by kernel_rfl) (by kernel_rfl) (fun _ _ _ h => h) hHeld (by rfl) ?_ ?_
    rotate_left
    · intro _ hSw; go_simp; try with_reducible rfl
    simp only [Act.put, List.setIfInBounds_toArray, List.set_cons_zero, List.set_cons_succ]
    refine wpAnyH_done (by kernel_rfl) ?_ _
    go_wp2_with fail
    go_ret2
    exact ⟨by rw [HN.out]; exact hHeld.bel, .inl ⟨HO.out, xv, rfl, by rw [HA.out.2.2]; exact owns_mono hox (by rw [HN.out]; exact hN4)⟩⟩
  · have HF := Lib.hid (And.intro hW1 hok)
    clear hok hlt hW0 s0 hc0 hc1 hR0 hb1 hs1 hW1 hd0 hd1
    go_wp2_with fail
    go_ret2
    exact ⟨by rw [HN.out]; exact HF.out.1, .inr ⟨HF.out.2, rfl⟩⟩
end Go.Proofs.YtdopdaoapdeabaaDoor
