/- WALKS: block.When, block.Show. -/
import Derived.Test.YtdopdaoapdeabaaDoorCutBW
namespace Go.Proofs.YtdopdaoapdeabaaDoor
open Go.RowKit

theorem rd8 {w : World} {M : Nat} {A : List Nat} {t : TypeId} (h : Bytes w M A t) (hl : A.length = 16) : Reads w (.slice (some ⟨M, 0, none⟩) 8 16) (bs (A.take 8)) := by
  have h1 := (h.reads16 hl).take (k := 8) (by omega)
  rwa [bs_take'] at h1
theorem rd4 {w : World} {M : Nat} {A : List Nat} {t : TypeId} (h : Bytes w M A t) (hl : A.length = 16) : Reads w (.slice (some ⟨M, 8, none⟩) 4 8) (bs ((A.drop 8).take 4)) := by
  have h1 := ((h.reads16 hl).drop (k := 8) (by omega)).take (k := 4) (by omega)
  rwa [bs_drop, bs_take', Nat.zero_add] at h1

/-- what When tells -/
def WhenPost (l : List Nat) (w : World) (e : Ending) (w' : World) : Prop :=
  Below w.heap.size w w' ∧
  ((okB l ∧ e = .returned (.tuple #[.int .u64 (getL (l.take 8) : Nat), .int .u32 (getL ((l.drop 8).take 4) : Nat), .int .i64 0])) ∨
   (¬ okB l ∧ e = .returned (.tuple #[.int .u64 0, .int .u32 0, .int .i64 4])))

set_option maxRecDepth 100000 in
set_option maxHeartbeats 2000000 in
theorem when_any (l : List Nat) (v : Value) (w : World) (hr : Reads w v (bs l)) (hlt : ∀ x ∈ l, x < 256) (hL : l.length ≤ 140737488355328) (hg : ET w) :
    Calls Tryd.prog 18 #[v] w (WhenPost l w) := by
  obtain ⟨N, hN⟩ : ∃ N, w.heap.size = N := ⟨_, rfl⟩
  have HN := Lib.hid hN
  have HE := Lib.hid hg
  have hi : ∀ m : List Nat, m.length = 16 → (Tryd.prog.info? 39).map (·.size) = some (bx m).size := by intro m hm; rw [bx_size, hm]; kernel_rfl
  have Hi := Lib.hid hi
  have HT := Lib.hid hlt
  clear hi hg hN
  go_enter Tryd.func18, Tryd.ntmps18
  go_wp2_with fail
  refine (cutb_any l v _ hr hlt hL).mono ?_
  rintro e w1 ⟨hb1, hcase⟩
  rw [HN.out] at hb1
  have hs1 := hb1.size
  rw [HN.out] at hs1
  clear hr hlt hL
  rcases hcase with ⟨hok, y, rfl, hy⟩ | ⟨hok, rfl⟩
  · obtain ⟨A, hA⟩ : ∃ A, l.take 16 = A := ⟨_, rfl⟩
    have HA : Hid (A.length = 16 ∧ ∀ x ∈ A, x < 256) := by rw [← hA]; exact ⟨by rw [List.length_take, hok.1]; decide, fun x hx => HT.out x (List.mem_of_mem_take hx)⟩
    have HAe : Hid (getL (A.take 8) = getL (l.take 8) ∧ getL ((A.drop 8).take 4) = getL ((l.drop 8).take 4)) := by rw [← hA]; exact ⟨by rw [List.take_take]; rfl, by rw [List.drop_take, List.take_take]; rfl⟩
    rw [hA]
    have HO := Lib.hid hok
    clear hA hok
    go_upto_region 2 with (first | (refine wpList_store_new rfl 39 _ _ rfl _ (bx A) 39 rfl rfl (Hi.out A HA.out.1) (by rw [bx_size, HA.out.1]; rfl) (bx_one _) ?_))
    have hb2 := (Below.refl w1.heap.size w1).alloc (Nat.le_refl _) (.cells (bx A) 39)
    have hS0' : Bytes (w1.alloc (.cells (bx A) 39)) w1.heap.size A 39 ∧ Below N w (w1.alloc (.cells (bx A) 39)) := ⟨Bytes.new _ _ _, hb1.trans (hb2.mono hs1)⟩
    obtain ⟨M, hM⟩ : ∃ M, w1.heap.size = M := ⟨_, rfl⟩
    rw [hM] at hS0' ⊢
    generalize w1.alloc (.cells (bx A) 39) = W1 at hS0' ⊢
    clear hb2 hb1 hs1 hM hy
    clear w1
    have hst : ∀ w, (Instr.sliceAt 39 (.pointer (some ⟨M, 0, none⟩)) none (some (.int .i64 8)) none).run Tryd.prog w = .ok (.slice (some ⟨M, 0, none⟩) 8 16) w := fun w => by kernel_rfl
    have hst2 : ∀ w, (Instr.sliceAt 39 (.pointer (some ⟨M, 0, none⟩)) (some (.int .i64 8)) (some (.int .i64 12)) none).run Tryd.prog w = .ok (.slice (some ⟨M, 8, none⟩) 4 8) w := fun w => by kernel_rfl
    obtain ⟨E, hE⟩ : ∃ E, getL (A.take 8) = E := ⟨_, rfl⟩
    obtain ⟨Q, hQ⟩ : ∃ Q, getL ((A.drop 8).take 4) = Q := ⟨_, rfl⟩
    have hQ32 : (Q : Int) < 4294967296 := by
      have h := getL_lt (l := (A.drop 8).take 4) (fun x hx => HA.out.2 x (List.mem_of_mem_drop (List.mem_of_mem_take hx)))
      rw [hQ, List.length_take, List.length_drop, HA.out.1] at h
      have h4 : (256 : Nat) ^ (min 4 (16 - 8)) = 4294967296 := by decide
      omega
    have hwQ : IntKind.u32.wrap (Q : Int) = (Q : Int) := by rw [IntKind.wrap_u32]; omega
    have HG := Lib.hid (And.intro hE hQ)
    clear hE hQ
    have hS0 : Bytes W1.drew M A 39 ∧ Below N w W1.drew := ⟨hS0'.1, hS0'.2.drew⟩
    refine wp_region_held_drew (S := (fun w' => Bytes w' M A 39 ∧ Below N w w')) (by kernel_rfl) ?_ (fun hHeld => ?_)
    · exact hS0
    refine take_run (v := ?_) 0 (some 14) rfl rfl (by kernel_rfl) (by kernel_rfl) (by kernel_rfl) (fun _ _ _ h => h) hHeld (by rfl) ?_ ?_
    rotate_left
    · intro _ hSw; go_simp; try with_reducible rfl
    simp only [Act.put, List.setIfInBounds_toArray, List.set_cons_zero, List.set_cons_succ]
    refine take_run (v := ?_) 2 (some 16) rfl rfl (by kernel_rfl) (by kernel_rfl) (by kernel_rfl) (fun _ _ _ h => h) hHeld (by rfl) ?_ ?_
    rotate_left
    · intro _ hSw; go_simp; try with_reducible rfl
    simp only [Act.put, List.setIfInBounds_toArray, List.set_cons_zero, List.set_cons_succ]
    refine take_run (v := ?_) 5 (some 19) rfl rfl (by kernel_rfl) (by kernel_rfl) (by kernel_rfl) (fun _ _ _ h => h) hHeld (by rfl) ?_ ?_
    rotate_left
    · intro _ hSw; go_simp; try with_reducible rfl
    simp only [Act.put, List.setIfInBounds_toArray, List.set_cons_zero, List.set_cons_succ]
    refine call_at (f := ?_) (args := ?_) 1 (some 15) rfl rfl (by kernel_rfl) (by rfl) ?_ ?_
    rotate_left 2
    · go_simp; first | (refine ⟨?_, ?_⟩ <;> with_reducible rfl) | with_reducible rfl
    refine (get_any (A.take 8) _ _ (rd8 hHeld.1 HA.out.1) (fun x hx => HA.out.2 x (List.mem_of_mem_take hx)) (by rw [List.length_take, HA.out.1]; decide) (by rw [List.length_take, HA.out.1]; decide)).mono ?_
    rintro _ _ ⟨rfl, rfl⟩
    refine ⟨_, rfl, ?_, fun hHeld => ?_⟩
    · first | exact hHeld | exact ⟨hHeld.1.below hb hHeld.1.lt, hHeld.2.trans (hb.mono (by have := hHeld.2.size; rw [HN.out] at this; exact this))⟩
    rw [HG.out.1]
    simp only [Act.put, List.setIfInBounds_toArray, List.set_cons_zero, List.set_cons_succ]
    refine call_at (f := ?_) (args := ?_) 3 (some 17) rfl rfl (by kernel_rfl) (by rfl) ?_ ?_
    rotate_left 2
    · go_simp; first | (refine ⟨?_, ?_⟩ <;> with_reducible rfl) | with_reducible rfl
    refine (get_any ((A.drop 8).take 4) _ _ (rd4 hHeld.1 HA.out.1) (fun x hx => HA.out.2 x (List.mem_of_mem_drop (List.mem_of_mem_take hx))) (by rw [List.length_take, List.length_drop, HA.out.1]; decide) (by rw [List.length_take, List.length_drop, HA.out.1]; decide)).mono ?_
    rintro _ _ ⟨rfl, rfl⟩
    refine ⟨_, rfl, ?_, fun hHeld => ?_⟩
    · first | exact hHeld | exact ⟨hHeld.1.below hb hHeld.1.lt, hHeld.2.trans (hb.mono (by have := hHeld.2.size; rw [HN.out] at this; exact this))⟩
    rw [HG.out.2]
    simp only [Act.put, List.setIfInBounds_toArray, List.set_cons_zero, List.set_cons_succ]
    refine take_run (v := ?_) 4 (some 18) rfl rfl (by kernel_rfl) (by kernel_rfl) (by kernel_rfl) (fun _ _ _ h => h) hHeld (by rfl) ?_ ?_
    rotate_left
    · intro _ hSw; go_simp; try with_reducible rfl
    simp only [Act.put, List.setIfInBounds_toArray, List.set_cons_zero, List.set_cons_succ]
    refine call_at (f := ?_) (args := ?_) 6 (some 20) rfl rfl (by kernel_rfl) (by rfl) ?_ ?_
    rotate_left 2
    · go_simp; first | (refine ⟨?_, ?_⟩ <;> with_reducible rfl) | with_reducible rfl
    refine (number_nil _).mono ?_
    rintro _ w9 ⟨rfl, hb⟩
    refine ⟨_, rfl, ?_, fun hHeld => ?_⟩
    · first | exact hHeld | exact ⟨hHeld.1.below hb hHeld.1.lt, hHeld.2.trans (hb.mono (by have := hHeld.2.size; rw [HN.out] at this; exact this))⟩
    simp only [Act.put, List.setIfInBounds_toArray, List.set_cons_zero, List.set_cons_succ]
    refine take_run (v := ?_) 7 (some 2) rfl rfl (by kernel_rfl) (by kernel_rfl) (by kernel_rfl) (fun _ _ _ h => h) hHeld (by rfl) ?_ ?_
    rotate_left
    · intro _ hSw; go_simp; try with_reducible rfl
    simp only [Act.put, List.setIfInBounds_toArray, List.set_cons_zero, List.set_cons_succ]
    refine take_run (v := ?_) 8 (some 3) rfl rfl (by kernel_rfl) (by kernel_rfl) (by kernel_rfl) (fun _ _ _ h => h) hHeld (by rfl) ?_ ?_
    rotate_left
    · intro _ hSw; go_simp; try with_reducible rfl
    simp only [Act.put, List.setIfInBounds_toArray, List.set_cons_zero, List.set_cons_succ]
    refine take_run (v := ?_) 9 (some 4) rfl rfl (by kernel_rfl) (by kernel_rfl) (by kernel_rfl) (fun _ _ _ h => h) hHeld (by rfl) ?_ ?_
    rotate_left
    · intro _ hSw; go_simp; try with_reducible rfl
    simp only [Act.put, List.setIfInBounds_toArray, List.set_cons_zero, List.set_cons_succ]
    refine wpAnyH_done (by kernel_rfl) ?_ _
    go_wp2_with fail
    go_ret3
    exact ⟨by rw [HN.out]; exact hHeld.2, .inl ⟨HO.out, by rw [← HAe.out.1, ← HAe.out.2, HG.out.1, HG.out.2]; rfl⟩⟩
  · obtain ⟨A, hA⟩ : ∃ A, zeros 16 = A := ⟨_, rfl⟩
    have HA : Hid (A.length = 16 ∧ ∀ x ∈ A, x < 256) := by rw [← hA]; exact ⟨rfl, by decide⟩
    have HAe : Hid (getL (A.take 8) = 0 ∧ getL ((A.drop 8).take 4) = 0) := by rw [← hA]; exact ⟨by decide, by decide⟩
    rw [hA]
    have HO := Lib.hid hok
    clear hA hok
    go_upto_region 2 with (first | (refine wpList_store_new rfl 39 _ _ rfl _ (bx A) 39 rfl rfl (Hi.out A HA.out.1) (by rw [bx_size, HA.out.1]; rfl) (bx_one _) ?_))
    have hb2 := (Below.refl w1.heap.size w1).alloc (Nat.le_refl _) (.cells (bx A) 39)
    have hS0' : Bytes (w1.alloc (.cells (bx A) 39)) w1.heap.size A 39 ∧ Below N w (w1.alloc (.cells (bx A) 39)) := ⟨Bytes.new _ _ _, hb1.trans (hb2.mono hs1)⟩
    obtain ⟨M, hM⟩ : ∃ M, w1.heap.size = M := ⟨_, rfl⟩
    rw [hM] at hS0' ⊢
    generalize w1.alloc (.cells (bx A) 39) = W1 at hS0' ⊢
    clear hb2 hb1 hs1 hM
    clear w1
    have hst : ∀ w, (Instr.sliceAt 39 (.pointer (some ⟨M, 0, none⟩)) none (some (.int .i64 8)) none).run Tryd.prog w = .ok (.slice (some ⟨M, 0, none⟩) 8 16) w := fun w => by kernel_rfl
    have hst2 : ∀ w, (Instr.sliceAt 39 (.pointer (some ⟨M, 0, none⟩)) (some (.int .i64 8)) (some (.int .i64 12)) none).run Tryd.prog w = .ok (.slice (some ⟨M, 8, none⟩) 4 8) w := fun w => by kernel_rfl
    obtain ⟨E, hE⟩ : ∃ E, getL (A.take 8) = E := ⟨_, rfl⟩
    obtain ⟨Q, hQ⟩ : ∃ Q, getL ((A.drop 8).take 4) = Q := ⟨_, rfl⟩
    have hQ32 : (Q : Int) < 4294967296 := by
      have h := getL_lt (l := (A.drop 8).take 4) (fun x hx => HA.out.2 x (List.mem_of_mem_drop (List.mem_of_mem_take hx)))
      rw [hQ, List.length_take, List.length_drop, HA.out.1] at h
      have h4 : (256 : Nat) ^ (min 4 (16 - 8)) = 4294967296 := by decide
      omega
    have hwQ : IntKind.u32.wrap (Q : Int) = (Q : Int) := by rw [IntKind.wrap_u32]; omega
    have HG := Lib.hid (And.intro hE hQ)
    clear hE hQ
    have hS0 : Bytes W1.drew M A 39 ∧ Below N w W1.drew := ⟨hS0'.1, hS0'.2.drew⟩
    refine wp_region_held_drew (S := (fun w' => Bytes w' M A 39 ∧ Below N w w')) (by kernel_rfl) ?_ (fun hHeld => ?_)
    · exact hS0
    refine take_run (v := ?_) 0 (some 14) rfl rfl (by kernel_rfl) (by kernel_rfl) (by kernel_rfl) (fun _ _ _ h => h) hHeld (by rfl) ?_ ?_
    rotate_left
    · intro _ hSw; go_simp; try with_reducible rfl
    simp only [Act.put, List.setIfInBounds_toArray, List.set_cons_zero, List.set_cons_succ]
    refine take_run (v := ?_) 2 (some 16) rfl rfl (by kernel_rfl) (by kernel_rfl) (by kernel_rfl) (fun _ _ _ h => h) hHeld (by rfl) ?_ ?_
    rotate_left
    · intro _ hSw; go_simp; try with_reducible rfl
    simp only [Act.put, List.setIfInBounds_toArray, List.set_cons_zero, List.set_cons_succ]
    refine take_run (v := ?_) 5 (some 19) rfl rfl (by kernel_rfl) (by kernel_rfl) (by kernel_rfl) (fun _ _ _ h => h) hHeld (by rfl) ?_ ?_
    rotate_left
    · intro _ hSw; go_simp; try with_reducible rfl
    simp only [Act.put, List.setIfInBounds_toArray, List.set_cons_zero, List.set_cons_succ]
    refine call_at (f := ?_) (args := ?_) 1 (some 15) rfl rfl (by kernel_rfl) (by rfl) ?_ ?_
    rotate_left 2
    · go_simp; first | (refine ⟨?_, ?_⟩ <;> with_reducible rfl) | with_reducible rfl
    refine (get_any (A.take 8) _ _ (rd8 hHeld.1 HA.out.1) (fun x hx => HA.out.2 x (List.mem_of_mem_take hx)) (by rw [List.length_take, HA.out.1]; decide) (by rw [List.length_take, HA.out.1]; decide)).mono ?_
    rintro _ _ ⟨rfl, rfl⟩
    refine ⟨_, rfl, ?_, fun hHeld => ?_⟩
    · first | exact hHeld | exact ⟨hHeld.1.below hb hHeld.1.lt, hHeld.2.trans (hb.mono (by have := hHeld.2.size; rw [HN.out] at this; exact this))⟩
    rw [HG.out.1]
    simp only [Act.put, List.setIfInBounds_toArray, List.set_cons_zero, List.set_cons_succ]
    refine call_at (f := ?_) (args := ?_) 3 (some 17) rfl rfl (by kernel_rfl) (by rfl) ?_ ?_
    rotate_left 2
    · go_simp; first | (refine ⟨?_, ?_⟩ <;> with_reducible rfl) | with_reducible rfl
    refine (get_any ((A.drop 8).take 4) _ _ (rd4 hHeld.1 HA.out.1) (fun x hx => HA.out.2 x (List.mem_of_mem_drop (List.mem_of_mem_take hx))) (by rw [List.length_take, List.length_drop, HA.out.1]; decide) (by rw [List.length_take, List.length_drop, HA.out.1]; decide)).mono ?_
    rintro _ _ ⟨rfl, rfl⟩
    refine ⟨_, rfl, ?_, fun hHeld => ?_⟩
    · first | exact hHeld | exact ⟨hHeld.1.below hb hHeld.1.lt, hHeld.2.trans (hb.mono (by have := hHeld.2.size; rw [HN.out] at this; exact this))⟩
    rw [HG.out.2]
    simp only [Act.put, List.setIfInBounds_toArray, List.set_cons_zero, List.set_cons_succ]
    refine take_run (v := ?_) 4 (some 18) rfl rfl (by kernel_rfl) (by kernel_rfl) (by kernel_rfl) (fun _ _ _ h => h) hHeld (by rfl) ?_ ?_
    rotate_left
    · intro _ hSw; go_simp; try with_reducible rfl
    simp only [Act.put, List.setIfInBounds_toArray, List.set_cons_zero, List.set_cons_succ]
    refine call_at (f := ?_) (args := ?_) 6 (some 20) rfl rfl (by kernel_rfl) (by rfl) ?_ ?_
    rotate_left 2
    · go_simp; first | (refine ⟨?_, ?_⟩ <;> with_reducible rfl) | with_reducible rfl
    refine (number_odd _ (HE.out.below hHeld.2 (by rw [← HN.out]; exact HE.out.pos))).mono ?_
    rintro _ w9 ⟨rfl, hb⟩
    refine ⟨_, rfl, ?_, fun hHeld => ?_⟩
    · first | exact hHeld | exact ⟨hHeld.1.below hb hHeld.1.lt, hHeld.2.trans (hb.mono (by have := hHeld.2.size; rw [HN.out] at this; exact this))⟩
    simp only [Act.put, List.setIfInBounds_toArray, List.set_cons_zero, List.set_cons_succ]
    refine take_run (v := ?_) 7 (some 2) rfl rfl (by kernel_rfl) (by kernel_rfl) (by kernel_rfl) (fun _ _ _ h => h) hHeld (by rfl) ?_ ?_
    rotate_left
    · intro _ hSw; go_simp; try with_reducible rfl
    simp only [Act.put, List.setIfInBounds_toArray, List.set_cons_zero, List.set_cons_succ]
    refine take_run (v := ?_) 8 (some 3) rfl rfl (by kernel_rfl) (by kernel_rfl) (by kernel_rfl) (fun _ _ _ h => h) hHeld (by rfl) ?_ ?_
    rotate_left
    · intro _ hSw; go_simp; try with_reducible rfl
    simp only [Act.put, List.setIfInBounds_toArray, List.set_cons_zero, List.set_cons_succ]
    refine take_run (v := ?_) 9 (some 4) rfl rfl (by kernel_rfl) (by kernel_rfl) (by kernel_rfl) (fun _ _ _ h => h) hHeld (by rfl) ?_ ?_
    rotate_left
    · intro _ hSw; go_simp; try with_reducible rfl
    simp only [Act.put, List.setIfInBounds_toArray, List.set_cons_zero, List.set_cons_succ]
    refine wpAnyH_done (by kernel_rfl) ?_ _
    go_wp2_with fail
    go_ret3
    exact ⟨by rw [HN.out]; exact hHeld.2, .inr ⟨HO.out, by rw [show E = 0 from HG.out.1.symm.trans HAe.out.1, show Q = 0 from HG.out.2.symm.trans HAe.out.2]; rfl⟩⟩

/-- what Show tells -/
def ShowPost (ks l : List Nat) (w : World) (e : Ending) (w' : World) : Prop :=
  Below w.heap.size w w' ∧
  ((okB l ∧ ∃ v, e = .returned (.tuple #[v, .int .i64 0]) ∧ w'.ownsRow w.heap.size 5 1 v 256 (bs (xorL (l.drop 16) (streamL ks (l.take 16) 256)))) ∨
   (¬ okB l ∧ e = .returned (.tuple #[.slice none 0 0, .int .i64 4])))

set_option maxRecDepth 100000 in
set_option maxHeartbeats 2000000 in
theorem show_any (key l : List Nat) (v : Value) (w : World) (hkl : key.length = 16) (hkt : ∀ x ∈ key, x < 256) (hr : Reads w v (bs l)) (hlt : ∀ x ∈ l, x < 256) (hL : l.length ≤ 140737488355328) (hg : ET w) :
    Calls Tryd.prog 16 #[.agg (bx key), v] w (ShowPost (keysL key) l w) := by
  obtain ⟨N, hN⟩ : ∃ N, w.heap.size = N := ⟨_, rfl⟩
  have HN := Lib.hid hN
  have HE := Lib.hid hg
  have Hkey := Lib.hid (And.intro hkl hkt)
  have hi : ∀ m : List Nat, m.length = 16 → (Tryd.prog.info? 39).map (·.size) = some (bx m).size := by intro m hm; rw [bx_size, hm]; kernel_rfl
  have Hi := Lib.hid hi
  have HT := Lib.hid hlt
  have hW0 : Below N w (w.alloc (.cells (bx key) 23)) := (Below.refl _ _).alloc (by omega) _
  have s0 : (w.alloc (.cells (bx key) 23)).heap.size = N + 1 := by simp [hN]
  have hK0 : Bytes (w.alloc (.cells (bx key) 23)) N key 23 := by rw [← hN]; exact Bytes.new _ _ _
  have hR0 := hr.below hW0 (Nat.le_of_eq hN)
  obtain ⟨ks, hks⟩ : ∃ ks, keysL key = ks := ⟨_, rfl⟩
  rw [hks]
  have Hks := Lib.hid hks
  clear hi hg hkl hkt hr hks
  go_enter Tryd.func16, Tryd.ntmps16
  go_wp2_with fail
  generalize w.alloc (.cells (bx key) 23) = W at hW0 s0 hK0 hR0 ⊢
  clear hN
  refine (cutb_any l v _ hR0 hlt hL).mono ?_
  rintro e w1 ⟨hb1, hcase⟩
  have hs1 := hb1.size
  have hK1 := hK0.below hb1 hK0.lt
  have hW1 := hW0.trans (hb1.mono (by omega))
  clear hlt hL hK0 hW0 hR0 hb1
  rcases hcase with ⟨hok, y, rfl, hy⟩ | ⟨hok, rfl⟩
  · obtain ⟨A, hA⟩ : ∃ A, l.take 16 = A := ⟨_, rfl⟩
    have HA : Hid (A.length = 16 ∧ ∀ x ∈ A, x < 256) := by rw [← hA]; exact ⟨by rw [List.length_take, hok.1]; decide, fun x hx => HT.out x (List.mem_of_mem_take hx)⟩
    have HAe := Lib.hid hA
    rw [hA]
    have HO := Lib.hid hok
    have hry := reads_of_owns hy
    have Hi2 : Hid (((Tryd.prog.info? 23).map (·.size) = some (bs key).length) ∧ ((Tryd.prog.info? 39).map (·.size) = some (bs A).length)) := ⟨by rw [bs_length, Hkey.out.1]; kernel_rfl, by rw [bs_length, HA.out.1]; kernel_rfl⟩
    clear hA hok hy
    go_upto_region 4 with (first | (refine wpList_store_new rfl 39 _ _ rfl _ (bx A) 39 rfl rfl (Hi.out A HA.out.1) (by rw [bx_size, HA.out.1]; rfl) (bx_one _) ?_))
    have hb2 := (Below.refl w1.heap.size w1).alloc (Nat.le_refl _) (.cells (bx A) 39)
    have hQ : HQ w (w1.alloc (.cells (bx A) 39)) N w1.heap.size key A y (l.drop 16) :=
      ⟨hK1.below hb2 hK1.lt, Bytes.new _ _ _, hry.below hb2 (Nat.le_refl _), hW1.trans (hb2.mono (by omega))⟩
    obtain ⟨M, hM⟩ : ∃ M, w1.heap.size = M := ⟨_, rfl⟩
    rw [hM] at hQ ⊢
    generalize w1.alloc (.cells (bx A) 39) = W1 at hQ ⊢
    clear hb2 hK1 hW1 hry hs1 s0 hM
    clear w1
    clear W
    refine wp_region_held_drew (S := (fun w' => HQ w w' N M key A y (l.drop 16))) (by kernel_rfl) ?_ (fun hHeld => ?_)
    · exact hQ.drew
    refine take_at 0 (some 19) rfl rfl (by kernel_rfl) (by kernel_rfl) (by kernel_rfl) (fun _ _ _ h => h) (yieldsIf_load_mid (by rfl) 23 _ rfl N 0 rfl (bs key) _ (fun _ h => h.key.range) Tryd.underlying23 rfl Hi2.out.1) hHeld ?_
    simp only [Act.put, List.setIfInBounds_toArray, List.set_cons_zero, List.set_cons_succ]
    refine take_at 2 (some 21) rfl rfl (by kernel_rfl) (by kernel_rfl) (by kernel_rfl) (fun _ _ _ h => h) (yieldsIf_load_mid (by rfl) 39 _ rfl M 0 rfl (bs A) _ (fun _ h => h.place.range) Tryd.underlying39 rfl Hi2.out.2) hHeld ?_
    simp only [Act.put, List.setIfInBounds_toArray, List.set_cons_zero, List.set_cons_succ]
    refine take_run (v := ?_) 3 (some 22) rfl rfl (by kernel_rfl) (by kernel_rfl) (by kernel_rfl) (fun _ _ _ h => h) hHeld (by rfl) ?_ ?_
    rotate_left
    · intro _ hSw; go_simp; try with_reducible rfl
    simp only [Act.put, List.setIfInBounds_toArray, List.set_cons_zero, List.set_cons_succ]
    refine call_at (f := ?_) (args := ?_) 1 (some 20) rfl rfl (by kernel_rfl) (by rfl) ?_ ?_
    rotate_left 2
    · go_simp; first | (refine ⟨?_, ?_⟩ <;> with_reducible rfl) | with_reducible rfl
    refine (new_any key _ Hkey.out.1 Hkey.out.2).mono ?_
    rintro _ w4 ⟨b, bb, rfl, hc, _, _, hb⟩
    refine ⟨_, rfl, ?_, fun hHeld => ?_⟩
    · exact hHeld.below hb
    rw [Hks.out] at hc
    have hN4 : N ≤ w4.heap.size := by have := hHeld.bel.size; rw [HN.out] at this; exact this
    simp only [Act.put, List.setIfInBounds_toArray, List.set_cons_zero, List.set_cons_succ]
    refine call_at (f := ?_) (args := ?_) 4 (some 23) rfl rfl (by kernel_rfl) (by rfl) ?_ ?_
    rotate_left 2
    · go_simp; first | (refine ⟨?_, ?_⟩ <;> with_reducible rfl) | with_reducible rfl
    refine (xor_any b bb ks A (l.drop 16) y _ hc HA.out.1 HA.out.2 hHeld.r (fun x hx => HT.out x (List.mem_of_mem_drop hx)) (by rw [List.length_drop]; have := HO.out.1; omega)).mono ?_
    rintro _ w5 ⟨xv, rfl, hox, hb⟩
    refine ⟨_, rfl, ?_, fun hHeld => ?_⟩
    · exact hHeld.below hb
    rw [show (l.drop 16).length = 256 by rw [List.length_drop, HO.out.1]] at hox
    simp only [Act.put, List.setIfInBounds_toArray, List.set_cons_zero, List.set_cons_succ]
    refine take_run (v := ?_) 5 (some 4) rfl rfl (by kernel_rfl) (by kernel_rfl) (by kernel_rfl) (fun _ _ _ h => h) hHeld (by rfl) ?_ ?_
    rotate_left
    · intro _ hSw; go_simp; try with_reducible rfl
    simp only [Act.put, List.setIfInBounds_toArray, List.set_cons_zero, List.set_cons_succ]
    refine take_run (v := ?_) 6 (some 5) rfl rfl (by kernel_rfl) (by kernel_rfl) (by kernel_rfl) (fun _ _ _ h => h) hHeld (by rfl) ?_ ?_
    rotate_left
    · intro _ hSw; go_simp; try with_reducible rfl
    simp only [Act.put, List.setIfInBounds_toArray, List.set_cons_zero, List.set_cons_succ]
    refine wpAnyH_done (by kernel_rfl) ?_ _
    go_wp2_with fail
    go_ret2
    exact ⟨by rw [HN.out]; exact hHeld.bel, .inl ⟨HO.out, xv, rfl, by rw [HAe.out]; exact owns_mono hox (by rw [HN.out]; exact hN4)⟩⟩
  · have HF := Lib.hid (And.intro hW1 hok)
    have hE1 := HE.out.below hW1 (by have := HE.out.pos; rw [HN.out] at this; exact this)
    have hb2 := (Below.refl w1.heap.size w1).alloc (Nat.le_refl _) (.cells (bx (zeros 16)) 39)
    have hE2 := hE1.below hb2 hE1.pos
    have HE2 := Lib.hid hE2
    have hNw : N ≤ w1.heap.size := by omega
    have hs2 : (w1.alloc (.cells (bx (zeros 16)) 39)).heap.size = w1.heap.size + 1 := by simp
    have HB2 := Lib.hid (hW1.trans (hb2.mono hNw))
    clear hok hK1 hW1 hE1 hE2 hb2
    go_wp2_with (first | (refine wpList_store_new rfl 39 _ _ rfl _ (bx (zeros 16)) 39 rfl rfl (Hi.out (zeros 16) rfl) rfl (bx_one _) ?_) | (go_at_call 33; refine (number_odd _ HE2.out).mono ?_; rintro e w9 ⟨rfl, hb9⟩))
    go_ret2
    exact ⟨by rw [HN.out]; exact HB2.out.trans (hb9.mono (by rw [hs2]; omega)), .inr ⟨HF.out.2, rfl⟩⟩
end Go.Proofs.YtdopdaoapdeabaaDoor
