/- WALK: codec.Cut, of two fields (16, 256). -/
import Derived.Test.YtdopdaoapdeabaaDoorR1W
namespace Go.Proofs.YtdopdaoapdeabaaDoor
open Go.RowKit

/-- a part of a slice that is read -/
theorem slice_to {w : World} {va : Option Addr} {L vc : Nat} {xs : List Value} (h : Reads w (.slice va L vc) xs) {k : Nat} (hk : k ≤ L) :
    Reads w (.slice va k vc) (xs.take k) ∧ k ≤ vc := by
  have hLv : L ≤ vc := by
    rcases h with ⟨h, _⟩ | ⟨a, c, hv, hc, _⟩
    · injection h with _ e2 e3; omega
    · injection hv with _ e2 e3; omega
  exact ⟨h.take hk, by omega⟩
theorem slice_from {P : Program} {t e : TypeId} (hu : P.underlying t = some (.slice e)) (hs : (P.info? e).map (·.size) = some 1) {w : World} {va : Option Addr} {L vc : Nat} {xs : List Value} (h : Reads w (.slice va L vc) xs) {k : Nat} (hk : k ≤ L) :
    ∃ va' vc', (∀ w', (Instr.slice t (.slice va L vc) (some (.int .i64 (k : Int))) none none).run P w' = .ok (.slice va' (L - k) vc') w') ∧ Reads w (.slice va' (L - k) vc') (xs.drop k) := by
  have ee : P.elem t = e := by simp [Program.elem, hu]
  have hz : ∀ w, (sizeOf e).run P w = .ok 1 w := fun w => by
    cases hq : P.info? e with
    | none => simp [hq] at hs
    | some d =>
      have hd : d.size = 1 := by simpa [hq] using hs
      simp [sizeOf, typeInfo, hq, hd]
  have hrun : ∀ w', (Instr.slice t (.slice va L vc) (some (.int .i64 (k : Int))) none none).run P w' = .ok (sliced va k L vc 1) w' := fun w' => by
    rw [run_slice_l w' t va L vc (by rw [ee]; exact hu) .i64 (k : Int) (by omega) (by omega), ee, hz]
    simp [Result.andThen]
  rcases h with ⟨h, rfl⟩ | ⟨a, c, hv, hc, hx⟩
  · injection h with e1 e2 e3
    subst e1 e2 e3
    obtain rfl : k = 0 := by omega
    exact ⟨none, 0, hrun, .inl ⟨rfl, rfl⟩⟩
  · injection hv with e1 e2 e3
    subst e1 e2 e3
    by_cases hck : vc = k
    · refine ⟨some a, vc - k, fun w' => by rw [hrun w']; simp [sliced, hck], .inr ⟨a, vc - k, by rw [List.length_drop], by rw [List.length_drop]; omega, fun j u hj => ?_⟩⟩
      have := (List.getElem?_eq_some_iff.1 hj).1
      rw [List.length_drop] at this
      omega
    · refine ⟨some (a.add k), vc - k, fun w' => by rw [hrun w']; simp [sliced, hck], .inr ⟨a.add k, vc - k, by rw [List.length_drop], by rw [List.length_drop]; omega, fun j u hj => ?_⟩⟩
      rw [List.getElem?_drop] at hj
      have := hx (k + j) u hj
      rwa [Addr.add_add]

/-- what Cut tells -/
def CutPost (l : List Nat) (w : World) (e : Ending) (w' : World) : Prop :=
  Below w.heap.size w w' ∧
  ((l.length = 272 ∧ ∃ og oc x y, e = .returned (.tuple #[.slice (some ⟨og, 0, none⟩) 2 oc, .int .i64 0]) ∧ w'.cell? ⟨og, 0, none⟩ = some x ∧ w'.cell? ⟨og, 1, none⟩ = some y ∧ Reads w' x (bs (l.take 16)) ∧ w'.ownsRow w.heap.size 5 1 y 256 (bs (l.drop 16))) ∨
   (l.length ≠ 272 ∧ ∃ c : Int, c ≠ 0 ∧ e = .returned (.tuple #[.slice none 0 0, .int .i64 c])))

set_option maxRecDepth 100000 in
set_option maxHeartbeats 4000000 in
theorem cut_any (l : List Nat) (v : Value) (g o c : Nat) (w : World) (hr : Reads w v (bs l)) (hL : l.length ≤ 140737488355328) (h0 : w.cell? ⟨g, o, none⟩ = some (.int .i64 16)) (h1 : w.cell? ⟨g, o + 1, none⟩ = some (.int .i64 256)) :
    Calls Tryd.prog 42 #[v, .slice (some ⟨g, o, none⟩) 2 c] w (CutPost l w) := by
  obtain ⟨va, vc, rfl⟩ := hr.len
  rw [bs_length] at hr ⊢
  have hinfo : (Tryd.prog.info? 5).map (fun i => (i.zero, i.size, i.bytes)) = some (some (.int .u8 0), 1, 1) := by kernel_rfl
  obtain ⟨i0, hi0, hz0, hz1, hz2⟩ := info_parts hinfo
  have Hi0 := Lib.hid (And.intro hi0 (And.intro hz0 (And.intro hz1 hz2)))
  have hinfo1 : (Tryd.prog.info? 26).map (fun i => (i.zero, i.size, i.bytes)) = some (some (.slice none 0 0), 1, 24) := by kernel_rfl
  obtain ⟨i1, hi1, hy0, hy1, hy2⟩ := info_parts hinfo1
  have Hi1 := Lib.hid (And.intro hi1 (And.intro hy0 (And.intro hy1 hy2)))
  obtain ⟨N, hN⟩ : ∃ N, w.heap.size = N := ⟨_, rfl⟩
  have HB1 := Lib.hid hN
  obtain ⟨L, hLL⟩ : ∃ L, l.length = L := ⟨_, rfl⟩
  rw [hLL] at hL hr ⊢
  have HL := Lib.hid hLL
  have hgN : g < N := by rw [← hN]; exact World.block_lt_of_cell? w _ h0
  clear hinfo hi0 hz0 hz1 hz2 hinfo1 hi1 hy0 hy1 hy2 hLL hN
  by_cases h16 : L < 16
  · have h16i : (L : Int) < 16 := by omega
    have Hr := Lib.hid hr
    clear hr
    go_enter Tryd.func42, Tryd.ntmps42
    go_wp2_with fail
    go_step3
    go_wp2_with fail
    go_step3
    go_wp2_with fail
    refine wp_loop_rounds 2 ?_
    rw [rounds_succ]
    go_wp2_with fail
    rw [Exit.noGoto_ret]
    go_ret2
    exact ⟨Below.refl _ _, .inr ⟨by rw [HL.out]; omega, 3, by decide, rfl⟩⟩
  · have h16i : ¬ (L : Int) < 16 := by omega
    obtain ⟨hr1, hvc16⟩ := slice_to hr (k := 16) (by omega)
    have hvc : (16 : Int) ≤ (vc : Int) := by omega
    obtain ⟨ba, bc, hs2', hrb⟩ := slice_from (P := Tryd.prog) (t := 26) Tryd.underlying26 (by kernel_rfl) hr (k := 16) (by omega)
    obtain ⟨M, hM⟩ : ∃ M, L - 16 = M := ⟨_, rfl⟩
    rw [hM] at hs2' hrb
    have hs2 : ∀ w', (Instr.slice 26 (.slice va L vc) (some (.int .i64 16)) none none).run Tryd.prog w' = .ok (.slice ba M bc) w' := hs2'
    clear hs2'
    rw [bs_take'] at hr1
    rw [bs_drop] at hrb
    have hl1 : Hid ((bs (l.take 16)).length = 16) := by show _ = _; rw [bs_length, List.length_take, HL.out]; omega
    have Hr := Lib.hid hr
    clear hr
    go_enter Tryd.func42, Tryd.ntmps42
    go_wp2_with fail
    go_step3
    go_wp2_with fail
    go_step3
    go_wp2_with fail
    refine wp_loop_rounds 3 ?_
    rw [rounds_succ]
    go_upto_region 9 with (fail)
    refine wp_region_held_drew (S := (fun _ => True)) (by kernel_rfl) ?_ (fun hHeld => ?_)
    · trivial
    refine take_run (v := ?_) 0 (some 22) rfl rfl (by kernel_rfl) (by kernel_rfl) (by kernel_rfl) (fun _ _ _ h => h) hHeld (by rfl) ?_ ?_
    rotate_left
    · intro _ hSw; go_simp; try with_reducible rfl
    simp only [Act.put, List.setIfInBounds_toArray, List.set_cons_zero, List.set_cons_succ]
    refine take_run (v := ?_) 1 (some 23) rfl rfl (by kernel_rfl) (by kernel_rfl) (by kernel_rfl) (fun _ _ _ h => h) hHeld (by rfl) ?_ ?_
    rotate_left
    · intro _ hSw; go_simp; try with_reducible rfl
    simp only [Act.put, List.setIfInBounds_toArray, List.set_cons_zero, List.set_cons_succ]
    refine take_run (v := ?_) 2 (some 24) rfl rfl (by kernel_rfl) (by kernel_rfl) (by kernel_rfl) (fun _ _ _ h => h) hHeld (by rfl) ?_ ?_
    rotate_left
    · intro _ hSw; go_simp; try with_reducible rfl
    simp only [Act.put, List.setIfInBounds_toArray, List.set_cons_zero, List.set_cons_succ]
    refine take_run (v := ?_) 3 (some 25) rfl rfl (by kernel_rfl) (by kernel_rfl) (by kernel_rfl) (fun _ _ _ h => h) hHeld (by rfl) ?_ ?_
    rotate_left
    · intro _ hSw; go_simp; try with_reducible rfl
    simp only [Act.put, List.setIfInBounds_toArray, List.set_cons_zero, List.set_cons_succ]
    refine take_run (v := ?_) 7 (some 29) rfl rfl (by kernel_rfl) (by kernel_rfl) (by kernel_rfl) (fun _ _ _ h => h) hHeld (by rfl) ?_ ?_
    rotate_left
    · intro _ hSw; go_simp; try with_reducible rfl
    simp only [Act.put, List.setIfInBounds_toArray, List.set_cons_zero, List.set_cons_succ]
    refine take_run (v := ?_) 8 (some 30) rfl rfl (by kernel_rfl) (by kernel_rfl) (by kernel_rfl) (fun _ _ _ h => h) hHeld (by rfl) ?_ ?_
    rotate_left
    · intro _ hSw; go_simp; try with_reducible rfl
    simp only [Act.put, List.setIfInBounds_toArray, List.set_cons_zero, List.set_cons_succ]
    refine take_run (v := ?_) 9 (some 31) rfl rfl (by kernel_rfl) (by kernel_rfl) (by kernel_rfl) (fun _ _ _ h => h) hHeld (by rfl) ?_ ?_
    rotate_left
    · intro _ hSw; go_simp; try with_reducible rfl
    simp only [Act.put, List.setIfInBounds_toArray, List.set_cons_zero, List.set_cons_succ]
    refine op_at 4 (some 26) rfl rfl (by kernel_rfl) (by rfl) (fun K hK => ?_)
    refine wp_append_reads (.const (.slice none 0 0)) (.tmp 25) 26 ?_ N 5 i0 (.int .u8 0) 1 Tryd.underlying26 Hi0.out.1 Hi0.out.2.1 Hi0.out.2.2.1 Hi0.out.2.2.2 ?_ (.slice none 0 0) 0 [] ?_ (World.ownsRow_nil _ _ _ _) (.slice va 16 vc) (bs (l.take 16)) ?_ ?_ (bs_one _) ?_ ?_ ?_ ?_
    · rfl
    · rfl
    · rfl
    · rfl
    · exact hr1.below ((Below.refl _ _).drew) (Nat.le_refl _)
    · rw [hl1.out]; unfold maxLen; omega
    · rw [hl1.out]; omega
    · exact Nat.le_of_eq HB1.out.symm
    intro x w1a hown1 hgr1
    rw [hl1.out, Nat.zero_add, List.nil_append] at hown1
    have hba1 : Below N w w1a := ((Below.refl N w).drew).grown hgr1 (Nat.le_of_eq HB1.out.symm) (fun k hk => by cases hk)
    obtain ⟨xg, xc, hx, hx11, hx21, _, _⟩ := owns_range hown1 (by omega)
    subst hx
    refine hK _ _ ⟨?_, fun hHeld => ?_⟩
    · trivial
    clear hK
    simp only [Act.put, List.setIfInBounds_toArray, List.set_cons_zero, List.set_cons_succ]
    refine op_at 5 (some 27) rfl rfl (by kernel_rfl) (by rfl) (fun K hK => ?_)
    refine wp_buildVals 79 26 1 #[(0, .tmp 26)] ?_ [(.slice (some ⟨xg, 0, none⟩) 16 xc)] ?_ ?_ ?_ ?_ ?_ ?_ ?_ ?_ ?_
    · rfl
    · exact Tryd.underlying79
    · kernel_rfl
    · kernel_rfl
    · rfl
    · decide
    · decide
    · rfl
    · intro v hv; simp only [List.mem_singleton] at hv; subst hv; rfl
    have hbb1 : Below w1a.heap.size w1a (w1a.alloc (.cells #[(.slice (some ⟨xg, 0, none⟩) 16 xc)] 26)) := (Below.refl _ _).alloc (Nat.le_refl _) _
    have hbs1 : N ≤ w1a.heap.size := hba1.size_of (Nat.le_of_eq HB1.out.symm)
    refine hK _ _ ⟨?_, fun hHeld => ?_⟩
    · trivial
    clear hK
    simp only [Act.put, List.setIfInBounds_toArray, List.set_cons_zero, List.set_cons_succ]
    refine op_at 6 (some 28) rfl rfl (by kernel_rfl) (by rfl) (fun K hK => ?_)
    refine wp_append_own _ (.tmp 22) (.tmp 27) 79 ?_ w1a.heap.size 26 i1 (.slice none 0 0) 1 24 Tryd.underlying79 Hi1.out.1 Hi1.out.2.1 Hi1.out.2.2.1 Hi1.out.2.2.2 ?_ ?_ (.slice none 0 0) 0 [] ?_ (World.ownsRow_nil _ _ _ _) ⟨w1a.heap.size, 0, none⟩ 1 1 [(.slice (some ⟨xg, 0, none⟩) 16 xc)] ?_ ?_ (cell_one_new _ _ _) ?_ ?_ ?_ ?_ ?_
    · rfl
    · rfl
    · decide
    · rfl
    · rfl
    · rfl
    · intro u hu; simp only [List.mem_singleton] at hu; subst hu; rfl
    · unfold maxLen; omega
    · omega
    · simp
    intro v1 w1 hown1o hgr1o _
    refine hK _ _ ⟨?_, fun hHeld => ?_⟩
    · trivial
    clear hK
    simp only [Act.put, List.setIfInBounds_toArray, List.set_cons_zero, List.set_cons_succ]
    refine take_run (v := ?_) 10 (some 6) rfl rfl (by kernel_rfl) (by kernel_rfl) (by kernel_rfl) (fun _ _ _ h => h) hHeld (by rfl) ?_ ?_
    rotate_left
    · intro _ hSw; go_simp; try with_reducible rfl
    simp only [Act.put, List.setIfInBounds_toArray, List.set_cons_zero, List.set_cons_succ]
    refine take_run (v := ?_) 11 (some 0) rfl rfl (by kernel_rfl) (by kernel_rfl) (by kernel_rfl) (fun _ _ _ h => h) hHeld (by rfl) ?_ ?_
    rotate_left
    · intro _ hSw; go_simp; try with_reducible rfl
    simp only [Act.put, List.setIfInBounds_toArray, List.set_cons_zero]
    refine wpAnyH_done (by kernel_rfl) ?_ _
    rw [Nat.zero_add, List.nil_append] at hown1o
    obtain ⟨vg, vc1, hv1, hv2, hv3, _, _⟩ := owns_range hown1o (by omega)
    subst hv1
    have hbel1 : Below N w w1 := (hba1.alloc hbs1 _).grown hgr1o (by simp; omega) (fun k hk => by cases hk)
    have hx1 := (hown1.alloc (.cells #[.slice (some ⟨xg, 0, none⟩) 16 xc] 26)).kept hgr1o (.inr (by simp [Value.ownBlock]))
    obtain ⟨B1, hB1⟩ : ∃ B, w1a.heap.size = B := ⟨_, rfl⟩
    rw [hB1] at hown1o hv2 hx21 hbs1 ⊢
    obtain ⟨N1, hN1⟩ : ∃ N, w1.heap.size = N := ⟨_, rfl⟩
    have HB2 := Lib.hid hN1
    have hNN1 : N ≤ N1 := by have := hbel1.size; have := HB1.out; omega
    have hB1N1 : B1 ≤ N1 := by omega
    have hvg : vg < N1 := by omega
    have hrb1 := hrb.below hbel1 (Nat.le_of_eq HB1.out)
    have h0' : w1.cell? ⟨g, o, none⟩ = some (.int .i64 16) := by rw [hbel1.cell (p := ⟨g, o, none⟩) hgN]; exact h0
    have h1' : w1.cell? ⟨g, o + 1, none⟩ = some (.int .i64 256) := by rw [hbel1.cell (p := ⟨g, o + 1, none⟩) hgN]; exact h1
    have ho1 := hown1o
    have HX := Lib.hid (And.intro hx1 hbel1)
    clear hown1o hown1 hgr1 hgr1o hba1 hbb1 hB1 hr1 hvc16 hvc hrb hx1 hbel1 h0 h1 hHeld hs2 hv3 hN1
    go_wp2_with fail
    rw [rounds_succ]
    by_cases h256 : M < 256
    · have h256i : (M : Int) < 256 := by omega
      have Hb := Lib.hid (And.intro hrb1 ho1)
      clear hrb1 ho1
      go_wp2_with fail
      rw [Exit.noGoto_ret]
      go_ret2
      exact ⟨by rw [HB1.out]; exact HX.out.2, .inr ⟨by rw [HL.out]; omega, 3, by decide, rfl⟩⟩
    · have h256i : ¬ (M : Int) < 256 := by omega
      obtain ⟨hr2, hbc256⟩ := slice_to hrb1 (k := 256) (by omega)
      have hbc : (256 : Int) ≤ (bc : Int) := by omega
      obtain ⟨da, dc, hs3', hrd⟩ := slice_from (P := Tryd.prog) (t := 26) Tryd.underlying26 (by kernel_rfl) hrb1 (k := 256) (by omega)
      obtain ⟨Z, hZ⟩ : ∃ Z, M - 256 = Z := ⟨_, rfl⟩
      rw [hZ] at hs3' hrd
      have hs3 : ∀ w', (Instr.slice 26 (.slice ba M bc) (some (.int .i64 256)) none none).run Tryd.prog w' = .ok (.slice da Z dc) w' := hs3'
      clear hs3'
      rw [bs_take'] at hr2
      have hl2 : Hid ((bs ((l.drop 16).take 256)).length = 256) := by show _ = _; rw [bs_length, List.length_take, List.length_drop, HL.out]; omega
      clear hrb1
      go_upto_region 9 with (fail)
      refine wp_region_held_drew (S := (fun _ => True)) (by kernel_rfl) ?_ (fun hHeld => ?_)
      · trivial
      refine take_run (v := ?_) 0 (some 22) rfl rfl (by kernel_rfl) (by kernel_rfl) (by kernel_rfl) (fun _ _ _ h => h) hHeld (by rfl) ?_ ?_
      rotate_left
      · intro _ hSw; go_simp; try with_reducible rfl
      simp only [Act.put, List.setIfInBounds_toArray, List.set_cons_zero, List.set_cons_succ]
      refine take_run (v := ?_) 1 (some 23) rfl rfl (by kernel_rfl) (by kernel_rfl) (by kernel_rfl) (fun _ _ _ h => h) hHeld (by rfl) ?_ ?_
      rotate_left
      · intro _ hSw; go_simp; try with_reducible rfl
      simp only [Act.put, List.setIfInBounds_toArray, List.set_cons_zero, List.set_cons_succ]
      refine take_run (v := ?_) 2 (some 24) rfl rfl (by kernel_rfl) (by kernel_rfl) (by kernel_rfl) (fun _ _ _ h => h) hHeld (by rfl) ?_ ?_
      rotate_left
      · intro _ hSw; go_simp; try with_reducible rfl
      simp only [Act.put, List.setIfInBounds_toArray, List.set_cons_zero, List.set_cons_succ]
      refine take_run (v := ?_) 3 (some 25) rfl rfl (by kernel_rfl) (by kernel_rfl) (by kernel_rfl) (fun _ _ _ h => h) hHeld (by rfl) ?_ ?_
      rotate_left
      · intro _ hSw; go_simp; try with_reducible rfl
      simp only [Act.put, List.setIfInBounds_toArray, List.set_cons_zero, List.set_cons_succ]
      refine take_run (v := ?_) 7 (some 29) rfl rfl (by kernel_rfl) (by kernel_rfl) (by kernel_rfl) (fun _ _ _ h => h) hHeld (by rfl) ?_ ?_
      rotate_left
      · intro _ hSw; go_simp; try with_reducible rfl
      simp only [Act.put, List.setIfInBounds_toArray, List.set_cons_zero, List.set_cons_succ]
      refine take_run (v := ?_) 8 (some 30) rfl rfl (by kernel_rfl) (by kernel_rfl) (by kernel_rfl) (fun _ _ _ h => h) hHeld (by rfl) ?_ ?_
      rotate_left
      · intro _ hSw; go_simp; try with_reducible rfl
      simp only [Act.put, List.setIfInBounds_toArray, List.set_cons_zero, List.set_cons_succ]
      refine take_run (v := ?_) 9 (some 31) rfl rfl (by kernel_rfl) (by kernel_rfl) (by kernel_rfl) (fun _ _ _ h => h) hHeld (by rfl) ?_ ?_
      rotate_left
      · intro _ hSw; go_simp; try with_reducible rfl
      simp only [Act.put, List.setIfInBounds_toArray, List.set_cons_zero, List.set_cons_succ]
      refine op_at 4 (some 26) rfl rfl (by kernel_rfl) (by rfl) (fun K hK => ?_)
      refine wp_append_reads (.const (.slice none 0 0)) (.tmp 25) 26 ?_ N1 5 i0 (.int .u8 0) 1 Tryd.underlying26 Hi0.out.1 Hi0.out.2.1 Hi0.out.2.2.1 Hi0.out.2.2.2 ?_ (.slice none 0 0) 0 [] ?_ (World.ownsRow_nil _ _ _ _) (.slice ba 256 bc) (bs ((l.drop 16).take 256)) ?_ ?_ (bs_one _) ?_ ?_ ?_ ?_
      · rfl
      · rfl
      · rfl
      · rfl
      · exact hr2.below ((Below.refl _ _).drew) (Nat.le_refl _)
      · rw [hl2.out]; unfold maxLen; omega
      · rw [hl2.out]; omega
      · exact Nat.le_of_eq HB2.out.symm
      intro y w2a hown2 hgr2
      rw [hl2.out, Nat.zero_add, List.nil_append] at hown2
      have hba2 : Below N1 w1 w2a := ((Below.refl N1 w1).drew).grown hgr2 (Nat.le_of_eq HB2.out.symm) (fun k hk => by cases hk)
      obtain ⟨yg, yc, hy, hx12, hx22, _, _⟩ := owns_range hown2 (by omega)
      subst hy
      refine hK _ _ ⟨?_, fun hHeld => ?_⟩
      · trivial
      clear hK
      simp only [Act.put, List.setIfInBounds_toArray, List.set_cons_zero, List.set_cons_succ]
      refine op_at 5 (some 27) rfl rfl (by kernel_rfl) (by rfl) (fun K hK => ?_)
      refine wp_buildVals 79 26 1 #[(0, .tmp 26)] ?_ [(.slice (some ⟨yg, 0, none⟩) 256 yc)] ?_ ?_ ?_ ?_ ?_ ?_ ?_ ?_ ?_
      · rfl
      · exact Tryd.underlying79
      · kernel_rfl
      · kernel_rfl
      · rfl
      · decide
      · decide
      · rfl
      · intro v hv; simp only [List.mem_singleton] at hv; subst hv; rfl
      have hbb2 : Below w2a.heap.size w2a (w2a.alloc (.cells #[(.slice (some ⟨yg, 0, none⟩) 256 yc)] 26)) := (Below.refl _ _).alloc (Nat.le_refl _) _
      have hbs2 : N1 ≤ w2a.heap.size := hba2.size_of (Nat.le_of_eq HB2.out.symm)
      refine hK _ _ ⟨?_, fun hHeld => ?_⟩
      · trivial
      clear hK
      simp only [Act.put, List.setIfInBounds_toArray, List.set_cons_zero, List.set_cons_succ]
      refine op_at 6 (some 28) rfl rfl (by kernel_rfl) (by rfl) (fun K hK => ?_)
      have howA := ((ho1.kept (grownBy_drew w1 none) (.inr (by simp [Value.ownBlock]))).kept hgr2 (.inr (by simp [Value.ownBlock]))).alloc (.cells #[.slice (some ⟨yg, 0, none⟩) 256 yc] 26)
      refine wp_append_own _ (.tmp 22) (.tmp 27) 79 ?_ B1 26 i1 (.slice none 0 0) 1 24 Tryd.underlying79 Hi1.out.1 Hi1.out.2.1 Hi1.out.2.2.1 Hi1.out.2.2.2 ?_ ?_ (.slice (some ⟨vg, 0, none⟩) 1 vc1) 1 [.slice (some ⟨xg, 0, none⟩) 16 xc] ?_ howA ⟨w2a.heap.size, 0, none⟩ 1 1 [(.slice (some ⟨yg, 0, none⟩) 256 yc)] ?_ ?_ (cell_one_new _ _ _) ?_ ?_ ?_ ?_ ?_
      · rfl
      · rfl
      · decide
      · rfl
      · rfl
      · rfl
      · intro u hu; simp only [List.mem_singleton] at hu; subst hu; rfl
      · unfold maxLen; omega
      · omega
      · have := hba2.size; have := hbb2.size; omega
      intro v2 w2 hown2o hgr2o _
      refine hK _ _ ⟨?_, fun hHeld => ?_⟩
      · trivial
      clear hK
      simp only [Act.put, List.setIfInBounds_toArray, List.set_cons_zero, List.set_cons_succ]
      refine take_run (v := ?_) 10 (some 6) rfl rfl (by kernel_rfl) (by kernel_rfl) (by kernel_rfl) (fun _ _ _ h => h) hHeld (by rfl) ?_ ?_
      rotate_left
      · intro _ hSw; go_simp; try with_reducible rfl
      simp only [Act.put, List.setIfInBounds_toArray, List.set_cons_zero, List.set_cons_succ]
      refine take_run (v := ?_) 11 (some 0) rfl rfl (by kernel_rfl) (by kernel_rfl) (by kernel_rfl) (fun _ _ _ h => h) hHeld (by rfl) ?_ ?_
      rotate_left
      · intro _ hSw; go_simp; try with_reducible rfl
      simp only [Act.put, List.setIfInBounds_toArray, List.set_cons_zero]
      refine wpAnyH_done (by kernel_rfl) ?_ _
      obtain ⟨og, oc, ho2, ho3, ho4, _, hrg⟩ := owns_range hown2o (by omega)
      subst ho2
      have hxx := ((((HX.out.1.kept (grownBy_drew w1 none) (.inr (by simp [Value.ownBlock]))).kept hgr2 (.inr (by simp [Value.ownBlock]))).alloc (.cells #[.slice (some ⟨yg, 0, none⟩) 256 yc] 26)).kept hgr2o (.inr (by simp [Value.ownBlock]; omega)))
      have hyy := (hown2.alloc (.cells #[.slice (some ⟨yg, 0, none⟩) 256 yc] 26)).kept hgr2o (.inr (by simp [Value.ownBlock]; omega))
      have hbel2 : Below N w w2 := ((HX.out.2.trans (hba2.mono hNN1)).alloc (by omega) _).grown hgr2o (by simp; omega) (fun k hk => by simp [Value.ownBlock] at hk; omega)
      have hcx := hrg 0 _ rfl
      have hcy := hrg 1 _ rfl
      have HF := Lib.hid (And.intro hbel2 (And.intro hcx (And.intro hcy (And.intro (reads_of_owns hxx) hyy))))
      clear hxx hyy hbel2 hcx hcy hrg hown2o hown2 hgr2 hgr2o hba2 hbb2 ho1 howA h0' h1' hr2 hs3 hHeld hrd
      go_wp2_with fail
      rw [rounds_succ]
      by_cases hz : Z = 0
      · subst hz
        go_wp2_with fail
        rw [Exit.noGoto_ret]
        go_ret2
        refine ⟨by rw [HB1.out]; exact HF.out.1, .inl ⟨by rw [HL.out]; omega, og, oc, _, _, rfl, HF.out.2.1, HF.out.2.2.1, HF.out.2.2.2.1, ?_⟩⟩
        have := owns_mono HF.out.2.2.2.2 hNN1
        rwa [List.take_of_length_le (l := l.drop 16) (by rw [List.length_drop, HL.out]; omega), ← HB1.out] at this
      · have hzi : (0 : Int) < (Z : Int) := by omega
        go_wp2_with fail
        rw [Exit.noGoto_ret]
        go_ret2
        exact ⟨by rw [HB1.out]; exact HF.out.1, .inr ⟨by rw [HL.out]; omega, 4, by decide, rfl⟩⟩
end Go.Proofs.YtdopdaoapdeabaaDoor
