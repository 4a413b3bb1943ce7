/- WALK: turned[byte]. -/
import Derived.Test.YtdopdaoapdeabaaDoorAddW
namespace Go.Proofs.YtdopdaoapdeabaaDoor
open Go.RowKit

set_option maxRecDepth 100000 in
set_option maxHeartbeats 1000000 in
theorem turned_any (g off len cap n : Nat) (l : List Nat) (w : World) (hl : l.length = len) (hlen : len ≤ 1000000) (hcap : len ≤ cap) (hn : n < len) (hsrc : w.rangeAt g off (bs l)) (hg : g < w.heap.size) :
    Calls Tryd.prog 37 #[.slice (some ⟨g, off, none⟩) len cap, .int .i64 n] w fun e w' => ∃ v, e = .returned v ∧ w'.ownsRow w.heap.size 5 1 v len (bs (l.drop n ++ l.take n)) ∧ Below w.heap.size w w' := by
  have Hl := Lib.hid hl
  have hinfo : (Tryd.prog.info? 5).map (fun i => (i.zero, i.size, i.bytes)) = some (some (.int .u8 0), 1, 1) := by kernel_rfl
  obtain ⟨i0, hi0, hz0, hz1, hz2⟩ := info_parts hinfo
  have Hi := Lib.hid (And.intro hi0 (And.intro hz0 (And.intro hz1 hz2)))
  have hn1 : ∀ j u, (bs (l.drop n))[j]? = some u → w.cell? ((⟨g, off + n, none⟩ : Addr).add j) = some u := fun j u hj => by
    rw [Addr.add_mid, Nat.add_assoc]
    refine hsrc (n + j) u ?_
    rw [← hj]; simp [bs]
  have hn2 : ∀ j u, (bs (l.take n))[j]? = some u → w.cell? ((⟨g, off, none⟩ : Addr).add j) = some u := fun j u hj => by
    rw [Addr.add_mid]
    refine hsrc j u ?_
    have hjn : j < n := by
      have := (List.getElem?_eq_some_iff.1 hj).1
      rw [bs_length, List.length_take] at this; omega
    rw [← hj]; simp [bs, hjn]
  have Hn := Lib.hid (And.intro hn1 hn2)
  have hne : ¬ cap = n := by omega
  have hn0 : (0 : Int) ≤ (n : Int) ∧ (n : Int) ≤ (len : Int) ∧ (n : Int) ≤ (cap : Int) := ⟨by omega, by omega, by omega⟩
  clear hinfo hi0 hz0 hz1 hz2 hl hn1 hn2 hsrc
  go_enter Tryd.func37, Tryd.ntmps37
  go_wp2_with fail
  refine wp_region_held_drew (S := (fun w' => Below w.heap.size w w')) (by kernel_rfl) ?_ (fun hHeld => ?_)
  · exact (Below.refl _ _).drew
  refine take_run (v := ?_) 0 (some 5) rfl rfl (by kernel_rfl) (by kernel_rfl) (by kernel_rfl) (fun _ _ _ h => h) hHeld (by rfl) ?_ ?_
  rotate_left
  · intro _ hSw; go_simp; try with_reducible rfl
  simp only [Act.put, List.setIfInBounds_toArray, List.set_cons_zero, List.set_cons_succ]
  refine take_run (v := ?_) 1 (some 6) rfl rfl (by kernel_rfl) (by kernel_rfl) (by kernel_rfl) (fun _ _ _ h => h) hHeld (by rfl) ?_ ?_
  rotate_left
  · intro _ hSw; go_simp; try with_reducible rfl
  simp only [Act.put, List.setIfInBounds_toArray, List.set_cons_zero, List.set_cons_succ]
  refine take_run (v := ?_) 2 (some 7) rfl rfl (by kernel_rfl) (by kernel_rfl) (by kernel_rfl) (fun _ _ _ h => h) hHeld (by rfl) ?_ ?_
  rotate_left
  · intro _ hSw; go_simp; try with_reducible rfl
  simp only [Act.put, List.setIfInBounds_toArray, List.set_cons_zero, List.set_cons_succ]
  refine take_run (v := ?_) 4 (some 9) rfl rfl (by kernel_rfl) (by kernel_rfl) (by kernel_rfl) (fun _ _ _ h => h) hHeld (by rfl) ?_ ?_
  rotate_left
  · intro _ hSw; go_simp; try with_reducible rfl
  simp only [Act.put, List.setIfInBounds_toArray, List.set_cons_zero, List.set_cons_succ]
  refine take_run (v := ?_) 5 (some 10) rfl rfl (by kernel_rfl) (by kernel_rfl) (by kernel_rfl) (fun _ _ _ h => h) hHeld (by rfl) ?_ ?_
  rotate_left
  · intro _ hSw; go_simp; try with_reducible rfl
  simp only [Act.put, List.setIfInBounds_toArray, List.set_cons_zero, List.set_cons_succ]
  refine take_run (v := ?_) 6 (some 11) rfl rfl (by kernel_rfl) (by kernel_rfl) (by kernel_rfl) (fun _ _ _ h => h) hHeld (by rfl) ?_ ?_
  rotate_left
  · intro _ hSw; go_simp; try with_reducible rfl
  simp only [Act.put, List.setIfInBounds_toArray, List.set_cons_zero, List.set_cons_succ]
  refine op_at 3 (some 8) rfl rfl (by kernel_rfl) (by rfl) (fun K hK => ?_)
  refine wp_append_own _ (.const (.slice none 0 0)) (.tmp 7) 26 rfl (w.heap.size) 5 i0 (.int .u8 0) 1 1 Tryd.underlying26 Hi.out.1 Hi.out.2.1 Hi.out.2.2.1 Hi.out.2.2.2 rfl (by decide) _ 0 [] rfl (World.ownsRow_nil _ _ _ _) ⟨g, off + n, none⟩ (len - n) (cap - n) (bs (l.drop n)) rfl (by rw [bs_length, List.length_drop, Nat.mul_one, Hl.out]) Hn.out.1 (bs_one _) (by unfold maxLen; omega) (by omega) (Nat.le_refl _) ?_
  intro v1 w1 hown1 hgr1 _
  have hbel : Below w.heap.size w w1 := hHeld.grown hgr1 (Nat.le_refl _) (fun k hk => by cases hk)
  rw [Nat.zero_add, List.nil_append] at hown1
  refine hK _ _ ⟨?_, fun hHeld => ?_⟩
  · first | exact hbel2 | exact hbel
  clear hK
  simp only [Act.put, List.setIfInBounds_toArray, List.set_cons_zero, List.set_cons_succ]
  refine op_at 7 (some 12) rfl rfl (by kernel_rfl) (by rfl) (fun K hK => ?_)
  have hlt1 := hown1.lt
  refine wp_append_own _ (.tmp 8) (.tmp 11) 26 rfl (w.heap.size) 5 i0 (.int .u8 0) 1 1 Tryd.underlying26 Hi.out.1 Hi.out.2.1 Hi.out.2.2.1 Hi.out.2.2.2 rfl (by decide) v1 _ _ rfl hown1 ⟨g, off, none⟩ n cap (bs (l.take n)) rfl (by rw [bs_length, List.length_take, Nat.mul_one, Hl.out]; omega) (fun j u hj => by rw [hbel.cell (p := (⟨g, off, none⟩ : Addr).add j) (by rw [Addr.add_block]; exact hg)]; exact Hn.out.2 j u hj) (bs_one _) (by unfold maxLen; omega) (by omega) hbel.size ?_
  intro v2 w2 hown2 hgr2 _
  have hbel2 : Below w.heap.size w w2 := hHeld.grown hgr2 hbel.size (fun k hk => (hlt1 k hk).1)
  refine hK _ _ ⟨?_, fun hHeld => ?_⟩
  · first | exact hbel2 | exact hbel
  clear hK
  simp only [Act.put, List.setIfInBounds_toArray, List.set_cons_zero, List.set_cons_succ]
  refine take_run (v := ?_) 8 (some 4) rfl rfl (by kernel_rfl) (by kernel_rfl) (by kernel_rfl) (fun _ _ _ h => h) hHeld (by rfl) ?_ ?_
  rotate_left
  · intro _ hSw; go_simp; try with_reducible rfl
  simp only [Act.put, List.setIfInBounds_toArray, List.set_cons_zero, List.set_cons_succ]
  refine wpAnyH_done (by kernel_rfl) ?_ _
  go_wp2_with fail
  go_ret
  rw [show len - n + n = len by omega, bs_append] at hown2
  exact ⟨_, rfl, hown2, hHeld⟩
end Go.Proofs.YtdopdaoapdeabaaDoor
