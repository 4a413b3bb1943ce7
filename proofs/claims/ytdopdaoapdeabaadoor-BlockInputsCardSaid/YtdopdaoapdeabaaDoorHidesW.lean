/- WALKS: sacristanlaw07.BlockHides, BlockShows. -/
import Derived.Test.YtdopdaoapdeabaaDoorB7W
namespace Go.Proofs.YtdopdaoapdeabaaDoor
open Go.RowKit

/-- what stands while a law of blocks is walked: the key's block, bytes that came in, the listed variable -/
structure QL (w X : World) (N : Nat) (key : List Nat) (v : Value) (l : List Nat) : Prop where
  key : Bytes X N key 23
  r : Reads X v (bs l)
  et : ET X
  bel : Below N w X
theorem QL.below {w X X' : World} {N : Nat} {key : List Nat} {v : Value} {l : List Nat} (h : QL w X N key v l) (hb : Below X.heap.size X X') : QL w X' N key v l :=
  ⟨h.key.below hb h.key.lt, h.r.below hb (Nat.le_refl _), h.et.below hb h.et.pos, h.bel.trans (hb.mono (Nat.le_of_lt h.key.lt))⟩
theorem QL.start {w : World} {key : List Nat} {v : Value} {l : List Nat} (hr : Reads w v (bs l)) (hg : ET w) : QL w (w.alloc (.cells (bx key) 23)) w.heap.size key v l :=
  have hb : Below w.heap.size w (w.alloc (.cells (bx key) 23)) := (Below.refl _ _).alloc (Nat.le_refl _) _
  ⟨Bytes.new _ _ _, hr.below hb (Nat.le_refl _), hg.below hb hg.pos, hb⟩

set_option maxRecDepth 100000 in
set_option maxHeartbeats 4000000 in
theorem blockHides_walk (key : List Nat) (e s : Nat) (v : Value) (l : List Nat) (w : World) (hkl : key.length = 16) (hkt : ∀ x ∈ key, x < 256) (he : e < 18446744073709551616) (hs : s < 4294967296)
    (hr : Reads w v (bs l)) (hlt : ∀ x ∈ l, x < 256) (_ : l.length ≤ maxLen) (hg : ET w) :
    Calls Tryd.prog 3 #[.agg (bx key), .int .u64 e, .int .u32 s, v] w fun en w' => en = .returned (.bool true) ∧ Below w.heap.size w w' := by
  obtain ⟨va, vc, rfl⟩ := hr.len
  have hQ0 := QL.start (key := key) hr hg
  rw [bs_length] at hQ0 ⊢
  have Hkey := Lib.hid (And.intro hkl hkt)
  have HT := Lib.hid hlt
  have hik : (Tryd.prog.info? 23).map (·.size) = some (bx key).size := by rw [bx_size, hkl]; kernel_rfl
  have Hik := Lib.hid hik
  obtain ⟨m, hm⟩ : ∃ m, l.length = m := ⟨_, rfl⟩
  rw [hm] at hQ0 ⊢
  obtain ⟨N, hN⟩ : ∃ N, w.heap.size = N := ⟨_, rfl⟩
  rw [hN] at hQ0
  have HN := Lib.hid hN
  have Hm := Lib.hid hm
  clear hr hg hkl hkt hlt hik hm
  by_cases h500 : m ≤ 500
  · have h5i : ¬ (500 : Int) < (m : Int) := by omega
    go_enter Tryd.func3, Tryd.ntmps3
    go_upto_region 3 with (fail)
    generalize w.alloc (.cells (bx key) 23) = W at hQ0 ⊢
    clear hN
    go_upto_region 4 with (first | (refine wpList_load_row rfl 23 _ rfl N rfl 23 (bx key) _ _ hQ0.key.row Tryd.underlying23 rfl Hik.out ?_) | (go_at_call 10; refine (hide_u key e s l _ _ Hkey.out.1 Hkey.out.2 hs hQ0.r HT.out).mono ?_; rintro en w1 ⟨x, rfl, hx, hb1⟩))
    have hQ1 := hQ0.below hb1
    clear hQ0 hb1
    clear W
    go_upto_region 5 with (first | (refine wpList_load_row rfl 23 _ rfl N rfl 23 (bx key) _ _ hQ1.key.row Tryd.underlying23 rfl Hik.out ?_) | (go_at_call 12; refine (rnew_any key _ Hkey.out.1 Hkey.out.2).mono ?_; rintro en w2 ⟨kv, bv, rfl, hC, hb2⟩; have hQ2 := hQ1.below hb2; have hx2 := hx.below hb2 (Nat.le_refl _); have HC := Lib.hid hC; clear hC hb2) | (go_at_call 11; refine (rhide_u kv bv (keysL key) e s l _ _ HC.out he hs hQ2.r HT.out).mono ?_; rintro en w3 ⟨y, rfl, hy, hb3⟩))
    have hQ3 := hQ2.below hb3
    have hx3 := hx2.below hb3 (Nat.le_refl _)
    have hRlt := hideR_lt (ks := keysL key) (sched_lt Hkey.out.2 _) HT.out e s
    obtain ⟨R, hR⟩ : ∃ R, hideR (keysL key) e s l = R := ⟨_, rfl⟩
    rw [hR] at hx3 hy hRlt
    obtain ⟨c, hc⟩ : ∃ c, hideE l = c := ⟨_, rfl⟩
    rw [hc]
    obtain ⟨H, hH⟩ : ∃ H, headL e s = H := ⟨_, rfl⟩
    have HH : Hid (headL e s = H) := hH
    have hHl : H.length = 16 := by rw [← hH, headL_length]
    have hHt : ∀ x ∈ H, x < 256 := by rw [← hH]; exact headL_lt e s
    have hE1 : ∀ w, (binOp .eql 39 (.agg (bx H)) (.agg (bx H))).run Tryd.prog w = .ok (.bool true) w := fun w => by
      rw [run_eql_bx Tryd.underlying39 Tryd.underlying5 (by kernel_rfl) hHl hHl hHt hHt w, decide_eq_true rfl]
    have hE2 : ∀ w, (Op.equalIn 10000 39 (.agg (bx H)) (.agg (bx H))).run Tryd.prog w = .ok true w := fun w => by
      have := run_equalIn_bx (l := H) (m := H) Tryd.underlying39 Tryd.underlying5 (by kernel_rfl) hHl hHl hHt hHt w
      rwa [decide_eq_true rfl] at this
    have HR := Lib.hid (And.intro hx3 (And.intro hy hRlt))
    clear hx hx2 hx3 hy hRlt hR hc hH hHl hHt hQ1 hQ2 hb3
    clear HC w1 w2
    go_wp2_with (first
      | (go_at_call 13; refine (same_eq _ _ R _ HR.out.1 HR.out.2.1 HR.out.2.2).mono ?_; rintro en w4 ⟨rfl, hb4⟩; have hQ4 := hQ3.below hb4; clear hb4)
      | (go_at_call 14; refine (head_any e s _ hs).mono ?_; rw [HH.out]; rintro en w5 ⟨rfl, hb5⟩; have hQ5 := hQ4.below hb5; clear hb5)
      | (go_at_call 15; refine (rhead_any e s _ he hs).mono ?_; rw [HH.out]; rintro en w6 ⟨rfl, hb6⟩; have hQ6 := hQ5.below hb6; clear hb6)
      | (go_at_call 9; refine (known7_any _ hQ6.et).mono ?_; rintro en w7 ⟨rfl, hb7⟩; have hQ7 := hQ6.below hb7; clear hb7))
    go_ret
    exact ⟨rfl, by rw [HN.out]; exact hQ7.bel⟩
  · have h5i : (500 : Int) < (m : Int) := by omega
    go_enter Tryd.func3, Tryd.ntmps3
    go_wp2_with (go_at_call 9; refine (known7_any _ hQ0.et).mono ?_; rintro en w7 ⟨rfl, hb7⟩; have hQ7 := hQ0.below hb7; clear hb7)
    go_ret
    exact ⟨rfl, by rw [HN.out]; exact hQ7.bel⟩

set_option maxRecDepth 100000 in
set_option maxHeartbeats 4000000 in
theorem blockShows_walk (key : List Nat) (v : Value) (l : List Nat) (w : World) (hkl : key.length = 16) (hkt : ∀ x ∈ key, x < 256)
    (hr : Reads w v (bs l)) (hlt : ∀ x ∈ l, x < 256) (_ : l.length ≤ maxLen) (hg : ET w) :
    Calls Tryd.prog 5 #[.agg (bx key), v] w fun en w' => en = .returned (.bool true) ∧ Below w.heap.size w w' := by
  obtain ⟨va, vc, rfl⟩ := hr.len
  have hQ0 := QL.start (key := key) hr hg
  rw [bs_length] at hQ0 ⊢
  have Hkey := Lib.hid (And.intro hkl hkt)
  have HT := Lib.hid hlt
  have hik : (Tryd.prog.info? 23).map (·.size) = some (bx key).size := by rw [bx_size, hkl]; kernel_rfl
  have Hik := Lib.hid hik
  obtain ⟨m, hm⟩ : ∃ m, l.length = m := ⟨_, rfl⟩
  rw [hm] at hQ0 ⊢
  obtain ⟨N, hN⟩ : ∃ N, w.heap.size = N := ⟨_, rfl⟩
  rw [hN] at hQ0
  have HN := Lib.hid hN
  have Hm := Lib.hid hm
  clear hr hg hkl hkt hlt hik hm
  by_cases h500 : m ≤ 500
  · have h5i : ¬ (500 : Int) < (m : Int) := by omega
    have HL : Hid (l.length ≤ 140737488355328) := by show _ ≤ _; rw [Hm.out]; omega
    go_enter Tryd.func5, Tryd.ntmps5
    go_upto_region 3 with (fail)
    generalize w.alloc (.cells (bx key) 23) = W at hQ0 ⊢
    clear hN
    go_upto_region 4 with (first | (refine wpList_load_row rfl 23 _ rfl N rfl 23 (bx key) _ _ hQ0.key.row Tryd.underlying23 rfl Hik.out ?_) | (go_at_call 16; refine (show_u key l _ _ Hkey.out.1 Hkey.out.2 hQ0.r HT.out HL.out hQ0.et).mono ?_; rintro en w1 ⟨x, rfl, hx, hb1⟩))
    have hQ1 := hQ0.below hb1
    clear hQ0 hb1
    clear W
    go_upto_region 5 with (first | (refine wpList_load_row rfl 23 _ rfl N rfl 23 (bx key) _ _ hQ1.key.row Tryd.underlying23 rfl Hik.out ?_) | (go_at_call 12; refine (rnew_any key _ Hkey.out.1 Hkey.out.2).mono ?_; rintro en w2 ⟨kv, bv, rfl, hC, hb2⟩; have hQ2 := hQ1.below hb2; have hx2 := hx.below hb2 (Nat.le_refl _); have HC := Lib.hid hC; clear hC hb2) | (go_at_call 17; refine (rshow_u kv bv (keysL key) l _ _ HC.out hQ2.r HT.out).mono ?_; rintro en w3 ⟨y, rfl, hy, hb3⟩))
    have hQ3 := hQ2.below hb3
    have hx3 := hx2.below hb3 (Nat.le_refl _)
    have hRlt := showR_lt (ks := keysL key) (l := l) (sched_lt Hkey.out.2 _) HT.out
    obtain ⟨R, hR⟩ : ∃ R, showR (keysL key) l = R := ⟨_, rfl⟩
    rw [hR] at hx3 hy hRlt
    obtain ⟨c, hc⟩ : ∃ c, errB l = c := ⟨_, rfl⟩
    obtain ⟨a, ha⟩ : ∃ a, whenA l = a := ⟨_, rfl⟩
    obtain ⟨b, hb⟩ : ∃ b, whenB l = b := ⟨_, rfl⟩
    have Hc := Lib.hid (And.intro hc (And.intro ha hb))
    rw [hc]
    have HR := Lib.hid (And.intro hx3 (And.intro hy hRlt))
    have hx3 := hx3
    clear hx hx2 hRlt hR hc ha hb hQ1 hQ2 hb3
    clear HC w1 w2
    go_upto_region 6 with (go_at_call 18; refine (when_u l _ _ hQ3.r HT.out HL.out hQ3.et).mono ?_; rintro en w4 ⟨rfl, hb4⟩)
    have hQ4 := hQ3.below hb4
    have hx4 := HR.out.1.below hb4 (Nat.le_refl _)
    have hy4 := HR.out.2.1.below hb4 (Nat.le_refl _)
    rw [Hc.out.1, Hc.out.2.1, Hc.out.2.2]
    clear hb4 hx3 hy hQ3
    go_upto_region 7 with (go_at_call 19; refine (rwhen_u l _ _ hQ4.r HT.out).mono ?_; rintro en w5 ⟨rfl, hb5⟩)
    have hQ5 := hQ4.below hb5
    have hx5 := hx4.below hb5 (Nat.le_refl _)
    have hy5 := hy4.below hb5 (Nat.le_refl _)
    rw [Hc.out.1, Hc.out.2.1, Hc.out.2.2]
    have HR5 := Lib.hid (And.intro hx5 (And.intro hy5 HR.out.2.2))
    clear hb5 hx4 hy4 hx5 hy5 hQ4 HR
    go_wp2_with (first
      | (go_at_call 13; refine (same_eq _ _ R _ HR5.out.1 HR5.out.2.1 HR5.out.2.2).mono ?_; rintro en w6 ⟨rfl, hb6⟩; have hQ6 := hQ5.below hb6; clear hb6)
      | (go_at_call 9; refine (known7_any _ hQ6.et).mono ?_; rintro en w7 ⟨rfl, hb7⟩; have hQ7 := hQ6.below hb7; clear hb7))
    go_ret
    exact ⟨rfl, by rw [HN.out]; exact hQ7.bel⟩
  · have h5i : (500 : Int) < (m : Int) := by omega
    go_enter Tryd.func5, Tryd.ntmps5
    go_wp2_with (go_at_call 9; refine (known7_any _ hQ0.et).mono ?_; rintro en w7 ⟨rfl, hb7⟩; have hQ7 := hQ0.below hb7; clear hb7)
    go_ret
    exact ⟨rfl, by rw [HN.out]; exact hQ7.bel⟩
end Go.Proofs.YtdopdaoapdeabaaDoor
