/- WALK: sacristanlaw07.BlockKeys. -/
import Derived.Test.YtdopdaoapdeabaaDoorHidesW
namespace Go.Proofs.YtdopdaoapdeabaaDoor
open Go.RowKit

theorem padL_full {l : List Nat} {n : Nat} (h : l.length = n) : padL l n = l := by simp [padL, h]
/-- shown, and hidden again -/
theorem hide_show {ks l : List Nat} (hok : okB l) (hl : ∀ x ∈ l, x < 256) : hideL ks (getL (l.take 8)) (getL ((l.drop 8).take 4)) (xorL (l.drop 16) (streamL ks (l.take 16) 256)) = l := by
  have h16 : (l.take 16).length = 16 := by rw [List.length_take, hok.1]; decide
  have hd : (l.drop 16).length = 256 := by rw [List.length_drop, hok.1]
  have hs : (streamL ks (l.take 16) 256).length = (l.drop 16).length := by rw [streamL_length h16, hd]
  rw [hideL, headL_getL hok hl, padL_full (by rw [xorL_length, streamL_length h16]), xorL_xorL hs, List.take_append_drop]

theorem hide_ok (key : List Nat) (e s : Nat) (l : List Nat) (v : Value) (w : World) (hkl : key.length = 16) (hkt : ∀ x ∈ key, x < 256) (hs : s < 4294967296) (hr : Reads w v (bs l)) (hlt : ∀ x ∈ l, x < 256) (h : l.length ≤ 256) :
    Calls Tryd.prog 10 #[.agg (bx key), .int .u64 e, .int .u32 s, v] w fun en w' => ∃ g c, en = .returned (.tuple #[.slice (some ⟨g, 0, none⟩) 272 c, .int .i64 0]) ∧ Reads w' (.slice (some ⟨g, 0, none⟩) 272 c) (bs (hideL (keysL key) e s l)) ∧ Below w.heap.size w w' := by
  refine (hide_any key e s l v w hkl hkt hs hr hlt).mono ?_
  rintro en w' ⟨hb, ⟨_, v, rfl, ho⟩ | ⟨hbad, _⟩⟩
  · obtain ⟨g, c, rfl, _, _, _, _⟩ := owns_range ho (by omega)
    exact ⟨g, c, rfl, reads_of_owns ho, hb⟩
  · omega

set_option maxRecDepth 100000 in
set_option maxHeartbeats 4000000 in
theorem blockKeys_walk (key : List Nat) (v : Value) (l : List Nat) (w : World) (hkl : key.length = 16) (hkt : ∀ x ∈ key, x < 256)
    (hr : Reads w v (bs l)) (hlt : ∀ x ∈ l, x < 256) (_ : l.length ≤ maxLen) (hg : ET w) :
    Calls Tryd.prog 8 #[.agg (bx key), v] w fun en w' => en = .returned (.bool true) ∧ Below w.heap.size w w' := by
  obtain ⟨va, vc, rfl⟩ := hr.len
  have hQ0 := QL.start (key := key) hr hg
  rw [bs_length] at hQ0 ⊢
  have Hkey := Lib.hid (And.intro hkl hkt)
  have HT := Lib.hid hlt
  have hik : (Tryd.prog.info? 23).map (·.size) = some (bx key).size := by rw [bx_size, hkl]; kernel_rfl
  have Hik := Lib.hid hik
  obtain ⟨m, hm⟩ : ∃ m, l.length = m := ⟨_, rfl⟩
  rw [hm] at hQ0 ⊢
  obtain ⟨N, hN⟩ : ∃ N, w.heap.size = N := ⟨_, rfl⟩
  rw [hN] at hQ0
  have HN := Lib.hid hN
  have Hm := Lib.hid hm
  clear hr hg hkl hkt hlt hik hm
  by_cases h500 : m ≤ 500
  · have h5i : ¬ (500 : Int) < (m : Int) := by omega
    have HL : Hid (l.length ≤ 140737488355328) := by show _ ≤ _; rw [Hm.out]; omega
    by_cases hok : okB l
    · have hwA : whenA l = getL (l.take 8) := by rw [whenA, if_pos hok]
      have hwB : whenB l = getL ((l.drop 8).take 4) := by rw [whenB, if_pos hok]
      have hE : errB l = 0 := by rw [errB, if_pos hok]
      have hS : showR (keysL key) l = xorL (l.drop 16) (streamL (keysL key) (l.take 16) 256) := by rw [showR, if_pos hok]
      have hhs := hide_show (ks := keysL key) hok HT.out
      obtain ⟨X, hX⟩ : ∃ X, xorL (l.drop 16) (streamL (keysL key) (l.take 16) 256) = X := ⟨_, rfl⟩
      have hXl : X.length = 256 := by rw [← hX, xorL_length, streamL_length (by rw [List.length_take, hok.1]; decide)]
      have hXt : ∀ x ∈ X, x < 256 := by rw [← hX]; exact xorL_lt (fun x hx => HT.out x (List.mem_of_mem_drop hx)) (streamL_lt (sched_lt Hkey.out.2 _) (fun x hx => HT.out x (List.mem_of_mem_take hx)) 256)
      have hb4 : getL ((l.drop 8).take 4) < 4294967296 := by
        have h := getL_lt (l := (l.drop 8).take 4) (fun x hx => HT.out x (List.mem_of_mem_drop (List.mem_of_mem_take hx)))
        rw [List.length_take, List.length_drop, hok.1] at h
        exact h
      obtain ⟨E, hEe⟩ : ∃ E, getL (l.take 8) = E := ⟨_, rfl⟩
      obtain ⟨Q, hQe⟩ : ∃ Q, getL ((l.drop 8).take 4) = Q := ⟨_, rfl⟩
      rw [hX] at hS hhs
      rw [hEe] at hwA hhs
      rw [hQe] at hwB hhs hb4
      have Hw := Lib.hid (And.intro hwA (And.intro hwB (And.intro hE hS)))
      have Hh := Lib.hid (And.intro hhs (And.intro hXl hXt))
      have hQ32 := hb4
      clear hok hwA hwB hE hS hhs hX hXl hXt hb4 hEe hQe
      go_enter Tryd.func8, Tryd.ntmps8
      go_upto_region 3 with (fail)
      generalize w.alloc (.cells (bx key) 23) = W at hQ0 ⊢
      clear hN
      go_upto_region 4 with (go_at_call 18; refine (when_u l _ _ hQ0.r HT.out HL.out hQ0.et).mono ?_; rintro en w1 ⟨rfl, hb1⟩)
      have hQ1 := hQ0.below hb1
      rw [Hw.out.1, Hw.out.2.1, Hw.out.2.2.1]
      clear hb1 hQ0
      clear W
      go_upto_region 5 with (first | (refine wpList_load_row rfl 23 _ rfl N rfl 23 (bx key) _ _ hQ1.key.row Tryd.underlying23 rfl Hik.out ?_) | (go_at_call 16; refine (show_u key l _ _ Hkey.out.1 Hkey.out.2 hQ1.r HT.out HL.out hQ1.et).mono ?_; rintro en w2 ⟨x, rfl, hx, hb2⟩))
      have hQ2 := hQ1.below hb2
      rw [Hw.out.2.2.1]
      rw [Hw.out.2.2.2] at hx
      obtain ⟨xa, xc, rfl⟩ := hx.len
      rw [bs_length, Hh.out.2.1] at hx ⊢
      have Hx := Lib.hid hx
      clear hb2 hQ1 hx
      clear w1
      go_upto_region 9 with (fail)
      go_upto_region 10 with (first | (refine wpList_load_row rfl 23 _ rfl N rfl 23 (bx key) _ _ hQ2.key.row Tryd.underlying23 rfl Hik.out ?_) | (go_at_call 10; refine (hide_ok key E Q X _ _ Hkey.out.1 Hkey.out.2 hQ32 Hx.out Hh.out.2.2 (by rw [Hh.out.2.1]; omega)).mono ?_; rintro en w3 ⟨cg, cc, rfl, hrc, hb3⟩))
      have hQ3 := hQ2.below hb3
      rw [Hh.out.1] at hrc
      have HC := Lib.hid hrc
      clear hb3 hQ2 hrc Hx
      clear w2
      go_wp2_with (first
        | (go_at_call 13; refine (same_eq _ _ l _ HC.out hQ3.r HT.out).mono ?_; rintro en w4 ⟨rfl, hb4⟩; have hQ4 := hQ3.below hb4; clear hb4)
        | (go_at_call 9; refine (known7_any _ hQ4.et).mono ?_; rintro en w5 ⟨rfl, hb5⟩; have hQ5 := hQ4.below hb5; clear hb5))
      go_ret
      exact ⟨rfl, by rw [HN.out]; exact hQ5.bel⟩
    · have hwA : whenA l = 0 := by rw [whenA, if_neg hok]
      have hwB : whenB l = 0 := by rw [whenB, if_neg hok]
      have hE : errB l = 4 := by rw [errB, if_neg hok]
      have hS : showR (keysL key) l = [] := by rw [showR, if_neg hok]
      have Hw := Lib.hid (And.intro hwA (And.intro hwB (And.intro hE hS)))
      clear hok hwA hwB hE hS
      go_enter Tryd.func8, Tryd.ntmps8
      go_upto_region 3 with (fail)
      generalize w.alloc (.cells (bx key) 23) = W at hQ0 ⊢
      clear hN
      go_upto_region 4 with (go_at_call 18; refine (when_u l _ _ hQ0.r HT.out HL.out hQ0.et).mono ?_; rintro en w1 ⟨rfl, hb1⟩)
      have hQ1 := hQ0.below hb1
      rw [Hw.out.1, Hw.out.2.1, Hw.out.2.2.1]
      clear hb1 hQ0
      clear W
      go_upto_region 5 with (first | (refine wpList_load_row rfl 23 _ rfl N rfl 23 (bx key) _ _ hQ1.key.row Tryd.underlying23 rfl Hik.out ?_) | (go_at_call 16; refine (show_u key l _ _ Hkey.out.1 Hkey.out.2 hQ1.r HT.out HL.out hQ1.et).mono ?_; rintro en w2 ⟨x, rfl, hx, hb2⟩))
      have hQ2 := hQ1.below hb2
      rw [Hw.out.2.2.1]
      rw [Hw.out.2.2.2] at hx
      obtain ⟨xa, xc, rfl⟩ := hx.len
      rw [show (bs []).length = 0 from rfl] at hx ⊢
      clear hb2 hQ1 hx
      clear w1
      go_wp2_with (go_at_call 9; refine (known7_any _ hQ2.et).mono ?_; rintro en w5 ⟨rfl, hb5⟩; have hQ5 := hQ2.below hb5; clear hb5)
      go_ret
      exact ⟨rfl, by rw [HN.out]; exact hQ5.bel⟩
  · have h5i : (500 : Int) < (m : Int) := by omega
    go_enter Tryd.func8, Tryd.ntmps8
    go_wp2_with (go_at_call 9; refine (known7_any _ hQ0.et).mono ?_; rintro en w7 ⟨rfl, hb7⟩; have hQ7 := hQ0.below hb7; clear hb7)
    go_ret
    exact ⟨rfl, by rw [HN.out]; exact hQ7.bel⟩
end Go.Proofs.YtdopdaoapdeabaaDoor
