/- WALK: sacristanlaw04.AesBoxes. -/
import Derived.Test.YtdopdaoapdeabaaBoxesP
import Derived.Test.YtdopdaoapdeabaaBlockW
import Derived.Test.YtdopdaoapdeabaaKnownW
namespace Go.Proofs.Ytdopdaoapdeabaa
open Go.RowKit

/-- what stands while AesBoxes counts -/
structure XB (w X : World) (N : Nat) (key a b s : List Nat) : Prop where
  key : Bytes X N key 35
  pa : Bytes X (N + 1) a 30
  pb : Bytes X (N + 2) b 30
  seen : Nums .i64 X (N + 3) s 3
  bel : Below N w X
theorem XB.size {w X : World} {N : Nat} {key a b s : List Nat} (h : XB w X N key a b s) : N + 3 < X.heap.size := h.seen.lt
theorem XB.below {w X X' : World} {N : Nat} {key a b s : List Nat} (h : XB w X N key a b s) (hb : Below X.heap.size X X') : XB w X' N key a b s :=
  ⟨h.key.below hb h.key.lt, h.pa.below hb h.pa.lt, h.pb.below hb h.pb.lt, h.seen.below hb h.seen.lt, h.bel.trans (hb.mono (by have := h.size; omega))⟩
theorem XB.drew {w X : World} {N : Nat} {key a b s : List Nat} (h : XB w X N key a b s) : XB w X.drew N key a b s := h.below (Below.refl _ _).drew
theorem XB.set {w X : World} {N : Nat} {key a b s : List Nat} (h : XB w X N key a b s) (i v : Nat) : XB w (X.setCell ⟨N + 3, i, none⟩ (.int .i64 (v : Int))) N key a b (s.set i v) :=
  ⟨h.key.other _ _ (by simp), h.pa.other _ _ (by simp), h.pb.other _ _ (by simp), h.seen.set i v, h.bel.setCell (show N ≤ N + 3 by omega) _⟩

set_option maxRecDepth 100000 in
set_option maxHeartbeats 4000000 in
theorem aesBoxes_walk (key pa pb : List Nat) (w : World) (hkl : key.length = 16) (hkt : ∀ x ∈ key, x < 256) (hal : pa.length = 16) (hat : ∀ x ∈ pa, x < 256) (hbl : pb.length = 16) (hbt : ∀ x ∈ pb, x < 256) :
    Calls Try.prog 7 #[.agg (bx key), .agg (bx pa), .agg (bx pb)] w fun e w' => e = .returned (.bool true) ∧ Below w.heap.size w w' := by
  have hmk : ∀ w, (Instr.makeSlice 25 (.int .i64 256) (.int .i64 256)).run Try.prog w = .ok (.slice (some ⟨w.heap.size, 0, none⟩) 256 256) (w.alloc (.cells (kx .i64 (zeros 256)) 3)) := fun _ => by kernel_rfl
  have Ha := Lib.hid (And.intro hal hat)
  have Hb := Lib.hid (And.intro hbl hbt)
  have Hkey := Lib.hid (And.intro hkl hkt)
  have hik : (Try.prog.info? 35).map (·.size) = some (bx key).size := by rw [bx_size, hkl]; kernel_rfl
  have hia : (Try.prog.info? 30).map (·.size) = some (bs pa).length := by rw [bs_length, hal]; kernel_rfl
  have hib : (Try.prog.info? 30).map (·.size) = some (bs pb).length := by rw [bs_length, hbl]; kernel_rfl
  have Hi2 := Lib.hid (And.intro hik (And.intro hia hib))
  obtain ⟨N, hN⟩ : ∃ N, w.heap.size = N := ⟨_, rfl⟩
  have HN := Lib.hid hN
  clear hik hia hib hkl hkt hal hat hbl hbt
  go_enter Try.func7, Try.ntmps7
  go_upto_region 2 with (fail)
  have hX : XB w ((((w.alloc (.cells (bx key) 35)).alloc (.cells (bx pa) 30)).alloc (.cells (bx pb) 30)).alloc (.cells (kx .i64 (zeros 256)) 3)) N key pa pb (seenL 0) := by
    have s1 : (w.alloc (.cells (bx key) 35)).heap.size = N + 1 := by simp [hN]
    have s2 : ((w.alloc (.cells (bx key) 35)).alloc (.cells (bx pa) 30)).heap.size = N + 2 := by simp [hN]
    have s3 : (((w.alloc (.cells (bx key) 35)).alloc (.cells (bx pa) 30)).alloc (.cells (bx pb) 30)).heap.size = N + 3 := by simp [hN]
    have k1 := Bytes.new w key 35
    have k2 := Bytes.new (w.alloc (.cells (bx key) 35)) pa 30
    have k3 := Bytes.new ((w.alloc (.cells (bx key) 35)).alloc (.cells (bx pa) 30)) pb 30
    have k4 := Nums.new .i64 (((w.alloc (.cells (bx key) 35)).alloc (.cells (bx pa) 30)).alloc (.cells (bx pb) 30)) (zeros 256) 3
    rw [hN] at k1
    rw [s1] at k2
    rw [s2] at k3
    rw [s3] at k4
    rw [seenL_zero]
    refine ⟨((k1.old _).old _).old _, (k2.old _).old _, k3.old _, k4, ?_⟩
    exact ((((Below.refl N w).alloc (by omega) _).alloc (by rw [s1]; omega) _).alloc (by rw [s2]; omega) _).alloc (by rw [s3]; omega) _
  generalize ((((w.alloc (.cells (bx key) 35)).alloc (.cells (bx pa) 30)).alloc (.cells (bx pb) 30)).alloc (.cells (kx .i64 (zeros 256)) 3)) = W at hX ⊢
  rw [show N + 1 + 1 = N + 2 from rfl, show N + 2 + 1 = N + 3 from rfl]
  clear hN hmk
  go_wp2_with fail
  go_loopg [8] 256 (fun g i' wr => ∃ i : Nat, i + g = 256 ∧ i' = .int .i64 i ∧ XB w wr N key pa pb (seenL i))
  case atStart => exact ⟨0, by omega, rfl, hX⟩
  case round =>
    clear hX
    obtain ⟨i, hig, rfl, hX⟩ := hrel
    by_cases hlt : i < 256
    · have hlti : (i : Int) < 256 := by omega
      have hi0 : (0 : Int) ≤ (i : Int) := by omega
      obtain ⟨q, hq⟩ : ∃ q, sbox.getD i 0 = q := ⟨_, rfl⟩
      have hq256 : q < 256 := by rw [← hq]; exact getD_lt sbox_lt i
      have hqi : (0 : Int) ≤ (q : Int) ∧ (q : Int) < 256 := ⟨by omega, by omega⟩
      have hcle := cntN_le (fun a => sbox.getD a 0 == q) i
      have hcg := seenL_get (i := i) hq256
      have hsl := seenL_set i q hq
      obtain ⟨c, hcc⟩ : ∃ c, cntN (fun a => sbox.getD a 0 == q) i = c := ⟨_, rfl⟩
      rw [hcc] at hcle hcg hsl
      have Hq := Lib.hid (And.intro hq (And.intro hcg hsl))
      have hc256 : (c : Int) < 256 := by omega
      clear hq hcg hsl hcc hcle
      go_upto_region 6 with (go_at_call 14; refine (box_any i _ (by omega) (by omega)).mono ?_; rw [Int.toNat_natCast, Hq.out.1]; rintro e w1 ⟨rfl, hb1⟩)
      have hX1 := hX.below hb1
      have hcell := hX1.seen.cell (i := q) (by rw [seenL_length]; exact hq256)
      rw [Hq.out.2.1] at hcell
      have hfree := hX1.seen.free q
      have hX2 := hX1.set q (c + 1)
      rw [Hq.out.2.2] at hX2
      have Hx2 := Lib.hid hX2
      clear hX hb1 hX1 hX2
      have hc0 : (0 : Int) ≤ (c : Int) := by omega
      go_upto_region 8 with (fail)
      rw [show ((c : Int) + 1) = ((c + 1 : Nat) : Int) by omega]
      obtain ⟨W2, hW2⟩ : ∃ W2, W2 = w1.setCell ⟨N + 3, q, none⟩ (.int .i64 ((c + 1 : Nat) : Int)) := ⟨_, rfl⟩
      rw [← hW2] at Hx2 ⊢
      clear hW2 hcell hfree hqi hq256 hc0 hc256
      clear w1
      obtain rfl : gk = 256 - i := by omega
      have hall := onesN_all hlt
      have Hall := Lib.hid hall
      clear hall
      go_wp2_with fail
      go_loopg [10, 11] 256 (fun g o' j' wr' => ∃ j : Nat, W2 = wr' ∧ j + g = 256 ∧ o' = .int .i64 (onesN i j) ∧ j' = .int .i64 j)
      case atStart => exact ⟨0, rfl, by omega, rfl, rfl⟩
      case round =>
        obtain ⟨j, rfl, hjg, rfl, rfl⟩ := hrel
        by_cases hjlt : j < 256
        · have hjlti : (j : Int) < 256 := by omega
          have hj0 : (0 : Int) ≤ (j : Int) := by omega
          have hole := cntN_le (fun j => gmul i j == 1) j
          have hos : onesN i (j + 1) = onesN i j + if (gmul i j == 1) = true then 1 else 0 := rfl
          rw [show cntN (fun j => gmul i j == 1) j = onesN i j from rfl] at hole
          obtain ⟨o, ho⟩ : ∃ o, onesN i j = o := ⟨_, rfl⟩
          rw [ho] at hole hos ⊢
          obtain ⟨g, hg⟩ : ∃ g, gmul i j = g := ⟨_, rfl⟩
          rw [hg] at hos
          have hg256 : g < 256 := by rw [← hg]; exact gmul_lt j hlt
          have Hg := Lib.hid hg
          have Hos := Lib.hid hos
          clear ho hg hos
          have ho256 : (o : Int) < 256 := by omega
          have ho0 : (0 : Int) ≤ (o : Int) := by omega
          by_cases h1 : g = 1
          · subst h1
            go_wp2_with (go_at_call 12; refine (mul_any i j _ (by omega) (by omega) (by omega) (by omega)).mono ?_; rw [Int.toNat_natCast, Int.toNat_natCast, Hg.out]; rintro e w2 ⟨rfl, rfl⟩)
            go_roundg (gk - 1)
            case measure => omega
            case rel => exact ⟨j + 1, rfl, by omega, by rw [Hos.out]; go_num, by go_num⟩
          · have h1i : ¬ (g : Int) = 1 := by omega
            go_wp2_with (go_at_call 12; refine (mul_any i j _ (by omega) (by omega) (by omega) (by omega)).mono ?_; rw [Int.toNat_natCast, Int.toNat_natCast, Hg.out]; rintro e w2 ⟨rfl, rfl⟩)
            go_roundg (gk - 1)
            case measure => omega
            case rel => exact ⟨j + 1, rfl, by omega, by rw [Hos.out, if_neg (by simp [h1]), Nat.add_zero], by go_num⟩
        · have hjlti : ¬ (j : Int) < 256 := by omega
          obtain rfl : j = 256 := by omega
          rw [Hall.out]
          go_wp2_with fail
          all_goals
            go_roundg (256 - (i + 1))
            case measure => omega
            case rel => exact ⟨i + 1, by omega, by go_num, Hx2.out⟩
    · have hlti : ¬ (i : Int) < 256 := by omega
      obtain rfl : i = 256 := by omega
      go_wp2_with fail
      clear hig hlt hlti
      go_loopg [12] 256 (fun g i' wr' => ∃ j : Nat, j + g = 256 ∧ wr = wr' ∧ i' = .int .i64 j)
      case atStart => exact ⟨0, by omega, rfl, rfl⟩
      case round =>
        obtain ⟨j, hjg, rfl, rfl⟩ := hrel
        by_cases hjlt : j < 256
        · have hjlti : (j : Int) < 256 := by omega
          have hj0 : (0 : Int) ≤ (j : Int) := by omega
          have hcell := hX.seen.cell (i := j) (by rw [seenL_length]; exact hjlt)
          rw [seenL_all hjlt] at hcell
          have Hh := Lib.hid hX
          clear hX
          go_wp2_with fail
          go_roundg (gk - 1)
          case measure => omega
          case rel => exact ⟨j + 1, by omega, rfl, by go_num⟩
        · have hjlti : ¬ (j : Int) < 256 := by omega
          obtain rfl : j = 256 := by omega
          clear hjg hjlt hjlti
          go_upto_region 21 with (first | (refine wpList_load_row rfl 35 _ rfl N rfl 35 (bx key) _ _ hX.key.row Try.underlying35 rfl Hi2.out.1 ?_) | (go_at_call 18; refine (new_any key _ Hkey.out.1 Hkey.out.2).mono ?_; rintro e w4 ⟨cb, cbb, rfl, hc, hj1, hj2, hb4⟩))
          have hc' := hc
          have hX4 := hX.below hb4
          obtain ⟨ks, hks⟩ : ∃ ks, ks = keysL key := ⟨_, rfl⟩
          rw [← hks] at hc
          clear hX hb4 hj1 hj2 hks hc'
          have hkst := hc.lt
          have hX := hX4
          clear hX4
          obtain ⟨t, ht1, ht2⟩ : ∃ t : Bool, decide (blockL ks pa = blockL ks pb) = t ∧ decide (pa = pb) = t := by
            by_cases e : pa = pb
            · exact ⟨true, by rw [e]; simp, by simp [e]⟩
            · refine ⟨false, decide_eq_false fun h => e (blockL_inj hkst Ha.out.1 Hb.out.1 Ha.out.2 Hb.out.2 h), decide_eq_false e⟩
          have ga : Good pa := Ha.out
          have gb : Good pb := Hb.out
          have gba : Good (blockL ks pa) := ⟨by rw [blockL_length, Ha.out.1], blockL_lt hkst Ha.out.2⟩
          have gbb : Good (blockL ks pb) := ⟨by rw [blockL_length, Hb.out.1], blockL_lt hkst Hb.out.2⟩
          have he1 : ∀ w, (binOp .eql 30 (.agg (bx (blockL ks pa))) (.agg (bx (blockL ks pb)))).run Try.prog w = .ok (.bool t) w := fun w => by
            have := eql_nonce gba gbb w
            rwa [ht1] at this
          have he2 : ∀ w, (binOp .eql 30 (.agg (bs pa).toArray) (.agg (bs pb).toArray)).run Try.prog w = .ok (.bool t) w := fun w => by
            have := eql_nonce ga gb w
            rwa [ht2] at this
          clear ht1 ht2 ga gb gba gbb hkst

          refine wp_region_held_drew (S := (fun w' => IsCipher w' cb cbb ks ∧ XB w w' N key pa pb (seenL 256))) (by kernel_rfl) ?_ (fun hHeld => ?_)
          · exact ⟨hc.below (Below.refl _ _).drew hc.lt1 hc.lt2, hX.drew⟩
          refine take_run (v := ?_) 0 (some 58) rfl rfl (by kernel_rfl) (by kernel_rfl) (by kernel_rfl) (fun _ _ _ h => h) hHeld (by rfl) ?_ ?_
          rotate_left
          · intro _ hSw; go_simp; try with_reducible rfl
          simp only [Act.put, List.setIfInBounds_toArray, List.set_cons_zero, List.set_cons_succ]
          refine take_at 1 (some 59) rfl rfl (by kernel_rfl) (by kernel_rfl) (by kernel_rfl) (fun _ _ _ h => h) (yieldsIf_load_mid (by rfl) 30 _ rfl (N + 1) 0 rfl (bs pa) _ (fun _ h => h.2.pa.range) Try.underlying30 rfl Hi2.out.2.1) hHeld ?_
          simp only [Act.put, List.setIfInBounds_toArray, List.set_cons_zero, List.set_cons_succ]
          refine take_run (v := ?_) 3 (some 61) rfl rfl (by kernel_rfl) (by kernel_rfl) (by kernel_rfl) (fun _ _ _ h => h) hHeld (by rfl) ?_ ?_
          rotate_left
          · intro _ hSw; go_simp; try with_reducible rfl
          simp only [Act.put, List.setIfInBounds_toArray, List.set_cons_zero, List.set_cons_succ]
          refine take_at 4 (some 62) rfl rfl (by kernel_rfl) (by kernel_rfl) (by kernel_rfl) (fun _ _ _ h => h) (yieldsIf_load_mid (by rfl) 30 _ rfl (N + 2) 0 rfl (bs pb) _ (fun _ h => h.2.pb.range) Try.underlying30 rfl Hi2.out.2.2) hHeld ?_
          simp only [Act.put, List.setIfInBounds_toArray, List.set_cons_zero, List.set_cons_succ]
          refine take_at 7 (some 65) rfl rfl (by kernel_rfl) (by kernel_rfl) (by kernel_rfl) (fun _ _ _ h => h) (yieldsIf_load_mid (by rfl) 30 _ rfl (N + 1) 0 rfl (bs pa) _ (fun _ h => h.2.pa.range) Try.underlying30 rfl Hi2.out.2.1) hHeld ?_
          simp only [Act.put, List.setIfInBounds_toArray, List.set_cons_zero, List.set_cons_succ]
          refine take_at 8 (some 66) rfl rfl (by kernel_rfl) (by kernel_rfl) (by kernel_rfl) (fun _ _ _ h => h) (yieldsIf_load_mid (by rfl) 30 _ rfl (N + 2) 0 rfl (bs pb) _ (fun _ h => h.2.pb.range) Try.underlying30 rfl Hi2.out.2.2) hHeld ?_
          simp only [Act.put, List.setIfInBounds_toArray, List.set_cons_zero, List.set_cons_succ]
          refine take_run (v := ?_) 9 (some 67) rfl rfl (by kernel_rfl) (by kernel_rfl) (by kernel_rfl) (fun _ _ _ h => h) hHeld (by rfl) ?_ ?_
          rotate_left
          · intro _ hSw; go_simp; try with_reducible rfl
          simp only [Act.put, List.setIfInBounds_toArray, List.set_cons_zero, List.set_cons_succ]
          refine call_at (f := ?_) (args := ?_) 2 (some 60) rfl rfl (by kernel_rfl) (by rfl) ?_ ?_
          rotate_left 2
          · go_simp; first | (refine ⟨?_, ?_⟩ <;> with_reducible rfl) | with_reducible rfl
          refine (block_any cb cbb ks pa _ hHeld.1 Ha.out.1 Ha.out.2).mono ?_
          rintro _ w5 ⟨rfl, hb⟩
          refine ⟨_, rfl, ?_, fun hHeld => ?_⟩
          · exact ⟨hHeld.1.below hb hHeld.1.lt1 hHeld.1.lt2, hHeld.2.below hb⟩
          simp only [Act.put, List.setIfInBounds_toArray, List.set_cons_zero, List.set_cons_succ]
          refine call_at (f := ?_) (args := ?_) 5 (some 63) rfl rfl (by kernel_rfl) (by rfl) ?_ ?_
          rotate_left 2
          · go_simp; first | (refine ⟨?_, ?_⟩ <;> with_reducible rfl) | with_reducible rfl
          refine (block_any cb cbb ks pb _ hHeld.1 Hb.out.1 Hb.out.2).mono ?_
          rintro _ w6 ⟨rfl, hb⟩
          refine ⟨_, rfl, ?_, fun hHeld => ?_⟩
          · exact ⟨hHeld.1.below hb hHeld.1.lt1 hHeld.1.lt2, hHeld.2.below hb⟩
          simp only [Act.put, List.setIfInBounds_toArray, List.set_cons_zero, List.set_cons_succ]
          refine take_run (v := ?_) 6 (some 64) rfl rfl (by kernel_rfl) (by kernel_rfl) (by kernel_rfl) (fun _ _ _ h => h) hHeld (by rfl) ?_ ?_
          rotate_left
          · intro _ hSw; go_simp; try with_reducible rfl
          simp only [Act.put, List.setIfInBounds_toArray, List.set_cons_zero, List.set_cons_succ]
          refine take_run (v := ?_) 10 (some 68) rfl rfl (by kernel_rfl) (by kernel_rfl) (by kernel_rfl) (fun _ _ _ h => h) hHeld (by rfl) ?_ ?_
          rotate_left
          · intro _ hSw; go_simp; try with_reducible rfl
          simp only [Act.put, List.setIfInBounds_toArray, List.set_cons_zero, List.set_cons_succ]
          refine take_run (v := ?_) 11 (some 69) rfl rfl (by kernel_rfl) (by kernel_rfl) (by kernel_rfl) (fun _ _ _ h => h) hHeld (by rfl) ?_ ?_
          rotate_left
          · intro _ hSw; go_simp; try with_reducible rfl
          simp only [Act.put, List.setIfInBounds_toArray, List.set_cons_zero, List.set_cons_succ]
          refine call_at (f := ?_) (args := ?_) 12 (some 70) rfl rfl (by kernel_rfl) (by rfl) ?_ ?_
          rotate_left 2
          · go_simp; first | (refine ⟨?_, ?_⟩ <;> with_reducible rfl) | with_reducible rfl
          refine (known_any _).mono ?_
          rintro _ w7 ⟨rfl, hb⟩
          refine ⟨_, rfl, ?_, fun hHeld => ?_⟩
          · exact ⟨hHeld.1.below hb hHeld.1.lt1 hHeld.1.lt2, hHeld.2.below hb⟩
          simp only [Act.put, List.setIfInBounds_toArray, List.set_cons_zero, List.set_cons_succ]
          refine take_run (v := ?_) 13 (some 71) rfl rfl (by kernel_rfl) (by kernel_rfl) (by kernel_rfl) (fun _ _ _ h => h) hHeld (by rfl) ?_ ?_
          rotate_left
          · intro _ hSw; go_simp; try with_reducible rfl
          simp only [Act.put, List.setIfInBounds_toArray, List.set_cons_zero, List.set_cons_succ]
          refine take_run (v := ?_) 14 (some 6) rfl rfl (by kernel_rfl) (by kernel_rfl) (by kernel_rfl) (fun _ _ _ h => h) hHeld (by rfl) ?_ ?_
          rotate_left
          · intro _ hSw; go_simp; try with_reducible rfl
          simp only [Act.put, List.setIfInBounds_toArray, List.set_cons_zero, List.set_cons_succ]
          refine wpAnyH_done (by kernel_rfl) ?_ _
          go_wp2_with fail
          go_ret
          exact ⟨rfl, by rw [HN.out]; exact hHeld.2.bel⟩
end Go.Proofs.Ytdopdaoapdeabaa
