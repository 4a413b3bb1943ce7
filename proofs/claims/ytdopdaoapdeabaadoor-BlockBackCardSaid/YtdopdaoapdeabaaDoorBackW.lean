/- WALK: sacristanlaw07.BlockBack. -/
import Derived.Test.YtdopdaoapdeabaaDoorHeadsW
namespace Go.Proofs.YtdopdaoapdeabaaDoor
open Go.RowKit

theorem rd16 {w : World} {b : Nat} {c : Nat} {L : List Nat} (h : Reads w (.slice (some ⟨b, 0, none⟩) 272 c) (bs L)) : Reads w (.slice (some ⟨b, 0, none⟩) 16 c) (bs (L.take 16)) := by
  have h1 := h.take (k := 16) (by omega)
  rwa [bs_take'] at h1
theorem padL_get {l : List Nat} {n i : Nat} (h : l.length ≤ i) : (padL l n).getD i 0 = 0 := by
  rw [padL, List.getD_eq_getElem?_getD, List.getElem?_append_right h]
  by_cases hi : i - l.length < n - l.length
  · simp [hi]
  · simp [hi]
theorem reads_cell {w : World} {a : Option Addr} {n c : Nat} {l : List Nat} (h : Reads w (.slice a n c) (bs l)) (hn : l.length = n) (h0 : 0 < n) :
    ∃ b o, a = some ⟨b, o, none⟩ ∧ ∀ i, i < n → w.cell? ⟨b, o + i, none⟩ = some (.int .u8 (l.getD i 0 : Nat)) := by
  obtain ⟨b, o, c', hv, _, _, hc⟩ := h.pos (by rw [bs_length]; omega)
  injection hv with e1 e2 e3
  exact ⟨b, o, e1, fun i hi => hc i _ (bs_get (by omega))⟩

theorem rcell {w : World} {b o n c : Nat} {l : List Nat} (h : Reads w (.slice (some ⟨b, o, none⟩) n c) (bs l)) (hn : l.length = n) {i : Nat} (hi : i < n) :
    w.cell? ⟨b, o + i, none⟩ = some (.int .u8 (l.getD i 0 : Nat)) := by
  obtain ⟨b', o', hv, hc⟩ := reads_cell h hn (by omega)
  injection hv with hv
  injection hv with e1 e2
  subst e1 e2
  exact hc i hi
def BX (w w' : World) (N : Nat) (key : List Nat) (v : Value) (l : List Nat) (bg bc : Nat) (L : List Nat) (xb xo xc : Nat) (PL : List Nat) (sg sc : Nat) (st : List Nat) : Prop :=
  QL w w' N key v l ∧ Reads w' (.slice (some ⟨bg, 0, none⟩) 272 bc) (bs L) ∧ Reads w' (.slice (some ⟨xb, xo, none⟩) 256 xc) (bs PL) ∧ Reads w' (.slice (some ⟨sg, 0, none⟩) 256 sc) (bs st)
theorem BX.below {w w' : World} {N : Nat} {key : List Nat} {v : Value} {l : List Nat} {bg bc : Nat} {L : List Nat} {xb xo xc : Nat} {PL : List Nat} {sg sc : Nat} {st : List Nat} {w2 : World}
    (h : BX w w' N key v l bg bc L xb xo xc PL sg sc st) (hb : Below w'.heap.size w' w2) : BX w w2 N key v l bg bc L xb xo xc PL sg sc st :=
  ⟨h.1.below hb, h.2.1.below hb (Nat.le_refl _), h.2.2.1.below hb (Nat.le_refl _), h.2.2.2.below hb (Nat.le_refl _)⟩

set_option maxRecDepth 100000 in
set_option maxHeartbeats 4000000 in
theorem blockBack_walk (key : List Nat) (e s : Nat) (v : Value) (l : List Nat) (more : Nat) (w : World) (hkl : key.length = 16) (hkt : ∀ x ∈ key, x < 256) (he : e < 18446744073709551616) (hs : s < 4294967296)
    (hr : Reads w v (bs l)) (hlt : ∀ x ∈ l, x < 256) (_ : l.length ≤ maxLen) (hmore : more < 4294967296) (hg : ET w) :
    Calls Tryd.prog 6 #[.agg (bx key), .int .u64 e, .int .u32 s, v, .int .u32 more] w fun en w' => en = .returned (.bool true) ∧ Below w.heap.size w w' := by
  obtain ⟨va, vc, rfl⟩ := hr.len
  have hQ0 := QL.start (key := key) hr hg
  rw [bs_length] at hQ0 ⊢
  have Hkey := Lib.hid (And.intro hkl hkt)
  have HT := Lib.hid hlt
  have hik : (Tryd.prog.info? 23).map (·.size) = some (bx key).size := by rw [bx_size, hkl]; kernel_rfl
  have Hik := Lib.hid hik
  obtain ⟨m, hm⟩ : ∃ m, l.length = m := ⟨_, rfl⟩
  rw [hm] at hQ0 ⊢
  obtain ⟨N, hN⟩ : ∃ N, w.heap.size = N := ⟨_, rfl⟩
  rw [hN] at hQ0
  have HN := Lib.hid hN
  have Hm := Lib.hid hm
  have Hes := Lib.hid (And.intro he (And.intro hs hmore))
  have hsi : (s : Int) < 4294967296 := by omega
  have hmi : (more : Int) < 4294967296 := by omega
  clear hr hg hkl hkt hlt hik hm
  by_cases h256 : m ≤ 256
  · have h256i : ¬ (256 : Int) < (m : Int) := by omega
    have Hl256 : Hid (l.length ≤ 256) := by show _ ≤ _; rw [Hm.out]; omega
    obtain ⟨ks, hks⟩ : ∃ ks, keysL key = ks := ⟨_, rfl⟩
    have Hks : Hid (keysL key = ks ∧ ∀ x ∈ ks, x < 256) := ⟨hks, by rw [← hks]; exact sched_lt Hkey.out.2 _⟩
    obtain ⟨L, hL⟩ : ∃ L, hideL ks e s l = L := ⟨_, rfl⟩
    have HL : Hid (hideL ks e s l = L ∧ L.length = 272 ∧ (∀ x ∈ L, x < 256) ∧ okB L) := ⟨hL, by rw [← hL, hideL_length], by rw [← hL]; exact hideL_lt Hks.out.2 HT.out e s, by rw [← hL]; exact okB_hide e s⟩
    obtain ⟨PL, hPL⟩ : ∃ PL, padL l 256 = PL := ⟨_, rfl⟩
    obtain ⟨st, hst⟩ : ∃ st, streamL ks (headL e s) 256 = st := ⟨_, rfl⟩
    have HP : Hid (padL l 256 = PL ∧ PL.length = 256 ∧ ∀ x ∈ PL, x < 256) := ⟨hPL, by rw [← hPL, padL_length Hl256.out], by rw [← hPL]; exact padL_lt HT.out⟩
    have HS : Hid (streamL ks (headL e s) 256 = st ∧ st.length = 256 ∧ ∀ x ∈ st, x < 256) := ⟨hst, by rw [← hst, streamL_length (headL_length e s)], by rw [← hst]; exact streamL_lt Hks.out.2 (headL_lt e s) 256⟩
    have HX : Hid (showR ks L = PL) := by
      show _ = _
      rw [showR, if_pos HL.out.2.2.2, ← hL, hide_drop, hide_take, hPL, hst]
      exact xorL_xorL (by rw [HS.out.2.1, HP.out.2.1])
    have HLg : Hid (∀ i, i < 256 → L.getD (16 + i) 0 = PL.getD i 0 ^^^ st.getD i 0) := fun i hi => by
      have h1 : L.getD (16 + i) 0 = (L.drop 16).getD i 0 := by simp
      rw [h1, ← hL, hide_drop, hPL, hst, xorL_get (by rw [HS.out.2.1, HP.out.2.1]) (by rw [HP.out.2.1]; exact hi), Nat.xor_comm]
    have HE : Hid (errB L = 0) := by show _ = _; rw [errB, if_pos HL.out.2.2.2]
    clear hks hL hPL hst
    go_enter Tryd.func6, Tryd.ntmps6
    go_upto_region 3 with (fail)
    generalize w.alloc (.cells (bx key) 23) = W at hQ0 ⊢
    clear hN
    go_upto_region 4 with (first | (refine wpList_load_row rfl 23 _ rfl N rfl 23 (bx key) _ _ hQ0.key.row Tryd.underlying23 rfl Hik.out ?_) | (go_at_call 10; refine (hide_ok key e s l _ _ Hkey.out.1 Hkey.out.2 Hes.out.2.1 hQ0.r HT.out Hl256.out).mono ?_; rw [Hks.out.1, HL.out.1]; rintro en w1 ⟨bg, bc, rfl, hbr, hb1⟩))
    have hQ1 := hQ0.below hb1
    have Hbr := Lib.hid hbr
    clear hQ0 hb1 hbr W
    go_upto_region 5 with (first | (refine wpList_load_row rfl 23 _ rfl N rfl 23 (bx key) _ _ hQ1.key.row Tryd.underlying23 rfl Hik.out ?_) | (go_at_call 16; refine (show_u key L _ _ Hkey.out.1 Hkey.out.2 Hbr.out HL.out.2.2.1 (by rw [HL.out.2.1]; omega) hQ1.et).mono ?_; rintro en w2 ⟨x, rfl, hx, hb2⟩))
    have hQ2 := hQ1.below hb2
    have hbr2 := Hbr.out.below hb2 (Nat.le_refl _)
    rw [HE.out]
    rw [Hks.out.1, HX.out] at hx
    obtain ⟨xa, xc, rfl⟩ := hx.len
    rw [bs_length, HP.out.2.1] at hx ⊢
    obtain ⟨hxt, hxc⟩ := slice_to hx (k := m) (by omega)
    rw [bs_take'] at hxt
    have hxci : (m : Int) ≤ (xc : Int) := by omega
    have hpm : PL.take m = l := by rw [← HP.out.1, padL, List.take_append_of_le_length (by rw [Hm.out]; exact Nat.le_refl _), List.take_of_length_le (by rw [Hm.out]; exact Nat.le_refl _)]
    rw [hpm] at hxt
    have HR := Lib.hid (And.intro hbr2 (And.intro hx hxt))
    clear hb2 hQ1 hx hxt hbr2 Hbr hpm hxc
    clear w1
    go_upto_region 7 with (go_at_call 13; refine (same_eq _ _ l _ HR.out.2.2 hQ2.r HT.out).mono ?_; rintro en w3 ⟨rfl, hb3⟩)
    have hQ3 := hQ2.below hb3
    have hbr3 := HR.out.1.below hb3 (Nat.le_refl _)
    have hx3 := HR.out.2.1.below hb3 (Nat.le_refl _)
    clear hb3 hQ2 HR w2
    obtain ⟨xb, xo, rfl, hxcell⟩ := reads_cell hx3 HP.out.2.1 (by omega)
    obtain ⟨bg', bo', hbe, hbcell⟩ := reads_cell hbr3 HL.out.2.1 (by omega)
    injection hbe with hbe
    injection hbe with e1 e2
    subst e1 e2
    have HC := Lib.hid (And.intro hxcell (And.intro hbcell (And.intro hQ3 (And.intro hbr3 hx3))))
    clear hxcell hbcell hQ3 hbr3 hx3
    go_wp2_with fail
    go_loopg [15] (256 - m) (fun g i' wr => ∃ i : Nat, i + g = 256 ∧ m ≤ i ∧ i' = .int .i64 i ∧ w3 = wr)
    case atStart => exact ⟨m, by omega, Nat.le_refl _, rfl, rfl⟩
    case round =>
      obtain ⟨i, hig, hmi, rfl, rfl⟩ := hrel
      by_cases hi : i < 256
      · have hii : (i : Int) < 256 := by omega
        have hi0 : (0 : Int) ≤ (i : Int) := by omega
        have hc := HC.out.1 i hi
        rw [← HP.out.1, padL_get (by rw [Hm.out]; exact hmi)] at hc
        go_wp2_with fail
        go_roundg (gk - 1)
        case measure => omega
        case rel => exact ⟨i + 1, by omega, by omega, by go_num, rfl⟩
      · have hii : ¬ (i : Int) < 256 := by omega
        clear hig hmi
        go_upto_region 13 with (first
          | (refine wpList_load_row rfl 23 _ rfl N rfl 23 (bx key) _ _ HC.out.2.2.1.key.row Tryd.underlying23 rfl Hik.out ?_)
          | (go_at_call 20; refine (new_any key _ Hkey.out.1 Hkey.out.2).mono ?_; rintro en w4 ⟨cb, cbb, rfl, hci, _, _, hb4⟩; rw [Hks.out.1] at hci; have hQ4 := HC.out.2.2.1.below hb4; have hbr4 := HC.out.2.2.2.1.below hb4 (Nat.le_refl _); have hx4 := HC.out.2.2.2.2.below hb4 (Nat.le_refl _); clear hb4)
          | (go_at_call 14; refine (head_any e s _ Hes.out.2.1).mono ?_; rintro en w5 ⟨rfl, hb5⟩; have hQ5 := hQ4.below hb5; have hbr5 := hbr4.below hb5 (Nat.le_refl _); have hx5 := hx4.below hb5 (Nat.le_refl _); have hci5 := hci.below hb5 hci.lt1 hci.lt2; clear hb5)
          | (go_at_call 21; refine (stream_any cb cbb ks (headL e s) 256 _ hci5 (headL_length e s) (headL_lt e s) (by omega)).mono ?_; rw [show Int.toNat 256 = 256 from rfl]; rintro en w6 ⟨sv, rfl, hso, hb6⟩; rw [HS.out.1] at hso))
        have hQ6 := hQ5.below hb6
        have hbr6 := hbr5.below hb6 (Nat.le_refl _)
        have hx6 := hx5.below hb6 (Nat.le_refl _)
        obtain ⟨sg, sc, rfl, _, _, _, _⟩ := owns_range hso (by omega)
        have hs6 := reads_of_owns hso
        have HB6 : Hid (BX w w6 N key (.slice va m vc) l bg bc L xb xo xc PL sg sc st) := ⟨hQ6, hbr6, hx6, hs6⟩
        clear hQ6 hbr6 hx6 hs6 hso hb6 hQ5 hbr5 hx5 hci5 hci hQ4 hbr4 hx4 HC
        go_wp2_with fail
        go_loopg [17] 256 (fun g i' wr => ∃ i : Nat, i + g = 256 ∧ i' = .int .i64 i ∧ Hid (BX w wr N key (.slice va m vc) l bg bc L xb xo xc PL sg sc st))
        case atStart => exact ⟨0, by omega, rfl, HB6⟩
        case round =>
          obtain ⟨i, hig, rfl, hB⟩ := hrel
          clear HB6
          by_cases hi : i < 256
          · have hii : (i : Int) < 256 := by omega
            have hi0 : (0 : Int) ≤ (i : Int) := by omega
            obtain ⟨p, hp⟩ : ∃ p, 16 + i = p := ⟨_, rfl⟩
            have hpi : (16 : Int) + (i : Int) = (p : Int) := by omega
            have hp2 : (p : Int) < 272 ∧ (0 : Int) ≤ (p : Int) := ⟨by omega, by omega⟩
            obtain ⟨x, hx⟩ : ∃ x, PL.getD i 0 = x := ⟨_, rfl⟩
            obtain ⟨y, hy⟩ : ∃ y, st.getD i 0 = y := ⟨_, rfl⟩
            have hx256 : x < 256 := by rw [← hx]; exact getD_lt HP.out.2.2 i
            have hy256 : y < 256 := by rw [← hy]; exact getD_lt HS.out.2.2 i
            have hxy := bits_xor hx256 hy256
            obtain ⟨z, hz⟩ : ∃ z, x ^^^ y = z := ⟨_, rfl⟩
            have HF : Hid (∀ w', BX w w' N key (.slice va m vc) l bg bc L xb xo xc PL sg sc st → w'.cell? ⟨xb, xo + i, none⟩ = some (.int .u8 (x : Nat)) ∧ w'.cell? ⟨bg, p, none⟩ = some (.int .u8 (z : Nat)) ∧ w'.cell? ⟨sg, i, none⟩ = some (.int .u8 (y : Nat))) := by
              intro w' h
              have hc1 := rcell h.2.2.1 HP.out.2.1 hi
              have hc2 := rcell h.2.1 HL.out.2.1 (i := 16 + i) (by omega)
              have hc3 := rcell h.2.2.2 HS.out.2.1 hi
              rw [HLg.out i hi, hx, hy, Nat.zero_add, hp, hz] at hc2
              rw [hx] at hc1
              rw [hy, Nat.zero_add] at hc3
              exact ⟨hc1, hc2, hc3⟩
            rw [hz] at hxy
            have hwp : IntKind.i64.wrap (p : Int) = (p : Int) := by rw [IntKind.wrap_i64]; omega
            clear hx hy hz hp
            go_wp2_with fail
            refine wp_region_held_drew (S := (fun w' => BX w w' N key (.slice va m vc) l bg bc L xb xo xc PL sg sc st)) (by kernel_rfl) ?_ (fun hHeld => ?_)
            · exact hB.out.below ((Below.refl _ _).drew)
            refine take_run (v := ?_) 0 (some 79) rfl rfl (by kernel_rfl) (by kernel_rfl) (by kernel_rfl) (fun _ _ _ h => h) hHeld (by rfl) ?_ ?_
            rotate_left
            · intro _ hSw; go_simp; try with_reducible rfl
            simp only [Act.put, List.setIfInBounds_toArray, List.set_cons_zero, List.set_cons_succ]
            refine take_run (v := ?_) 1 (some 80) rfl rfl (by kernel_rfl) (by kernel_rfl) (by kernel_rfl) (fun _ _ _ h => h) hHeld (by rfl) ?_ ?_
            rotate_left
            · intro _ hSw; go_simp; try with_reducible rfl
            simp only [Act.put, List.setIfInBounds_toArray, List.set_cons_zero, List.set_cons_succ]
            refine take_run (v := ?_) 2 (some 81) rfl rfl (by kernel_rfl) (by kernel_rfl) (by kernel_rfl) (fun _ _ _ h => h) hHeld (by rfl) ?_ ?_
            rotate_left
            · intro _ hSw; go_simp; try with_reducible rfl
            simp only [Act.put, List.setIfInBounds_toArray, List.set_cons_zero, List.set_cons_succ]
            refine take_run (v := ?_) 3 (some 82) rfl rfl (by kernel_rfl) (by kernel_rfl) (by kernel_rfl) (fun _ _ _ h => h) hHeld (by rfl) ?_ ?_
            rotate_left
            · intro _ hSw; go_simp; try with_reducible rfl
            simp only [Act.put, List.setIfInBounds_toArray, List.set_cons_zero, List.set_cons_succ]
            refine take_run (v := ?_) 4 (some 83) rfl rfl (by kernel_rfl) (by kernel_rfl) (by kernel_rfl) (fun _ _ _ h => h) hHeld (by rfl) ?_ ?_
            rotate_left
            · intro _ hSw; obtain ⟨hc1, hc2, hc3⟩ := HF.out _ hSw; go_simp; try with_reducible rfl
            simp only [Act.put, List.setIfInBounds_toArray, List.set_cons_zero, List.set_cons_succ]
            refine take_run (v := ?_) 5 (some 84) rfl rfl (by kernel_rfl) (by kernel_rfl) (by kernel_rfl) (fun _ _ _ h => h) hHeld (by rfl) ?_ ?_
            rotate_left
            · intro _ hSw; go_simp; try with_reducible rfl
            simp only [Act.put, List.setIfInBounds_toArray, List.set_cons_zero, List.set_cons_succ]
            refine take_run (v := ?_) 6 (some 85) rfl rfl (by kernel_rfl) (by kernel_rfl) (by kernel_rfl) (fun _ _ _ h => h) hHeld (by rfl) ?_ ?_
            rotate_left
            · intro _ hSw; go_simp; try with_reducible rfl
            simp only [Act.put, List.setIfInBounds_toArray, List.set_cons_zero, List.set_cons_succ]
            refine take_run (v := ?_) 7 (some 86) rfl rfl (by kernel_rfl) (by kernel_rfl) (by kernel_rfl) (fun _ _ _ h => h) hHeld (by rfl) ?_ ?_
            rotate_left
            · intro _ hSw; go_simp; try with_reducible rfl
            simp only [Act.put, List.setIfInBounds_toArray, List.set_cons_zero, List.set_cons_succ]
            refine take_run (v := ?_) 8 (some 87) rfl rfl (by kernel_rfl) (by kernel_rfl) (by kernel_rfl) (fun _ _ _ h => h) hHeld (by rfl) ?_ ?_
            rotate_left
            · intro _ hSw; obtain ⟨hc1, hc2, hc3⟩ := HF.out _ hSw; go_simp; try with_reducible rfl
            simp only [Act.put, List.setIfInBounds_toArray, List.set_cons_zero, List.set_cons_succ]
            refine take_run (v := ?_) 9 (some 88) rfl rfl (by kernel_rfl) (by kernel_rfl) (by kernel_rfl) (fun _ _ _ h => h) hHeld (by rfl) ?_ ?_
            rotate_left
            · intro _ hSw; go_simp; try with_reducible rfl
            simp only [Act.put, List.setIfInBounds_toArray, List.set_cons_zero, List.set_cons_succ]
            refine take_run (v := ?_) 10 (some 89) rfl rfl (by kernel_rfl) (by kernel_rfl) (by kernel_rfl) (fun _ _ _ h => h) hHeld (by rfl) ?_ ?_
            rotate_left
            · intro _ hSw; go_simp; try with_reducible rfl
            simp only [Act.put, List.setIfInBounds_toArray, List.set_cons_zero, List.set_cons_succ]
            refine take_run (v := ?_) 11 (some 90) rfl rfl (by kernel_rfl) (by kernel_rfl) (by kernel_rfl) (fun _ _ _ h => h) hHeld (by rfl) ?_ ?_
            rotate_left
            · intro _ hSw; go_simp; try with_reducible rfl
            simp only [Act.put, List.setIfInBounds_toArray, List.set_cons_zero, List.set_cons_succ]
            refine take_run (v := ?_) 12 (some 91) rfl rfl (by kernel_rfl) (by kernel_rfl) (by kernel_rfl) (fun _ _ _ h => h) hHeld (by rfl) ?_ ?_
            rotate_left
            · intro _ hSw; obtain ⟨hc1, hc2, hc3⟩ := HF.out _ hSw; go_simp; try with_reducible rfl
            simp only [Act.put, List.setIfInBounds_toArray, List.set_cons_zero, List.set_cons_succ]
            refine take_run (v := ?_) 13 (some 92) rfl rfl (by kernel_rfl) (by kernel_rfl) (by kernel_rfl) (fun _ _ _ h => h) hHeld (by rfl) ?_ ?_
            rotate_left
            · intro _ hSw; go_simp; try with_reducible rfl
            simp only [Act.put, List.setIfInBounds_toArray, List.set_cons_zero, List.set_cons_succ]
            refine take_run (v := ?_) 14 (some 93) rfl rfl (by kernel_rfl) (by kernel_rfl) (by kernel_rfl) (fun _ _ _ h => h) hHeld (by rfl) ?_ ?_
            rotate_left
            · intro _ hSw; go_simp; try with_reducible rfl
            simp only [Act.put, List.setIfInBounds_toArray, List.set_cons_zero, List.set_cons_succ]
            refine wpAnyH_done (by kernel_rfl) ?_ _
            go_wp2_with fail
            go_roundg (gk - 1)
            case measure => omega
            case rel => exact ⟨i + 1, by omega, by go_num, hHeld⟩
          · have hii : ¬ (i : Int) < 256 := by omega
            clear hig
            obtain ⟨s2, hs2⟩ : ∃ s2, (s + more) % 4294967296 = s2 := ⟨_, rfl⟩
            have hs2l : s2 < 4294967296 := by omega
            have hw1 : IntKind.u32.wrap ((s : Int) + (more : Int)) = (s2 : Int) := by rw [IntKind.wrap_u32]; omega
            have hw2 : ((s : Int) + (more : Int)) % 4294967296 = (s2 : Int) := by omega
            obtain ⟨L2, hL2⟩ : ∃ L, hideL ks e s2 l = L := ⟨_, rfl⟩
            have HL2 : Hid (hideL ks e s2 l = L2 ∧ L2.length = 272) := ⟨hL2, by rw [← hL2, hideL_length]⟩
            have HLt : Hid ((∀ x ∈ L, x < 256) ∧ (∀ x ∈ L2, x < 256)) := ⟨HL.out.2.2.1, by rw [← hL2]; exact hideL_lt Hks.out.2 HT.out e s2⟩
            have hsame : (L.take 16 = L2.take 16) ↔ more = 0 := by
              rw [← hL2, ← HL.out.1, hide_take, hide_take]
              constructor
              · intro h
                have h1 := (headL_inj h Hes.out.1 Hes.out.2.1 Hes.out.1 hs2l).2
                have h2 := Hes.out.2
                omega
              · intro h
                have h2 := Hes.out.2
                have : s2 = s := by omega
                rw [this]
            have Hsame := Lib.hid (And.intro hsame hs2l)
            clear hs2 hL2 hsame
            go_upto_region 19 with (first | (refine wpList_load_row rfl 23 _ rfl N rfl 23 (bx key) _ _ hB.out.1.key.row Tryd.underlying23 rfl Hik.out ?_) | (go_at_call 10; refine (hide_ok key e s2 l _ _ Hkey.out.1 Hkey.out.2 Hsame.out.2 hB.out.1.r HT.out Hl256.out).mono ?_; rw [Hks.out.1, HL2.out.1]; rintro en w7 ⟨cg, cc, rfl, hcr, hb7⟩))
            have hbc272 : 272 ≤ bc ∧ 272 ≤ cc := by
              constructor
              · rcases hB.out.2.1 with ⟨h, _⟩ | ⟨a, c, hv, hc, _⟩
                · cases h
                · injection hv with _ _ e3
                  rw [bs_length, HL.out.2.1] at hc
                  omega
              · rcases hcr with ⟨h, _⟩ | ⟨a, c, hv, hc, _⟩
                · cases h
                · injection hv with _ _ e3
                  rw [bs_length, HL2.out.2] at hc
                  omega
            have hbci : (16 : Int) ≤ (bc : Int) ∧ (16 : Int) ≤ (cc : Int) := ⟨by omega, by omega⟩
            have hbc0 : ¬ bc = 0 ∧ ¬ cc = 0 := ⟨by omega, by omega⟩
            have hbr7 := hB.out.2.1.below hb7 (Nat.le_refl _)
            have hS19' := And.intro (hB.out.1.below hb7) (And.intro hbr7 hcr)
            have hS19 : QL w w7.drew N key (.slice va m vc) l ∧ Reads w7.drew (.slice (some ⟨bg, 0, none⟩) 272 bc) (bs L) ∧ Reads w7.drew (.slice (some ⟨cg, 0, none⟩) 272 cc) (bs L2) := ⟨hS19'.1.below ((Below.refl _ _).drew), hS19'.2.1.below ((Below.refl _ _).drew) (Nat.le_refl _), hS19'.2.2.below ((Below.refl _ _).drew) (Nat.le_refl _)⟩
            clear hb7 hcr hbr7 hB hS19' hw1 hw2
            by_cases hm0 : more = 0
            · have HD : Hid (decide (L.take 16 = L2.take 16) = true) := decide_eq_true (Hsame.out.1.2 hm0)
              subst hm0
              refine wp_region_held_drew (S := (fun w' => QL w w' N key (.slice va m vc) l ∧ Reads w' (.slice (some ⟨bg, 0, none⟩) 272 bc) (bs L) ∧ Reads w' (.slice (some ⟨cg, 0, none⟩) 272 cc) (bs L2))) (by kernel_rfl) ?_ (fun hHeld => ?_)
              · exact hS19
              refine take_run (v := ?_) 0 (some 104) rfl rfl (by kernel_rfl) (by kernel_rfl) (by kernel_rfl) (fun _ _ _ h => h) hHeld (by rfl) ?_ ?_
              rotate_left
              · intro _ hSw; go_simp; try with_reducible rfl
              simp only [Act.put, List.setIfInBounds_toArray, List.set_cons_zero, List.set_cons_succ]
              refine take_run (v := ?_) 1 (some 105) rfl rfl (by kernel_rfl) (by kernel_rfl) (by kernel_rfl) (fun _ _ _ h => h) hHeld (by rfl) ?_ ?_
              rotate_left
              · intro _ hSw; go_simp; try with_reducible rfl
              simp only [Act.put, List.setIfInBounds_toArray, List.set_cons_zero, List.set_cons_succ]
              refine take_run (v := ?_) 2 (some 106) rfl rfl (by kernel_rfl) (by kernel_rfl) (by kernel_rfl) (fun _ _ _ h => h) hHeld (by rfl) ?_ ?_
              rotate_left
              · intro _ hSw; go_simp; try with_reducible rfl
              simp only [Act.put, List.setIfInBounds_toArray, List.set_cons_zero, List.set_cons_succ]
              refine take_run (v := ?_) 3 (some 107) rfl rfl (by kernel_rfl) (by kernel_rfl) (by kernel_rfl) (fun _ _ _ h => h) hHeld (by rfl) ?_ ?_
              rotate_left
              · intro _ hSw; go_simp; try with_reducible rfl
              simp only [Act.put, List.setIfInBounds_toArray, List.set_cons_zero, List.set_cons_succ]
              refine take_run (v := ?_) 4 (some 108) rfl rfl (by kernel_rfl) (by kernel_rfl) (by kernel_rfl) (fun _ _ _ h => h) hHeld (by rfl) ?_ ?_
              rotate_left
              · intro _ hSw; go_simp; try with_reducible rfl
              simp only [Act.put, List.setIfInBounds_toArray, List.set_cons_zero, List.set_cons_succ]
              refine take_run (v := ?_) 5 (some 109) rfl rfl (by kernel_rfl) (by kernel_rfl) (by kernel_rfl) (fun _ _ _ h => h) hHeld (by rfl) ?_ ?_
              rotate_left
              · intro _ hSw; go_simp; try with_reducible rfl
              simp only [Act.put, List.setIfInBounds_toArray, List.set_cons_zero, List.set_cons_succ]
              refine take_run (v := ?_) 6 (some 110) rfl rfl (by kernel_rfl) (by kernel_rfl) (by kernel_rfl) (fun _ _ _ h => h) hHeld (by rfl) ?_ ?_
              rotate_left
              · intro _ hSw; go_simp; try with_reducible rfl
              simp only [Act.put, List.setIfInBounds_toArray, List.set_cons_zero, List.set_cons_succ]
              refine take_run (v := ?_) 8 (some 112) rfl rfl (by kernel_rfl) (by kernel_rfl) (by kernel_rfl) (fun _ _ _ h => h) hHeld (by rfl) ?_ ?_
              rotate_left
              · intro _ hSw; go_simp; try with_reducible rfl
              simp only [Act.put, List.setIfInBounds_toArray, List.set_cons_zero, List.set_cons_succ]
              refine take_run (v := ?_) 9 (some 113) rfl rfl (by kernel_rfl) (by kernel_rfl) (by kernel_rfl) (fun _ _ _ h => h) hHeld (by rfl) ?_ ?_
              rotate_left
              · intro _ hSw; go_simp; try with_reducible rfl
              simp only [Act.put, List.setIfInBounds_toArray, List.set_cons_zero, List.set_cons_succ]
              refine call_at (f := ?_) (args := ?_) 7 (some 111) rfl rfl (by kernel_rfl) (by rfl) ?_ ?_
              rotate_left 2
              · go_simp; first | (refine ⟨?_, ?_⟩ <;> with_reducible rfl) | with_reducible rfl
              refine (same_any _ _ (L.take 16) (L2.take 16) _ (rd16 hHeld.2.1) (rd16 hHeld.2.2) (fun x hx => HLt.out.1 x (List.mem_of_mem_take hx)) (fun x hx => HLt.out.2 x (List.mem_of_mem_take hx))).mono ?_
              rintro _ w8 ⟨rfl, hb⟩
              refine ⟨_, rfl, ?_, fun hHeld => ?_⟩
              · exact ⟨hHeld.1.below hb, hHeld.2.1.below hb (Nat.le_refl _), hHeld.2.2.below hb (Nat.le_refl _)⟩
              rw [HD.out]
              simp only [Act.put, List.setIfInBounds_toArray, List.set_cons_zero, List.set_cons_succ]
              refine take_run (v := ?_) 10 (some 114) rfl rfl (by kernel_rfl) (by kernel_rfl) (by kernel_rfl) (fun _ _ _ h => h) hHeld (by rfl) ?_ ?_
              rotate_left
              · intro _ hSw; go_simp; try with_reducible rfl
              simp only [Act.put, List.setIfInBounds_toArray, List.set_cons_zero, List.set_cons_succ]
              refine take_run (v := ?_) 11 (some 115) rfl rfl (by kernel_rfl) (by kernel_rfl) (by kernel_rfl) (fun _ _ _ h => h) hHeld (by rfl) ?_ ?_
              rotate_left
              · intro _ hSw; go_simp; try with_reducible rfl
              simp only [Act.put, List.setIfInBounds_toArray, List.set_cons_zero, List.set_cons_succ]
              refine take_run (v := ?_) 12 (some 116) rfl rfl (by kernel_rfl) (by kernel_rfl) (by kernel_rfl) (fun _ _ _ h => h) hHeld (by rfl) ?_ ?_
              rotate_left
              · intro _ hSw; go_simp; try with_reducible rfl
              simp only [Act.put, List.setIfInBounds_toArray, List.set_cons_zero, List.set_cons_succ]
              refine call_at (f := ?_) (args := ?_) 13 (some 117) rfl rfl (by kernel_rfl) (by rfl) ?_ ?_
              rotate_left 2
              · go_simp; first | (refine ⟨?_, ?_⟩ <;> with_reducible rfl) | with_reducible rfl
              refine (known7_any _ hHeld.1.et).mono ?_
              rintro _ w9 ⟨rfl, hb⟩
              refine ⟨_, rfl, ?_, fun hHeld => ?_⟩
              · exact ⟨hHeld.1.below hb, hHeld.2.1.below hb (Nat.le_refl _), hHeld.2.2.below hb (Nat.le_refl _)⟩
              simp only [Act.put, List.setIfInBounds_toArray, List.set_cons_zero, List.set_cons_succ]
              refine take_run (v := ?_) 14 (some 118) rfl rfl (by kernel_rfl) (by kernel_rfl) (by kernel_rfl) (fun _ _ _ h => h) hHeld (by rfl) ?_ ?_
              rotate_left
              · intro _ hSw; go_simp; try with_reducible rfl
              simp only [Act.put, List.setIfInBounds_toArray, List.set_cons_zero, List.set_cons_succ]
              refine take_run (v := ?_) 15 (some 10) rfl rfl (by kernel_rfl) (by kernel_rfl) (by kernel_rfl) (fun _ _ _ h => h) hHeld (by rfl) ?_ ?_
              rotate_left
              · intro _ hSw; go_simp; try with_reducible rfl
              simp only [Act.put, List.setIfInBounds_toArray, List.set_cons_zero, List.set_cons_succ]
              refine wpAnyH_done (by kernel_rfl) ?_ _
              go_wp2_with fail
              go_ret
              exact ⟨rfl, by rw [HN.out]; exact hHeld.1.bel⟩
            · have HD : Hid (decide (L.take 16 = L2.take 16) = false) := decide_eq_false (fun h => hm0 (Hsame.out.1.1 h))
              have hm0i : ((more : Int) == 0) = false := by simp [hm0]
              have hm0j : ¬ (more : Int) = 0 := by omega
              clear hm0
              refine wp_region_held_drew (S := (fun w' => QL w w' N key (.slice va m vc) l ∧ Reads w' (.slice (some ⟨bg, 0, none⟩) 272 bc) (bs L) ∧ Reads w' (.slice (some ⟨cg, 0, none⟩) 272 cc) (bs L2))) (by kernel_rfl) ?_ (fun hHeld => ?_)
              · exact hS19
              refine take_run (v := ?_) 0 (some 104) rfl rfl (by kernel_rfl) (by kernel_rfl) (by kernel_rfl) (fun _ _ _ h => h) hHeld (by rfl) ?_ ?_
              rotate_left
              · intro _ hSw; go_simp; try with_reducible rfl
              simp only [Act.put, List.setIfInBounds_toArray, List.set_cons_zero, List.set_cons_succ]
              refine take_run (v := ?_) 1 (some 105) rfl rfl (by kernel_rfl) (by kernel_rfl) (by kernel_rfl) (fun _ _ _ h => h) hHeld (by rfl) ?_ ?_
              rotate_left
              · intro _ hSw; go_simp; try with_reducible rfl
              simp only [Act.put, List.setIfInBounds_toArray, List.set_cons_zero, List.set_cons_succ]
              refine take_run (v := ?_) 2 (some 106) rfl rfl (by kernel_rfl) (by kernel_rfl) (by kernel_rfl) (fun _ _ _ h => h) hHeld (by rfl) ?_ ?_
              rotate_left
              · intro _ hSw; go_simp; try with_reducible rfl
              simp only [Act.put, List.setIfInBounds_toArray, List.set_cons_zero, List.set_cons_succ]
              refine take_run (v := ?_) 3 (some 107) rfl rfl (by kernel_rfl) (by kernel_rfl) (by kernel_rfl) (fun _ _ _ h => h) hHeld (by rfl) ?_ ?_
              rotate_left
              · intro _ hSw; go_simp; try with_reducible rfl
              simp only [Act.put, List.setIfInBounds_toArray, List.set_cons_zero, List.set_cons_succ]
              refine take_run (v := ?_) 4 (some 108) rfl rfl (by kernel_rfl) (by kernel_rfl) (by kernel_rfl) (fun _ _ _ h => h) hHeld (by rfl) ?_ ?_
              rotate_left
              · intro _ hSw; go_simp; try with_reducible rfl
              simp only [Act.put, List.setIfInBounds_toArray, List.set_cons_zero, List.set_cons_succ]
              refine take_run (v := ?_) 5 (some 109) rfl rfl (by kernel_rfl) (by kernel_rfl) (by kernel_rfl) (fun _ _ _ h => h) hHeld (by rfl) ?_ ?_
              rotate_left
              · intro _ hSw; go_simp; try with_reducible rfl
              simp only [Act.put, List.setIfInBounds_toArray, List.set_cons_zero, List.set_cons_succ]
              refine take_run (v := ?_) 6 (some 110) rfl rfl (by kernel_rfl) (by kernel_rfl) (by kernel_rfl) (fun _ _ _ h => h) hHeld (by rfl) ?_ ?_
              rotate_left
              · intro _ hSw; go_simp; try with_reducible rfl
              simp only [Act.put, List.setIfInBounds_toArray, List.set_cons_zero, List.set_cons_succ]
              refine take_run (v := ?_) 8 (some 112) rfl rfl (by kernel_rfl) (by kernel_rfl) (by kernel_rfl) (fun _ _ _ h => h) hHeld (by rfl) ?_ ?_
              rotate_left
              · intro _ hSw; go_simp; try with_reducible rfl
              simp only [Act.put, List.setIfInBounds_toArray, List.set_cons_zero, List.set_cons_succ]
              refine take_run (v := ?_) 9 (some 113) rfl rfl (by kernel_rfl) (by kernel_rfl) (by kernel_rfl) (fun _ _ _ h => h) hHeld (by rfl) ?_ ?_
              rotate_left
              · intro _ hSw; go_simp; try with_reducible rfl
              simp only [Act.put, List.setIfInBounds_toArray, List.set_cons_zero, List.set_cons_succ]
              refine call_at (f := ?_) (args := ?_) 7 (some 111) rfl rfl (by kernel_rfl) (by rfl) ?_ ?_
              rotate_left 2
              · go_simp; first | (refine ⟨?_, ?_⟩ <;> with_reducible rfl) | with_reducible rfl
              refine (same_any _ _ (L.take 16) (L2.take 16) _ (rd16 hHeld.2.1) (rd16 hHeld.2.2) (fun x hx => HLt.out.1 x (List.mem_of_mem_take hx)) (fun x hx => HLt.out.2 x (List.mem_of_mem_take hx))).mono ?_
              rintro _ w8 ⟨rfl, hb⟩
              refine ⟨_, rfl, ?_, fun hHeld => ?_⟩
              · exact ⟨hHeld.1.below hb, hHeld.2.1.below hb (Nat.le_refl _), hHeld.2.2.below hb (Nat.le_refl _)⟩
              rw [HD.out]
              simp only [Act.put, List.setIfInBounds_toArray, List.set_cons_zero, List.set_cons_succ]
              refine take_run (v := ?_) 10 (some 114) rfl rfl (by kernel_rfl) (by kernel_rfl) (by kernel_rfl) (fun _ _ _ h => h) hHeld (by rfl) ?_ ?_
              rotate_left
              · intro _ hSw; go_simp; try with_reducible rfl
              simp only [Act.put, List.setIfInBounds_toArray, List.set_cons_zero, List.set_cons_succ]
              refine take_run (v := ?_) 11 (some 115) rfl rfl (by kernel_rfl) (by kernel_rfl) (by kernel_rfl) (fun _ _ _ h => h) hHeld (by rfl) ?_ ?_
              rotate_left
              · intro _ hSw; go_simp; try with_reducible rfl
              simp only [Act.put, List.setIfInBounds_toArray, List.set_cons_zero, List.set_cons_succ]
              refine take_run (v := ?_) 12 (some 116) rfl rfl (by kernel_rfl) (by kernel_rfl) (by kernel_rfl) (fun _ _ _ h => h) hHeld (by rfl) ?_ ?_
              rotate_left
              · intro _ hSw; go_simp; try with_reducible rfl
              simp only [Act.put, List.setIfInBounds_toArray, List.set_cons_zero, List.set_cons_succ]
              refine call_at (f := ?_) (args := ?_) 13 (some 117) rfl rfl (by kernel_rfl) (by rfl) ?_ ?_
              rotate_left 2
              · go_simp; first | (refine ⟨?_, ?_⟩ <;> with_reducible rfl) | with_reducible rfl
              refine (known7_any _ hHeld.1.et).mono ?_
              rintro _ w9 ⟨rfl, hb⟩
              refine ⟨_, rfl, ?_, fun hHeld => ?_⟩
              · exact ⟨hHeld.1.below hb, hHeld.2.1.below hb (Nat.le_refl _), hHeld.2.2.below hb (Nat.le_refl _)⟩
              simp only [Act.put, List.setIfInBounds_toArray, List.set_cons_zero, List.set_cons_succ]
              refine take_run (v := ?_) 14 (some 118) rfl rfl (by kernel_rfl) (by kernel_rfl) (by kernel_rfl) (fun _ _ _ h => h) hHeld (by rfl) ?_ ?_
              rotate_left
              · intro _ hSw; go_simp; try with_reducible rfl
              simp only [Act.put, List.setIfInBounds_toArray, List.set_cons_zero, List.set_cons_succ]
              refine take_run (v := ?_) 15 (some 10) rfl rfl (by kernel_rfl) (by kernel_rfl) (by kernel_rfl) (fun _ _ _ h => h) hHeld (by rfl) ?_ ?_
              rotate_left
              · intro _ hSw; go_simp; try with_reducible rfl
              simp only [Act.put, List.setIfInBounds_toArray, List.set_cons_zero, List.set_cons_succ]
              refine wpAnyH_done (by kernel_rfl) ?_ _
              go_wp2_with fail
              go_ret
              exact ⟨rfl, by rw [HN.out]; exact hHeld.1.bel⟩
  · have h256i : (256 : Int) < (m : Int) := by omega
    go_enter Tryd.func6, Tryd.ntmps6
    go_wp2_with (go_at_call 9; refine (known7_any _ hQ0.et).mono ?_; rintro en w7 ⟨rfl, hb7⟩; have hQ7 := hQ0.below hb7; clear hb7)
    go_ret
    exact ⟨rfl, by rw [HN.out]; exact hQ7.bel⟩
end Go.Proofs.YtdopdaoapdeabaaDoor
