/- WALKS: block.Head, sacristanref07.Head. -/
import Derived.Test.YtdopdaoapdeabaaDoorCutW
namespace Go.Proofs.YtdopdaoapdeabaaDoor
open Go.RowKit

/-- a block's head -/
def headL (e s : Nat) : List Nat := putL e 8 ++ putL s 4 ++ putL 0 4
theorem headL_length (e s : Nat) : (headL e s).length = 16 := by simp [headL, putL_length]
theorem headL_lt (e s : Nat) : ∀ x ∈ headL e s, x < 256 := fun x hx => by
  simp only [headL, List.mem_append] at hx
  rcases hx with (h | h) | h
  · exact putL_lt _ _ x h
  · exact putL_lt _ _ x h
  · exact putL_lt _ _ x h

/-- a slice as an array -/
theorem arr_at {P : Program} {arr e : TypeId} {n : Nat} (h : P.underlying arr = some (.array n e)) (a : Option Addr) (len cap : Nat) (hn : n ≤ len) (w : World) : (Instr.arrayAt arr (.slice a len cap)).run P w = .ok (.pointer a) w := by
  simp [Instr.arrayAt, run_underlying h, Nat.not_lt.2 hn]
theorem reads_lit {X : World} {B n : Nat} {t : TypeId} {vs : List Value} (h : X.heap[B]? = some (.cells vs.toArray t (0, 0))) (hn : vs.length = n) : Reads X (.slice (some ⟨B, 0, none⟩) n n) vs :=
  .inr ⟨⟨B, 0, none⟩, n, by rw [hn], by rw [hn]; exact Nat.le_refl _, fun j u hj => by rw [Addr.add_mid, cell_of_row X B _ _ _ _ h, ← hj, Nat.zero_add]; simp⟩

set_option maxRecDepth 100000 in
set_option maxHeartbeats 1000000 in
theorem head_any (e s : Nat) (w : World) (hs : s < 4294967296) :
    Calls Tryd.prog 14 #[.int .u64 e, .int .u32 s] w fun en w' => en = .returned (.agg (bx (headL e s))) ∧ Below w.heap.size w w' := by
  obtain ⟨N, hN⟩ : ∃ N, w.heap.size = N := ⟨_, rfl⟩
  have HN := Lib.hid hN
  have hz0 : Bytes (w.alloc (.cells (bx (zeros 16)) 39)) N (zeros 16) 39 := by rw [← hN]; exact Bytes.new _ _ _
  have hW0 : Below N w (w.alloc (.cells (bx (zeros 16)) 39)) := by rw [← hN]; exact (Below.refl _ _).alloc (Nat.le_refl _) _
  have s0 : (w.alloc (.cells (bx (zeros 16)) 39)).heap.size = N + 1 := by simp [hN]
  have hi : (Tryd.prog.info? 39).map (·.size) = some (bs (headL e s)).length := by rw [bs_length, headL_length]; kernel_rfl
  have hi' : (Tryd.prog.info? 39).map (·.size) = some (bx (headL e s)).size := by rw [bx_size, headL_length]; kernel_rfl
  have Hi := Lib.hid (And.intro hi hi')
  clear hi hi'
  have hsi : (s : Int) < 4294967296 := by omega
  clear hs
  go_enter Tryd.func14, Tryd.ntmps14
  go_wp2_with fail
  change Calls _ _ _ (w.alloc (.cells (bx (zeros 16)) 39)) _
  generalize w.alloc (.cells (bx (zeros 16)) 39) = W at hz0 hW0 s0 ⊢
  clear hN
  refine (put_any e 8 _ (.inr rfl)).mono ?_
  rintro _ w1 ⟨v1, rfl, ho1, hb1⟩
  obtain ⟨g1, c1, rfl, _, _, _, _⟩ := owns_range ho1 (by omega)
  have hr1 := reads_of_owns ho1
  have HW1 := Lib.hid (And.intro (hz0.below hb1 hz0.lt) (hW0.trans (hb1.mono (by omega))))
  have hs1 := hb1.size
  clear ho1 hb1 hz0 hW0
  go_wp2_with fail
  refine (put_any s 4 _ (.inl rfl)).mono ?_
  rintro _ w2 ⟨v2, rfl, ho2, hb2⟩
  obtain ⟨g2, c2, rfl, _, _, _, _⟩ := owns_range ho2 (by omega)
  have hr2 := reads_of_owns ho2
  have hr1 := hr1.below hb2 (Nat.le_refl _)
  have HW2 := Lib.hid (And.intro (HW1.out.1.below hb2 HW1.out.1.lt) (HW1.out.2.trans (hb2.mono (by omega))))
  have hs2 := hb2.size
  clear ho2 hb2
  go_wp2_with fail
  refine (put_any 0 4 _ (.inl rfl)).mono ?_
  rintro _ w3 ⟨v3, rfl, ho3, hb3⟩
  obtain ⟨g3, c3, rfl, _, _, _, _⟩ := owns_range ho3 (by omega)
  have hr3 := reads_of_owns ho3
  have hr1 := hr1.below hb3 (Nat.le_refl _)
  have hr2 := hr2.below hb3 (Nat.le_refl _)
  have HW3 := Lib.hid (And.intro (HW2.out.1.below hb3 HW2.out.1.lt) (HW2.out.2.trans (hb3.mono (by omega))))
  have hs3 := hb3.size
  have HR := Lib.hid (And.intro hr1 (And.intro hr2 hr3))
  clear ho3 hb3 hr1 hr2 hr3
  go_wp2_with fail
  obtain ⟨X, hX⟩ : ∃ X, X = w3.alloc (Obj.cells #[.slice (some ⟨g1, 0, none⟩) 8 c1, .slice (some ⟨g2, 0, none⟩) 4 c2, .slice (some ⟨g3, 0, none⟩) 4 c3] 26) := ⟨_, rfl⟩
  have hbX : Below w3.heap.size w3 X := by rw [hX]; exact (Below.refl _ _).alloc (Nat.le_refl _) _
  have hnX := heap_alloc_new w3 (Obj.cells #[.slice (some ⟨g1, 0, none⟩) 8 c1, .slice (some ⟨g2, 0, none⟩) 4 c2, .slice (some ⟨g3, 0, none⟩) 4 c3] 26)
  rw [← hX] at hnX
  rw [← hX]
  have hrd : Reads X (.slice (some ⟨w3.heap.size, 0, none⟩) 3 3) [.slice (some ⟨g1, 0, none⟩) 8 c1, .slice (some ⟨g2, 0, none⟩) 4 c2, .slice (some ⟨g3, 0, none⟩) 4 c3] :=
    reads_lit hnX rfl
  have HWX := Lib.hid (And.intro (HW3.out.1.below hbX HW3.out.1.lt) (HW3.out.2.trans (hbX.mono (by omega))))
  have hsX := hbX.size
  refine (join_any _ _ [putL e 8, putL s 4, putL 0 4] _ hrd rfl (fun i hi => ?_) (by simp [putL_length]) (by simp)).mono ?_
  · have hi3 : i = 0 ∨ i = 1 ∨ i = 2 := by simp at hi; omega
    rcases hi3 with rfl | rfl | rfl
    · exact ⟨_, rfl, HR.out.1.below hbX (Nat.le_refl _)⟩
    · exact ⟨_, rfl, HR.out.2.1.below hbX (Nat.le_refl _)⟩
    · exact ⟨_, rfl, HR.out.2.2.below hbX (Nat.le_refl _)⟩
  rw [show ([putL e 8, putL s 4, putL 0 4] : List (List Nat)).flatten = headL e s by simp [headL]]
  rintro _ w4 ⟨v4, rfl, ho4, hb4⟩
  rw [headL_length] at ho4
  obtain ⟨g4, c4, rfl, _, _, hc4, hrg⟩ := owns_range ho4 (by omega)
  have hz4 := HWX.out.1.below hb4 HWX.out.1.lt
  have hW4 := HWX.out.2.trans (hb4.mono (by omega))
  have hs4 := hb4.size
  have hc4i : (16 : Int) ≤ (c4 : Int) := by omega
  have hne : ¬ c4 = 0 := by omega
  have HW4 := Lib.hid hW4
  have harr : ∀ w, (Instr.arrayAt 39 (.slice (some ⟨g4, 0, none⟩) 16 c4)).run Tryd.prog w = .ok (.pointer (some ⟨g4, 0, none⟩)) w := arr_at Tryd.underlying39 _ _ _ (by omega)
  clear hX hbX hnX hrd ho4 hb4 hW4
  go_wp2_with (first | (refine wpList_load_mid rfl 39 _ rfl g4 0 rfl (bs (headL e s)) _ hrg Tryd.underlying39 rfl Hi.out.1 ?_) | (refine wpList_store_row rfl 39 _ _ rfl N (bx (headL e s)) rfl rfl 39 _ hz4.row Hi.out.2 (by rw [bx_size, bx_size, headL_length]; rfl) (bx_one _) ?_))
  refine bodyPost_ret (results_cell_row rfl _ _ N 39 _ _ _ rfl (hz4.setRow (headL e s)).row Tryd.underlying39 rfl Hi.out.2) rfl ⟨rfl, ?_⟩
  rw [HN.out]; exact Below.setRow HW4.out (Nat.le_refl _) _

/-- the first i are laid -/
def fillS (H : List Nat) (i : Nat) : List Nat := H.take i ++ List.replicate (H.length - i) 0
theorem fillS_length {H : List Nat} {i : Nat} (h : i ≤ H.length) : (fillS H i).length = H.length := by simp [fillS]; omega
theorem fillS_zero (H : List Nat) : fillS H 0 = zeros H.length := by simp [fillS, zeros]
theorem fillS_set {H : List Nat} {i : Nat} (h : i < H.length) : (fillS H i).set i (H.getD i 0) = fillS H (i + 1) := by
  obtain ⟨d, hd⟩ : ∃ d, H.length - i = d + 1 := ⟨H.length - i - 1, by omega⟩
  have hl : (H.take i).length = i := by rw [List.length_take]; omega
  unfold fillS
  rw [hd, show H.length - (i + 1) = d by omega, List.replicate_succ]
  rw [List.set_append_right _ _ (by omega), hl, Nat.sub_self, List.set_cons_zero, List.take_succ_eq_append_getElem h, List.append_assoc, List.getD_eq_getElem?_getD, List.getElem?_eq_getElem h]
  rfl
theorem headL_a {e s i : Nat} (h : i < 8) : (putL e 8).getD i 0 = (headL e s).getD i 0 := by
  have h1 := putL_length e 8
  simp only [headL, List.getD_eq_getElem?_getD]
  rw [List.append_assoc, List.getElem?_append_left (by omega)]
theorem headL_b {e s j : Nat} (h : j < 4) : (putL s 4).getD j 0 = (headL e s).getD (8 + j) 0 := by
  have h1 := putL_length e 8
  have h2 := putL_length s 4
  simp only [headL, List.getD_eq_getElem?_getD]
  rw [List.append_assoc, List.getElem?_append_right (by omega), h1, List.getElem?_append_left (by omega), Nat.add_sub_cancel_left]
theorem headL_fill (e s : Nat) : fillS (headL e s) 12 = headL e s := by
  have h1 := putL_length e 8
  have h2 := putL_length s 4
  have hd : (headL e s).drop 12 = [0, 0, 0, 0] := by
    rw [headL, List.drop_append, List.drop_eq_nil_of_le (by simp [h1, h2]), List.nil_append, List.length_append, h1, h2]
    decide
  conv => rhs; rw [← List.take_append_drop 12 (headL e s), hd]
  rw [fillS, headL_length]; rfl

set_option maxRecDepth 100000 in
set_option maxHeartbeats 1000000 in
theorem rhead_any (e s : Nat) (w : World) (he : e < 18446744073709551616) (hs : s < 4294967296) :
    Calls Tryd.prog 15 #[.int .u64 e, .int .u32 s] w fun en w' => en = .returned (.agg (bx (headL e s))) ∧ Below w.heap.size w w' := by
  obtain ⟨N, hN⟩ : ∃ N, w.heap.size = N := ⟨_, rfl⟩
  have HN := Lib.hid hN
  have s0 : (w.alloc (.cells (bx (zeros 16)) 39)).heap.size = N + 1 := by simp [hN]
  have s1 : ((w.alloc (.cells (bx (zeros 16)) 39)).alloc (.cells (bx (zeros 16)) 39)).heap.size = N + 2 := by simp [hN]
  have hz0 : Bytes ((w.alloc (.cells (bx (zeros 16)) 39)).alloc (.cells (bx (zeros 16)) 39)) N (zeros 16) 39 := by rw [← hN]; exact (Bytes.new _ _ _).old _
  have ho0 : Bytes ((w.alloc (.cells (bx (zeros 16)) 39)).alloc (.cells (bx (zeros 16)) 39)) (N + 1) (zeros 16) 39 := by rw [← s0]; exact Bytes.new _ _ _
  have hW0 : Below N w ((w.alloc (.cells (bx (zeros 16)) 39)).alloc (.cells (bx (zeros 16)) 39)) := by rw [← hN]; exact ((Below.refl _ _).alloc (Nat.le_refl _) _).alloc (by simp) _
  obtain ⟨H, hH⟩ : ∃ H, headL e s = H := ⟨_, rfl⟩
  have hHl : H.length = 16 := by rw [← hH, headL_length]
  have hi : ∀ m : List Nat, m.length = 16 → (Tryd.prog.info? 39).map (·.size) = some (bx m).size := by intro m hm; rw [bx_size, hm]; kernel_rfl
  have Hi := Lib.hid hi
  rw [hH]
  have HH : Hid (headL e s = H ∧ H.length = 16 ∧ (∀ x ∈ H, x < 256)) := ⟨hH, hHl, by rw [← hH]; exact headL_lt _ _⟩
  have hsi : (s : Int) < 4294967296 := by omega
  clear hi hH hHl
  go_enter Tryd.func15, Tryd.ntmps15
  go_wp2_with fail
  change Calls _ _ _ ((w.alloc (.cells (bx (zeros 16)) 39)).alloc (.cells (bx (zeros 16)) 39)) _
  generalize (w.alloc (.cells (bx (zeros 16)) 39)).alloc (.cells (bx (zeros 16)) 39) = W at hz0 ho0 hW0 s1 ⊢
  clear hN s0
  refine (rput_any e 8 _ he (.inr rfl)).mono ?_
  rintro _ w1 ⟨v1, rfl, ho1, hb1⟩
  obtain ⟨g1, c1, rfl, hg1, _, _, _⟩ := owns_range ho1 (by omega)
  rw [s1] at hg1
  have hr1 := reads_of_owns ho1
  have HW1 := Lib.hid (And.intro (hz0.below hb1 hz0.lt) (And.intro (ho0.below hb1 ho0.lt) (hW0.trans (hb1.mono (by omega)))))
  have hs1 := hb1.size
  clear ho1 hb1 hz0 hW0 ho0
  go_wp2_with fail
  refine (rput_any s 4 _ (by omega) (.inl rfl)).mono ?_
  rintro _ w2 ⟨v2, rfl, ho2, hb2⟩
  obtain ⟨g2, c2, rfl, hg2, _, _, _⟩ := owns_range ho2 (by omega)
  have hr2 := reads_of_owns ho2
  have hr1 := hr1.below hb2 (Nat.le_refl _)
  have hz2 := HW1.out.1.below hb2 HW1.out.1.lt
  have hO2 := HW1.out.2.1.below hb2 HW1.out.2.1.lt
  have hW2 := HW1.out.2.2.trans (hb2.mono (by omega))
  have hs2 := hb2.size
  obtain ⟨B, hB⟩ : ∃ B, w2.heap.size = B := ⟨_, rfl⟩
  have HR := Lib.hid (And.intro hr1 (And.intro hr2 hz2))
  have HWb := Lib.hid hW2
  have hgN : N + 1 < g1 ∧ N + 1 < g2 := ⟨by omega, by omega⟩
  have hO2' : Bytes w2 (N + 1) (fillS H 0) 39 := by rw [fillS_zero, HH.out.2.1]; exact hO2
  clear ho2 hb2 hr1 hr2 hz2 hW2 hO2 hB HW1
  go_wp2_with fail
  go_loopg [8] 8 (fun g i' wr => ∃ i : Nat, i + g = 8 ∧ i' = .int .i64 i ∧ Bytes wr (N + 1) (fillS H i) 39 ∧ w2.grownBy wr (some (N + 1)) ∧ Below N w2 wr)
  case atStart => exact ⟨0, rfl, rfl, hO2', grownBy_refl _ _, Below.refl _ _⟩
  case round =>
    clear hO2'
    obtain ⟨i, hig, rfl, hB, hG, hb⟩ := hrel
    by_cases hlt : i < 8
    · have hlti : (i : Int) < 8 := by omega
      have hi0 : (0 : Int) ≤ (i : Int) := by omega
      obtain ⟨x, hx⟩ : ∃ x, H.getD i 0 = x := ⟨_, rfl⟩
      have hx256 : x < 256 := by rw [← hx]; exact getD_lt HH.out.2.2 i
      have hq : wr.cell? ⟨g1, i, none⟩ = some (.int .u8 (x : Nat)) := by
        obtain ⟨b, off, cap, hv, _, hbl, hc⟩ := HR.out.1.pos (by rw [bs_length, putL_length]; omega)
        injection hv with e1 e2 e3
        injection e1 with e1
        injection e1 with e1 e4
        subst e1 e4
        have h := hc i _ (bs_get (by rw [putL_length]; exact hlt))
        rw [Nat.zero_add, headL_a (s := s) hlt, HH.out.1, hx] at h
        rw [World.cell?_of_block (hG.block g1 hbl (by simp; omega))]; exact h
      have hset := hB.set i x
      rw [← hx, fillS_set (by rw [HH.out.2.1]; omega), hx] at hset
      have hf := hB.free i
      have hc := hB.cell (i := i) (by rw [fillS_length (by rw [HH.out.2.1]; omega), HH.out.2.1]; omega)
      have HS := Lib.hid (And.intro hset (And.intro (grownBy_trans hG (grownBy_setCell wr ⟨N + 1, i, none⟩ (.int .u8 (x : Nat)))) (hb.setCell (p := ⟨N + 1, i, none⟩) (show N ≤ N + 1 by omega) (.int .u8 (x : Nat)))))
      clear hx hset hB hG hb
      go_wp2_with fail
      go_roundg (gk - 1)
      case measure => omega
      case rel => exact ⟨i + 1, by omega, by go_num, HS.out.1, HS.out.2.1, HS.out.2.2⟩
    · have hlti : ¬ (i : Int) < 8 := by omega
      obtain rfl : i = 8 := by omega
      clear hig hlt
      obtain ⟨w5, hw5⟩ : ∃ w5 : World, w5 = wr := ⟨_, rfl⟩
      rw [← hw5] at hB hG hb ⊢
      clear hw5 wr
      go_wp2_with fail
      go_loopg [9] 4 (fun g j' wr => ∃ j : Nat, j + g = 4 ∧ j' = .int .i64 j ∧ Bytes wr (N + 1) (fillS H (8 + j)) 39 ∧ w2.grownBy wr (some (N + 1)) ∧ Below N w2 wr)
      case atStart => exact ⟨0, rfl, rfl, hB, hG, hb⟩
      case round =>
        clear hB hG hb
        obtain ⟨j, hjg, rfl, hB, hG, hb⟩ := hrel
        by_cases hlt : j < 4
        · have hltj : (j : Int) < 4 := by omega
          have hj0 : (0 : Int) ≤ (j : Int) := by omega
          obtain ⟨p, hp⟩ : ∃ p, 8 + j = p := ⟨_, rfl⟩
          have hpi : (8 : Int) + (j : Int) = (p : Int) := by omega
          have hp16 : (p : Int) < 16 := by omega
          have hp0 : (0 : Int) ≤ (p : Int) := by omega
          rw [hp] at hB
          obtain ⟨x, hx⟩ : ∃ x, H.getD p 0 = x := ⟨_, rfl⟩
          have hx256 : x < 256 := by rw [← hx]; exact getD_lt HH.out.2.2 p
          have hq : wr.cell? ⟨g2, j, none⟩ = some (.int .u8 (x : Nat)) := by
            obtain ⟨b, off, cap, hv, _, hbl, hc⟩ := HR.out.2.1.pos (by rw [bs_length, putL_length]; omega)
            injection hv with e1 e2 e3
            injection e1 with e1
            injection e1 with e1 e4
            subst e1 e4
            have h := hc j _ (bs_get (by rw [putL_length]; exact hlt))
            rw [Nat.zero_add, headL_b (e := e) hlt, HH.out.1, hp, hx] at h
            rw [World.cell?_of_block (hG.block g2 hbl (by simp; omega))]; exact h
          have hset := hB.set p x
          rw [← hx, fillS_set (by rw [HH.out.2.1]; omega), hx] at hset
          have hf := hB.free p
          have hc := hB.cell (i := p) (by rw [fillS_length (by rw [HH.out.2.1]; omega), HH.out.2.1]; omega)
          have HS := Lib.hid (And.intro hset (And.intro (grownBy_trans hG (grownBy_setCell wr ⟨N + 1, p, none⟩ (.int .u8 (x : Nat)))) (hb.setCell (p := ⟨N + 1, p, none⟩) (show N ≤ N + 1 by omega) (.int .u8 (x : Nat)))))
          have Hp := Lib.hid hp
          clear hx hset hB hG hb hp
          go_wp2_with fail
          go_roundg (gk - 1)
          case measure => omega
          case rel => exact ⟨j + 1, by omega, by go_num, by rw [← Nat.add_assoc, Hp.out]; exact HS.out.1, HS.out.2.1, HS.out.2.2⟩
        · have hltj : ¬ (j : Int) < 4 := by omega
          obtain rfl : j = 4 := by omega
          rw [← HH.out.1, headL_fill, HH.out.1] at hB
          have hz : Bytes wr N (zeros 16) 39 := by
            have h := HR.out.2.2
            unfold Bytes at h ⊢
            rw [hG.block N (lt_of_block h) (by simp)]; exact h
          have HF := Lib.hid (HWb.out.trans hb)
          clear hG hb
          go_wp2_with (first | (refine wpList_load_row rfl 39 _ rfl (N + 1) rfl 39 _ _ _ hB.row Tryd.underlying39 rfl (Hi.out _ HH.out.2.1) ?_) | (refine wpList_store_row rfl 39 _ _ rfl N _ rfl rfl 39 _ hz.row (Hi.out _ HH.out.2.1) (by rw [bx_size, bx_size, HH.out.2.1]; rfl) (bx_one _) ?_))
          refine bodyPost_ret (results_cell_row rfl _ _ N 39 _ _ _ rfl (hz.setRow H).row Tryd.underlying39 rfl (Hi.out _ HH.out.2.1)) rfl ⟨rfl, ?_⟩
          rw [HN.out]; exact Below.setRow HF.out (Nat.le_refl _) _
end Go.Proofs.YtdopdaoapdeabaaDoor
