/- WALK: sacristanref04.Stream. -/
import Derived.Test.YtdopdaoapdeabaaDoorRNewW
import Derived.Test.YtdopdaoapdeabaaDoorRNextW
import Derived.Test.YtdopdaoapdeabaaDoorStreamW
import Derived.Deep.CutRange
namespace Go.Proofs.YtdopdaoapdeabaaDoor
open Go.RowKit

theorem rnext_nat (l : List Nat) (n : Nat) (w : World) (hl : l.length = 16) (hl' : ∀ x ∈ l, x < 256) (h : n ≤ 1048576) :
    Calls Tryd.prog 49 #[.agg (bx l), .int .i64 (n : Nat)] w fun e w' => e = .returned (.agg (bx (nextL l n))) ∧ Below w.heap.size w w' := by
  have := rnext_any l (n : Int) w hl hl' (by omega) (by omega)
  rwa [Int.toNat_natCast] at this

theorem strB_pre {ks at_ : List Nat} (h : at_.length = 16) (h' : ∀ x ∈ at_, x < 256) {i T k : Nat} (hi : i < T) (hk : k < 16) : (strB ks at_ T).getD (16 * i + k) 0 = (blockL ks (nextL at_ i)).getD k 0 := by
  obtain ⟨d, rfl⟩ : ∃ d, T = (i + 1) + d := ⟨T - (i + 1), by omega⟩
  have hl := strB_length (ks := ks) h i
  have hb : (blockL ks (nextL at_ i)).length = 16 := by rw [blockL_length, nextL_length _ h]
  rw [strB_add h h', strB, List.getD_eq_getElem?_getD, List.getElem?_append_left (by rw [List.length_append, hl, hb]; omega), List.getElem?_append_right (by omega), hl, Nat.add_sub_cancel_left, ← List.getD_eq_getElem?_getD]

/-- while a stream of the reference is made -/
structure RQ (w X : World) (N : Nat) (kv bv : Value) (kk at_ : List Nat) (v : Value) (n : Nat) (l : List Nat) : Prop where
  isc : IsC X kv bv kk
  c0 : X.cell? ⟨N, 0, none⟩ = some kv
  c1 : X.cell? ⟨N, 1, none⟩ = some bv
  atr : Bytes X (N + 1) at_ 39
  own : X.ownsRow (N + 2) 5 1 v n (bs l)
  bel : Below N w X
theorem RQ.size {w X : World} {N : Nat} {kv bv : Value} {kk at_ : List Nat} {v : Value} {n : Nat} {l : List Nat} (h : RQ w X N kv bv kk at_ v n l) : N + 2 ≤ X.heap.size := h.atr.lt
theorem RQ.drew {w X : World} {N : Nat} {kv bv : Value} {kk at_ : List Nat} {v : Value} {n : Nat} {l : List Nat} (h : RQ w X N kv bv kk at_ v n l) : RQ w X.drew N kv bv kk at_ v n l :=
  ⟨h.isc.below ((Below.refl X.heap.size X).drew) (Nat.le_refl _), h.c0, h.c1, h.atr, h.own, h.bel.drew⟩
theorem RQ.called {w X X' : World} {N : Nat} {kv bv : Value} {kk at_ : List Nat} {v : Value} {n : Nat} {l : List Nat} (h : RQ w X N kv bv kk at_ v n l) (hb : Below X.heap.size X X') : RQ w X' N kv bv kk at_ v n l := by
  have hs := h.size
  exact ⟨h.isc.below hb (Nat.le_refl _), by rw [hb.cell (p := ⟨N, 0, none⟩) (show N < X.heap.size by omega)]; exact h.c0, by rw [hb.cell (p := ⟨N, 1, none⟩) (show N < X.heap.size by omega)]; exact h.c1,
    h.atr.below hb h.atr.lt, h.own.kept (grown_below (row := none) hb (Nat.le_refl _)) (by by_cases e : v.ownBlock = none; exact .inl e; exact .inr e), h.bel.trans (hb.mono (by omega))⟩
/-- behind an append: the cipher's rows are older -/
theorem RQ.more {w X X' : World} {N : Nat} {kv bv : Value} {kk at_ : List Nat} {v v' : Value} {n n' : Nat} {l l' : List Nat} (h : RQ w X N kv bv kk at_ v n l) (hw : IsC w kv bv kk) (hN : w.heap.size = N) (hb : Below (N + 2) X X')
    (ho : X'.ownsRow (N + 2) 5 1 v' n' (bs l')) : RQ w X' N kv bv kk at_ v' n' l' := by
  have hbel := h.bel.trans (hb.mono (Nat.le_add_right N 2))
  exact ⟨hw.below hbel (by omega), by rw [hb.cell (p := ⟨N, 0, none⟩) (show N < N + 2 by omega)]; exact h.c0, by rw [hb.cell (p := ⟨N, 1, none⟩) (show N < N + 2 by omega)]; exact h.c1,
    h.atr.below hb (by omega), ho, hbel⟩
theorem RQ.stored {w X : World} {N : Nat} {kv bv : Value} {kk at_ : List Nat} {v : Value} {n : Nat} {l : List Nat} (h : RQ w X N kv bv kk at_ v n l) (hw : IsC w kv bv kk) (hN : w.heap.size = N) {M : Nat} (hM : N + 2 ≤ M) (hne : some M ≠ v.ownBlock) (c : List Nat) : RQ w (X.setRow M (bx c)) N kv bv kk at_ v n l := by
  have hb : Below (N + 2) X (X.setRow M (bx c)) := Below.setRow (Below.refl _ _) hM _
  exact h.more hw hN hb (h.own.kept (setRow_grown X M (bx c)) (.inr (Ne.symm hne)))
theorem RQ.lit {w X : World} {N : Nat} {kv bv : Value} {kk at_ : List Nat} {v : Value} {n : Nat} {l : List Nat} (h : RQ w X N kv bv kk at_ v n l) : ∃ a c, v = .slice a n c := by
  rcases h.own.2 with ⟨h, h0⟩ | ⟨g, cap, _, h, _⟩
  · exact ⟨none, 0, by rw [h, h0]⟩
  · exact ⟨_, _, h⟩
theorem bs_snoc {S : List Nat} {n x : Nat} (hn : n < S.length) (hx : S.getD n 0 = x) : bs (S.take n) ++ [.int .u8 (x : Int)] = bs (S.take (n + 1)) := take_snoc_ks' (k := .u8) hn hx

set_option maxRecDepth 100000 in
set_option maxHeartbeats 1000000 in
theorem rstream_any (kv bv : Value) (kk at_ : List Nat) (n : Int) (w : World) (hc : IsC w kv bv kk) (hl : at_.length = 16) (hl' : ∀ x ∈ at_, x < 256) (hn : n ≤ 1048576) :
    Calls Tryd.prog 41 #[.agg #[kv, bv], .agg (bx at_), .int .i64 n] w (StreamPost kk at_ n.toNat w) := by
  obtain ⟨m, hm⟩ : ∃ m, n.toNat = m := ⟨_, rfl⟩
  rw [hm]
  have hm20 : m ≤ 1048576 := by omega
  have Hm : Hid (n.toNat = m) := hm
  have Hl := Lib.hid (And.intro hl hl')
  have hi : ∀ m : List Nat, m.length = 16 → (Tryd.prog.info? 39).map (·.size) = some (bx m).size := by intro m hm; rw [bx_size, hm]; kernel_rfl
  have Hi := Lib.hid hi
  have Hi2 : Hid ((Tryd.prog.info? 39).map (·.size) = some (bs at_).length) := by rw [bs_length, hl]; show _ = _; kernel_rfl
  have hinfo : (Tryd.prog.info? 5).map (fun i => (i.zero, i.size, i.bytes)) = some (some (.int .u8 0), 1, 1) := by kernel_rfl
  obtain ⟨i0, hi0, hz0, hz1, hz2⟩ := info_parts hinfo
  have Hi0 := Lib.hid (And.intro hi0 (And.intro hz0 (And.intro hz1 hz2)))
  have HC := Lib.hid hc
  obtain ⟨N, hN⟩ : ∃ N, w.heap.size = N := ⟨_, rfl⟩
  have HN := Lib.hid hN
  have hS0 : RQ w ((w.alloc (Obj.cells #[kv, bv] 36)).alloc (Obj.cells (bx at_) 39)) N kv bv kk at_ (.slice none 0 0) 0 [] := by
    have s1 : (w.alloc (Obj.cells #[kv, bv] 36)).heap.size = N + 1 := by simp [hN]
    have k0 : (w.alloc (Obj.cells #[kv, bv] 36)).heap[N]? = some (.cells #[kv, bv] 36 (0, 0)) := by rw [← hN]; exact heap_alloc_new w _
    have kk : Below (N + 1) (w.alloc (Obj.cells #[kv, bv] 36)) ((w.alloc (Obj.cells #[kv, bv] 36)).alloc (Obj.cells (bx at_) 39)) := (Below.refl (N + 1) _).alloc (by omega) _
    have k1 := Bytes.new (w.alloc (Obj.cells #[kv, bv] 36)) at_ 39
    rw [s1] at k1
    have hW0 : Below N w ((w.alloc (Obj.cells #[kv, bv] 36)).alloc (Obj.cells (bx at_) 39)) := ((Below.refl N w).alloc (by omega) _).alloc (by rw [s1]; omega) _
    refine ⟨hc.below hW0 (by omega), ?_, ?_, k1, World.ownsRow_nil _ _ _ _, hW0⟩
    · rw [kk.cell (p := ⟨N, 0, none⟩) (show N < N + 1 by omega)]; simp [World.cell?, k0]
    · rw [kk.cell (p := ⟨N, 1, none⟩) (show N < N + 1 by omega)]; simp [World.cell?, k0]
  clear hm hi hl hl' hinfo hi0 hz0 hz1 hz2 hc hN
  go_enter Tryd.func41, Tryd.ntmps41
  go_upto_region 4 with (fail)
  rotate_left
  · obtain rfl : m = 0 := by have := Hm.out; omega
    generalize (w.alloc (Obj.cells #[kv, bv] 36)).alloc (Obj.cells (bx at_) 39) = W at hS0 ⊢
    rw [HN.out]
    clear Hm hn hm20
    go_wp2_with fail
    go_loopg [7] 0 (fun g v wr => g = 0 ∧ v = .slice none 0 0 ∧ RQ w wr N kv bv kk at_ (.slice none 0 0) 0 [])
    case atStart => exact ⟨rfl, rfl, hS0⟩
    case round =>
      clear hS0
      obtain ⟨rfl, rfl, hS⟩ := hrel
      have HS4 := Lib.hid hS
      clear hS
      go_wp2_with fail
      go_ret
      refine ⟨_, rfl, World.ownsRow_nil _ _ _ _, ?_⟩
      rw [HN.out]; exact HS4.out.bel
  obtain rfl : n = (m : Int) := by have := Hm.out; omega
  clear Hm hn
  generalize (w.alloc (Obj.cells #[kv, bv] 36)).alloc (Obj.cells (bx at_) 39) = W at hS0 ⊢
  rw [HN.out]
  obtain ⟨S, hS⟩ : ∃ S, strB kk at_ ((m + 15) / 16) = S := ⟨_, rfl⟩
  have hSl : S.length = 16 * ((m + 15) / 16) := by rw [← hS, strB_length Hl.out.1]
  have HS := Lib.hid (And.intro hS hSl)
  clear hS hSl
  go_wp2_with fail
  go_loopg [7, 8] ((m + 15) / 16) (fun g v i' wr => ∃ i : Nat, i + g = (m + 15) / 16 ∧ i' = .int .i64 i ∧ RQ w wr N kv bv kk at_ v (min (16 * i) m) (S.take (min (16 * i) m)))
  case atStart => exact ⟨0, by omega, rfl, by rw [show min (16 * 0) m = 0 by omega]; exact hS0⟩
  case round =>
    clear hS0
    obtain ⟨i, hig, rfl, hS⟩ := hrel
    obtain ⟨va, vc, hv⟩ := hS.lit
    subst hv
    by_cases hlt : i < (m + 15) / 16
    · obtain ⟨n, hn⟩ : ∃ n, min (16 * i) m = n := ⟨_, rfl⟩
      rw [hn] at hS ⊢
      have hnm : (n : Int) < (m : Int) := by omega
      obtain ⟨blk, hblk⟩ : ∃ blk, blk = blockL kk (nextL at_ i) := ⟨_, rfl⟩
      have hKl := hS.isc.lt
      have Hblk : Hid (blk = blockL kk (nextL at_ i) ∧ blk.length = 16 ∧ ∀ x ∈ blk, x < 256) := ⟨hblk, by rw [hblk, blockL_length, nextL_length _ Hl.out.1], by rw [hblk]; exact blockL_lt hKl (nextL_lt _ Hl.out.2)⟩
      have Hn := Lib.hid hn
      clear hblk hn hKl
      go_upto_region 6 with (fail)
      go_cut [9] from 20 to 24 (fun s9 wx => ∃ M : Nat, s9 = .pointer (some ⟨M, 0, none⟩) ∧ N + 2 ≤ M ∧ RQ w wx N kv bv kk at_ (.slice va n vc) n (S.take n) ∧ Bytes wx M blk 39)
      case first =>
        refine wp_region_held_drew (S := (fun w' => RQ w w' N kv bv kk at_ (.slice va n vc) n (S.take n))) (by kernel_rfl) ?_ (fun hHeld => ?_)
        · exact hS.drew
        refine take_run (v := ?_) 0 (some 20) rfl rfl (by kernel_rfl) (by kernel_rfl) (by kernel_rfl) (fun _ _ _ h => h) hHeld (by rfl) ?_ ?_
        rotate_left
        · intro _ hSw; have hc0 := hSw.c0; have hc1 := hSw.c1; go_simp; try with_reducible rfl
        simp only [Act.put, List.setIfInBounds_toArray, List.set_cons_zero, List.set_cons_succ]
        refine take_at 1 (some 21) rfl rfl (by kernel_rfl) (by kernel_rfl) (by kernel_rfl) (fun _ _ _ h => h) (yieldsIf_load_mid (by rfl) 39 _ rfl (N + 1) 0 rfl (bs at_) _ (fun _ h => h.atr.range) Tryd.underlying39 rfl Hi2.out) hHeld ?_
        simp only [Act.put, List.setIfInBounds_toArray, List.set_cons_zero, List.set_cons_succ]
        refine take_run (v := ?_) 2 (some 22) rfl rfl (by kernel_rfl) (by kernel_rfl) (by kernel_rfl) (fun _ _ _ h => h) hHeld (by rfl) ?_ ?_
        rotate_left
        · intro _ hSw; go_simp; try with_reducible rfl
        simp only [Act.put, List.setIfInBounds_toArray, List.set_cons_zero, List.set_cons_succ]
        refine branch2 3 5 (some 23) (some 9) rfl rfl rfl rfl (by kernel_rfl) (by rfl) (by rfl) (fun K hK => ?_) (fun K hK => ?_)
        · refine wp_call (f := ?_) (args := ?_) ?_ ?_
          rotate_left 2
          · go_simp; first | (refine ⟨?_, ?_⟩ <;> with_reducible rfl) | with_reducible rfl
          refine (rnext_nat at_ i _ Hl.out.1 Hl.out.2 (by omega)).mono ?_
          rintro _ w1 ⟨rfl, hb⟩
          refine ⟨_, rfl, hK _ _ ⟨?_, fun hHeld => ?_⟩⟩
          · first | exact hS4 | exact hHeld.called hb
          clear hK
          simp only [Act.put, List.setIfInBounds_toArray, List.set_cons_zero, List.set_cons_succ]
          refine branch2 4 5 (some 24) (some 9) rfl rfl rfl rfl (by kernel_rfl) (by rfl) (by rfl) (fun K hK => ?_) (fun K hK => ?_)
          · refine wp_call (f := ?_) (args := ?_) ?_ ?_
            rotate_left 2
            · go_simp; first | (refine ⟨?_, ?_⟩ <;> with_reducible rfl) | with_reducible rfl
            refine (rblock_any kv bv kk (nextL at_ i) _ hHeld.isc (nextL_length _ Hl.out.1) (nextL_lt _ Hl.out.2)).mono ?_
            rintro _ w2 ⟨rfl, hb⟩
            refine ⟨_, rfl, hK _ _ ⟨?_, fun hHeld => ?_⟩⟩
            · first | exact hS4 | exact hHeld.called hb
            clear hK
            rw [← Hblk.out.1]
            simp only [Act.put, List.setIfInBounds_toArray, List.set_cons_zero, List.set_cons_succ]
            refine op_at 5 (some 9) rfl rfl (by kernel_rfl) (by rfl) (fun K hK => ?_)
            refine wp_run (v := .pointer (some ⟨w2.heap.size, 0, none⟩)) (w' := w2.alloc (.cells (bx (zeros 16)) 39)) ?_ ?_
            · kernel_rfl
            have hb := (Below.refl (w2).heap.size (w2)).alloc (Nat.le_refl _) (.cells (bx (zeros 16)) 39)
            have hM := Bytes.new (w2) (zeros 16) 39
            have hMN := hHeld.size
            obtain ⟨M, hMe⟩ : ∃ M, (w2).heap.size = M := ⟨_, rfl⟩
            have hbM := hb
            rw [hMe] at hM hMN
            rw [hMe]
            refine hK _ _ ⟨?_, fun hHeld => ?_⟩
            · first | exact hS4 | exact hHeld.called hb
            clear hK
            simp only [Act.put, List.setIfInBounds_toArray, List.set_cons_zero, List.set_cons_succ]
            refine op_at 6 none rfl rfl (by kernel_rfl) (by rfl) (fun K hK => ?_)
            refine wp_store_row 39 (.tmp 9) (.tmp 24) ?_ M (bx blk) ?_ ?_ 39 (bx (zeros 16)) ?_ ?_ ?_ ?_ ?_
            · rfl
            · rfl
            · rfl
            · exact hM.row
            · exact Hi.out blk Hblk.out.2.1
            · rw [bx_size, bx_size, Hblk.out.2.1]; rfl
            · exact bx_one _
            have hB4 := hM.setRow blk
            have hS4 := hHeld.stored HC.out HN.out hMN (own_ne_type hHeld.own hM.row (by decide)) blk
            refine hK _ _ ⟨?_, fun hHeld => ?_⟩
            · first | exact hS4 | exact hHeld.called hb
            clear hK
            simp only [Act.put]
            refine wpAnyH_done (by kernel_rfl) ?_ _
            go_wp2_with fail
            go_meet
            exact ⟨M, rfl, hMN, hS4, hB4⟩
          · refine wp_run (v := .pointer (some ⟨w1.heap.size, 0, none⟩)) (w' := w1.alloc (.cells (bx (zeros 16)) 39)) ?_ ?_
            · kernel_rfl
            have hb := (Below.refl (w1).heap.size (w1)).alloc (Nat.le_refl _) (.cells (bx (zeros 16)) 39)
            have hM := Bytes.new (w1) (zeros 16) 39
            have hMN := hHeld.size
            obtain ⟨M, hMe⟩ : ∃ M, (w1).heap.size = M := ⟨_, rfl⟩
            have hbM := hb
            rw [hMe] at hM hMN
            rw [hMe]
            refine hK _ _ ⟨?_, fun hHeld => ?_⟩
            · first | exact hS4 | exact hHeld.called hb
            clear hK
            simp only [Act.put, List.setIfInBounds_toArray, List.set_cons_zero, List.set_cons_succ]
            refine call_at (f := ?_) (args := ?_) 4 (some 24) rfl rfl (by kernel_rfl) (by rfl) ?_ ?_
            rotate_left 2
            · go_simp; first | (refine ⟨?_, ?_⟩ <;> with_reducible rfl) | with_reducible rfl
            refine (rblock_any kv bv kk (nextL at_ i) _ hHeld.isc (nextL_length _ Hl.out.1) (nextL_lt _ Hl.out.2)).mono ?_
            rintro _ w2 ⟨rfl, hb⟩
            refine ⟨_, rfl, ?_, fun hHeld => ?_⟩
            · first | exact hS4 | exact hHeld.called hb
            have hM := hM.below hb hM.lt
            rw [← Hblk.out.1]
            simp only [Act.put, List.setIfInBounds_toArray, List.set_cons_zero, List.set_cons_succ]
            refine op_at 6 none rfl rfl (by kernel_rfl) (by rfl) (fun K hK => ?_)
            refine wp_store_row 39 (.tmp 9) (.tmp 24) ?_ M (bx blk) ?_ ?_ 39 (bx (zeros 16)) ?_ ?_ ?_ ?_ ?_
            · rfl
            · rfl
            · rfl
            · exact hM.row
            · exact Hi.out blk Hblk.out.2.1
            · rw [bx_size, bx_size, Hblk.out.2.1]; rfl
            · exact bx_one _
            have hB4 := hM.setRow blk
            have hS4 := hHeld.stored HC.out HN.out hMN (own_ne_type hHeld.own hM.row (by decide)) blk
            refine hK _ _ ⟨?_, fun hHeld => ?_⟩
            · first | exact hS4 | exact hHeld.called hb
            clear hK
            simp only [Act.put]
            refine wpAnyH_done (by kernel_rfl) ?_ _
            go_wp2_with fail
            go_meet
            exact ⟨M, rfl, hMN, hS4, hB4⟩
        · refine wp_run (v := .pointer (some ⟨wr.drew.heap.size, 0, none⟩)) (w' := wr.drew.alloc (.cells (bx (zeros 16)) 39)) ?_ ?_
          · kernel_rfl
          have hb := (Below.refl (wr.drew).heap.size (wr.drew)).alloc (Nat.le_refl _) (.cells (bx (zeros 16)) 39)
          have hM := Bytes.new (wr.drew) (zeros 16) 39
          have hMN := hHeld.size
          obtain ⟨M, hMe⟩ : ∃ M, (wr.drew).heap.size = M := ⟨_, rfl⟩
          have hbM := hb
          rw [hMe] at hM hMN
          rw [hMe]
          refine hK _ _ ⟨?_, fun hHeld => ?_⟩
          · first | exact hS4 | exact hHeld.called hb
          clear hK
          simp only [Act.put, List.setIfInBounds_toArray, List.set_cons_zero, List.set_cons_succ]
          refine call_at (f := ?_) (args := ?_) 3 (some 23) rfl rfl (by kernel_rfl) (by rfl) ?_ ?_
          rotate_left 2
          · go_simp; first | (refine ⟨?_, ?_⟩ <;> with_reducible rfl) | with_reducible rfl
          refine (rnext_nat at_ i _ Hl.out.1 Hl.out.2 (by omega)).mono ?_
          rintro _ w1 ⟨rfl, hb⟩
          refine ⟨_, rfl, ?_, fun hHeld => ?_⟩
          · first | exact hS4 | exact hHeld.called hb
          have hM := hM.below hb hM.lt
          simp only [Act.put, List.setIfInBounds_toArray, List.set_cons_zero, List.set_cons_succ]
          refine call_at (f := ?_) (args := ?_) 4 (some 24) rfl rfl (by kernel_rfl) (by rfl) ?_ ?_
          rotate_left 2
          · go_simp; first | (refine ⟨?_, ?_⟩ <;> with_reducible rfl) | with_reducible rfl
          refine (rblock_any kv bv kk (nextL at_ i) _ hHeld.isc (nextL_length _ Hl.out.1) (nextL_lt _ Hl.out.2)).mono ?_
          rintro _ w2 ⟨rfl, hb⟩
          refine ⟨_, rfl, ?_, fun hHeld => ?_⟩
          · first | exact hS4 | exact hHeld.called hb
          have hM := hM.below hb hM.lt
          rw [← Hblk.out.1]
          simp only [Act.put, List.setIfInBounds_toArray, List.set_cons_zero, List.set_cons_succ]
          refine op_at 6 none rfl rfl (by kernel_rfl) (by rfl) (fun K hK => ?_)
          refine wp_store_row 39 (.tmp 9) (.tmp 24) ?_ M (bx blk) ?_ ?_ 39 (bx (zeros 16)) ?_ ?_ ?_ ?_ ?_
          · rfl
          · rfl
          · rfl
          · exact hM.row
          · exact Hi.out blk Hblk.out.2.1
          · rw [bx_size, bx_size, Hblk.out.2.1]; rfl
          · exact bx_one _
          have hB4 := hM.setRow blk
          have hS4 := hHeld.stored HC.out HN.out hMN (own_ne_type hHeld.own hM.row (by decide)) blk
          refine hK _ _ ⟨?_, fun hHeld => ?_⟩
          · first | exact hS4 | exact hHeld.called hb
          clear hK
          simp only [Act.put]
          refine wpAnyH_done (by kernel_rfl) ?_ _
          go_wp2_with fail
          go_meet
          exact ⟨M, rfl, hMN, hS4, hB4⟩
      obtain ⟨M, rfl, hMN, hS4, hB4⟩ := hcut
      obtain rfl : gk = (m + 15) / 16 - i := by omega
      clear hS
      go_wp2_with fail
      go_loopg [7, 10] 16 (fun g v k' wr => ∃ k : Nat, k + g = 16 ∧ k' = .int .i64 k ∧ RQ w wr N kv bv kk at_ v (min (16 * i + k) m) (S.take (min (16 * i + k) m)) ∧ Bytes wr M blk 39)
      case atStart => exact ⟨0, rfl, rfl, by rw [Nat.add_zero, Hn.out]; exact hS4, hB4⟩
      case round =>
        clear hS4 hB4
        obtain ⟨k, hkg, rfl, hS, hB⟩ := hrel
        obtain ⟨va, vc, hv⟩ := hS.lit
        subst hv
        by_cases hk : k < 16
        · have hki : (k : Int) < 16 := by omega
          by_cases hq : 16 * i + k < m
          · obtain ⟨q, hqq⟩ : ∃ q, 16 * i + k = q := ⟨_, rfl⟩
            have hmin : min q m = q := by omega
            rw [hqq, hmin] at hS
            rw [hqq, hmin]
            have hqi : (q : Int) < (m : Int) := by omega
            obtain ⟨x, hx⟩ : ∃ x, blk.getD k 0 = x := ⟨_, rfl⟩
            have hx256 : x < 256 := by rw [← hx]; exact getD_lt Hblk.out.2.2 k
            have hcell := hB.cell (i := k) (by rw [Hblk.out.2.1]; exact hk)
            rw [hx] at hcell
            have hSx : S.getD q 0 = x := by rw [← HS.out.1, ← hqq, strB_pre Hl.out.1 Hl.out.2 hlt hk, ← Hblk.out.1, hx]
            have hSn : q < S.length := by rw [HS.out.2]; omega
            have hk0 : (0 : Int) ≤ (k : Int) := by omega
            have hs2 := hS.size
            have hne := own_ne_type hS.own hB.row (by decide)
            have hown' := hS.own.alloc (.cells #[.int .u8 (x : Nat)] 5)
            have hb' : Below (N + 2) wr (wr.alloc (.cells #[.int .u8 (x : Nat)] 5)) := (Below.refl _ _).alloc hs2 _
            have c5 : N + 2 ≤ (wr.alloc (.cells #[.int .u8 (x : Nat)] 5)).heap.size := by simp; omega
            have HX := Lib.hid (And.intro hx (And.intro hSx (And.intro hSn (And.intro hqq hmin))))
            have HQ := Lib.hid (And.intro hS hB)
            clear hx hSx hSn hqq hmin hS hB
            go_wp2_with (at_builtin; refine wpList_append_own _ rfl _ _ 26 rfl (N + 2) 5 i0 (.int .u8 0) 1 1 Tryd.underlying26 Hi0.out.1 Hi0.out.2.1 Hi0.out.2.2.1 Hi0.out.2.2.2 rfl (by decide) _ _ _ rfl hown' ⟨wr.heap.size, 0, none⟩ 1 1 [.int .u8 (x : Nat)] rfl rfl (cell_one_new _ _ _) (bs_one [x]) (by unfold maxLen; omega) (by omega) c5 ?_; intro v' w1 hown1 hgrow _)
            go_roundg (gk - 1)
            case measure => omega
            case rel =>
              rw [bs_snoc HX.out.2.2.1 HX.out.2.1] at hown1
              refine ⟨k + 1, by omega, by go_num, ?_, (HQ.out.2.old _).grown hgrow hne⟩
              rw [show min (16 * i + (k + 1)) m = q + 1 by have := HX.out.2.2.2.1; omega]
              exact HQ.out.1.more HC.out HN.out (hb'.grown hgrow c5 (fun k hk => (HQ.out.1.own.lt k hk).1)) hown1
          · obtain ⟨q, hqq⟩ : ∃ q, min (16 * i + k) m = q := ⟨_, rfl⟩
            rw [hqq] at hS ⊢
            have hqi : ¬ (q : Int) < (m : Int) := by omega
            have Hqq := Lib.hid hqq
            clear hqq
            go_wp2_with fail
            go_roundg ((m + 15) / 16 - (i + 1))
            case measure => omega
            case rel => exact ⟨i + 1, by omega, by go_num, by rw [show min (16 * (i + 1)) m = q by have := Hqq.out; omega]; exact hS⟩
        · have hki : ¬ (k : Int) < 16 := by omega
          obtain rfl : k = 16 := by omega
          go_wp2_with fail
          go_roundg ((m + 15) / 16 - (i + 1))
          case measure => omega
          case rel => exact ⟨i + 1, by omega, by go_num, by rw [show 16 * (i + 1) = 16 * i + 16 by omega]; exact hS⟩
    · obtain rfl : i = (m + 15) / 16 := by omega
      have hmin : min (16 * ((m + 15) / 16)) m = m := by omega
      rw [hmin] at hS ⊢
      have hnm : ¬ (m : Int) < (m : Int) := by omega
      have HS4 := Lib.hid hS
      clear hS hmin
      go_wp2_with fail
      go_ret
      refine ⟨_, rfl, ?_, ?_⟩
      · have h1 := owns_mono HS4.out.own (show N ≤ N + 2 by omega)
        rw [HN.out, streamL, HS.out.1]
        exact h1
      · rw [HN.out]; exact HS4.out.bel
end Go.Proofs.YtdopdaoapdeabaaDoor
