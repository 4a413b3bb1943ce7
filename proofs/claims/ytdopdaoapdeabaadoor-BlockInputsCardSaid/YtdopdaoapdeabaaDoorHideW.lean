/- WALK: block.Hide. -/
import Derived.Test.YtdopdaoapdeabaaDoorHeadW
import Derived.Test.YtdopdaoapdeabaaDoorRXorW
import Derived.Deep.CutRange
namespace Go.Proofs.YtdopdaoapdeabaaDoor
open Go.RowKit

theorem join2_any (v x y : Value) (l m : List Nat) (w : World) (hv : Reads w v [x, y]) (hx : Reads w x (bs l)) (hy : Reads w y (bs m)) (ht : l.length + m.length ≤ 1000000) :
    Calls Tryd.prog 23 #[v] w fun e w' => ∃ v', e = .returned v' ∧ w'.ownsRow w.heap.size 5 1 v' (l.length + m.length) (bs (l ++ m)) ∧ Below w.heap.size w w' := by
  have h := join_any v [x, y] [l, m] w hv rfl (fun i hi => by
    have hi2 : i = 0 ∨ i = 1 := by simp at hi; omega
    rcases hi2 with rfl | rfl
    · exact ⟨x, rfl, hx⟩
    · exact ⟨y, rfl, hy⟩) (by simpa using ht) (by simp)
  have e : ([l, m] : List (List Nat)).flatten = l ++ m := by simp
  rw [e, List.length_append] at h
  exact h
theorem Bytes.reads16 {w : World} {b : Nat} {l : List Nat} {t : TypeId} (h : Bytes w b l t) {n : Nat} (hn : l.length = n) : Reads w (.slice (some ⟨b, 0, none⟩) n n) (bs l) := by
  subst hn
  exact .inr ⟨⟨b, 0, none⟩, l.length, by rw [bs_length], by rw [bs_length]; exact Nat.le_refl _, fun j u hj => by rw [Addr.add_mid]; exact h.range j u hj⟩

/-- a block, hidden -/
def hideL (ks : List Nat) (e s : Nat) (l : List Nat) : List Nat := headL e s ++ xorL (padL l 256) (streamL ks (headL e s) 256)
theorem hideX_length {ks l : List Nat} (e s : Nat) : (xorL (padL l 256) (streamL ks (headL e s) 256)).length = 256 := by rw [xorL_length, streamL_length (headL_length e s)]
theorem hideL_length {ks l : List Nat} (e s : Nat) : (hideL ks e s l).length = 272 := by rw [hideL, List.length_append, headL_length, hideX_length]
theorem hideL_lt {ks l : List Nat} (hk : ∀ x ∈ ks, x < 256) (hl : ∀ x ∈ l, x < 256) (e s : Nat) : ∀ x ∈ hideL ks e s l, x < 256 := fun x hx => by
  rcases List.mem_append.1 hx with h | h
  · exact headL_lt e s x h
  · exact xorL_lt (padL_lt hl) (streamL_lt hk (headL_lt e s) 256) x h

/-- what Hide tells -/
def HidePost (ks : List Nat) (e s : Nat) (l : List Nat) (w : World) (en : Ending) (w' : World) : Prop :=
  Below w.heap.size w w' ∧
  ((l.length ≤ 256 ∧ ∃ v, en = .returned (.tuple #[v, .int .i64 0]) ∧ w'.ownsRow w.heap.size 5 1 v 272 (bs (hideL ks e s l))) ∨
   (256 < l.length ∧ en = .returned (.tuple #[.slice none 0 0, .int .i64 4])))

/-- while a block is hidden -/
structure HQ (w X : World) (N M : Nat) (key H : List Nat) (v : Value) (l : List Nat) : Prop where
  key : Bytes X N key 23
  place : Bytes X M H 39
  r : Reads X v (bs l)
  bel : Below N w X
theorem HQ.below {w X X' : World} {N M : Nat} {key H : List Nat} {v : Value} {l : List Nat} (h : HQ w X N M key H v l) (hb : Below X.heap.size X X') : HQ w X' N M key H v l :=
  ⟨h.key.below hb h.key.lt, h.place.below hb h.place.lt, h.r.below hb (Nat.le_refl _), h.bel.trans (hb.mono (Nat.le_of_lt h.key.lt))⟩
theorem HQ.drew {w X : World} {N M : Nat} {key H : List Nat} {v : Value} {l : List Nat} (h : HQ w X N M key H v l) : HQ w X.drew N M key H v l := h.below ((Below.refl _ _).drew)

set_option maxRecDepth 100000 in
set_option maxHeartbeats 2000000 in
theorem hide_any (key : List Nat) (e s : Nat) (l : List Nat) (v : Value) (w : World) (hkl : key.length = 16) (hkt : ∀ x ∈ key, x < 256) (hs : s < 4294967296) (hr : Reads w v (bs l)) (hlt : ∀ x ∈ l, x < 256) :
    Calls Tryd.prog 10 #[.agg (bx key), .int .u64 e, .int .u32 s, v] w (HidePost (keysL key) e s l w) := by
  obtain ⟨va, vc, rfl⟩ := hr.len
  rw [bs_length] at hr ⊢
  obtain ⟨m, hm⟩ : ∃ m, l.length = m := ⟨_, rfl⟩
  rw [hm] at hr ⊢
  have Hm := Lib.hid hm
  have Hkey := Lib.hid (And.intro hkl hkt)
  obtain ⟨N, hN⟩ : ∃ N, w.heap.size = N := ⟨_, rfl⟩
  have HN := Lib.hid hN
  have hW0 : Below N w (w.alloc (.cells (bx key) 23)) := (Below.refl _ _).alloc (by omega) _
  have s0 : (w.alloc (.cells (bx key) 23)).heap.size = N + 1 := by simp [hN]
  have hK0 : Bytes (w.alloc (.cells (bx key) 23)) N key 23 := by rw [← hN]; exact Bytes.new _ _ _
  have hR0 := hr.below hW0 (Nat.le_of_eq hN)
  obtain ⟨ks, hks⟩ : ∃ ks, keysL key = ks := ⟨_, rfl⟩
  rw [hks]
  have Hks := Lib.hid hks
  by_cases h256 : m ≤ 256
  · have h256i : ¬ (256 : Int) < (m : Int) := by omega
    have Hlm : Hid (l.length ≤ 256) := by show _ ≤ _; omega
    obtain ⟨H, hH⟩ : ∃ H, headL e s = H := ⟨_, rfl⟩
    have HH : Hid (H.length = 16 ∧ (∀ x ∈ H, x < 256) ) := ⟨by rw [← hH, headL_length], by rw [← hH]; exact headL_lt _ _⟩
    obtain ⟨PL, hPL⟩ : ∃ PL, padL l 256 = PL := ⟨_, rfl⟩
    have Hp : Hid (padL l 256 = PL ∧ PL.length = 256 ∧ ∀ x ∈ PL, x < 256) := ⟨hPL, by rw [← hPL, padL_length (by omega)], by rw [← hPL]; exact padL_lt hlt⟩
    obtain ⟨XL, hXL⟩ : ∃ XL, xorL PL (streamL ks H 256) = XL := ⟨_, rfl⟩
    have HX : Hid (xorL PL (streamL ks H 256) = XL ∧ XL.length = 256) := ⟨hXL, by rw [← hXL, xorL_length, streamL_length HH.out.1]⟩
    have HW : Hid (H ++ XL = hideL ks e s l) := by show _ = _; rw [hideL, hH, hPL, hXL]
    have HHe := Lib.hid hH
    have hi : ∀ m : List Nat, m.length = 16 → (Tryd.prog.info? 39).map (·.size) = some (bx m).size := by intro m hm; rw [bx_size, hm]; kernel_rfl
    have Hi := Lib.hid hi
    have Hi2 : Hid (((Tryd.prog.info? 23).map (·.size) = some (bs key).length) ∧ ((Tryd.prog.info? 39).map (·.size) = some (bs H).length)) := ⟨by rw [bs_length, hkl]; kernel_rfl, by rw [bs_length, HH.out.1]; kernel_rfl⟩
    have HR := Lib.hid hR0
    clear hkl hkt hr hm hR0 hks hH hPL hXL hi hlt
    go_enter Tryd.func10, Tryd.ntmps10
    go_upto_region 3 with (fail)
    generalize w.alloc (.cells (bx key) 23) = W at hW0 s0 hK0 HR ⊢
    clear hN
    go_upto_region 4 with (first | (go_at_call 14; refine (head_any e s _ hs).mono ?_; rw [HHe.out]; rintro _ w1 ⟨rfl, hb1⟩) | (refine wpList_store_new rfl 39 _ _ rfl _ (bx H) 39 rfl rfl (Hi.out H HH.out.1) (by rw [bx_size, HH.out.1]; rfl) (bx_one _) ?_))
    have hb2 := (Below.refl w1.heap.size w1).alloc (Nat.le_refl _) (.cells (bx H) 39)
    have hQ : HQ w (w1.alloc (.cells (bx H) 39)) N w1.heap.size key H (.slice va m vc) l :=
      ⟨(hK0.below hb1 hK0.lt).below hb2 (hK0.below hb1 hK0.lt).lt, Bytes.new _ _ _, (HR.out.below hb1 (Nat.le_refl _)).below hb2 (Nat.le_refl _), (hW0.trans (hb1.mono (by omega))).trans (hb2.mono (by have := hb1.size; omega))⟩
    obtain ⟨M, hM⟩ : ∃ M, w1.heap.size = M := ⟨_, rfl⟩
    rw [hM] at hQ ⊢
    generalize w1.alloc (.cells (bx H) 39) = W1 at hQ ⊢
    clear hb1 hb2 hW0 hK0 s0 HR hM
    clear w1
    clear W
    refine wp_region_held_drew (S := (fun w' => HQ w w' N M key H (.slice va m vc) l)) (by kernel_rfl) ?_ (fun hHeld => ?_)
    · exact hQ.drew
    refine take_run (v := ?_) 0 (some 17) rfl rfl (by kernel_rfl) (by kernel_rfl) (by kernel_rfl) (fun _ _ _ h => h) hHeld (by rfl) ?_ ?_
    rotate_left
    · intro _ hSw; go_simp; try with_reducible rfl
    simp only [Act.put, List.setIfInBounds_toArray, List.set_cons_zero, List.set_cons_succ]
    refine take_at 1 (some 18) rfl rfl (by kernel_rfl) (by kernel_rfl) (by kernel_rfl) (fun _ _ _ h => h) (yieldsIf_load_mid (by rfl) 23 _ rfl N 0 rfl (bs key) _ (fun _ h => h.key.range) Tryd.underlying23 rfl Hi2.out.1) hHeld ?_
    simp only [Act.put, List.setIfInBounds_toArray, List.set_cons_zero, List.set_cons_succ]
    refine take_at 3 (some 20) rfl rfl (by kernel_rfl) (by kernel_rfl) (by kernel_rfl) (fun _ _ _ h => h) (yieldsIf_load_mid (by rfl) 39 _ rfl M 0 rfl (bs H) _ (fun _ h => h.place.range) Tryd.underlying39 rfl Hi2.out.2) hHeld ?_
    simp only [Act.put, List.setIfInBounds_toArray, List.set_cons_zero, List.set_cons_succ]
    refine take_run (v := ?_) 4 (some 21) rfl rfl (by kernel_rfl) (by kernel_rfl) (by kernel_rfl) (fun _ _ _ h => h) hHeld (by rfl) ?_ ?_
    rotate_left
    · intro _ hSw; go_simp; try with_reducible rfl
    simp only [Act.put, List.setIfInBounds_toArray, List.set_cons_zero, List.set_cons_succ]
    refine call_at (f := ?_) (args := ?_) 2 (some 19) rfl rfl (by kernel_rfl) (by rfl) ?_ ?_
    rotate_left 2
    · go_simp; first | (refine ⟨?_, ?_⟩ <;> with_reducible rfl) | with_reducible rfl
    refine (new_any key _ Hkey.out.1 Hkey.out.2).mono ?_
    rintro _ w4 ⟨b, bb, rfl, hc, _, _, hb⟩
    refine ⟨_, rfl, ?_, fun hHeld => ?_⟩
    · exact hHeld.below hb
    rw [Hks.out] at hc
    simp only [Act.put, List.setIfInBounds_toArray, List.set_cons_zero, List.set_cons_succ]
    refine call_at (f := ?_) (args := ?_) 5 (some 22) rfl rfl (by kernel_rfl) (by rfl) ?_ ?_
    rotate_left 2
    · go_simp; first | (refine ⟨?_, ?_⟩ <;> with_reducible rfl) | with_reducible rfl
    refine (pad_any l _ 256 _ hHeld.r Hlm.out (by omega)).mono ?_
    rintro _ w5 ⟨pv, rfl, hop, hb⟩
    refine ⟨_, rfl, ?_, fun hHeld => ?_⟩
    · exact hHeld.below hb
    have hc2 := hc.below hb hc.lt1 hc.lt2
    have hrp := reads_of_owns hop
    rw [Hp.out.1] at hrp
    simp only [Act.put, List.setIfInBounds_toArray, List.set_cons_zero, List.set_cons_succ]
    refine call_at (f := ?_) (args := ?_) 6 (some 23) rfl rfl (by kernel_rfl) (by rfl) ?_ ?_
    rotate_left 2
    · go_simp; first | (refine ⟨?_, ?_⟩ <;> with_reducible rfl) | with_reducible rfl
    refine (xor_any b bb ks H PL pv _ hc2 HH.out.1 HH.out.2 hrp Hp.out.2.2 (by rw [Hp.out.2.1]; omega)).mono ?_
    rintro _ w6 ⟨xv, rfl, hox, hb⟩
    refine ⟨_, rfl, ?_, fun hHeld => ?_⟩
    · exact hHeld.below hb
    rw [Hp.out.2.1, HX.out.1] at hox
    obtain ⟨xg, xc, hxv, _, _, _, _⟩ := owns_range hox (by omega)
    subst hxv
    have hrx := reads_of_owns hox
    simp only [Act.put, List.setIfInBounds_toArray, List.set_cons_zero, List.set_cons_succ]
    refine op_at 7 (some 24) rfl rfl (by kernel_rfl) (by rfl) (fun K hK => ?_)
    refine wp_buildVals 79 26 2 #[(0, .tmp 17), (1, .tmp 23)] ?_ [.slice (some ⟨M, 0, none⟩) 16 16, .slice (some ⟨xg, 0, none⟩) 256 xc] ?_ ?_ ?_ ?_ ?_ ?_ ?_ ?_ ?_
    · rfl
    · exact Tryd.underlying79
    · kernel_rfl
    · kernel_rfl
    · rfl
    · decide
    · decide
    · rfl
    · intro v hv; simp only [List.mem_cons, List.not_mem_nil, or_false] at hv; rcases hv with rfl | rfl <;> rfl
    have hNX : N ≤ (w6.alloc (.cells #[.slice (some ⟨M, 0, none⟩) 16 16, .slice (some ⟨xg, 0, none⟩) 256 xc] 26)).heap.size := by have h1 := hHeld.bel.size; rw [HN.out] at h1; simp; omega
    have hb := (Below.refl w6.heap.size w6).alloc (Nat.le_refl _) (.cells #[.slice (some ⟨M, 0, none⟩) 16 16, .slice (some ⟨xg, 0, none⟩) 256 xc] 26)
    have hnx := heap_alloc_new w6 (.cells #[.slice (some ⟨M, 0, none⟩) 16 16, .slice (some ⟨xg, 0, none⟩) 256 xc] 26)
    have hrx2 := hrx.below hb (Nat.le_refl _)
    have hr0 := hHeld.place.reads16 HH.out.1
    have hr02 := hr0.below hb (Nat.le_refl _)
    refine hK _ _ ⟨?_, fun hHeld => ?_⟩
    · exact hHeld.below hb
    clear hK
    simp only [Act.put, List.setIfInBounds_toArray, List.set_cons_zero, List.set_cons_succ]
    refine call_at (f := ?_) (args := ?_) 8 (some 25) rfl rfl (by kernel_rfl) (by rfl) ?_ ?_
    rotate_left 2
    · go_simp; first | (refine ⟨?_, ?_⟩ <;> with_reducible rfl) | with_reducible rfl
    refine (join2_any _ _ _ H XL _ (reads_lit hnx rfl) hr02 hrx2 (by rw [HH.out.1, HX.out.2]; omega)).mono ?_
    rintro _ w8 ⟨jv, rfl, hoj, hb⟩
    refine ⟨_, rfl, ?_, fun hHeld => ?_⟩
    · exact hHeld.below hb
    simp only [Act.put, List.setIfInBounds_toArray, List.set_cons_zero, List.set_cons_succ]
    refine take_run (v := ?_) 9 (some 8) rfl rfl (by kernel_rfl) (by kernel_rfl) (by kernel_rfl) (fun _ _ _ h => h) hHeld (by rfl) ?_ ?_
    rotate_left
    · intro _ hSw; go_simp; try with_reducible rfl
    simp only [Act.put, List.setIfInBounds_toArray, List.set_cons_zero, List.set_cons_succ]
    refine take_run (v := ?_) 10 (some 9) rfl rfl (by kernel_rfl) (by kernel_rfl) (by kernel_rfl) (fun _ _ _ h => h) hHeld (by rfl) ?_ ?_
    rotate_left
    · intro _ hSw; go_simp; try with_reducible rfl
    simp only [Act.put, List.setIfInBounds_toArray, List.set_cons_zero, List.set_cons_succ]
    refine wpAnyH_done (by kernel_rfl) ?_ _
    go_wp2_with fail
    go_ret2
    refine ⟨by rw [HN.out]; exact hHeld.bel, .inl ⟨by rw [Hm.out]; omega, jv, rfl, ?_⟩⟩
    rw [HH.out.1, HX.out.2, HW.out] at hoj
    exact owns_mono hoj (by rw [HN.out]; exact hNX)
  · have h256i : (256 : Int) < (m : Int) := by omega
    have HF := Lib.hid (And.intro hW0 hm)
    clear hW0 hK0 s0 hR0 hN hr hkl hkt hm hks
    go_enter Tryd.func10, Tryd.ntmps10
    go_wp2_with fail
    go_ret2
    exact ⟨by rw [HN.out]; exact HF.out.1, .inr ⟨by rw [HF.out.2]; omega, rfl⟩⟩

/-- while the reference hides a block -/
structure HT (w X : World) (N M B : Nat) (kv bv : Value) (ks H : List Nat) (v : Value) (l : List Nat) : Prop where
  isc : IsC w kv bv ks
  r : Reads w v (bs l)
  hN : w.heap.size = N
  c0 : X.cell? ⟨N, 0, none⟩ = some kv
  c1 : X.cell? ⟨N, 1, none⟩ = some bv
  place : Bytes X M H 39
  bel : Below N w X
  size : B ≤ X.heap.size
  lt : N < M
  hM : M < B
theorem HT.more {w X X' : World} {N M B : Nat} {kv bv : Value} {ks H : List Nat} {v : Value} {l : List Nat} (h : HT w X N M B kv bv ks H v l) (hb : Below B X X') : HT w X' N M B kv bv ks H v l := by
  have h1 := h.lt
  have h2 := h.hM
  exact ⟨h.isc, h.r, h.hN, by rw [hb.cell (p := ⟨N, 0, none⟩) (show N < B by omega)]; exact h.c0, by rw [hb.cell (p := ⟨N, 1, none⟩) (show N < B by omega)]; exact h.c1, h.place.below hb h2, h.bel.trans (hb.mono (by omega)), hb.size_of h.size, h1, h2⟩
theorem HT.iscX {w X : World} {N M B : Nat} {kv bv : Value} {ks H : List Nat} {v : Value} {l : List Nat} (h : HT w X N M B kv bv ks H v l) : IsC X kv bv ks := h.isc.below h.bel (Nat.le_of_eq h.hN)
theorem HT.rX {w X : World} {N M B : Nat} {kv bv : Value} {ks H : List Nat} {v : Value} {l : List Nat} (h : HT w X N M B kv bv ks H v l) : Reads X v (bs l) := h.r.below h.bel (Nat.le_of_eq h.hN)

set_option maxRecDepth 100000 in
set_option maxHeartbeats 2000000 in
theorem rhide_any (kv bv : Value) (ks : List Nat) (e s : Nat) (l : List Nat) (v : Value) (w : World) (hc : IsC w kv bv ks) (he : e < 18446744073709551616) (hs : s < 4294967296) (hr : Reads w v (bs l)) (hlt : ∀ x ∈ l, x < 256) :
    Calls Tryd.prog 11 #[.agg #[kv, bv], .int .u64 e, .int .u32 s, v] w (HidePost ks e s l w) := by
  obtain ⟨va, vc, rfl⟩ := hr.len
  rw [bs_length] at hr ⊢
  obtain ⟨m, hm⟩ : ∃ m, l.length = m := ⟨_, rfl⟩
  rw [hm] at hr ⊢
  have Hm := Lib.hid hm
  have hinfo : (Tryd.prog.info? 5).map (fun i => (i.zero, i.size, i.bytes)) = some (some (.int .u8 0), 1, 1) := by kernel_rfl
  obtain ⟨i0, hi0, hz0, hz1, hz2⟩ := info_parts hinfo
  have Hi0 := Lib.hid (And.intro hi0 (And.intro hz0 (And.intro hz1 hz2)))
  obtain ⟨N, hN⟩ : ∃ N, w.heap.size = N := ⟨_, rfl⟩
  have HN := Lib.hid hN
  have hW0 : Below N w (w.alloc (Obj.cells #[kv, bv] 36)) := (Below.refl _ _).alloc (by omega) _
  have s0 : (w.alloc (Obj.cells #[kv, bv] 36)).heap.size = N + 1 := by simp [hN]
  have k0 : (w.alloc (Obj.cells #[kv, bv] 36)).heap[N]? = some (.cells #[kv, bv] 36 (0, 0)) := by rw [← hN]; exact heap_alloc_new w _
  have hc0 : (w.alloc (Obj.cells #[kv, bv] 36)).cell? ⟨N, 0, none⟩ = some kv := by simp [World.cell?, k0]
  have hc1 : (w.alloc (Obj.cells #[kv, bv] 36)).cell? ⟨N, 1, none⟩ = some bv := by simp [World.cell?, k0]
  by_cases h256 : m ≤ 256
  · have h256i : ¬ (256 : Int) < (m : Int) := by omega
    have Hlm : Hid (l.length ≤ 256) := by show _ ≤ _; omega
    obtain ⟨H, hH⟩ : ∃ H, headL e s = H := ⟨_, rfl⟩
    have HH : Hid (H.length = 16 ∧ (∀ x ∈ H, x < 256) ) := ⟨by rw [← hH, headL_length], by rw [← hH]; exact headL_lt _ _⟩
    obtain ⟨PL, hPL⟩ : ∃ PL, padL l 256 = PL := ⟨_, rfl⟩
    have Hp : Hid (padL l 256 = PL ∧ PL.length = 256 ∧ ∀ x ∈ PL, x < 256) := ⟨hPL, by rw [← hPL, padL_length (by omega)], by rw [← hPL]; exact padL_lt hlt⟩
    obtain ⟨XL, hXL⟩ : ∃ XL, xorL PL (streamL ks H 256) = XL := ⟨_, rfl⟩
    have HX : Hid (xorL PL (streamL ks H 256) = XL ∧ XL.length = 256) := ⟨hXL, by rw [← hXL, xorL_length, streamL_length HH.out.1]⟩
    have HW : Hid (H ++ XL = hideL ks e s l) := by show _ = _; rw [hideL, hH, hPL, hXL]
    have HHe := Lib.hid hH
    have hi : ∀ m : List Nat, m.length = 16 → (Tryd.prog.info? 39).map (·.size) = some (bx m).size := by intro m hm; rw [bx_size, hm]; kernel_rfl
    have Hi := Lib.hid hi
    have Hi2 : Hid ((Tryd.prog.info? 39).map (·.size) = some (bs H).length) := by rw [bs_length, HH.out.1]; show _ = _; kernel_rfl
    have HRC := Lib.hid (And.intro hr hc)
    clear hr hc hm hH hPL hXL hi hlt hinfo hi0 hz0 hz1 hz2 k0
    go_enter Tryd.func11, Tryd.ntmps11
    go_upto_region 3 with (fail)
    generalize w.alloc (Obj.cells #[kv, bv] 36) = W at hW0 s0 hc0 hc1 ⊢
    clear hN
    go_upto_region 4 with (first | (go_at_call 15; refine (rhead_any e s _ he hs).mono ?_; rw [HHe.out]; rintro _ w1 ⟨rfl, hb1⟩) | (refine wpList_store_new rfl 39 _ _ rfl _ (bx H) 39 rfl rfl (Hi.out H HH.out.1) (by rw [bx_size, HH.out.1]; rfl) (bx_one _) ?_))
    obtain ⟨M, hM⟩ : ∃ M, w1.heap.size = M := ⟨_, rfl⟩
    have hMN : N < M := by have := hb1.size; omega
    have hb2 : Below M w1 (w1.alloc (.cells (bx H) 39)) := (Below.refl _ _).alloc (by omega) _
    have hsB : (w1.alloc (.cells (bx H) 39)).heap.size = M + 1 := by simp [hM]
    have hP := Bytes.new w1 H 39
    rw [hM] at hP ⊢
    obtain ⟨B, hB⟩ : ∃ B, M + 1 = B := ⟨_, rfl⟩
    rw [hB] at hsB
    have hT0 : HT w (w1.alloc (.cells (bx H) 39)) N M B kv bv ks H (.slice va m vc) l :=
      ⟨HRC.out.2, HRC.out.1, HN.out, by rw [hb2.cell (p := ⟨N, 0, none⟩) hMN, hb1.cell (p := ⟨N, 0, none⟩) (show N < W.heap.size by omega)]; exact hc0, by rw [hb2.cell (p := ⟨N, 1, none⟩) hMN, hb1.cell (p := ⟨N, 1, none⟩) (show N < W.heap.size by omega)]; exact hc1, hP, (hW0.trans (hb1.mono (by omega))).trans (hb2.mono (by omega)), Nat.le_of_eq hsB.symm, hMN, by omega⟩
    have hNB : N ≤ B := by omega
    generalize w1.alloc (.cells (bx H) 39) = W1 at hT0 ⊢
    clear hb1 hb2 hW0 s0 hc0 hc1 hM hP hsB hB HRC hMN
    clear w1
    clear W
    go_wp2_with fail
    go_loopg [11, 12] 16 (fun g v' i' wr => ∃ i : Nat, i + g = 16 ∧ i' = .int .i64 i ∧ wr.ownsRow B 5 1 v' i (bs (H.take i)) ∧ HT w wr N M B kv bv ks H (.slice va m vc) l)
    case atStart => exact ⟨0, rfl, rfl, World.ownsRow_nil _ _ _ _, hT0⟩
    case round =>
      clear hT0
      obtain ⟨i, hig, rfl, hown, hT⟩ := hrel
      by_cases hlt : i < 16
      · have hlti : (i : Int) < 16 := by omega
        have hi0 : (0 : Int) ≤ (i : Int) := by omega
        obtain ⟨x, hx⟩ : ∃ x, H.getD i 0 = x := ⟨_, rfl⟩
        have hx256 : x < 256 := by rw [← hx]; exact getD_lt HH.out.2 i
        have hcell := hT.place.cell (i := i) (by rw [HH.out.1]; exact hlt)
        rw [hx] at hcell
        have hown' := hown.alloc (.cells #[.int .u8 (x : Nat)] 5)
        have hb' : Below B wr (wr.alloc (.cells #[.int .u8 (x : Nat)] 5)) := (Below.refl _ _).alloc hT.size _
        have c5 : B ≤ (wr.alloc (.cells #[.int .u8 (x : Nat)] 5)).heap.size := hb'.size_of hT.size
        have hsn := bs_snoc (S := H) (n := i) (x := x) (by rw [HH.out.1]; exact hlt) hx
        have HS := Lib.hid (And.intro hsn (And.intro hT hown))
        clear hx hsn hT hown
        go_wp2_with (at_builtin; refine wpList_append_own _ rfl _ _ 26 rfl B 5 i0 (.int .u8 0) 1 1 Tryd.underlying26 Hi0.out.1 Hi0.out.2.1 Hi0.out.2.2.1 Hi0.out.2.2.2 rfl (by decide) _ _ _ rfl hown' ⟨wr.heap.size, 0, none⟩ 1 1 [.int .u8 (x : Nat)] rfl rfl (cell_one_new _ _ _) (bs_one [x]) (by unfold maxLen; omega) (by omega) c5 ?_; intro v' w1 hown1 hgrow _)
        go_roundg (gk - 1)
        case measure => omega
        case rel =>
          rw [HS.out.1] at hown1
          exact ⟨i + 1, by omega, by go_num, hown1, HS.out.2.1.more (hb'.grown hgrow c5 (fun k hk => (HS.out.2.2.lt k hk).1))⟩
      · have hlti : ¬ (i : Int) < 16 := by omega
        obtain rfl : i = 16 := by omega
        rw [List.take_of_length_le (by rw [HH.out.1]; exact Nat.le_refl _)] at hown
        have HO := Lib.hid hown
        clear hown hig hlt hlti
        go_upto_region 9 with (fail)
        refine wp_region_held_drew (S := (fun w' => HT w w' N M B kv bv ks H (.slice va m vc) l)) (by kernel_rfl) ?_ (fun hHeld => ?_)
        · exact hT.more ((Below.refl _ _).drew)
        refine take_run (v := ?_) 0 (some 29) rfl rfl (by kernel_rfl) (by kernel_rfl) (by kernel_rfl) (fun _ _ _ h => h) hHeld (by rfl) ?_ ?_
        rotate_left
        · intro _ hSw; go_simp; try with_reducible rfl
        simp only [Act.put, List.setIfInBounds_toArray, List.set_cons_zero, List.set_cons_succ]
        refine take_run (v := ?_) 1 (some 30) rfl rfl (by kernel_rfl) (by kernel_rfl) (by kernel_rfl) (fun _ _ _ h => h) hHeld (by rfl) ?_ ?_
        rotate_left
        · intro _ hSw; have hc0 := hSw.c0; have hc1 := hSw.c1; go_simp; try with_reducible rfl
        simp only [Act.put, List.setIfInBounds_toArray, List.set_cons_zero, List.set_cons_succ]
        refine take_at 2 (some 31) rfl rfl (by kernel_rfl) (by kernel_rfl) (by kernel_rfl) (fun _ _ _ h => h) (yieldsIf_load_mid (by rfl) 39 _ rfl M 0 rfl (bs H) _ (fun _ h => h.place.range) Tryd.underlying39 rfl Hi2.out) hHeld ?_
        simp only [Act.put, List.setIfInBounds_toArray, List.set_cons_zero, List.set_cons_succ]
        refine take_run (v := ?_) 3 (some 32) rfl rfl (by kernel_rfl) (by kernel_rfl) (by kernel_rfl) (fun _ _ _ h => h) hHeld (by rfl) ?_ ?_
        rotate_left
        · intro _ hSw; go_simp; try with_reducible rfl
        simp only [Act.put, List.setIfInBounds_toArray, List.set_cons_zero, List.set_cons_succ]
        refine call_at (f := ?_) (args := ?_) 4 (some 33) rfl rfl (by kernel_rfl) (by rfl) ?_ ?_
        rotate_left 2
        · go_simp; first | (refine ⟨?_, ?_⟩ <;> with_reducible rfl) | with_reducible rfl
        refine (rpad_any l _ 256 _ hHeld.rX Hlm.out (by omega)).mono ?_
        rintro _ w5 ⟨pv, rfl, hop, hb⟩
        refine ⟨_, rfl, ?_, fun hHeld => ?_⟩
        · first | exact hHeld.more hbB | exact hHeld.more (hb.mono hHeld.size)
        have hown5 := ((HO.out.kept (grownBy_drew wr none) (by by_cases e : u11.ownBlock = none; exact .inl e; exact .inr e)).kept (grown_below (row := none) hb (Nat.le_refl _)) (by by_cases e : u11.ownBlock = none; exact .inl e; exact .inr e))
        have hrp := reads_of_owns hop
        rw [Hp.out.1] at hrp
        simp only [Act.put, List.setIfInBounds_toArray, List.set_cons_zero, List.set_cons_succ]
        refine call_at (f := ?_) (args := ?_) 5 (some 34) rfl rfl (by kernel_rfl) (by rfl) ?_ ?_
        rotate_left 2
        · go_simp; first | (refine ⟨?_, ?_⟩ <;> with_reducible rfl) | with_reducible rfl
        refine (rxor_any kv bv ks H PL pv _ hHeld.iscX HH.out.1 HH.out.2 hrp Hp.out.2.2 (by rw [Hp.out.2.1]; omega)).mono ?_
        rintro _ w6 ⟨xv, rfl, hox, hb⟩
        refine ⟨_, rfl, ?_, fun hHeld => ?_⟩
        · first | exact hHeld.more hbB | exact hHeld.more (hb.mono hHeld.size)
        have hown6 := hown5.kept (grown_below (row := none) hb (Nat.le_refl _)) (by by_cases e : u11.ownBlock = none; exact .inl e; exact .inr e)
        rw [Hp.out.2.1, HX.out.1] at hox
        have hrx := reads_of_owns hox
        simp only [Act.put, List.setIfInBounds_toArray, List.set_cons_zero, List.set_cons_succ]
        refine op_at 6 (some 35) rfl rfl (by kernel_rfl) (by rfl) (fun K hK => ?_)
        refine wp_append_reads (.tmp 29) (.tmp 34) 26 ?_ B 5 i0 (.int .u8 0) 1 Tryd.underlying26 Hi0.out.1 Hi0.out.2.1 Hi0.out.2.2.1 Hi0.out.2.2.2 ?_ u11 16 (bs H) ?_ hown6 xv (bs XL) ?_ hrx (bs_one _) ?_ ?_ ?_ ?_
        · rfl
        · rfl
        · rfl
        · rfl
        · rw [bs_length, HX.out.2]; unfold maxLen; omega
        · rw [bs_length, HX.out.2]; omega
        · exact hHeld.size
        intro v7 w7 hown7 hgr7
        rw [bs_length, HX.out.2, bs_append, HW.out] at hown7
        have hbB : Below B w6 w7 := (Below.refl B w6).grown hgr7 hHeld.size (fun k hk => (hown6.lt k hk).1)
        refine hK _ _ ⟨?_, fun hHeld => ?_⟩
        · first | exact hHeld.more hbB | exact hHeld.more (hb.mono hHeld.size)
        clear hK
        simp only [Act.put, List.setIfInBounds_toArray, List.set_cons_zero, List.set_cons_succ]
        refine take_run (v := ?_) 7 (some 11) rfl rfl (by kernel_rfl) (by kernel_rfl) (by kernel_rfl) (fun _ _ _ h => h) hHeld (by rfl) ?_ ?_
        rotate_left
        · intro _ hSw; go_simp; try with_reducible rfl
        simp only [Act.put, List.setIfInBounds_toArray, List.set_cons_zero, List.set_cons_succ]
        refine wpAnyH_done (by kernel_rfl) ?_ _
        go_wp2_with fail
        go_ret2
        refine ⟨by rw [HN.out]; exact hHeld.bel, .inl ⟨by rw [Hm.out]; omega, v7, rfl, ?_⟩⟩
        exact owns_mono hown7 (by rw [HN.out]; exact hNB)
  · have h256i : (256 : Int) < (m : Int) := by omega
    have HF := Lib.hid (And.intro hW0 hm)
    clear hW0 s0 hN hr hc hm hc0 hc1 k0 hinfo hi0 hz0 hz1 hz2
    go_enter Tryd.func11, Tryd.ntmps11
    go_wp2_with fail
    go_ret2
    exact ⟨by rw [HN.out]; exact HF.out.1, .inr ⟨by rw [HF.out.2]; omega, rfl⟩⟩
end Go.Proofs.YtdopdaoapdeabaaDoor
