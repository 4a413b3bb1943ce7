/- WALK: Cipher.Stream. -/
import Derived.Test.YtdopdaoapdeabaaDoorBlockW
import Derived.Test.YtdopdaoapdeabaaDoorRefP
namespace Go.Proofs.YtdopdaoapdeabaaDoor
open Go.RowKit

/-- the first blocks of a stream -/
def strB (ks at_ : List Nat) : Nat → List Nat
  | 0 => []
  | i + 1 => strB ks at_ i ++ blockL ks (nextL at_ i)
theorem strB_length {ks at_ : List Nat} (h : at_.length = 16) : ∀ i, (strB ks at_ i).length = 16 * i
  | 0 => rfl
  | i + 1 => by rw [strB, List.length_append, strB_length h i, blockL_length, nextL_length _ h]; omega
theorem strB_lt {ks at_ : List Nat} (hk : ∀ x ∈ ks, x < 256) (h : ∀ x ∈ at_, x < 256) : ∀ i, ∀ x ∈ strB ks at_ i, x < 256
  | 0 => by simp [strB]
  | i + 1 => fun x hx => by
    rcases List.mem_append.1 hx with h' | h'
    · exact strB_lt hk h i x h'
    · exact blockL_lt hk (nextL_lt _ h) x h'
/-- so many bytes of a stream -/
def streamL (ks at_ : List Nat) (n : Nat) : List Nat := (strB ks at_ ((n + 15) / 16)).take n
theorem streamL_length {ks at_ : List Nat} (h : at_.length = 16) (n : Nat) : (streamL ks at_ n).length = n := by
  rw [streamL, List.length_take, strB_length h]; omega
theorem streamL_lt {ks at_ : List Nat} (hk : ∀ x ∈ ks, x < 256) (h : ∀ x ∈ at_, x < 256) (n : Nat) : ∀ x ∈ streamL ks at_ n, x < 256 := fun x hx => strB_lt hk h _ x (List.mem_of_mem_take hx)

theorem setRow_grown (w : World) (g : Nat) (c : Array Value) : w.grownBy (w.setRow g c) (some g) :=
  ⟨rfl, rfl, rfl, by simp, fun k _ hk => by simp only [World.setRow, Array.getElem?_modify]; rw [if_neg (fun e => hk (by rw [e]))]⟩

/-- while a stream is made -/
structure SR (w X : World) (N M b bb : Nat) (ks cur blk : List Nat) (v : Value) (n : Nat) (xs : List Value) : Prop where
  cip : IsCipher X b bb ks
  cur : Bytes X N cur 39
  blk : Bytes X M blk 39
  own : X.ownsRow (N + 1) 5 1 v n xs
  bel : Below N w X
  lb : b < N
  lbb : bb < N
  lM : N < M
theorem SR.size {w X : World} {N M b bb : Nat} {ks cur blk : List Nat} {v : Value} {n : Nat} {xs : List Value} (h : SR w X N M b bb ks cur blk v n xs) : N + 1 ≤ X.heap.size := h.cur.lt
theorem SR.drew {w X : World} {N M b bb : Nat} {ks cur blk : List Nat} {v : Value} {n : Nat} {xs : List Value} (h : SR w X N M b bb ks cur blk v n xs) : SR w X.drew N M b bb ks cur blk v n xs :=
  ⟨⟨h.cip.row, h.cip.box, h.cip.len, h.cip.lt, h.cip.ne⟩, h.cur, h.blk, h.own.kept (grownBy_drew X none) (by by_cases e : v.ownBlock = none; exact .inl e; exact .inr e), h.bel.drew, h.lb, h.lbb, h.lM⟩
/-- behind the append: the block that was made is not looked at any more -/
structure SQ (w X : World) (N b bb : Nat) (ks cur : List Nat) (v : Value) (n : Nat) (xs : List Value) : Prop where
  cip : IsCipher X b bb ks
  cur : Bytes X N cur 39
  own : X.ownsRow (N + 1) 5 1 v n xs
  bel : Below N w X
  lb : b < N
  lbb : bb < N
theorem SR.appended {w X w' : World} {N M b bb : Nat} {ks cur blk : List Nat} {v v' : Value} {n n' : Nat} {xs xs' : List Value} (h : SR w X N M b bb ks cur blk v n xs)
    (ho : w'.ownsRow (N + 1) 5 1 v' n' xs') (hg : X.grownBy w' v.ownBlock) : SQ w w' N b bb ks cur v' n' xs' := by
  have hlt := h.own.lt
  have h1 := h.lb
  have h2 := h.lbb
  have hne : ∀ k, k < N + 1 → some k ≠ v.ownBlock := fun k hk e => by have := (hlt k e.symm).1; omega
  exact ⟨h.cip.grown hg (hne b (by omega)) (hne bb (by omega)), h.cur.grown hg (hne N (by omega)), ho, h.bel.grown hg (by have := h.size; omega) (fun k hk => by have := (hlt k hk).1; omega), h1, h2⟩
theorem SQ.called {w X w' : World} {N b bb : Nat} {ks cur : List Nat} {v : Value} {n : Nat} {xs : List Value} (h : SQ w X N b bb ks cur v n xs) (hb : Below X.heap.size X w') : SQ w w' N b bb ks cur v n xs := by
  have hs := h.cur.lt
  have h1 := h.lb
  have h2 := h.lbb
  exact ⟨h.cip.below hb (by omega) (by omega), h.cur.below hb hs, h.own.kept (grown_below (row := none) hb (Nat.le_refl _)) (by by_cases e : v.ownBlock = none; exact .inl e; exact .inr e), h.bel.trans (hb.mono (by omega)), h1, h2⟩
theorem SQ.stored {w X : World} {N b bb : Nat} {ks cur : List Nat} {v : Value} {n : Nat} {xs : List Value} (h : SQ w X N b bb ks cur v n xs) (c : List Nat) : SQ w (X.setRow N (bx c)) N b bb ks c v n xs := by
  have hg := setRow_grown X N (bx c)
  have h1 := h.lb
  have h2 := h.lbb
  have hlt := h.own.lt
  exact ⟨h.cip.grown hg (by simp; omega) (by simp; omega), h.cur.setRow c, h.own.kept hg (.inr (fun e => by have := (hlt N e).1; omega)), Below.setRow h.bel (Nat.le_refl _) _, h1, h2⟩
theorem fin_step {w X : World} {N b bb i : Nat} {ks at_ cur blk : List Nat} {v : Value} (hc : cur = nextL at_ i ∧ blk = blockL ks (nextL at_ i) ∧ at_.length = 16 ∧ ∀ x ∈ at_, x < 256)
    (h : SQ w X N b bb ks (nextL cur (Int.toNat 1)) v (16 * i + 16) (bs (strB ks at_ i) ++ bs blk)) : SQ w X N b bb ks (nextL at_ (i + 1)) v (16 * (i + 1)) (bs (strB ks at_ (i + 1))) := by
  obtain ⟨h1, h2, hl, hl'⟩ := hc
  have e1 : nextL cur (Int.toNat 1) = nextL at_ (i + 1) := by rw [h1]; exact nextL_add i 1 hl hl'
  have e2 : 16 * i + 16 = 16 * (i + 1) := by omega
  have e3 : bs (strB ks at_ i) ++ bs blk = bs (strB ks at_ (i + 1)) := by rw [bs_append, h2, strB]
  rw [e1, e2, e3] at h
  exact h

theorem owns_take {w : World} {base : Nat} {e : TypeId} {g m cap : Nat} {xs : List Value} (h : w.ownsRow base e 1 (.slice (some ⟨g, 0, none⟩) m cap) m xs) {n : Nat} (hn : n ≤ m) : w.ownsRow base e 1 (.slice (some ⟨g, 0, none⟩) n cap) n (xs.take n) := by
  have hl := h.1
  refine ⟨by rw [List.length_take]; omega, ?_⟩
  rcases h.2 with ⟨h0, _⟩ | ⟨g', cap', cur, hv, hb, hg, hnc, hcm, hcs, ht⟩
  · cases h0
  · injection hv with e1 e2 e3
    injection e1 with e1
    injection e1 with e1
    subst e1 e3
    exact .inr ⟨g, cap, cur, rfl, hb, hg, by omega, hcm, hcs, by rw [← ht, List.take_take, Nat.mul_one, Nat.mul_one]; congr 1; omega⟩

/-- what Stream tells -/
def StreamPost (ks at_ : List Nat) (n : Nat) (w : World) (e : Ending) (w' : World) : Prop := ∃ v, e = .returned v ∧ w'.ownsRow w.heap.size 5 1 v n (bs (streamL ks at_ n)) ∧ Below w.heap.size w w'

set_option maxRecDepth 100000 in
set_option maxHeartbeats 2000000 in
theorem stream_any (b bb : Nat) (ks at_ : List Nat) (n : Int) (w : World) (hc : IsCipher w b bb ks) (hl : at_.length = 16) (hl' : ∀ x ∈ at_, x < 256) (hn : n ≤ 1048576) :
    Calls Tryd.prog 21 #[.pointer (some ⟨b, 0, none⟩), .agg (bx at_), .int .i64 n] w (StreamPost ks at_ n.toNat w) := by
  obtain ⟨m, hm⟩ : ∃ m, n.toNat = m := ⟨_, rfl⟩
  rw [hm]
  have hm20 : m ≤ 1048576 := by omega
  have Hm : Hid (n.toNat = m) := hm
  have Hl := Lib.hid (And.intro hl hl')
  have hi : ∀ m : List Nat, m.length = 16 → (Tryd.prog.info? 39).map (·.size) = some (bx m).size := by intro m hm; rw [bx_size, hm]; kernel_rfl
  have Hi := Lib.hid hi
  have hinfo : (Tryd.prog.info? 5).map (fun i => (i.zero, i.size, i.bytes)) = some (some (.int .u8 0), 1, 1) := by kernel_rfl
  obtain ⟨i0, hi0, hz0, hz1, hz2⟩ := info_parts hinfo
  have Hi0 := Lib.hid (And.intro hi0 (And.intro hz0 (And.intro hz1 hz2)))
  have hlb := hc.lt1
  have hlbb := hc.lt2
  have HC := Lib.hid hc
  clear hm hi hl hl' hinfo hi0 hz0 hz1 hz2 hc
  go_enter Tryd.func21, Tryd.ntmps21
  go_upto_region 4 with (fail)
  have en : (if 0 < n then n else 0) = (m : Int) := by have := Hm.out; split <;> omega
  rw [en]
  obtain ⟨N, hN⟩ : ∃ N, w.heap.size = N := ⟨_, rfl⟩
  have hB0 : Bytes (w.alloc (Obj.cells (bx at_) 39)) N (nextL at_ 0) 39 := by rw [← hN, nextL_zero Hl.out.1 Hl.out.2]; exact Bytes.new _ _ _
  have hW0 : Below N w (w.alloc (Obj.cells (bx at_) 39)) := by rw [← hN]; exact (Below.refl _ _).alloc (Nat.le_refl _) _
  rw [hN] at hlb hlbb ⊢
  have hC0 := HC.out.below hW0 hlb hlbb
  generalize w.alloc (Obj.cells (bx at_) 39) = W at hB0 hW0 hC0 ⊢
  have HN := Lib.hid hN
  clear hN en HC
  go_wp2_with fail
  go_loopg [7] ((m + 15) / 16) (fun g v wr => ∃ i : Nat, i + g = (m + 15) / 16 ∧ SQ w wr N b bb ks (nextL at_ i) v (16 * i) (bs (strB ks at_ i)))
  case atStart => exact ⟨0, by omega, ⟨hC0, hB0, World.ownsRow_nil _ _ _ _, hW0, hlb, hlbb⟩⟩
  case round =>
    clear hB0 hW0 hC0 hlb hlbb
    obtain ⟨i, hig, hS⟩ := hrel
    obtain ⟨v, hv⟩ : ∃ v, u7 = v := ⟨_, rfl⟩
    subst hv
    have hvl : ∃ a c, u7 = .slice a (16 * i) c := by
      rcases hS.own.2 with ⟨h, h0⟩ | ⟨g, cap, _, h, _⟩
      · exact ⟨none, 0, by rw [h, h0]⟩
      · exact ⟨_, _, h⟩
    obtain ⟨va, vc, hv⟩ := hvl
    subst hv
    by_cases hlt : i < (m + 15) / 16
    · have hlti : (16 * (i : Int)) < (m : Int) := by omega
      obtain ⟨cur, hcur⟩ : ∃ cur, cur = nextL at_ i := ⟨_, rfl⟩
      rw [← hcur] at hS
      have Hcur : Hid (cur.length = 16 ∧ ∀ x ∈ cur, x < 256) := by rw [hcur]; exact ⟨nextL_length _ Hl.out.1, nextL_lt _ Hl.out.2⟩
      have hks := hS.cip.len
      have Hkt := Lib.hid hS.cip.lt
      obtain ⟨blk, hblk⟩ : ∃ blk, blk = blockL ks cur := ⟨_, rfl⟩
      have Hblk : Hid (blk.length = 16 ∧ ∀ x ∈ blk, x < 256) := by rw [hblk]; exact ⟨by rw [blockL_length, Hcur.out.1], blockL_lt Hkt.out Hcur.out.2⟩
      have Hc : Hid (cur = nextL at_ i ∧ blk = blockL ks (nextL at_ i) ∧ at_.length = 16 ∧ ∀ x ∈ at_, x < 256) := ⟨hcur, by rw [hblk, hcur], Hl.out.1, Hl.out.2⟩
      have Hb := Lib.hid hblk
      clear hcur hblk hks
      go_upto_region 7 with (first | (refine wpList_load_row rfl 39 _ rfl N rfl 39 (bx cur) _ _ hS.cur.row Tryd.underlying39 rfl (Hi.out cur Hcur.out.1) ?_) | (go_at_call 39; refine (block_any b bb ks cur _ hS.cip Hcur.out.1 Hcur.out.2).mono ?_; rw [← Hb.out]; rintro e w1 ⟨rfl, hb1⟩) | (refine wpList_store_new rfl 39 _ _ rfl _ (bx blk) 39 rfl rfl (Hi.out blk Hblk.out.1) (by rw [bx_size, Hblk.out.1]; rfl) (bx_one _) ?_))
      have hS1 : SR w (w1.alloc (Obj.cells (bx blk) 39)) N w1.heap.size b bb ks cur blk (.slice va (16 * i) vc) (16 * i) (bs (strB ks at_ i)) := by
        have h1 := hS.called hb1
        have hs := h1.cur.lt
        exact ⟨h1.cip.below ((Below.refl w1.heap.size w1).alloc (Nat.le_refl _) _) h1.cip.lt1 h1.cip.lt2, h1.cur.old _, Bytes.new _ _ _, h1.own.alloc _, h1.bel.alloc (by omega) _, h1.lb, h1.lbb, hs⟩
      generalize w1.alloc (Obj.cells (bx blk) 39) = w2 at hS1 ⊢
      generalize w1.heap.size = M at hS1 ⊢
      clear hS hb1
      replace hS1 := hS1.drew
      have hnews : ∀ j u, (bs blk)[j]? = some u → w2.drew.cell? ((⟨M, 0, none⟩ : Addr).add j) = some u := fun j u hj => by
        rw [Addr.add_mid]; exact hS1.blk.range j u hj
      have Hnews := Lib.hid hnews
      clear hnews
      refine wp_region_held_drew (S := (fun _ => True)) (by kernel_rfl) ?_ (fun hHeld => ?_)
      · trivial
      refine take_run (v := ?_) 0 (some 21) rfl rfl (by kernel_rfl) (by kernel_rfl) (by kernel_rfl) (fun _ _ _ h => h) hHeld (by rfl) ?_ ?_
      rotate_left
      · intro _ hSw; go_simp; try with_reducible rfl
      simp only [Act.put, List.setIfInBounds_toArray, List.set_cons_zero, List.set_cons_succ]
      refine take_run (v := ?_) 1 (some 22) rfl rfl (by kernel_rfl) (by kernel_rfl) (by kernel_rfl) (fun _ _ _ h => h) hHeld (by rfl) ?_ ?_
      rotate_left
      · intro _ hSw; go_simp; try with_reducible rfl
      simp only [Act.put, List.setIfInBounds_toArray, List.set_cons_zero, List.set_cons_succ]
      refine branch2 2 3 (some 23) (some 24) rfl rfl rfl rfl (by kernel_rfl) (by rfl) (by rfl) (fun K hK => ?_) (fun K hK => ?_)
      · refine wp_append_own _ (.tmp 21) (.tmp 22) 26 rfl (N + 1) 5 i0 (.int .u8 0) 1 1 Tryd.underlying26 Hi0.out.1 Hi0.out.2.1 Hi0.out.2.2.1 Hi0.out.2.2.2 ?_ ?_ (.slice va (16 * i) vc) (16 * i) (bs (strB ks at_ i)) ?_ ?_ ⟨M, 0, none⟩ 16 16 (bs blk) ?_ ?_ ?_ ?_ ?_ ?_ ?_ ?_
        · rfl
        · decide
        · rfl
        · exact hS1.own
        · rfl
        · rw [bs_length, Hblk.out.1]
        · exact Hnews.out
        · exact bs_one _
        · unfold maxLen; omega
        · omega
        · exact hS1.size
        intro v2 w2 hown2 hgr2 _
        have hS2 := hS1.appended hown2 hgr2
        refine hK _ _ ⟨?_, fun hHeld => ?_⟩
        · trivial
        clear hK
        simp only [Act.put, List.setIfInBounds_toArray, List.set_cons_zero, List.set_cons_succ]
        refine op_at 3 (some 24) rfl rfl (by kernel_rfl) (by rfl) (fun K hK => ?_)
        refine wp_load_row 39 (.tmp 4) rfl N rfl 39 (bx cur) _ _ hS2.cur.row Tryd.underlying39 rfl (Hi.out cur Hcur.out.1) ?_
        refine hK _ _ ⟨?_, fun hHeld => ?_⟩
        · trivial
        clear hK
        simp only [Act.put, List.setIfInBounds_toArray, List.set_cons_zero, List.set_cons_succ]
        refine call_at (f := ?_) (args := ?_) 4 (some 25) rfl rfl (by kernel_rfl) (by rfl) ?_ ?_
        rotate_left 2
        · go_simp; first | (refine ⟨?_, ?_⟩ <;> with_reducible rfl) | with_reducible rfl
        refine (next_any cur 1 _ Hcur.out.1 Hcur.out.2 (by omega) (by omega)).mono ?_
        rintro _ w3 ⟨rfl, hb3⟩
        refine ⟨_, rfl, ?_, fun hHeld => ?_⟩
        · trivial
        have hS3 := hS2.called hb3
        simp only [Act.put, List.setIfInBounds_toArray, List.set_cons_zero, List.set_cons_succ]
        refine take_run (v := ?_) 5 (some 7) rfl rfl (by kernel_rfl) (by kernel_rfl) (by kernel_rfl) (fun _ _ _ h => h) hHeld (by rfl) ?_ ?_
        rotate_left
        · intro _ hSw; go_simp; try with_reducible rfl
        simp only [Act.put, List.setIfInBounds_toArray, List.set_cons_zero, List.set_cons_succ]
        refine op_at 6 none rfl rfl (by kernel_rfl) (by rfl) (fun K hK => ?_)
        apply wp_store_row 39 (.tmp 4) (.tmp 25) ?_ N (bx (nextL cur (Int.toNat 1))) ?_ ?_ 39 (bx cur) ?_ ?_ ?_ ?_ ?_
        · rfl
        · rfl
        · rfl
        · exact hS3.cur.row
        · exact Hi.out (nextL cur (Int.toNat 1)) (nextL_length _ Hcur.out.1)
        · rw [bx_size, bx_size, nextL_length _ Hcur.out.1, Hcur.out.1]
        · exact bx_one _
        have hS4 := hS3.stored (nextL cur (Int.toNat 1))
        refine hK _ _ ⟨?_, fun hHeld => ?_⟩
        · trivial
        clear hK
        simp only [Act.put]
        refine wpAnyH_done (by kernel_rfl) ?_ _
        go_wp2_with fail
        go_roundg (gk - 1)
        case measure => omega
        case rel =>
          have hfin := fin_step Hc.out hS4
          clear hS4
          refine ⟨i + 1, by omega, ?_⟩
          exact hfin
      · refine wp_load_row 39 (.tmp 4) rfl N rfl 39 (bx cur) _ _ hS1.cur.row Tryd.underlying39 rfl (Hi.out cur Hcur.out.1) ?_
        refine hK _ _ ⟨?_, fun hHeld => ?_⟩
        · trivial
        clear hK
        simp only [Act.put, List.setIfInBounds_toArray, List.set_cons_zero, List.set_cons_succ]
        refine op_at 2 (some 23) rfl rfl (by kernel_rfl) (by rfl) (fun K hK => ?_)
        refine wp_append_own _ (.tmp 21) (.tmp 22) 26 rfl (N + 1) 5 i0 (.int .u8 0) 1 1 Tryd.underlying26 Hi0.out.1 Hi0.out.2.1 Hi0.out.2.2.1 Hi0.out.2.2.2 ?_ ?_ (.slice va (16 * i) vc) (16 * i) (bs (strB ks at_ i)) ?_ ?_ ⟨M, 0, none⟩ 16 16 (bs blk) ?_ ?_ ?_ ?_ ?_ ?_ ?_ ?_
        · rfl
        · decide
        · rfl
        · exact hS1.own
        · rfl
        · rw [bs_length, Hblk.out.1]
        · exact Hnews.out
        · exact bs_one _
        · unfold maxLen; omega
        · omega
        · exact hS1.size
        intro v2 w2 hown2 hgr2 _
        have hS2 := hS1.appended hown2 hgr2
        refine hK _ _ ⟨?_, fun hHeld => ?_⟩
        · trivial
        clear hK
        simp only [Act.put, List.setIfInBounds_toArray, List.set_cons_zero, List.set_cons_succ]
        refine call_at (f := ?_) (args := ?_) 4 (some 25) rfl rfl (by kernel_rfl) (by rfl) ?_ ?_
        rotate_left 2
        · go_simp; first | (refine ⟨?_, ?_⟩ <;> with_reducible rfl) | with_reducible rfl
        refine (next_any cur 1 _ Hcur.out.1 Hcur.out.2 (by omega) (by omega)).mono ?_
        rintro _ w3 ⟨rfl, hb3⟩
        refine ⟨_, rfl, ?_, fun hHeld => ?_⟩
        · trivial
        have hS3 := hS2.called hb3
        simp only [Act.put, List.setIfInBounds_toArray, List.set_cons_zero, List.set_cons_succ]
        refine take_run (v := ?_) 5 (some 7) rfl rfl (by kernel_rfl) (by kernel_rfl) (by kernel_rfl) (fun _ _ _ h => h) hHeld (by rfl) ?_ ?_
        rotate_left
        · intro _ hSw; go_simp; try with_reducible rfl
        simp only [Act.put, List.setIfInBounds_toArray, List.set_cons_zero, List.set_cons_succ]
        refine op_at 6 none rfl rfl (by kernel_rfl) (by rfl) (fun K hK => ?_)
        apply wp_store_row 39 (.tmp 4) (.tmp 25) ?_ N (bx (nextL cur (Int.toNat 1))) ?_ ?_ 39 (bx cur) ?_ ?_ ?_ ?_ ?_
        · rfl
        · rfl
        · rfl
        · exact hS3.cur.row
        · exact Hi.out (nextL cur (Int.toNat 1)) (nextL_length _ Hcur.out.1)
        · rw [bx_size, bx_size, nextL_length _ Hcur.out.1, Hcur.out.1]
        · exact bx_one _
        have hS4 := hS3.stored (nextL cur (Int.toNat 1))
        refine hK _ _ ⟨?_, fun hHeld => ?_⟩
        · trivial
        clear hK
        simp only [Act.put]
        refine wpAnyH_done (by kernel_rfl) ?_ _
        go_wp2_with fail
        go_roundg (gk - 1)
        case measure => omega
        case rel =>
          have hfin := fin_step Hc.out hS4
          clear hS4
          refine ⟨i + 1, by omega, ?_⟩
          exact hfin
    · obtain rfl : i = (m + 15) / 16 := by omega
      have hlti : ¬ (16 * (((m + 15) / 16 : Nat) : Int)) < (m : Int) := by omega
      have hcap : 16 * ((m + 15) / 16) ≤ vc := by
        rcases hS.own.2 with ⟨h, h0⟩ | ⟨g, cap, _, h, _, _, h3, _⟩
        · injection h with _ _ h3; omega
        · injection h with _ _ e; omega
      have hmc : (0 : Int) ≤ (m : Int) ∧ (m : Int) ≤ (vc : Int) := ⟨by omega, by omega⟩
      go_wp2_with fail
      go_ret
      refine ⟨_, rfl, ?_, ?_⟩
      · rw [HN.out]
        rcases hS.own.2 with ⟨h, h0⟩ | ⟨g, cap, _, h, _⟩
        · injection h with ha _ hcc
          obtain rfl : m = 0 := by omega
          rw [ha, hcc]
          exact World.ownsRow_nil _ _ _ _
        · injection h with ha _ _
          subst ha
          have h1 := owns_mono (owns_take hS.own (n := m) (by omega)) (Nat.le_succ N)
          rw [streamL]
          rwa [show (bs (strB ks at_ ((m + 15) / 16))).take m = bs ((strB ks at_ ((m + 15) / 16)).take m) from by simp only [bs, List.map_take]] at h1
      · rw [HN.out]; exact hS.bel
end Go.Proofs.YtdopdaoapdeabaaDoor
