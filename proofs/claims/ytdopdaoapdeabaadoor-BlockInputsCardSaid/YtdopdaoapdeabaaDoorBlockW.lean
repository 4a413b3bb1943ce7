/- WALK: Cipher.Block. -/
import Derived.Test.YtdopdaoapdeabaaDoorNewW
namespace Go.Proofs.YtdopdaoapdeabaaDoor
open Go.RowKit

theorem IsCipher.below {w w' : World} {b bb : Nat} {ks : List Nat} (h : IsCipher w b bb ks) {B : Nat} (hb : Below B w w') (h1 : b < B) (h2 : bb < B) : IsCipher w' b bb ks :=
  ⟨by rw [hb.block b h1]; exact h.row, h.box.below hb h2, h.len, h.lt, h.ne⟩
theorem IsCipher.lt1 {w : World} {b bb : Nat} {ks : List Nat} (h : IsCipher w b bb ks) : b < w.heap.size := lt_of_block h.row
theorem IsCipher.lt2 {w : World} {b bb : Nat} {ks : List Nat} (h : IsCipher w b bb ks) : bb < w.heap.size := h.box.lt
theorem Slot.grown {w w' : World} {b n : Nat} {t : TypeId} (h : Slot w b n t) {row : Option Nat} (hg : w.grownBy w' row) (hne : some b ≠ row) : Slot w' b n t := by
  obtain ⟨old, h, hn⟩ := h
  exact ⟨old, by rw [hg.block b (lt_of_block h) hne]; exact h, hn⟩

/-- while a block is made -/
structure BI (w wr : World) (N b bb : Nat) (ks l : List Nat) : Prop where
  cip : IsCipher wr b bb ks
  st : Bytes wr (N + 2) l 22
  slot : Slot wr (N + 1) 16 39
  bel : Below N w wr
  lb : b < N
  lbb : bb < N
theorem BI.step {w wr w' : World} {N b bb : Nat} {ks l l' : List Nat} (h : BI w wr N b bb ks l) (hs : Bytes w' (N + 2) l' 22) (hg : wr.grownBy w' (some (N + 2))) : BI w w' N b bb ks l' := by
  have h1 := h.lb
  have h2 := h.lbb
  have h3 := h.st.lt
  exact ⟨h.cip.grown hg (by simp; omega) (by simp; omega), hs, h.slot.grown hg (by simp), h.bel.grown hg (by omega) (fun k hk => by cases hk; omega), h1, h2⟩

set_option maxRecDepth 100000 in
set_option maxHeartbeats 2000000 in
theorem block_any (b bb : Nat) (ks l : List Nat) (w : World) (hc : IsCipher w b bb ks) (hl : l.length = 16) (hl' : ∀ x ∈ l, x < 256) :
    Calls Tryd.prog 39 #[.pointer (some ⟨b, 0, none⟩), .agg (bx l)] w fun e w' => e = .returned (.agg (bx (blockL ks l))) ∧ Below w.heap.size w w' := by
  have Hl := Lib.hid hl
  have Hlt := Lib.hid hl'
  have hi : ∀ m : List Nat, m.length = 16 → (Tryd.prog.info? 39).map (·.size) = some (bx m).size := by intro m hm; rw [bx_size, hm]; kernel_rfl
  have hi2 : ∀ m : List Nat, m.length = 16 → (Tryd.prog.info? 22).map (·.size) = some (bx m).size := by intro m hm; rw [bx_size, hm]; kernel_rfl
  have Hi := Lib.hid (And.intro hi hi2)
  have hlb := hc.lt1
  have hlbb := hc.lt2
  have HC := Lib.hid hc
  clear hi hi2 hl hl' hc
  go_enter Tryd.func39, Tryd.ntmps39
  go_upto_region 3 with (fail)
  obtain ⟨N, hN⟩ : ∃ N, w.heap.size = N := ⟨_, rfl⟩
  have hB0 : Bytes ((w.alloc (Obj.cells (bx l) 39)).alloc (Obj.cells #[Value.int IntKind.u8 0, Value.int IntKind.u8 0, Value.int IntKind.u8 0, Value.int IntKind.u8 0, Value.int IntKind.u8 0, Value.int IntKind.u8 0, Value.int IntKind.u8 0, Value.int IntKind.u8 0, Value.int IntKind.u8 0, Value.int IntKind.u8 0, Value.int IntKind.u8 0, Value.int IntKind.u8 0, Value.int IntKind.u8 0, Value.int IntKind.u8 0, Value.int IntKind.u8 0, Value.int IntKind.u8 0] 39)) N l 39 := by rw [← hN]; exact (Bytes.new _ _ _).old _
  have hS0 : Slot ((w.alloc (Obj.cells (bx l) 39)).alloc (Obj.cells #[Value.int IntKind.u8 0, Value.int IntKind.u8 0, Value.int IntKind.u8 0, Value.int IntKind.u8 0, Value.int IntKind.u8 0, Value.int IntKind.u8 0, Value.int IntKind.u8 0, Value.int IntKind.u8 0, Value.int IntKind.u8 0, Value.int IntKind.u8 0, Value.int IntKind.u8 0, Value.int IntKind.u8 0, Value.int IntKind.u8 0, Value.int IntKind.u8 0, Value.int IntKind.u8 0, Value.int IntKind.u8 0] 39)) (N + 1) 16 39 := by
    rw [← hN]; have := Slot.new (w.alloc (Obj.cells (bx l) 39)) #[Value.int IntKind.u8 0, Value.int IntKind.u8 0, Value.int IntKind.u8 0, Value.int IntKind.u8 0, Value.int IntKind.u8 0, Value.int IntKind.u8 0, Value.int IntKind.u8 0, Value.int IntKind.u8 0, Value.int IntKind.u8 0, Value.int IntKind.u8 0, Value.int IntKind.u8 0, Value.int IntKind.u8 0, Value.int IntKind.u8 0, Value.int IntKind.u8 0, Value.int IntKind.u8 0, Value.int IntKind.u8 0] 39; simpa using this
  have hW0 : Below N w ((w.alloc (Obj.cells (bx l) 39)).alloc (Obj.cells #[Value.int IntKind.u8 0, Value.int IntKind.u8 0, Value.int IntKind.u8 0, Value.int IntKind.u8 0, Value.int IntKind.u8 0, Value.int IntKind.u8 0, Value.int IntKind.u8 0, Value.int IntKind.u8 0, Value.int IntKind.u8 0, Value.int IntKind.u8 0, Value.int IntKind.u8 0, Value.int IntKind.u8 0, Value.int IntKind.u8 0, Value.int IntKind.u8 0, Value.int IntKind.u8 0, Value.int IntKind.u8 0] 39)) := by rw [← hN]; exact ((Below.refl _ _).alloc (Nat.le_refl _) _).alloc (by simp) _
  have hsz : ((w.alloc (Obj.cells (bx l) 39)).alloc (Obj.cells #[Value.int IntKind.u8 0, Value.int IntKind.u8 0, Value.int IntKind.u8 0, Value.int IntKind.u8 0, Value.int IntKind.u8 0, Value.int IntKind.u8 0, Value.int IntKind.u8 0, Value.int IntKind.u8 0, Value.int IntKind.u8 0, Value.int IntKind.u8 0, Value.int IntKind.u8 0, Value.int IntKind.u8 0, Value.int IntKind.u8 0, Value.int IntKind.u8 0, Value.int IntKind.u8 0, Value.int IntKind.u8 0] 39)).heap.size = N + 2 := by rw [← hN]; simp
  rw [hN] at hlb hlbb ⊢
  generalize (w.alloc (Obj.cells (bx l) 39)).alloc (Obj.cells #[Value.int IntKind.u8 0, Value.int IntKind.u8 0, Value.int IntKind.u8 0, Value.int IntKind.u8 0, Value.int IntKind.u8 0, Value.int IntKind.u8 0, Value.int IntKind.u8 0, Value.int IntKind.u8 0, Value.int IntKind.u8 0, Value.int IntKind.u8 0, Value.int IntKind.u8 0, Value.int IntKind.u8 0, Value.int IntKind.u8 0, Value.int IntKind.u8 0, Value.int IntKind.u8 0, Value.int IntKind.u8 0] 39) = W at hB0 hS0 hW0 hsz ⊢
  have HN := Lib.hid hN
  clear hN
  have hC0 := HC.out.below hW0 hlb hlbb
  have HSZ := Lib.hid hsz
  clear hsz
  go_upto_region 4 with (first | (refine wpList_load_row rfl 39 _ rfl N rfl 39 (bx l) _ _ hB0.row Tryd.underlying39 rfl (Hi.out.1 l Hl.out) ?_) | (refine wpList_store_new rfl 22 _ _ rfl _ (bx l) 22 rfl rfl (Hi.out.2 l Hl.out) (by rw [bx_size, Hl.out]; rfl) (bx_one _) ?_))
  have hBI : BI w (W.alloc (Obj.cells (bx l) 22)) N b bb ks l := by
    have hsz := HSZ.out
    refine ⟨hC0.below ((Below.refl N W).alloc (by omega) _) hlb hlbb, ?_, hS0.old _, hW0.alloc (by omega) _, hlb, hlbb⟩
    have := Bytes.new W l 22
    rwa [hsz] at this
  rw [HSZ.out]
  generalize W.alloc (Obj.cells (bx l) 22) = W1 at hBI ⊢
  clear hB0 hS0 hW0 hC0 HSZ HC hlb hlbb
  go_wp2_with fail
  have hks := hBI.cip.len
  have hkt := hBI.cip.lt
  have Hks := Lib.hid (And.intro hks hkt)
  clear hks hkt
  refine (add_any b bb (N + 2) ks l 22 0 _ hBI.cip hBI.st Hl.out Hlt.out (by omega)).mono ?_
  rintro e w2 ⟨rfl, hs2, hg2⟩
  have hBI2 := hBI.step hs2 hg2
  clear hs2 hg2 hBI
  go_wp2_with fail
  go_loopg [6] 9 (fun g r' wr => ∃ r : Nat, r + g = 9 ∧ r' = .int .i64 ((r : Int) + 1) ∧ BI w wr N b bb ks (roundsL ks l r))
  case atStart => exact ⟨0, rfl, rfl, hBI2⟩
  case round =>
    clear hBI2
    obtain ⟨r, hrg, rfl, hBI⟩ := hrel
    have hrl : (roundsL ks l r).length = 16 := by rw [roundsL_length, Hl.out]
    have hrt := roundsL_lt Hks.out.2 Hlt.out r
    have Hrl := Lib.hid (And.intro hrl hrt)
    clear hrl hrt
    have h1 := hBI.lb
    have h2 := hBI.lbb
    by_cases hr : r < 9
    · have hri : (r : Int) + 1 < 10 := by omega
      go_wp2_with fail
      refine (shift_any b bb (N + 2) ks _ _ hBI.cip hBI.st Hrl.out.1 Hrl.out.2 (by omega) (by omega)).mono ?_
      rintro e w3 ⟨rfl, hs3, hg3⟩
      have hBI3 := hBI.step hs3 hg3
      clear hs3 hg3 hBI
      go_wp2_with fail
      refine (mix_any (N + 2) _ _ hBI3.st (by rw [shiftL_length, Hrl.out.1]) (shiftL_lt Hrl.out.2)).mono ?_
      rintro e w4 ⟨rfl, hs4, hg4⟩
      have hBI4 := hBI3.step hs4 hg4
      clear hs4 hg4 hBI3
      go_wp2_with fail
      have e1 : ((r : Int) + 1) = ((r + 1 : Nat) : Int) := by omega
      rw [e1]
      refine (add_any b bb (N + 2) ks _ 22 (r + 1) _ hBI4.cip hBI4.st (by rw [mixL_length, shiftL_length, Hrl.out.1]) (mixL_lt (shiftL_lt Hrl.out.2)) (by omega)).mono ?_
      rintro e w5 ⟨rfl, hs5, hg5⟩
      have hBI5 := hBI4.step hs5 hg5
      rw [← e1]
      clear hs5 hg5 hBI4 e1
      go_wp2_with fail
      go_roundg (gk - 1)
      case measure => omega
      case rel => exact ⟨r + 1, by omega, by go_num, hBI5⟩
    · have hri : ¬ (r : Int) + 1 < 10 := by omega
      obtain rfl : r = 9 := by omega
      go_wp2_with fail
      refine (shift_any b bb (N + 2) ks _ _ hBI.cip hBI.st Hrl.out.1 Hrl.out.2 (by omega) (by omega)).mono ?_
      rintro e w3 ⟨rfl, hs3, hg3⟩
      have hBI3 := hBI.step hs3 hg3
      clear hs3 hg3 hBI
      go_wp2_with fail
      refine (add_any b bb (N + 2) ks _ 22 10 _ hBI3.cip hBI3.st (by rw [shiftL_length, Hrl.out.1]) (shiftL_lt Hrl.out.2) (by omega)).mono ?_
      rintro e w5 ⟨rfl, hs5, hg5⟩
      have hBI5 := hBI3.step hs5 hg5
      clear hs5 hg5 hBI3
      change BI w w5 N b bb ks (blockL ks l) at hBI5
      have hbl : (blockL ks l).length = 16 := by rw [blockL_length, Hl.out]
      have Hbl := Lib.hid hbl
      clear hbl
      obtain ⟨old, hold, holdn⟩ := hBI5.slot
      have Holdn := Lib.hid holdn
      clear holdn
      go_wp2_with (first | (refine wpList_load_row rfl 22 _ rfl (N + 2) rfl 22 _ _ _ hBI5.st.row Tryd.underlying22 rfl (Hi.out.2 _ Hbl.out) ?_) | (refine wpList_store_row rfl 39 _ _ rfl (N + 1) _ rfl rfl 39 _ hold (Hi.out.1 _ Hbl.out) (by rw [bx_size, Hbl.out]; exact Holdn.out) (bx_one _) ?_))
      refine bodyPost_ret (results_cell_row rfl _ _ (N + 1) 39 _ _ _ rfl (setRow_heap w5 (N + 1) _ (bx (blockL ks l)) _ _ hold) Tryd.underlying39 rfl (Hi.out.1 _ Hbl.out)) rfl ⟨rfl, ?_⟩
      rw [HN.out]; exact Below.setRow hBI5.bel (by omega) _
end Go.Proofs.YtdopdaoapdeabaaDoor
