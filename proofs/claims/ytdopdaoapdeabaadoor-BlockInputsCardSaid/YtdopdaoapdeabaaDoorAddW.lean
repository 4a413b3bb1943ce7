/- WALKS: Cipher.add, Cipher.shift. -/
import Derived.Test.YtdopdaoapdeabaaDoorAesP
import Derived.Test.YtdopdaoapdeabaaDoorCipW
import Derived.Test.YtdopdaoapdeabaaDoorReg
namespace Go.Proofs.YtdopdaoapdeabaaDoor
open Go.RowKit

/-- block b is a cipher by these keys -/
structure IsCipher (w : World) (b bb : Nat) (ks : List Nat) : Prop where
  row : w.heap[b]? = some (.cells (bx ks ++ #[.pointer (some ⟨bb, 0, none⟩)]) 75 (0, 0))
  box : Bytes w bb sbox 70
  len : ks.length = 176
  lt : ∀ x ∈ ks, x < 256
  ne : b ≠ bb

theorem IsCipher.grown {w w' : World} {b bb : Nat} {ks : List Nat} (h : IsCipher w b bb ks) {row : Option Nat} (hg : w.grownBy w' row) (h1 : some b ≠ row) (h2 : some bb ≠ row) : IsCipher w' b bb ks :=
  ⟨by rw [hg.block b (lt_of_block h.row) h1]; exact h.row, by have := h.box; unfold Bytes at this ⊢; rw [hg.block bb (lt_of_block this) h2]; exact this, h.len, h.lt, h.ne⟩
theorem IsCipher.range {w : World} {b bb : Nat} {ks : List Nat} (h : IsCipher w b bb ks) {r : Nat} (hr : r ≤ 10) : w.rangeAt b (r * 16) (bs (keyL ks r)) := by
  intro j v hj
  have hjl : j < 16 := by
    have := (List.getElem?_eq_some_iff.1 hj).1
    rw [bs_length, keyL_length (by rw [h.len]; omega)] at this; exact this
  have hl := h.len
  rw [cell_of_row w b (r * 16 + j) _ _ _ h.row, Array.getElem?_append_left (by rw [bx_size]; omega), bx_get (by omega), ← hj, bs_get (by rw [keyL_length (by omega)]; exact hjl)]
  simp [keyL, hjl, Nat.mul_comm]
theorem IsCipher.boxAt {w : World} {b bb : Nat} {ks : List Nat} (h : IsCipher w b bb ks) : w.cell? ⟨b, 176, none⟩ = some (.pointer (some ⟨bb, 0, none⟩)) := by
  rw [cell_of_row w b 176 _ _ _ h.row, Array.getElem?_append_right (by rw [bx_size, h.len]; exact Nat.le_refl _), bx_size, h.len]
  rfl

theorem Bytes.grown {w w' : World} {b : Nat} {l : List Nat} {t : TypeId} (h : Bytes w b l t) {row : Option Nat} (hg : w.grownBy w' row) (hne : some b ≠ row) : Bytes w' b l t := by
  unfold Bytes at h ⊢
  rw [hg.block b (lt_of_block h) hne]; exact h

theorem grownBy_refl (w : World) (row : Option Nat) : w.grownBy w row := ⟨rfl, rfl, rfl, Nat.le_refl _, fun _ _ _ => rfl⟩
theorem grownBy_trans {a b c : World} {row : Option Nat} (h : a.grownBy b row) (k : b.grownBy c row) : a.grownBy c row :=
  ⟨k.os.trans h.os, k.tape.trans h.tape, k.output.trans h.output, Nat.le_trans h.size k.size, fun i hi hr => (k.block i (Nat.lt_of_lt_of_le hi h.size) hr).trans (h.block i hi hr)⟩
theorem grownBy_setCell (w : World) (a : Addr) (v : Value) : w.grownBy (w.setCell a v) (some a.block) :=
  ⟨rfl, rfl, rfl, by simp [World.setCell], fun k _ hk => Below.heap_setCell _ _ _ _ (fun e => hk (by rw [e]))⟩
theorem grownBy_drew (w : World) (row : Option Nat) : w.grownBy w.drew row := ⟨rfl, rfl, rfl, Nat.le_refl _, fun _ _ _ => rfl⟩

set_option maxRecDepth 100000 in
set_option maxHeartbeats 1000000 in
theorem add_any (b bb sb : Nat) (ks l : List Nat) (t : TypeId) (r : Nat) (w : World) (hc : IsCipher w b bb ks) (hs : Bytes w sb l t) (hl : l.length = 16) (hl' : ∀ x ∈ l, x < 256) (hr : r ≤ 10) :
    Calls Tryd.prog 45 #[.pointer (some ⟨b, 0, none⟩), .pointer (some ⟨sb, 0, none⟩), .int .i64 r] w fun e w' => e = .returned (.tuple #[]) ∧ Bytes w' sb (addL l (keyL ks r)) t ∧ w.grownBy w' (some sb) := by
  have hkl := keyL_length (ks := ks) (r := r) (by rw [hc.len]; omega)
  have hkt := keyL_lt r hc.lt
  have hrange := hc.range hr
  have hi : (Tryd.prog.info? 22).map (·.size) = some (bs (keyL ks r)).length := by rw [bs_length, hkl]; kernel_rfl
  have Hkl := Lib.hid hkl
  have Hl := Lib.hid hl
  have hr0 : (0 : Int) ≤ (r : Int) ∧ (r : Int) < 11 := ⟨by omega, by omega⟩
  clear hkl hl
  go_enter Tryd.func45, Tryd.ntmps45
  go_wp2_with (refine wpList_load_mid rfl 22 _ rfl b (r * 16) rfl (bs (keyL ks r)) _ hrange Tryd.underlying22 rfl hi ?_)
  go_loopg [14] 16 (fun g i' wr => ∃ i : Nat, i + g = 16 ∧ i' = .int .i64 i ∧ Bytes wr sb (upd (addF l (keyL ks r)) l i) t ∧ w.grownBy wr (some sb))
  case atStart => exact ⟨0, rfl, rfl, by rw [upd_zero]; exact hs, grownBy_refl _ _⟩
  case round =>
    obtain ⟨i, hig, rfl, hB, hG⟩ := hrel
    by_cases hlt : i < 16
    · have hlti : (i : Int) < 16 := by omega
      have hi0 : (0 : Int) ≤ (i : Int) := by omega
      obtain ⟨x, hx⟩ : ∃ x, l.getD i 0 = x := ⟨_, rfl⟩
      obtain ⟨y, hy⟩ : ∃ y, (keyL ks r).getD i 0 = y := ⟨_, rfl⟩
      have hx256 : x < 256 := by rw [← hx]; exact getD_lt hl' i
      have hy256 : y < 256 := by rw [← hy]; exact getD_lt hkt i
      have hcell := hB.cell (i := i) (by rw [upd_length, Hl.out]; exact hlt)
      rw [upd_get (by rw [Hl.out]; exact hlt), if_neg (Nat.lt_irrefl i), hx] at hcell
      have hfree := hB.free i
      have hidx : ∀ w', (Instr.index 22 (.agg (bs (keyL ks r)).toArray) (.int .i64 (i : Int))).run Tryd.prog w' = .ok (.int .u8 (y : Int)) w' := fun w' => by
        rw [← hy]
        exact run_index_bx Tryd.underlying22 Tryd.underlying5 (by kernel_rfl) Hkl.out .i64 hi0 hlti w'
      have hxy := bits_xor hx256 hy256
      have hset := hB.set i (x ^^^ y)
      have hfe : addF l (keyL ks r) i = x ^^^ y := by rw [addF, hx, hy]
      have Hfe := Lib.hid hfe
      have hG' := grownBy_trans hG (grownBy_setCell wr ⟨sb, i, none⟩ (.int .u8 (x ^^^ y : Nat)))
      have HX := Lib.hid hx
      have HB := Lib.hid hB
      clear hfe hx hy hB
      go_wp2
      go_region
      all_goals
        go_wp2
        go_roundg (gk - 1)
        case measure => omega
        case rel =>
          refine ⟨i + 1, by omega, by go_num, ?_, grownBy_trans hG' (grownBy_drew _ _)⟩
          rw [← upd_set (by rw [Hl.out]; exact hlt), Hfe.out]
          exact hset
    · have hlti : ¬ (i : Int) < 16 := by omega
      obtain rfl : i = 16 := by omega
      go_wp2
      go_end0
      exact ⟨rfl, hB, hG⟩

set_option maxRecDepth 100000 in
set_option maxHeartbeats 2000000 in
theorem shift_any (b bb sb : Nat) (ks l : List Nat) (w : World) (hc : IsCipher w b bb ks) (hs : Bytes w sb l 22) (hl : l.length = 16) (hl' : ∀ x ∈ l, x < 256) (h1 : sb ≠ b) (h2 : sb ≠ bb) :
    Calls Tryd.prog 46 #[.pointer (some ⟨b, 0, none⟩), .pointer (some ⟨sb, 0, none⟩)] w fun e w' => e = .returned (.tuple #[]) ∧ Bytes w' sb (shiftL l) 22 ∧ w.grownBy w' (some sb) := by
  have hi : (Tryd.prog.info? 22).map (·.size) = some (bx l).size := by rw [bx_size, hl]; kernel_rfl
  have Hl := Lib.hid hl
  clear hl
  go_enter Tryd.func46, Tryd.ntmps46
  go_wp2_with (first | (refine wpList_load_row rfl 22 _ rfl sb rfl 22 _ _ _ hs.row Tryd.underlying22 rfl hi ?_) | (refine wpList_store_new rfl 22 _ _ rfl _ (bx l) 22 rfl rfl hi (by rw [bx_size, Hl.out]; rfl) (bx_one l) ?_))
  have hW0 : w.grownBy (w.alloc (.cells (bx l) 22)) (some sb) := World.grownBy_alloc _ _ _
  have hN0 : Bytes (w.alloc (.cells (bx l) 22)) w.heap.size l 22 := Bytes.new _ _ _
  have hS0 := hs.old (.cells (bx l) 22)
  have hlt := hs.lt
  generalize w.alloc (.cells (bx l) 22) = W at hW0 hN0 hS0 ⊢
  generalize hN : w.heap.size = N at hN0 hlt ⊢
  have HN := Lib.hid hN
  clear hN hs
  go_loopg [9] 16 (fun g i' wr => ∃ i : Nat, i + g = 16 ∧ i' = .int .i64 i ∧ Bytes wr sb (upd (shiftF l) l i) 22 ∧ Bytes wr N l 22 ∧ w.grownBy wr (some sb))
  case atStart => exact ⟨0, rfl, rfl, by rw [upd_zero]; exact hS0, hN0, hW0⟩
  case round =>
    clear hS0 hN0 hW0
    obtain ⟨i, hig, rfl, hB, hM, hG⟩ := hrel
    by_cases hlti : i < 16
    · have hi16 : (i : Int) < 16 := by omega
      have hi0 : (0 : Int) ≤ (i : Int) := by omega
      obtain ⟨m, hm⟩ : ∃ m, i % 4 = m := ⟨_, rfl⟩
      obtain ⟨q, hq⟩ : ∃ q, (i + 4 * m) % 16 = q := ⟨_, rfl⟩
      obtain ⟨x, hx⟩ : ∃ x, l.getD q 0 = x := ⟨_, rfl⟩
      obtain ⟨y, hy⟩ : ∃ y, sbox.getD x 0 = y := ⟨_, rfl⟩
      have hfe : shiftF l i = y := by rw [shiftF, hm, hq, hx, hy]
      have Hfe := Lib.hid hfe
      have hx256 : x < 256 := by rw [← hx]; exact getD_lt hl' q
      have e1 : ((i : Int)).tmod 4 = (m : Int) := by rw [Int.tmod_eq_emod_of_nonneg hi0]; omega
      have e2 : IntKind.i64.wrap (4 * (m : Int)) = 4 * (m : Int) := by rw [IntKind.wrap_i64]; omega
      have e3 : IntKind.i64.wrap ((i : Int) + 4 * (m : Int)) = (i : Int) + 4 * (m : Int) := by rw [IntKind.wrap_i64]; omega
      have e4 : ((i : Int) + 4 * (m : Int)).tmod 16 = (q : Int) := by rw [Int.tmod_eq_emod_of_nonneg (by omega)]; omega
      have hq16 : (0 : Int) ≤ (q : Int) ∧ (q : Int) < 16 := ⟨by omega, by omega⟩
      have hx16 : (0 : Int) ≤ (x : Int) ∧ (x : Int) < 256 := ⟨by omega, by omega⟩
      have hcq := hM.cell (i := q) (by rw [Hl.out]; omega)
      rw [hx] at hcq
      have hC := hc.grown hG (by simpa using h1.symm) (by simpa using h2.symm)
      have hcb := hC.boxAt
      have hcx := hC.box.cell (i := x) (by rw [sbox_length]; exact hx256)
      rw [hy] at hcx
      obtain ⟨v0, hcell⟩ : ∃ v, wr.cell? ⟨sb, i, none⟩ = some v := ⟨_, hB.cell (i := i) (by rw [upd_length, Hl.out]; exact hlti)⟩
      have hfree := hB.free i
      have hset := hB.set i y
      have hMset := hM.other ⟨sb, i, none⟩ (.int .u8 (y : Int)) (show N ≠ sb by omega)
      have hG' := grownBy_trans hG (grownBy_setCell wr ⟨sb, i, none⟩ (.int .u8 (y : Nat)))
      have HM := Lib.hid (And.intro hm (And.intro hq (And.intro hx hy)))
      have HB := Lib.hid (And.intro hB (And.intro hC hM))
      clear hfe hm hq hx hy hB hC hM
      go_wp2
      go_region
      all_goals
        go_wp2
        go_roundg (gk - 1)
        case measure => omega
        case rel =>
          refine ⟨i + 1, by omega, by go_num, ?_, hMset, grownBy_trans hG' (grownBy_drew _ _)⟩
          rw [← upd_set (by rw [Hl.out]; exact hlti), Hfe.out]
          exact hset
    · have hi16 : ¬ (i : Int) < 16 := by omega
      obtain rfl : i = 16 := by omega
      go_wp2
      go_end0
      exact ⟨rfl, hB, hG⟩
end Go.Proofs.YtdopdaoapdeabaaDoor
