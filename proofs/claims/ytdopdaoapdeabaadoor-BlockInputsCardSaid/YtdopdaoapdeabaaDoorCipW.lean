/- WALKS: aes.Box; aes.Next. -/
import Derived.Test.YtdopdaoapdeabaaDoorLayW
import Derived.Test.YtdopdaoapdeabaaDoorNum
namespace Go.Proofs.YtdopdaoapdeabaaDoor
open Go.RowKit

theorem sbox_length : sbox.length = 256 := lb_length 255

set_option maxRecDepth 100000 in
set_option maxHeartbeats 400000 in
theorem next_any (l : List Nat) (n : Int) (w : World) (hl : l.length = 16) (hl' : ∀ x ∈ l, x < 256) (h0 : -9223372036854775808 ≤ n) (h1 : n ≤ 9223372036854775807) :
    Calls Tryd.prog 40 #[.agg (bx l), .int .i64 n] w fun e w' => e = .returned (.agg (bx (nextL l n.toNat))) ∧ Below w.heap.size w w' := by
  unfold nextL
  obtain ⟨c, hc, hcn⟩ : ∃ c : Nat, c = n.toNat ∧ c < 9223372036854775808 := ⟨n.toNat, rfl, by omega⟩
  rw [← hc]
  have HC : Hid (c = n.toNat) := hc
  have HL : Hid (l.length = 16) := hl
  have HL' : Hid (∀ x ∈ l, x < 256) := hl'
  clear hc hl hl'
  have hi : ∀ m : List Nat, m.length = 16 → (Tryd.prog.info? 39).map (·.size) = some (bx m).size := by intro m hm; rw [bx_size, hm]; kernel_rfl
  by_cases hneg : n < 0
  all_goals
    have Hi := Lib.hid hi
    clear hi
    go_enter Tryd.func40, Tryd.ntmps40
    go_wp2
    obtain ⟨W, hW⟩ : ∃ W, W = (w.alloc (Obj.cells (bx l) 39)).alloc (Obj.cells #[Value.int IntKind.u8 0, Value.int IntKind.u8 0, Value.int IntKind.u8 0, Value.int IntKind.u8 0, Value.int IntKind.u8 0, Value.int IntKind.u8 0, Value.int IntKind.u8 0, Value.int IntKind.u8 0, Value.int IntKind.u8 0, Value.int IntKind.u8 0, Value.int IntKind.u8 0, Value.int IntKind.u8 0, Value.int IntKind.u8 0, Value.int IntKind.u8 0, Value.int IntKind.u8 0, Value.int IntKind.u8 0] 39) := ⟨_, rfl⟩
    rw [← hW]
    have hB : Bytes W w.heap.size l 39 := by rw [hW]; exact (Bytes.new w l 39).old _
    have hS : Slot W (w.heap.size + 1) 16 39 := by rw [hW]; have := Slot.new (w.alloc (Obj.cells (bx l) 39)) #[Value.int IntKind.u8 0, Value.int IntKind.u8 0, Value.int IntKind.u8 0, Value.int IntKind.u8 0, Value.int IntKind.u8 0, Value.int IntKind.u8 0, Value.int IntKind.u8 0, Value.int IntKind.u8 0, Value.int IntKind.u8 0, Value.int IntKind.u8 0, Value.int IntKind.u8 0, Value.int IntKind.u8 0, Value.int IntKind.u8 0, Value.int IntKind.u8 0, Value.int IntKind.u8 0, Value.int IntKind.u8 0] 39; simpa using this
    have hW0 : Below w.heap.size w W := by rw [hW]; exact ((Below.refl _ _).alloc (Nat.le_refl _) _).alloc (by simp) _
    clear hW
    generalize hN : w.heap.size = N at hB hS hW0 ⊢
    have HN : Hid (w.heap.size = N) := hN
    clear hN
    go_loopg [5, 6] 16 (fun g x y wr => ∃ (c' : Nat) (m : List Nat), g ≤ 16 ∧ x = .int .u64 c' ∧ y = .int .i64 ((g : Int) - 1) ∧ c' < 9223372036854775808 ∧ m.length = 16 ∧ (∀ x ∈ m, x < 256) ∧ Bytes wr N m 39 ∧ Slot wr (N + 1) 16 39 ∧ Below N w wr ∧ Hid (nextUp g m c' = nextUp 16 l c))
    case atStart => exact ⟨c, l, by omega, by rw [HC.out]; congr 1; omega, by rfl, hcn, HL.out, HL'.out, hB, hS, hW0, rfl⟩
    case round =>
      clear hB hS hW0
      obtain ⟨c', m, hg, rfl, rfl, hc', hm, hm', hB, hS, hb, hn⟩ := hrel
      have Hm := Lib.hid hm
      have Hm' := Lib.hid hm'
      clear hm hm'
      rcases Nat.eq_zero_or_pos gk with hz | hz
      · subst hz
        obtain ⟨old, hold, holdn⟩ := hS
        have Holdn := Lib.hid holdn
        clear holdn
        go_wp2_with (first | (refine wpList_load_row rfl 39 _ rfl N rfl 39 _ _ _ hB.row Tryd.underlying39 rfl (Hi.out m Hm.out) ?_) | (refine wpList_store_row rfl 39 _ _ rfl (N + 1) _ rfl rfl 39 _ hold (Hi.out m Hm.out) (by rw [bx_size, Hm.out]; exact Holdn.out) (bx_one _) ?_))
        refine bodyPost_ret (results_cell_row rfl _ _ (N + 1) 39 _ _ _ rfl (setRow_heap wr (N + 1) _ (bx m) _ _ hold) Tryd.underlying39 rfl (Hi.out m Hm.out)) rfl ⟨?_, ?_⟩
        · rw [← hn.out]; rfl
        · rw [HN.out]; exact Below.setRow hb (by omega) _
      · obtain ⟨j, rfl⟩ : ∃ j, gk = j + 1 := ⟨gk - 1, by omega⟩
        have ej : ((j + 1 : Nat) : Int) - 1 = (j : Int) := by omega
        rw [ej]
        have hgl := getD_lt Hm'.out j
        have hcell := hB.cell (i := j) (by have := Hm.out; omega)
        have hfree := hB.free j
        generalize hx : m.getD j 0 = x at hcell hgl
        have Hx := Lib.hid hx
        clear hx
        have hset := hB.set j ((c' + x) % 256)
        have hS' := hS.other ⟨N, j, none⟩ (.int .u8 ((c' + x) % 256 : Nat)) (by simp)
        have hb' := hb.setCell (p := ⟨N, j, none⟩) (Nat.le_refl _) (.int .u8 ((c' + x) % 256 : Nat))
        have HB := Lib.hid hB
        clear hB
        go_wp2
        go_roundg j
        case measure => omega
        case rel =>
          have e1 : (((c' : Int) + (x : Int)) % 256) = (((c' + x) % 256 : Nat) : Int) := by omega
          have e2 : (((c' : Int) + (x : Int)) / 256) = (((c' + x) / 256 : Nat) : Int) := by omega
          rw [e1, e2]
          refine ⟨(c' + x) / 256, m.set j ((c' + x) % 256), by omega, rfl, rfl, by omega, by rw [List.length_set]; exact Hm.out, mem_set_lt Hm'.out (by omega), hset, hS', hb', ?_⟩
          have := hn.out
          rw [nextUp, Hx.out] at this
          exact this
theorem Good.next {l : List Nat} (h : Good l) (c : Nat) : Good (nextL l c) := ⟨nextL_length c h.1, nextL_lt c h.2⟩
theorem next_good {l : List Nat} (h : Good l) (n : Int) (w : World) (h0 : -9223372036854775808 ≤ n) (h1 : n ≤ 9223372036854775807) :
    Calls Tryd.prog 40 #[.agg (bs l).toArray, .int .i64 n] w fun e w' => e = .returned (.agg (bs (nextL l n.toNat)).toArray) ∧ Below w.heap.size w w' := next_any l n w h.1 h.2 h0 h1
theorem eql_nonce {l m : List Nat} (h : Good l) (h' : Good m) (w : World) : (binOp .eql 39 (.agg (bs l).toArray) (.agg (bs m).toArray)).run Tryd.prog w = .ok (.bool (decide (l = m))) w :=
  run_eql_bx Tryd.underlying39 Tryd.underlying5 (by kernel_rfl) h.1 h'.1 h.2 h'.2 w
theorem neq_nonce {l m : List Nat} (h : Good l) (h' : Good m) (w : World) : (binOp .neq 39 (.agg (bs l).toArray) (.agg (bs m).toArray)).run Tryd.prog w = .ok (.bool (!decide (l = m))) w :=
  run_neq_bx Tryd.underlying39 Tryd.underlying5 (by kernel_rfl) h.1 h'.1 h.2 h'.2 w
end Go.Proofs.YtdopdaoapdeabaaDoor
