/- WALKS: block.number, block.cut. -/
import Derived.Test.YtdopdaoapdeabaaDoorAsW
namespace Go.Proofs.YtdopdaoapdeabaaDoor
open Go.RowKit

/-- the variable errors.errorType holds the handle of 'error' -/
def ET (w : World) : Prop := w.cell? ⟨0, 0, none⟩ = some (.iface 109 (.agg #[.pointer (some ⟨1, 65, none⟩)]))
theorem ET.pos {w : World} (h : ET w) : 0 < w.heap.size := by
  rcases Nat.eq_zero_or_pos w.heap.size with h0 | h'
  · unfold ET at h; simp [World.cell?, h0] at h
  · exact h'
theorem ET.below {w w' : World} (h : ET w) {B : Nat} (hb : Below B w w') (hB : 0 < B) : ET w' := by
  unfold ET at h ⊢
  rw [hb.cell (p := ⟨0, 0, none⟩) hB]; exact h

theorem number_nil (w : World) :
    Calls Tryd.prog 33 #[.nilIface] w fun e w' => e = .returned (.int .i64 0) ∧ Below w.heap.size w w' := by
  go_enter Tryd.func33, Tryd.ntmps33
  go_wp2_with (go_at_call 43; refine (as_nil _ _).mono ?_; rintro e w' ⟨rfl, rfl⟩)
  go_ret
  exact ⟨rfl, (Below.refl _ _).alloc (Nat.le_refl _) _⟩

set_option maxHeartbeats 1000000 in
theorem number_odd (w : World) (hg : ET w) :
    Calls Tryd.prog 33 #[.iface 85 (.agg #[.int .i64 4])] w fun e w' => e = .returned (.int .i64 4) ∧ Below w.heap.size w w' := by
  have hp := hg.pos
  have hb0 : Below w.heap.size w (w.alloc (Obj.cells #[.int .i64 0] 85)) := (Below.refl _ _).alloc (Nat.le_refl _) _
  have hg1 := hg.below hb0 hp
  have hc0 : (w.alloc (Obj.cells #[.int .i64 0] 85)).cell? ⟨w.heap.size, 0, none⟩ = some (.int .i64 0) := by simp
  have hf0 : (w.alloc (Obj.cells #[.int .i64 0] 85)).frozen? ⟨w.heap.size, 0, none⟩ = false := by simp
  have hs : (w.alloc (Obj.cells #[.int .i64 0] 85)).heap.size = w.heap.size + 1 := by simp
  unfold ET at hg1
  have HB := Lib.hid hb0
  clear hb0 hp
  go_enter Tryd.func33, Tryd.ntmps33
  go_wp2_with fail
  refine (as_hit _ (.int .i64 0) _ hg1 hc0 hf0).mono ?_
  rintro e w' ⟨rfl, rfl⟩
  have hbel : Below w.heap.size w (((((((w.alloc (Obj.cells #[.int .i64 0] 85)).alloc (Obj.cells #[Value.pointer (some ⟨w.heap.size, 0, none⟩)] 88)).alloc (Obj.cells #[Value.pointer (some ⟨1, 88, none⟩), Value.pointer (some ⟨(w.alloc (Obj.cells #[.int .i64 0] 85)).heap.size, 0, none⟩), Value.int .u64 150] 97)).alloc (Obj.cells #[Value.pointer (some ⟨1, 88, none⟩), Value.pointer (some ⟨(w.alloc (Obj.cells #[.int .i64 0] 85)).heap.size, 0, none⟩), Value.int .u64 150] 97)).alloc (Obj.cells #[Value.int .i64 4] 85))).setCell ⟨w.heap.size, 0, none⟩ (.int .i64 4)) :=
    ((((((HB.out.alloc (by simp) _).alloc (by simp; omega) _).alloc (by simp; omega) _).alloc (by simp; omega) _).setCell (Nat.le_refl _) _))
  have hcell : (((((((w.alloc (Obj.cells #[.int .i64 0] 85)).alloc (Obj.cells #[Value.pointer (some ⟨w.heap.size, 0, none⟩)] 88)).alloc (Obj.cells #[Value.pointer (some ⟨1, 88, none⟩), Value.pointer (some ⟨(w.alloc (Obj.cells #[.int .i64 0] 85)).heap.size, 0, none⟩), Value.int .u64 150] 97)).alloc (Obj.cells #[Value.pointer (some ⟨1, 88, none⟩), Value.pointer (some ⟨(w.alloc (Obj.cells #[.int .i64 0] 85)).heap.size, 0, none⟩), Value.int .u64 150] 97)).alloc (Obj.cells #[Value.int .i64 4] 85))).setCell ⟨w.heap.size, 0, none⟩ (.int .i64 4)).cell? ⟨w.heap.size, 0, none⟩ = some (.int .i64 4) := by
    apply World.cell?_setCell_same'
    rw [World.cell?_alloc_lt _ _ _ (by simp; omega), World.cell?_alloc_lt _ _ _ (by simp; omega), World.cell?_alloc_lt _ _ _ (by simp; omega), World.cell?_alloc_lt _ _ _ (by simp), hc0]
    rfl
  obtain ⟨X, hX⟩ : ∃ X, X = (((((((w.alloc (Obj.cells #[.int .i64 0] 85)).alloc (Obj.cells #[Value.pointer (some ⟨w.heap.size, 0, none⟩)] 88)).alloc (Obj.cells #[Value.pointer (some ⟨1, 88, none⟩), Value.pointer (some ⟨(w.alloc (Obj.cells #[.int .i64 0] 85)).heap.size, 0, none⟩), Value.int .u64 150] 97)).alloc (Obj.cells #[Value.pointer (some ⟨1, 88, none⟩), Value.pointer (some ⟨(w.alloc (Obj.cells #[.int .i64 0] 85)).heap.size, 0, none⟩), Value.int .u64 150] 97)).alloc (Obj.cells #[Value.int .i64 4] 85))).setCell ⟨w.heap.size, 0, none⟩ (.int .i64 4)) := ⟨_, rfl⟩
  rw [← hX] at hbel hcell ⊢
  clear hX hs hf0 hc0 hg1
  have HX := Lib.hid hbel
  clear hbel
  go_wp2_with fail
  go_ret
  exact ⟨rfl, HX.out⟩

/-- are these a block's bytes? -/
def okB (l : List Nat) : Prop := l.length = 272 ∧ (l.drop 12).take 4 = [0, 0, 0, 0]
/-- what cut tells -/
def CutBPost (l : List Nat) (w : World) (e : Ending) (w' : World) : Prop :=
  Below w.heap.size w w' ∧
  ((okB l ∧ ∃ y, e = .returned (.tuple #[.agg (bx (l.take 16)), y, .nilIface]) ∧ w'.ownsRow w.heap.size 5 1 y 256 (bs (l.drop 16))) ∨
   (¬ okB l ∧ e = .returned (.tuple #[.agg (bx (zeros 16)), .slice none 0 0, .iface 85 (.agg #[.int .i64 4])])))

theorem results_row_tmp2 {P : Program} {fn : Func} {p u v : Tmp} {ty : TypeId} (h : fn.results = #[.cell p ty, .tmp u, .tmp v]) (tmps : Array Value) (w : World) (g : Nat) (t : TypeId) (cs : Array Value) (fr : Nat × Nat) (d : TypeDesc)
    (hp : tmps.getD p undef = .pointer (some ⟨g, 0, none⟩)) (hg : w.heap[g]? = some (.cells cs t fr))
    (hu : P.underlying ty = some d) (hd : (match d with | .struct _ | .array _ _ => true | _ => false) = true) (hi : (P.info? ty).map (·.size) = some cs.size) :
    (results fn tmps).run P w = .ok (.tuple #[.agg cs, tmps.getD u undef, tmps.getD v undef]) w := by
  have hp' : tmps[p]?.getD undef = .pointer (some ⟨g, 0, none⟩) := by simpa using hp
  simp [results, h, hp', asAddr, run_loadVar_row w g t ty cs fr d hg hu hd hi]
theorem run_equalIn_bx {P : Program} {t e : TypeId} {n : Nat} (ht : P.underlying t = some (.array n e)) (he : P.underlying e = some (.int .u8)) (hsz : (P.info? e).map (·.size) = some 1)
    {l m : List Nat} (hl : l.length = n) (hm : m.length = n) (hl' : ∀ x ∈ l, x < 256) (hm' : ∀ x ∈ m, x < 256) (w : World) :
    (Op.equalIn 10000 t (.agg (bs l).toArray) (.agg (bs m).toArray)).run P w = .ok (decide (l = m)) w := by
  have hs : ∀ w, (sizeOf e).run P w = .ok 1 w := fun w => by
    cases hq : P.info? e with
    | none => simp [hq] at hsz
    | some d =>
      have hd : d.size = 1 := by simpa [hq] using hsz
      simp [sizeOf, typeInfo, hq, hd]
  show (Op.equalIn 10000 t (.agg (bx l)) (.agg (bx m))).run P w = _
  rw [bx_cells hl', bx_cells hm', run_equalIn_bytes w 9998 t e n ht he hs _ _ (by simpa using hl) (by simpa using hm), bytes_beq hl' hm']

set_option maxRecDepth 100000 in
set_option maxHeartbeats 2000000 in
theorem cutb_any (l : List Nat) (v : Value) (w : World) (hr : Reads w v (bs l)) (hlt : ∀ x ∈ l, x < 256) (hL : l.length ≤ 140737488355328) :
    Calls Tryd.prog 32 #[v] w (CutBPost l w) := by
  obtain ⟨N, hN⟩ : ∃ N, w.heap.size = N := ⟨_, rfl⟩
  have HN := Lib.hid hN
  have hz0 : Bytes (w.alloc (.cells (bx (zeros 16)) 39)) N (zeros 16) 39 := by rw [← hN]; exact Bytes.new _ _ _
  have hW0 : Below N w (w.alloc (.cells (bx (zeros 16)) 39)) := by rw [← hN]; exact (Below.refl _ _).alloc (Nat.le_refl _) _
  have s0 : (w.alloc (.cells (bx (zeros 16)) 39)).heap.size = N + 1 := by simp [hN]
  have hR0 := hr.below hW0 (Nat.le_of_eq hN)
  have hi : ∀ m : List Nat, m.length = 16 → (Tryd.prog.info? 39).map (·.size) = some (bx m).size := by intro m hm; rw [bx_size, hm]; kernel_rfl
  have Hi := Lib.hid hi
  have HL0 := Lib.hid (And.intro hL hlt)
  clear hr hi hL hlt
  go_enter Tryd.func32, Tryd.ntmps32
  go_wp2_with fail
  change Calls _ _ _ ((w.alloc (.cells (bx (zeros 16)) 39)).alloc _) _
  generalize w.alloc (.cells (bx (zeros 16)) 39) = W at hz0 hW0 s0 hR0 ⊢
  clear hN
  have hbl := (Below.refl W.heap.size W).alloc (Nat.le_refl _) (Obj.cells #[Value.int .i64 16, Value.int .i64 256] 3)
  have hnl := heap_alloc_new W (Obj.cells #[Value.int .i64 16, Value.int .i64 256] 3)
  have hz1 := hz0.below hbl hz0.lt
  have hR1 := hR0.below hbl (Nat.le_refl _)
  have hW1 := hW0.trans (hbl.mono (by omega))
  have s1 : (W.alloc (Obj.cells #[Value.int .i64 16, Value.int .i64 256] 3)).heap.size = N + 2 := by simp [s0]
  have hk0 : (W.alloc (Obj.cells #[Value.int .i64 16, Value.int .i64 256] 3)).cell? ⟨N + 1, 0, none⟩ = some (.int .i64 16) := by
    rw [s0] at hnl; rw [cell_of_row _ _ _ _ _ _ hnl]; rfl
  have hk1 : (W.alloc (Obj.cells #[Value.int .i64 16, Value.int .i64 256] 3)).cell? ⟨N + 1, 0 + 1, none⟩ = some (.int .i64 256) := by
    rw [s0] at hnl; rw [cell_of_row _ _ _ _ _ _ hnl]; rfl
  clear hbl hnl hz0 hW0 hR0
  generalize W.alloc (Obj.cells #[Value.int .i64 16, Value.int .i64 256] 3) = W1 at hz1 hR1 hW1 s1 hk0 hk1 ⊢
  refine (cut_any l v (N + 1) 0 2 _ hR1 HL0.out.1 hk0 hk1).mono ?_
  rintro e w2 ⟨hb2, h272⟩
  have hz2 := hz1.below hb2 hz1.lt
  have hW2 := hW1.trans (hb2.mono (by omega))
  rcases h272 with ⟨hl272, og, oc, x, y, rfl, hx0, hy0, hxr, hyo⟩ | ⟨hn272, c, hc, rfl⟩
  · have hHL := HL0.out.2
    obtain ⟨P, hP⟩ : ∃ P, l.take 16 = P := ⟨_, rfl⟩
    have hPl : P.length = 16 := by rw [← hP, List.length_take]; omega
    have HP : Hid (P.length = 16 ∧ (∀ x ∈ P, x < 256) ∧ l.take 16 = P) := ⟨hPl, fun x hx => hHL x (by rw [← hP] at hx; exact List.mem_of_mem_take hx), hP⟩
    rw [hP] at hxr
    obtain ⟨xb, xo, xc, rfl, hxc, hxb, hxcell⟩ := hxr.pos (by rw [bs_length, hPl]; omega)
    rw [bs_length, hPl] at hxc hx0
    have hrx : w2.rangeAt xb xo (bs P) := fun j u hj => hxcell j u hj
    rw [s1] at hyo
    have hogN : og ≠ N := fun e => by
      subst e
      have := hz2.cell (i := 0) (by decide)
      rw [this] at hx0
      injection hx0 with h
      cases h
    have hxci : (16 : Int) ≤ (xc : Int) := by omega
    have hne : ¬ xc = 0 := by omega
    have harr : ∀ w, (Instr.arrayAt 39 (.slice (some ⟨xb, xo, none⟩) 16 xc)).run Tryd.prog w = .ok (.pointer (some ⟨xb, xo, none⟩)) w := arr_at Tryd.underlying39 _ _ _ (by omega)
    have Hi2 : Hid ((Tryd.prog.info? 39).map (·.size) = some (bs P).length) := by rw [bs_length, hPl]; show _ = _; kernel_rfl
    have HY := Lib.hid hyo
    have HL := Lib.hid hl272
    have HW := Lib.hid (And.intro hW2 hz2)
    have hN2 : N + 2 ≤ w2.heap.size := by have := hb2.size; omega
    clear hxr hxb hxcell hyo hl272 hP hPl hHL hW2 hz2 hb2 hz1 hR1 hW1 hk0 hk1 s0 HL0
    have hsz2 := World.block_lt_of_cell? w2 _ hx0
    go_upto_region 5 with (first | (refine wpList_load_mid rfl 39 _ rfl xb xo rfl (bs P) _ hrx Tryd.underlying39 rfl Hi2.out ?_) | (refine wpList_store_new rfl 39 _ _ rfl _ (bx P) 39 rfl rfl (Hi.out P HP.out.1) (by rw [bx_size, HP.out.1]; rfl) (bx_one _) ?_))
    have hb3 := (Below.refl w2.heap.size w2).alloc (Nat.le_refl _) (.cells (bx P) 39)
    have hM3 := Bytes.new w2 P 39
    have hcy : (w2.alloc (.cells (bx P) 39)).cell? ⟨og, 1, none⟩ = some y := by rw [hb3.cell (p := ⟨og, 1, none⟩) (show og < w2.heap.size from hsz2)]; exact hy0
    have HY3 := Lib.hid (HY.out.kept (grown_below (row := none) hb3 (Nat.le_refl _)) (by by_cases e : y.ownBlock = none; exact .inl e; exact .inr e))
    have HB4 := Lib.hid (HW.out.1.trans (hb3.mono (by omega)))
    have HZ3 := Lib.hid (HW.out.2.below hb3 HW.out.2.lt)
    obtain ⟨M, hMe⟩ : ∃ M, w2.heap.size = M := ⟨_, rfl⟩
    rw [hMe] at hM3 hN2 ⊢
    clear hb3 hrx hx0 hy0 HY hsz2 hMe HW
    generalize w2.alloc (.cells (bx P) 39) = w4 at hM3 hcy HY3 HB4 HZ3 ⊢
    have HY := HY3
    have HZ : Hid (w4.heap[N]? = some (.cells (bx (zeros 16)) 39 (0, 0))) := HZ3.out
    clear HY3 HZ3
    clear w2
    obtain ⟨q, hq⟩ : ∃ q, P.drop 12 = q := ⟨_, rfl⟩
    have hql : q.length = 4 := by rw [← hq, List.length_drop, HP.out.1]
    have HQ : Hid ((l.drop 12).take 4 = q ∧ ∀ x ∈ q, x < 256) := ⟨by rw [← hq, ← HP.out.2.2, List.drop_take], fun x hx => HP.out.2.1 x (by rw [← hq] at hx; exact List.mem_of_mem_drop hx)⟩
    have hrq : w4.rangeAt M 12 (bs q) := fun j u hj => by
      have h := hM3.range (12 + j) u (by rw [← hj, ← hq, ← bs_drop, List.getElem?_drop])
      rwa [Nat.zero_add] at h
    have hiq : (Tryd.prog.info? 86).map (·.size) = some (bs q).length := by rw [bs_length, hql]; kernel_rfl
    have hneq : ∀ w, (Op.equalIn 10000 86 (.agg (bs q).toArray) (.agg #[.int .u8 0, .int .u8 0, .int .u8 0, .int .u8 0])).run Tryd.prog w = .ok (decide (q = [0, 0, 0, 0])) w := fun w =>
      run_equalIn_bx (l := q) (m := [0, 0, 0, 0]) Tryd.underlying86 Tryd.underlying5 (by kernel_rfl) hql rfl HQ.out.2 (by decide) w
    have hsl : ∀ w, (Instr.sliceAt 39 (.pointer (some ⟨M, 0, none⟩)) (some (.int .i64 12)) none none).run Tryd.prog w = .ok (.slice (some ⟨M, 12, none⟩) 4 4) w := fun w => by kernel_rfl
    have harr4 : ∀ w, (Instr.arrayAt 86 (.slice (some ⟨M, 12, none⟩) 4 4)).run Tryd.prog w = .ok (.pointer (some ⟨M, 12, none⟩)) w := arr_at Tryd.underlying86 _ _ _ (by omega)
    have Hrq := Lib.hid (And.intro hrq hiq)
    clear hq hrq hiq harr
    by_cases hq0 : q = [0, 0, 0, 0]
    · have hd : decide (q = [0, 0, 0, 0]) = true := by simp [hq0]
      rw [hd] at hneq
      have Hq0 := Lib.hid hq0
      clear hq0 hd
      go_upto_region 7 with (first | (refine wpList_load_mid rfl 86 _ rfl M 12 rfl (bs q) _ Hrq.out.1 Tryd.underlying86 rfl Hrq.out.2 ?_))
      have hM4 : Bytes w4.drew M P 39 := hM3
      have hMN : M ≠ N := by omega
      refine wp_region_held_drew (S := (fun w' => Bytes w' M P 39 ∧ w'.cell? ⟨og, 1, none⟩ = some y)) (by kernel_rfl) ?_ (fun hHeld => ?_)
      · exact ⟨hM4, hcy⟩
      refine take_at 0 (some 32) rfl rfl (by kernel_rfl) (by kernel_rfl) (by kernel_rfl) (fun _ _ _ h => h) (yieldsIf_load_mid (by rfl) 39 _ rfl M 0 rfl (bs P) _ (fun _ h => h.1.range) Tryd.underlying39 rfl Hi2.out) hHeld ?_
      simp only [Act.put, List.setIfInBounds_toArray, List.set_cons_zero, List.set_cons_succ]
      refine take_run (v := ?_) 1 (some 33) rfl rfl (by kernel_rfl) (by kernel_rfl) (by kernel_rfl) (fun _ _ _ h => h) hHeld (by rfl) ?_ ?_
      rotate_left
      · intro _ hSw; go_simp; try with_reducible rfl
      simp only [Act.put, List.setIfInBounds_toArray, List.set_cons_zero, List.set_cons_succ]
      refine take_run (v := ?_) 2 (some 34) rfl rfl (by kernel_rfl) (by kernel_rfl) (by kernel_rfl) (fun _ _ _ h => h) hHeld (by rfl) ?_ ?_
      rotate_left
      · intro _ hSw; go_simp; try with_reducible rfl
      simp only [Act.put, List.setIfInBounds_toArray, List.set_cons_zero, List.set_cons_succ]
      refine take_run (v := ?_) 3 (some 35) rfl rfl (by kernel_rfl) (by kernel_rfl) (by kernel_rfl) (fun _ _ _ h => h) hHeld (by rfl) ?_ ?_
      rotate_left
      · intro _ hSw; have hcy := hSw.2; go_simp; try with_reducible rfl
      simp only [Act.put, List.setIfInBounds_toArray, List.set_cons_zero, List.set_cons_succ]
      refine op_at 4 none rfl rfl (by kernel_rfl) (by rfl) (fun K hK => ?_)
      refine wp_store_row 39 (.tmp 2) (.tmp 32) ?_ N (bx P) ?_ ?_ 39 (bx (zeros 16)) ?_ ?_ ?_ ?_ ?_
      · rfl
      · rfl
      · rfl
      · exact HZ.out
      · exact Hi.out P HP.out.1
      · rw [bx_size, bx_size, HP.out.1]; rfl
      · exact bx_one _
      have hz7 : Bytes (w4.drew.setRow N (bx P)) N P 39 := Bytes.setRow (t := 39) HZ.out P
      have hG := setRow_grown w4.drew N (bx P)
      have hy7 := (HY.out.kept (grownBy_drew w4 none) (by by_cases e : y.ownBlock = none; exact .inl e; exact .inr e)).kept hG (.inr (fun e => by have := (HY.out.lt N e).1; omega))
      have hb7 := Below.setRow (HB4.out.drew) (Nat.le_refl N) (bx P)
      refine hK _ _ ⟨?_, fun hHeld => ?_⟩
      · exact ⟨Bytes.grown hHeld.1 hG (by simp; omega), by rw [World.cell?_of_block (hG.block og (World.block_lt_of_cell? _ _ hHeld.2) (by simp; exact hogN))]; exact hHeld.2⟩
      clear hK
      simp only [Act.put]
      refine take_run (v := ?_) 5 (some 3) rfl rfl (by kernel_rfl) (by kernel_rfl) (by kernel_rfl) (fun _ _ _ h => h) hHeld (by rfl) ?_ ?_
      rotate_left
      · intro _ hSw; go_simp; try with_reducible rfl
      simp only [Act.put, List.setIfInBounds_toArray, List.set_cons_zero, List.set_cons_succ]
      refine take_run (v := ?_) 6 (some 4) rfl rfl (by kernel_rfl) (by kernel_rfl) (by kernel_rfl) (fun _ _ _ h => h) hHeld (by rfl) ?_ ?_
      rotate_left
      · intro _ hSw; go_simp; try with_reducible rfl
      simp only [Act.put, List.setIfInBounds_toArray, List.set_cons_zero, List.set_cons_succ]
      refine wpAnyH_done (by kernel_rfl) ?_ _
      go_wp2_with fail
      refine bodyPost_ret (results_row_tmp2 (p := 2) (ty := 39) (u := 3) (v := 4) rfl _ _ N 39 _ _ _ rfl hz7.row Tryd.underlying39 rfl (Hi.out P HP.out.1)) rfl ⟨?_, .inl ⟨⟨HL.out, by rw [HQ.out.1, Hq0.out]⟩, y, ?_, ?_⟩⟩
      · rw [HN.out]; exact hb7
      · rw [HP.out.2.2]; rfl
      · rw [HN.out]; exact owns_mono hy7 (by omega)
    · have hd : decide (q = [0, 0, 0, 0]) = false := by simp [hq0]
      rw [hd] at hneq
      have Hq0 := Lib.hid hq0
      clear hq0 hd
      have Hz := Lib.hid hM3
      clear hM3
      go_wp2_with (first | (refine wpList_load_mid rfl 86 _ rfl M 12 rfl (bs q) _ Hrq.out.1 Tryd.underlying86 rfl Hrq.out.2 ?_) | (refine wpList_store_row rfl 39 _ _ rfl N (bx (zeros 16)) rfl rfl 39 _ HZ.out (Hi.out (zeros 16) rfl) rfl (bx_one _) ?_))
      refine bodyPost_ret (results_row_tmp2 (p := 2) (ty := 39) (u := 3) (v := 4) rfl _ _ N 39 _ _ _ rfl (Bytes.setRow (t := 39) HZ.out (zeros 16)).row Tryd.underlying39 rfl (Hi.out (zeros 16) rfl)) rfl ⟨?_, .inr ⟨fun h => Hq0.out (by rw [← HQ.out.1]; exact h.2), rfl⟩⟩
      rw [HN.out]; exact Below.setRow HB4.out (Nat.le_refl _) _
  · have Hc := Lib.hid (And.intro hW2 (And.intro hz2 hn272))
    clear hb2 hz2 hW2 hz1 hR1 hW1 hk0 hk1 s0 s1 hn272
    have hcb : (c != 0) = true := by simp [hc]
    go_wp2_with (first | (refine wpList_store_row rfl 39 _ _ rfl N (bx (zeros 16)) rfl rfl 39 _ Hc.out.2.1.row (Hi.out (zeros 16) rfl) rfl (bx_one _) ?_))
    refine bodyPost_ret (results_row_tmp2 (p := 2) (ty := 39) (u := 3) (v := 4) rfl _ _ N 39 _ _ _ rfl (Hc.out.2.1.setRow (zeros 16)).row Tryd.underlying39 rfl (Hi.out (zeros 16) rfl)) rfl ⟨?_, .inr ⟨fun h => Hc.out.2.2 h.1, rfl⟩⟩
    rw [HN.out]; exact Below.setRow Hc.out.1 (Nat.le_refl _) _
end Go.Proofs.YtdopdaoapdeabaaDoor
