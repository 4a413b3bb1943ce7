/- What Hide, Show and When tell, in one form; WALK: sacristanlaw07.known. -/
import Derived.Test.YtdopdaoapdeabaaDoorRWhenW
import Derived.Test.YtdopdaoapdeabaaDoorSameW
import Derived.Lib.SlBytesConst
namespace Go.Proofs.YtdopdaoapdeabaaDoor
open Go.RowKit

theorem same_eq (v1 v2 : Value) (l : List Nat) (w : World) (h1 : Reads w v1 (bs l)) (h2 : Reads w v2 (bs l)) (hl : ∀ x ∈ l, x < 256) :
    Calls Tryd.prog 13 #[v1, v2] w fun e w' => e = .returned (.bool true) ∧ Below w.heap.size w w' := by
  refine (same_any v1 v2 l l w h1 h2 hl hl).mono ?_
  rintro e w' ⟨rfl, hb⟩
  exact ⟨by rw [decide_eq_true rfl], hb⟩

/-! Hide -/
def hideR (ks : List Nat) (e s : Nat) (l : List Nat) : List Nat := if l.length ≤ 256 then hideL ks e s l else []
def hideE (l : List Nat) : Int := if l.length ≤ 256 then 0 else 4
theorem hideR_lt {ks l : List Nat} (hk : ∀ x ∈ ks, x < 256) (hl : ∀ x ∈ l, x < 256) (e s : Nat) : ∀ x ∈ hideR ks e s l, x < 256 := by
  unfold hideR
  split
  · exact hideL_lt hk hl e s
  · simp
def HideU (ks : List Nat) (e s : Nat) (l : List Nat) (w : World) (en : Ending) (w' : World) : Prop :=
  ∃ v, en = .returned (.tuple #[v, .int .i64 (hideE l)]) ∧ Reads w' v (bs (hideR ks e s l)) ∧ Below w.heap.size w w'
theorem HideU.of {ks : List Nat} {e s : Nat} {l : List Nat} {w : World} {en : Ending} {w' : World} (h : HidePost ks e s l w en w') : HideU ks e s l w en w' := by
  rcases h.2 with ⟨hl, v, he, ho⟩ | ⟨hl, he⟩
  · exact ⟨v, by rw [he, hideE, if_pos hl], by rw [hideR, if_pos hl]; exact reads_of_owns ho, h.1⟩
  · exact ⟨.slice none 0 0, by rw [he, hideE, if_neg (by omega)], by rw [hideR, if_neg (by omega)]; exact .inl ⟨rfl, rfl⟩, h.1⟩
theorem hide_u (key : List Nat) (e s : Nat) (l : List Nat) (v : Value) (w : World) (hkl : key.length = 16) (hkt : ∀ x ∈ key, x < 256) (hs : s < 4294967296) (hr : Reads w v (bs l)) (hlt : ∀ x ∈ l, x < 256) :
    Calls Tryd.prog 10 #[.agg (bx key), .int .u64 e, .int .u32 s, v] w (HideU (keysL key) e s l w) := (hide_any key e s l v w hkl hkt hs hr hlt).mono fun _ _ h => .of h
theorem rhide_u (kv bv : Value) (ks : List Nat) (e s : Nat) (l : List Nat) (v : Value) (w : World) (hc : IsC w kv bv ks) (he : e < 18446744073709551616) (hs : s < 4294967296) (hr : Reads w v (bs l)) (hlt : ∀ x ∈ l, x < 256) :
    Calls Tryd.prog 11 #[.agg #[kv, bv], .int .u64 e, .int .u32 s, v] w (HideU ks e s l w) := (rhide_any kv bv ks e s l v w hc he hs hr hlt).mono fun _ _ h => .of h

/-! Show -/
open Classical in
noncomputable def showR (ks l : List Nat) : List Nat := if okB l then xorL (l.drop 16) (streamL ks (l.take 16) 256) else []
open Classical in
noncomputable def errB (l : List Nat) : Int := if okB l then 0 else 4
theorem showR_lt {ks l : List Nat} (hk : ∀ x ∈ ks, x < 256) (hl : ∀ x ∈ l, x < 256) : ∀ x ∈ showR ks l, x < 256 := by
  unfold showR
  split
  · exact xorL_lt (fun x hx => hl x (List.mem_of_mem_drop hx)) (streamL_lt hk (fun x hx => hl x (List.mem_of_mem_take hx)) 256)
  · simp
def ShowU (ks l : List Nat) (w : World) (en : Ending) (w' : World) : Prop :=
  ∃ v, en = .returned (.tuple #[v, .int .i64 (errB l)]) ∧ Reads w' v (bs (showR ks l)) ∧ Below w.heap.size w w'
theorem ShowU.of {ks l : List Nat} {w : World} {en : Ending} {w' : World} (h : ShowPost ks l w en w') : ShowU ks l w en w' := by
  rcases h.2 with ⟨hl, v, he, ho⟩ | ⟨hl, he⟩
  · exact ⟨v, by rw [he, errB, if_pos hl], by rw [showR, if_pos hl]; exact reads_of_owns ho, h.1⟩
  · exact ⟨.slice none 0 0, by rw [he, errB, if_neg hl], by rw [showR, if_neg hl]; exact .inl ⟨rfl, rfl⟩, h.1⟩
theorem show_u (key l : List Nat) (v : Value) (w : World) (hkl : key.length = 16) (hkt : ∀ x ∈ key, x < 256) (hr : Reads w v (bs l)) (hlt : ∀ x ∈ l, x < 256) (hL : l.length ≤ 140737488355328) (hg : ET w) :
    Calls Tryd.prog 16 #[.agg (bx key), v] w (ShowU (keysL key) l w) := (show_any key l v w hkl hkt hr hlt hL hg).mono fun _ _ h => .of h
theorem rshow_u (kv bv : Value) (ks l : List Nat) (v : Value) (w : World) (hc : IsC w kv bv ks) (hr : Reads w v (bs l)) (hlt : ∀ x ∈ l, x < 256) :
    Calls Tryd.prog 17 #[.agg #[kv, bv], v] w (ShowU ks l w) := (rshow_any kv bv ks l v w hc hr hlt).mono fun _ _ h => .of h

/-! When -/
open Classical in
noncomputable def whenA (l : List Nat) : Nat := if okB l then getL (l.take 8) else 0
open Classical in
noncomputable def whenB (l : List Nat) : Nat := if okB l then getL ((l.drop 8).take 4) else 0
def WhenU (l : List Nat) (w : World) (en : Ending) (w' : World) : Prop :=
  en = .returned (.tuple #[.int .u64 (whenA l : Nat), .int .u32 (whenB l : Nat), .int .i64 (errB l)]) ∧ Below w.heap.size w w'
theorem WhenU.of {l : List Nat} {w : World} {en : Ending} {w' : World} (h : WhenPost l w en w') : WhenU l w en w' := by
  rcases h.2 with ⟨hl, he⟩ | ⟨hl, he⟩
  · exact ⟨by rw [he, errB, whenA, whenB, if_pos hl, if_pos hl, if_pos hl], h.1⟩
  · exact ⟨by rw [he, errB, whenA, whenB, if_neg hl, if_neg hl, if_neg hl]; rfl, h.1⟩
theorem when_u (l : List Nat) (v : Value) (w : World) (hr : Reads w v (bs l)) (hlt : ∀ x ∈ l, x < 256) (hL : l.length ≤ 140737488355328) (hg : ET w) :
    Calls Tryd.prog 18 #[v] w (WhenU l w) := (when_any l v w hr hlt hL hg).mono fun _ _ h => .of h
theorem rwhen_u (l : List Nat) (v : Value) (w : World) (hr : Reads w v (bs l)) (hlt : ∀ x ∈ l, x < 256) :
    Calls Tryd.prog 19 #[v] w (WhenU l w) := (rwhen_any l v w hr hlt).mono fun _ _ h => .of h

/-! what is hidden is a block's bytes -/
theorem hide_take {ks l : List Nat} (e s : Nat) : (hideL ks e s l).take 16 = headL e s := by
  rw [hideL, List.take_append_of_le_length (by rw [headL_length]; exact Nat.le_refl _), List.take_of_length_le (by rw [headL_length]; exact Nat.le_refl _)]
theorem hide_drop {ks l : List Nat} (e s : Nat) : (hideL ks e s l).drop 16 = xorL (padL l 256) (streamL ks (headL e s) 256) := by
  rw [hideL, List.drop_append_of_le_length (by rw [headL_length]; exact Nat.le_refl _), List.drop_of_length_le (by rw [headL_length]; exact Nat.le_refl _), List.nil_append]
theorem headL_8 (e s : Nat) : (headL e s).take 8 = putL e 8 := by
  rw [headL, List.append_assoc, List.take_append_of_le_length (by rw [putL_length]; exact Nat.le_refl _), List.take_of_length_le (by rw [putL_length]; exact Nat.le_refl _)]
theorem headL_4 (e s : Nat) : ((headL e s).drop 8).take 4 = putL s 4 := by
  rw [headL, List.append_assoc, List.drop_append_of_le_length (by rw [putL_length]; exact Nat.le_refl _), List.drop_of_length_le (by rw [putL_length]; exact Nat.le_refl _), List.nil_append, List.take_append_of_le_length (by rw [putL_length]; exact Nat.le_refl _), List.take_of_length_le (by rw [putL_length]; exact Nat.le_refl _)]
theorem headL_z (e s : Nat) : ((headL e s).drop 12).take 4 = [0, 0, 0, 0] := by
  have h1 := putL_length e 8
  have h2 := putL_length s 4
  rw [headL, List.drop_append, List.drop_eq_nil_of_le (by simp [h1, h2]), List.nil_append, List.length_append, h1, h2]
  decide
theorem okB_hide {ks l : List Nat} (e s : Nat) : okB (hideL ks e s l) := by
  refine ⟨hideL_length e s, ?_⟩
  have h : ((hideL ks e s l).drop 12).take 4 = (((hideL ks e s l).take 16).drop 12).take 4 := by rw [List.drop_take, List.take_take]; rfl
  rw [h, hide_take, headL_z]
theorem whenA_hide {ks l : List Nat} {e : Nat} (s : Nat) (he : e < 18446744073709551616) : whenA (hideL ks e s l) = e := by
  have h : (hideL ks e s l).take 8 = ((hideL ks e s l).take 16).take 8 := by rw [List.take_take]; rfl
  rw [whenA, if_pos (okB_hide e s), h, hide_take, headL_8, getL_putL, Nat.mod_eq_of_lt he]
theorem whenB_hide {ks l : List Nat} (e : Nat) {s : Nat} (hs : s < 4294967296) : whenB (hideL ks e s l) = s := by
  have h : ((hideL ks e s l).drop 8).take 4 = (((hideL ks e s l).take 16).drop 8).take 4 := by rw [List.drop_take, List.take_take]; rfl
  rw [whenB, if_pos (okB_hide e s), h, hide_take, headL_4, getL_putL, Nat.mod_eq_of_lt hs]
theorem errB_hide {ks l : List Nat} (e s : Nat) : errB (hideL ks e s l) = 0 := by rw [errB, if_pos (okB_hide e s)]

theorem reads_litF {X : World} {B n : Nat} {t : TypeId} {fr : Nat × Nat} {vs : List Value} (h : X.heap[B]? = some (.cells vs.toArray t fr)) (hn : vs.length = n) : Reads X (.slice (some ⟨B, 0, none⟩) n n) vs :=
  .inr ⟨⟨B, 0, none⟩, n, by rw [hn], by rw [hn]; exact Nat.le_refl _, fun j u hj => by rw [Addr.add_mid, cell_of_row X B _ _ _ _ h, ← hj, Nat.zero_add]; simp⟩

set_option maxRecDepth 100000 in
set_option maxHeartbeats 1000000 in
theorem known7_any (w : World) (hg : ET w) :
    Calls Tryd.prog 9 #[] w fun e w' => e = .returned (.bool true) ∧ Below w.heap.size w w' := by
  have hb0 : Below w.heap.size w (w.alloc (Obj.cells #[Value.int .u8 97] 5 (1, 2))) := (Below.refl _ _).alloc (Nat.le_refl _) _
  have hg0 := hg.below hb0 hg.pos
  have hr0 : Reads (w.alloc (Obj.cells #[Value.int .u8 97] 5 (1, 2))) (.slice (some ⟨w.heap.size, 0, none⟩) 1 1) (bs [97]) := reads_litF (vs := bs [97]) (heap_alloc_new w _) rfl
  have HB := Lib.hid (And.intro hb0 (And.intro hg0 (And.intro hr0 hg.pos)))
  have hp := hg.pos
  have hconv := fun (w : World) (C : Array Value) (n c : Nat) => Lib.run_convert_bytes_const (P := Tryd.prog) w 26 5 C n c Tryd.underlying26 Tryd.underlying5
  clear hb0 hg0 hr0 hg hp
  go_enter Tryd.func9, Tryd.ntmps9
  go_wp2_with fail
  refine (hide_any (zeros 16) 5 7 [97] _ _ (by decide) (by decide) (by decide) HB.out.2.2.1 (by decide)).mono ?_
  rintro e w1 ⟨hb1, hcase⟩
  rcases hcase with ⟨_, v, rfl, ho⟩ | ⟨hlen, _⟩
  · have hr1 := reads_of_owns ho
    obtain ⟨vg, vc, rfl, _, _, _, _⟩ := owns_range ho (by omega)
    have hg1 := HB.out.2.1.below hb1 (by simp)
    obtain ⟨L, hL⟩ : ∃ L, hideL (keysL (zeros 16)) 5 7 [97] = L := ⟨_, rfl⟩
    have hLl : L.length = 272 := by rw [← hL, hideL_length]
    have hLt : ∀ x ∈ L, x < 256 := by rw [← hL]; exact hideL_lt (sched_lt (by decide) _) (by decide) 5 7
    have hA : whenA L = 5 := by rw [← hL]; exact whenA_hide 7 (by decide)
    have hB : whenB L = 7 := by rw [← hL]; exact whenB_hide 5 (by decide)
    have hE : errB L = 0 := by rw [← hL]; exact errB_hide 5 7
    rw [hL] at hr1
    have hbel1 := HB.out.1.trans (hb1.mono (by simp))
    have HL := Lib.hid (And.intro hr1 (And.intro hLt (And.intro hLl (And.intro hg1 hbel1))))
    have Hv := Lib.hid (And.intro hA (And.intro hB hE))
    clear ho hr1 hg1 hL hLl hLt hb1 hbel1 hA hB hE
    go_wp2_with fail
    refine (when_u L _ _ HL.out.1 HL.out.2.1 (by rw [HL.out.2.2.1]; omega) HL.out.2.2.2.1).mono ?_
    rintro e w2 ⟨rfl, hb2⟩
    rw [Hv.out.1, Hv.out.2.1, Hv.out.2.2]
    have hbel2 := HL.out.2.2.2.2.trans (hb2.mono (by have := HL.out.2.2.2.2.size; exact this))
    have HF := Lib.hid hbel2
    clear hb2 hbel2
    go_wp2_with fail
    go_ret
    exact ⟨rfl, HF.out⟩
  · exact absurd hlen (by decide)
end Go.Proofs.YtdopdaoapdeabaaDoor
