/- WALK: Cipher.Xor. -/
import Derived.Test.YtdopdaoapdeabaaDoorStreamW
namespace Go.Proofs.YtdopdaoapdeabaaDoor
open Go.RowKit

/-- bytes hidden by a stream -/
def xorL (l s : List Nat) : List Nat := upd (addF s l) s l.length
theorem owns_set {w : World} {base : Nat} {e : TypeId} {g m cap : Nat} {xs : List Value} (h : w.ownsRow base e 1 (.slice (some ⟨g, 0, none⟩) m cap) m xs) (i : Nat) (u : Value) :
    (w.setCell ⟨g, i, none⟩ u).ownsRow base e 1 (.slice (some ⟨g, 0, none⟩) m cap) m (xs.set i u) := by
  refine ⟨by rw [List.length_set]; exact h.1, ?_⟩
  rcases h.2 with ⟨h0, _⟩ | ⟨g', cap', cur, hv, hb, hg, hnc, hcm, hcs, ht⟩
  · cases h0
  · injection hv with e1 e2 e3
    injection e1 with e1
    injection e1 with e1
    subst e1 e3
    refine .inr ⟨g, cap, cur.setIfInBounds i u, rfl, hb, ?_, hnc, hcm, by simpa using hcs, by rw [← ht]; simp [List.take_set]⟩
    have hlt := lt_of_block hg
    have h' : w.heap[g] = .cells cur e (0, 0) := by simpa [Array.getElem?_eq_getElem hlt] using hg
    show (w.heap.modify g _)[g]? = _
    rw [Array.getElem?_eq_getElem (by simpa using hlt), Array.getElem_modify_self, h']
    rfl
theorem owns_free {w : World} {base : Nat} {e : TypeId} {g m cap : Nat} {xs : List Value} (h : w.ownsRow base e 1 (.slice (some ⟨g, 0, none⟩) m cap) m xs) (i : Nat) : w.frozen? ⟨g, i, none⟩ = false := by
  rcases h.2 with ⟨h0, _⟩ | ⟨g', cap', cur, hv, hb, hg, hnc, hcm, hcs, ht⟩
  · cases h0
  · injection hv with e1 e2 e3
    injection e1 with e1
    injection e1 with e1
    subst e1
    simp [World.frozen?, hg]
theorem bs_set (l : List Nat) (i v : Nat) : (bs l).set i (.int .u8 (v : Int)) = bs (l.set i v) := by simp [bs, List.map_set]
/-- what Xor tells -/
def XorPost (ks at_ l : List Nat) (w : World) (e : Ending) (w' : World) : Prop := ∃ v, e = .returned v ∧ w'.ownsRow w.heap.size 5 1 v l.length (bs (xorL l (streamL ks at_ l.length))) ∧ Below w.heap.size w w'

set_option maxRecDepth 100000 in
set_option maxHeartbeats 2000000 in
theorem xor_any (b bb : Nat) (ks at_ l : List Nat) (v : Value) (w : World) (hc : IsCipher w b bb ks) (hl : at_.length = 16) (hl' : ∀ x ∈ at_, x < 256) (hr : Reads w v (bs l)) (hx : ∀ x ∈ l, x < 256) (hn : l.length ≤ 1048576) :
    Calls Tryd.prog 24 #[.pointer (some ⟨b, 0, none⟩), .agg (bx at_), v] w (XorPost ks at_ l w) := by
  obtain ⟨va, vc, rfl⟩ := hr.len
  rw [bs_length] at hr ⊢
  have hlb := hc.lt1
  have hlbb := hc.lt2
  have Hl := Lib.hid (And.intro hl hl')
  have HC := Lib.hid hc
  have HR := Lib.hid hr
  have HX := Lib.hid hx
  have hi : ∀ m : List Nat, m.length = 16 → (Tryd.prog.info? 39).map (·.size) = some (bx m).size := by intro m hm; rw [bx_size, hm]; kernel_rfl
  have Hi := Lib.hid hi
  obtain ⟨m, hm⟩ : ∃ m, l.length = m := ⟨_, rfl⟩
  rw [hm] at hn ⊢
  have Hm := Lib.hid hm
  have hn0 : (m : Int) ≤ 1048576 := by omega
  clear hc hl hl' hr hx hi hm
  go_enter Tryd.func24, Tryd.ntmps24
  go_upto_region 3 with (fail)
  obtain ⟨N, hN⟩ : ∃ N, w.heap.size = N := ⟨_, rfl⟩
  have hB0 : Bytes (w.alloc (Obj.cells (bx at_) 39)) N at_ 39 := by rw [← hN]; exact Bytes.new _ _ _
  have hW0 : Below N w (w.alloc (Obj.cells (bx at_) 39)) := by rw [← hN]; exact (Below.refl _ _).alloc (Nat.le_refl _) _
  rw [hN] at hlb hlbb ⊢
  have hC0 := HC.out.below hW0 hlb hlbb
  have HR0 := Lib.hid (HR.out.below hW0 (Nat.le_of_eq hN))
  have hs1 : (w.alloc (Obj.cells (bx at_) 39)).heap.size = N + 1 := by simp [hN]
  generalize w.alloc (Obj.cells (bx at_) 39) = W at hB0 hW0 hC0 HR0 hs1 ⊢
  have HN := Lib.hid hN
  clear hN HC
  go_upto_region 4 with (first | (refine wpList_load_row rfl 39 _ rfl N rfl 39 (bx at_) _ _ hB0.row Tryd.underlying39 rfl (Hi.out at_ Hl.out.1) ?_) | (go_at_call 21; refine (stream_any b bb ks at_ m _ hC0 Hl.out.1 Hl.out.2 hn0).mono ?_; rintro e w1 ⟨o, rfl, hown, hb1⟩))
  rw [Int.toNat_natCast] at hown
  have hbel := hW0.trans (hb1.mono (by omega))
  rw [hs1] at hown
  obtain ⟨str, hstr⟩ : ∃ str, str = streamL ks at_ m := ⟨_, rfl⟩
  have Hstr : Hid (str.length = m ∧ (∀ x ∈ str, x < 256) ∧ streamL ks at_ m = str) := by
    rw [hstr]; exact ⟨streamL_length Hl.out.1 m, streamL_lt hC0.lt Hl.out.2 m, rfl⟩
  rw [← hstr] at hown
  clear hB0 hW0 HR0 hb1 hs1 hstr hC0 hlb hlbb
  clear W
  go_wp2_with fail
  go_loopg [24] m (fun g i' wr => ∃ i : Nat, i + g = m ∧ i' = .int .i64 i ∧ wr.ownsRow (N + 1) 5 1 o m (bs (upd (addF str l) str i)) ∧ Below N w wr)
  case atStart => exact ⟨0, by omega, rfl, by rw [upd_zero]; exact hown, hbel⟩
  case round =>
    clear hown hbel
    obtain ⟨i, hig, rfl, hO, hB⟩ := hrel
    by_cases hlt : i < m
    · have hlti : (i : Int) < (m : Int) := by omega
      have hi0 : (0 : Int) ≤ (i : Int) := by omega
      obtain ⟨gb, off, vc', hv, hcap, hgb, hcell⟩ := HR.out.pos (by rw [bs_length, Hm.out]; omega)
      obtain ⟨g, cap, rfl, hbg, hglt, hmcap, hrg⟩ := owns_range hO (by omega)
      injection hv with e1 e2 e3
      subst e1 e3
      have hc1 := hcell i _ (bs_get (by rw [Hm.out]; exact hlt))
      rw [← hB.cell (p := ⟨gb, off + i, none⟩) (by rw [HN.out] at hgb; exact hgb)] at hc1
      have hc2 := range_get hrg (j := i) (by rw [upd_length, Hstr.out.1]; exact hlt)
      rw [upd_get (by rw [Hstr.out.1]; exact hlt), if_neg (Nat.lt_irrefl i), Nat.zero_add] at hc2
      obtain ⟨x, hx⟩ : ∃ x, l.getD i 0 = x := ⟨_, rfl⟩
      obtain ⟨y, hy⟩ : ∃ y, str.getD i 0 = y := ⟨_, rfl⟩
      have hx256 : x < 256 := by rw [← hx]; exact getD_lt HX.out i
      have hy256 : y < 256 := by rw [← hy]; exact getD_lt Hstr.out.2.1 i
      rw [hx] at hc1
      rw [hy] at hc2
      have hfree := owns_free hO i
      have hyx := bits_xor hy256 hx256
      have hset := owns_set hO i (.int .u8 (y ^^^ x : Nat))
      rw [bs_set] at hset
      have hfe : addF str l i = y ^^^ x := by rw [addF, hx, hy]
      have Hfe := Lib.hid hfe
      have hB' := Below.setCell hB (p := ⟨g, i, none⟩) (by show N ≤ g; omega) (.int .u8 (y ^^^ x : Nat))
      have Hset := Lib.hid (And.intro hset hB')
      have HH := Lib.hid (And.intro hO hB)
      clear hfe hx hy hset hB' hrg hcell hO hB hgb hglt e2 hbg hcap
      go_wp2_with fail
      go_roundg (gk - 1)
      case measure => omega
      case rel =>
        refine ⟨i + 1, by omega, by go_num, ?_, Hset.out.2⟩
        rw [← upd_set (by rw [Hstr.out.1]; exact hlt), Hfe.out]
        exact Hset.out.1
    · have hlti : ¬ (i : Int) < (m : Int) := by omega
      obtain rfl : i = m := by omega
      go_wp2
      go_ret
      refine ⟨_, rfl, ?_, ?_⟩
      · rw [HN.out, xorL, Hm.out, Hstr.out.2.2]; exact owns_mono hO (Nat.le_succ N)
      · rw [HN.out]; exact hB
end Go.Proofs.YtdopdaoapdeabaaDoor
