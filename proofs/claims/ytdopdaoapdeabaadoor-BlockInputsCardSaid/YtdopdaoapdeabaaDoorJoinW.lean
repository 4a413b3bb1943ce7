/- WALKS: codec.Join, codec.Pad; sacristanref01.Pad. -/
import Derived.Test.YtdopdaoapdeabaaDoorPutW
namespace Go.Proofs.YtdopdaoapdeabaaDoor
open Go.RowKit

theorem flat_take (ls : List (List Nat)) (i : Nat) (h : i < ls.length) : (ls.take (i + 1)).flatten = (ls.take i).flatten ++ ls.getD i [] := by
  rw [List.take_succ_eq_append_getElem h, List.flatten_append, List.flatten_singleton, List.getD_eq_getElem?_getD, List.getElem?_eq_getElem h]; rfl
theorem flat_le (ls : List (List Nat)) (i : Nat) : (ls.take i).flatten.length ≤ ls.flatten.length := by
  conv => rhs; rw [← List.take_append_drop i ls, List.flatten_append, List.length_append]
  exact Nat.le_add_right _ _

set_option maxRecDepth 100000 in
set_option maxHeartbeats 1000000 in
theorem join_any (v : Value) (vs : List Value) (ls : List (List Nat)) (w : World) (hv : Reads w v vs) (hl : vs.length = ls.length)
    (h : ∀ i, i < ls.length → ∃ x, vs[i]? = some x ∧ Reads w x (bs (ls.getD i []))) (ht : ls.flatten.length ≤ 1000000) (hs : ls.length ≤ 1000) :
    Calls Tryd.prog 23 #[v] w fun e w' => ∃ v', e = .returned v' ∧ w'.ownsRow w.heap.size 5 1 v' ls.flatten.length (bs ls.flatten) ∧ Below w.heap.size w w' := by
  obtain ⟨va, vc, rfl⟩ := hv.len
  obtain ⟨m, hm⟩ : ∃ m, vs.length = m := ⟨_, rfl⟩
  rw [hm] at hv hl ⊢
  have hm1000 : (m : Int) ≤ 1000 := by omega
  obtain ⟨F, hF⟩ : ∃ F, ls.flatten = F := ⟨_, rfl⟩
  rw [hF]
  have HF := Lib.hid hF
  have hinfo : (Tryd.prog.info? 5).map (fun i => (i.zero, i.size, i.bytes)) = some (some (.int .u8 0), 1, 1) := by kernel_rfl
  obtain ⟨i0, hi0, hz0, hz1, hz2⟩ := info_parts hinfo
  have Hi0 := Lib.hid (And.intro hi0 (And.intro hz0 (And.intro hz1 hz2)))
  have HL := Lib.hid (And.intro hv (And.intro hl (And.intro h (And.intro ht hm))))
  obtain ⟨N, hN⟩ : ∃ N, w.heap.size = N := ⟨_, rfl⟩
  have HN := Lib.hid hN
  clear hinfo hi0 hz0 hz1 hz2 hv hl h ht hm hs hF
  go_enter Tryd.func23, Tryd.ntmps23
  go_wp2_with fail
  clear hN
  go_loopg [3, 8] m (fun g v' i' wr => ∃ i : Nat, i + g = m ∧ i' = .int .i64 i ∧ wr.ownsRow N 5 1 v' (ls.take i).flatten.length (bs (ls.take i).flatten) ∧ Below N w wr)
  case atStart => exact ⟨0, by omega, rfl, World.ownsRow_nil _ _ _ _, Below.refl _ _⟩
  case round =>
    obtain ⟨i, hig, rfl, hown, hb⟩ := hrel
    by_cases hlt : i < m
    · have hlti : (i : Int) < (m : Int) := by omega
      have hi0 : (0 : Int) ≤ (i : Int) := by omega
      obtain ⟨x, hx, hr⟩ := HL.out.2.2.1 i (by rw [← HL.out.2.1]; exact hlt)
      obtain ⟨lb, lo, lc, hve, hcap, hlb, hcell⟩ := HL.out.1.pos (by rw [HL.out.2.2.2.2]; omega)
      injection hve with e1 e2 e3
      subst e1 e3
      have hc := hcell i x hx
      rw [HN.out] at hlb
      rw [← hb.cell (p := ⟨lb, lo + i, none⟩) hlb] at hc
      have hfl := flat_take ls i (by rw [← HL.out.2.1]; exact hlt)
      have hle := flat_le ls (i + 1)
      rw [hfl, List.length_append] at hle
      have hle' := HL.out.2.2.2.1
      have hr' := hr.below hb (by rw [HN.out]; exact Nat.le_refl _)
      have hbl := bs_length (ls.getD i [])
      have hNs : N ≤ wr.heap.size := by rw [← HN.out]; exact hb.size
      have HR := Lib.hid (And.intro hr' (And.intro hfl hbl))
      have h63 : Hid ((ls.take i).flatten.length + (bs (ls.getD i [])).length ≤ 1000000) := by show _ ≤ _; rw [hbl]; omega
      have HO := Lib.hid (And.intro hown hb)
      clear hx hr hcell hfl hle hle' hr' hbl hown hb e2
      go_wp2_with (at_builtin; refine wpList_append_reads rfl _ _ 26 rfl N 5 i0 (.int .u8 0) 1 Tryd.underlying26 Hi0.out.1 Hi0.out.2.1 Hi0.out.2.2.1 Hi0.out.2.2.2 rfl _ _ _ rfl HO.out.1 x (bs (ls.getD i [])) rfl HR.out.1 (bs_one _) (by have := h63.out; unfold maxLen; omega) (by have := h63.out; omega) hNs ?_; intro v2 w2 hown2 hgr2)
      go_roundg (gk - 1)
      case measure => omega
      case rel =>
        refine ⟨i + 1, by omega, by go_num, ?_, HO.out.2.grown hgr2 hNs (fun k hk => (HO.out.1.lt k hk).1)⟩
        rw [HR.out.2.1, List.length_append, ← bs_append]
        rw [HR.out.2.2] at hown2
        exact hown2
    · have hlti : ¬ (i : Int) < (m : Int) := by omega
      obtain rfl : i = m := by omega
      rw [List.take_of_length_le (by rw [← HL.out.2.1]; exact Nat.le_refl _)] at hown
      rw [HF.out] at hown
      have HO := Lib.hid (And.intro hown hb)
      clear hown hb
      go_wp2_with fail
      go_ret
      exact ⟨_, rfl, by rw [HN.out]; exact HO.out.1, by rw [HN.out]; exact HO.out.2⟩

/-- filled with noughts -/
def padL (l : List Nat) (n : Nat) : List Nat := l ++ List.replicate (n - l.length) 0
theorem padL_length {l : List Nat} {n : Nat} (h : l.length ≤ n) : (padL l n).length = n := by simp [padL]; omega
theorem padL_lt {l : List Nat} {n : Nat} (h : ∀ x ∈ l, x < 256) : ∀ x ∈ padL l n, x < 256 := fun x hx => by
  rcases List.mem_append.1 hx with h' | h'
  · exact h x h'
  · rw [List.eq_of_mem_replicate h']; decide
theorem bs_zeros (n : Nat) : List.replicate n (Value.int .u8 0) = bs (List.replicate n 0) := by simp [bs]

set_option maxRecDepth 100000 in
set_option maxHeartbeats 1000000 in
theorem pad_any (l : List Nat) (v : Value) (n : Nat) (w : World) (hr : Reads w v (bs l)) (hl : l.length ≤ n) (hn : n ≤ 1000000) :
    Calls Tryd.prog 25 #[v, .int .i64 (n : Nat)] w fun e w' => ∃ v', e = .returned v' ∧ w'.ownsRow w.heap.size 5 1 v' n (bs (padL l n)) ∧ Below w.heap.size w w' := by
  obtain ⟨va, vc, rfl⟩ := hr.len
  have hinfo : (Tryd.prog.info? 5).map (fun i => (i.zero, i.size, i.bytes)) = some (some (.int .u8 0), 1, 1) := by kernel_rfl
  obtain ⟨i0, hi0, hz0, hz1, hz2⟩ := info_parts hinfo
  have Hi0 := Lib.hid (And.intro hi0 (And.intro hz0 (And.intro hz1 hz2)))
  rw [bs_length] at hr ⊢
  obtain ⟨m, hm⟩ : ∃ m, l.length = m := ⟨_, rfl⟩
  rw [hm] at hr hl ⊢
  obtain ⟨k, hk⟩ : ∃ k, n - m = k := ⟨_, rfl⟩
  have HL := Lib.hid (And.intro hr (And.intro hm hk))
  have hnm : (n : Int) - (m : Int) = (k : Int) := by omega
  have hk0 : ¬ (k : Int) < 0 := by omega
  have hmk : Hid (m + k = n) := by show m + k = n; omega
  have hkn : k ≤ 1000000 := by omega
  have hmn : m ≤ 1000000 := by omega
  clear hinfo hi0 hz0 hz1 hz2 hr hm hk hl
  have hb0 : (bs l).length = m := by rw [bs_length, HL.out.2.1]
  have HB := Lib.hid hb0
  clear hb0
  have hlast : ∀ (v2 : Value) (w2 : World), w2.ownsRow w.heap.size 5 1 v2 (0 + (bs l).length + k) ([] ++ bs l ++ List.replicate k (.int .u8 0)) → w2.ownsRow w.heap.size 5 1 v2 n (bs (padL l n)) := fun v2 w2 ho => by
    rw [HB.out, Nat.zero_add, hmk.out, List.nil_append, bs_zeros, bs_append] at ho
    rw [padL, HL.out.2.1, HL.out.2.2]
    exact ho
  have Hlast := Lib.hid hlast
  clear hlast
  have hsz : Hid (0 + (bs l).length + k ≤ 140737488355328) := by show _ ≤ _; rw [HB.out]; omega
  rcases Nat.eq_zero_or_pos k with h0 | h0
  · subst h0
    go_enter Tryd.func25, Tryd.ntmps25
    go_wp2_with (first
     | (at_builtin; refine wpList_append_reads rfl _ _ 26 rfl w.heap.size 5 i0 (.int .u8 0) 1 Tryd.underlying26 Hi0.out.1 Hi0.out.2.1 Hi0.out.2.2.1 Hi0.out.2.2.2 rfl (.slice none 0 0) 0 [] rfl (World.ownsRow_nil _ _ _ _) (.slice va m vc) (bs l) rfl HL.out.1 (bs_one _) (by rw [HB.out]; unfold maxLen; omega) (by rw [HB.out]; omega) (Nat.le_refl _) ?_; intro v1 w1 hown1 hgr1; have HO := Lib.hid (And.intro hown1 ((Below.refl w.heap.size w).grown hgr1 (Nat.le_refl _) (fun k hk => by cases hk))); clear hown1 hgr1)
     | (at_builtin; refine wpList_append_zeros rfl _ _ 26 3 rfl w.heap.size 5 i0 (.int .u8 0) Tryd.underlying26 Tryd.underlying3 Hi0.out.1 Hi0.out.2.1 Hi0.out.2.2.1 Hi0.out.2.2.2 rfl rfl v1 _ _ rfl HO.out.1 0 rfl hsz.out HO.out.2.size ?_; intro v2 w2 hown2 hgr2; have HP := Lib.hid (And.intro hown2 (HO.out.2.grown hgr2 HO.out.2.size (fun k hk => (HO.out.1.lt k hk).1))); clear hown2 hgr2))
    go_ret
    exact ⟨_, rfl, Hlast.out _ _ HP.out.1, HP.out.2⟩
  · have h0i : (0 : Int) < (k : Int) := by omega
    go_enter Tryd.func25, Tryd.ntmps25
    go_wp2_with (first
     | (at_builtin; refine wpList_append_reads rfl _ _ 26 rfl w.heap.size 5 i0 (.int .u8 0) 1 Tryd.underlying26 Hi0.out.1 Hi0.out.2.1 Hi0.out.2.2.1 Hi0.out.2.2.2 rfl (.slice none 0 0) 0 [] rfl (World.ownsRow_nil _ _ _ _) (.slice va m vc) (bs l) rfl HL.out.1 (bs_one _) (by rw [HB.out]; unfold maxLen; omega) (by rw [HB.out]; omega) (Nat.le_refl _) ?_; intro v1 w1 hown1 hgr1; have HO := Lib.hid (And.intro hown1 ((Below.refl w.heap.size w).grown hgr1 (Nat.le_refl _) (fun k hk => by cases hk))); clear hown1 hgr1)
     | (at_builtin; refine wpList_append_zeros rfl _ _ 26 3 rfl w.heap.size 5 i0 (.int .u8 0) Tryd.underlying26 Tryd.underlying3 Hi0.out.1 Hi0.out.2.1 Hi0.out.2.2.1 Hi0.out.2.2.2 rfl rfl v1 _ _ rfl HO.out.1 k rfl hsz.out HO.out.2.size ?_; intro v2 w2 hown2 hgr2; have HP := Lib.hid (And.intro hown2 (HO.out.2.grown hgr2 HO.out.2.size (fun k hk => (HO.out.1.lt k hk).1))); clear hown2 hgr2))
    go_ret
    exact ⟨_, rfl, Hlast.out _ _ HP.out.1, HP.out.2⟩
end Go.Proofs.YtdopdaoapdeabaaDoor
