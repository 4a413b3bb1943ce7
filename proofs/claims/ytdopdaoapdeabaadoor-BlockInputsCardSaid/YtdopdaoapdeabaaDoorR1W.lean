/- WALKS: sacristanref01.Put, Get, Pad. -/
import Derived.Test.YtdopdaoapdeabaaDoorJoinW
namespace Go.Proofs.YtdopdaoapdeabaaDoor
open Go.RowKit

theorem putL_take_snoc (n wide i : Nat) (h : i < wide) : bs ((putL n wide).take i) ++ [.int .u8 ((n / 256 ^ (wide - 1 - i) % 256 : Nat) : Int)] = bs ((putL n wide).take (i + 1)) :=
  take_snoc_ks' (k := .u8) (by rw [putL_length]; exact h) (by simp [putL, h])

set_option maxRecDepth 100000 in
set_option maxHeartbeats 1000000 in
theorem rput_any (n wide : Nat) (w : World) (hn : n < 18446744073709551616) (hw : wide = 4 ∨ wide = 8) :
    Calls Tryd.prog 31 #[.int .u64 n, .int .i64 (wide : Nat)] w fun e w' => ∃ v, e = .returned v ∧ w'.ownsRow w.heap.size 5 1 v wide (bs (putL n wide)) ∧ Below w.heap.size w w' := by
  have hinfo : (Tryd.prog.info? 5).map (fun i => (i.zero, i.size, i.bytes)) = some (some (.int .u8 0), 1, 1) := by kernel_rfl
  obtain ⟨i0, hi0, hz0, hz1, hz2⟩ := info_parts hinfo
  have Hi0 := Lib.hid (And.intro hi0 (And.intro hz0 (And.intro hz1 hz2)))
  have hw8 : (wide : Int) ≤ 8 := by omega
  have hw1 : (1 : Int) ≤ (wide : Int) := by omega
  have hw8' : wide ≤ 8 := by omega
  have hw1' : 1 ≤ wide := by omega
  obtain ⟨N, hN⟩ : ∃ N, w.heap.size = N := ⟨_, rfl⟩
  have HN := Lib.hid hN
  clear hw hinfo hi0 hz0 hz1 hz2
  go_enter Tryd.func31, Tryd.ntmps31
  go_wp2_with fail
  clear hN
  go_loopg [5, 6] wide (fun g v i' wr => ∃ j : Nat, j + g = wide ∧ i' = .int .i64 ((wide : Int) - 1 - (j : Int)) ∧ wr.ownsRow N 5 1 v j (bs ((putL n wide).take j)) ∧ Below N w wr)
  case atStart => exact ⟨0, by omega, by congr 1; omega, World.ownsRow_nil _ _ _ _, Below.refl _ _⟩
  case round =>
    obtain ⟨j, hjg, rfl, hown, hb⟩ := hrel
    by_cases hlt : j < wide
    · have hlti : (0 : Int) ≤ (wide : Int) - 1 - (j : Int) := by omega
      obtain ⟨i, hi⟩ : ∃ i, wide - 1 - j = i := ⟨_, rfl⟩
      have hii : (wide : Int) - 1 - (j : Int) = (i : Int) := by omega
      have hi8 : i < 8 := by omega
      rw [hii] at hlti ⊢
      have Hi := Lib.hid (And.intro hi hii)
      clear hi hii
      obtain rfl : gk = wide - j := by omega
      have HO := Lib.hid (And.intro hown hb)
      have hNs : N ≤ wr.heap.size := by rw [← HN.out]; exact hb.size
      clear hown hb
      go_wp2_with fail
      go_loopg [7, 8] i (fun g x' k' wq => ∃ k : Nat, wr = wq ∧ k + g = i ∧ k' = .int .i64 k ∧ x' = .int .u64 (n / 256 ^ k : Nat))
      case atStart => exact ⟨0, rfl, by omega, rfl, by rw [Nat.pow_zero, Nat.div_one]⟩
      case round =>
        obtain ⟨k, rfl, hkg, rfl, rfl⟩ := hrel
        by_cases hk : k < i
        · have hki : (k : Int) < (i : Int) := by omega
          have hk8 : k < 8 := by omega
          have hkk : n / 256 ^ (k + 1) = n / 256 ^ k / 256 := by rw [Nat.pow_succ, Nat.div_div_eq_div_mul]
          have hd : n / 256 ^ k < 18446744073709551616 := Nat.lt_of_le_of_lt (Nat.div_le_self _ _) hn
          obtain ⟨q, hq⟩ : ∃ q, n / 256 ^ k = q := ⟨_, rfl⟩
          rw [hq] at hd hkk ⊢
          have Hk := Lib.hid hkk
          clear hq hkk
          go_wp2_with fail
          go_roundg (gk - 1)
          case measure => omega
          case rel => exact ⟨k + 1, rfl, by omega, by go_num, by rw [Hk.out]; rfl⟩
        · have hki : ¬ (k : Int) < (i : Int) := by omega
          obtain rfl : k = i := by omega
          have hd : n / 256 ^ k < 18446744073709551616 := Nat.lt_of_le_of_lt (Nat.div_le_self _ _) hn
          have hsn := putL_take_snoc n wide j hlt
          rw [Hi.out.1] at hsn
          obtain ⟨q, hq⟩ : ∃ q, n / 256 ^ k = q := ⟨_, rfl⟩
          rw [hq] at hd hsn ⊢
          obtain ⟨x, hx⟩ : ∃ x, q % 256 = x := ⟨_, rfl⟩
          rw [hx] at hsn
          have hxi : (q : Int) % 256 = (x : Int) := by omega
          have hx256 : x < 256 := by omega
          have Hs := Lib.hid hsn
          have hown' := HO.out.1.alloc (.cells #[.int .u8 (x : Nat)] 5)
          have hb' : Below N w (wr.alloc (.cells #[.int .u8 (x : Nat)] 5)) := HO.out.2.alloc hNs _
          have c5 : N ≤ (wr.alloc (.cells #[.int .u8 (x : Nat)] 5)).heap.size := by simp; omega
          clear hq hx hsn
          go_wp2_with (at_builtin; refine wpList_append_own _ rfl _ _ 26 rfl N 5 i0 (.int .u8 0) 1 1 Tryd.underlying26 Hi0.out.1 Hi0.out.2.1 Hi0.out.2.2.1 Hi0.out.2.2.2 rfl (by decide) _ _ _ rfl hown' ⟨wr.heap.size, 0, none⟩ 1 1 [.int .u8 (x : Nat)] rfl rfl (cell_one_new _ _ _) (bs_one [x]) (by unfold maxLen; omega) (by omega) c5 ?_; intro v' w1 hown1 hgrow _)
          go_roundg (wide - (j + 1))
          case measure => omega
          case rel =>
            rw [Hs.out] at hown1
            exact ⟨j + 1, by omega, by congr 1; have := Hi.out.2; omega, hown1, hb'.grown hgrow c5 (fun k hk => (HO.out.1.lt k hk).1)⟩
    · have hlti : ¬ (0 : Int) ≤ (wide : Int) - 1 - (j : Int) := by omega
      obtain rfl : j = wide := by omega
      rw [List.take_of_length_le (by rw [putL_length]; exact Nat.le_refl _)] at hown
      have HO := Lib.hid (And.intro hown hb)
      clear hown hb
      go_wp2_with fail
      go_ret
      exact ⟨_, rfl, by rw [HN.out]; exact HO.out.1, by rw [HN.out]; exact HO.out.2⟩

set_option maxRecDepth 100000 in
set_option maxHeartbeats 1000000 in
theorem rget_any (l : List Nat) (v : Value) (w : World) (hr : Reads w v (bs l)) (hl : ∀ x ∈ l, x < 256) (h0 : 0 < l.length) (h8 : l.length ≤ 8) :
    Calls Tryd.prog 35 #[v] w fun e w' => e = .returned (.int .u64 (getL l : Nat)) ∧ w = w' := by
  obtain ⟨b, off, cap, rfl, hcap, hb, hcell⟩ := hr.pos (by rw [bs_length]; exact h0)
  rw [bs_length] at hcap ⊢
  obtain ⟨m, hm⟩ : ∃ m, l.length = m := ⟨_, rfl⟩
  rw [hm] at hcap h0 h8 ⊢
  have hne : ¬ cap = 0 := by omega
  have h8i : ¬ (8 : Int) < (m : Int) := by omega
  have hmc : (m : Int) ≤ (cap : Int) := by omega
  have HL := Lib.hid (And.intro hm (And.intro hl hcell))
  clear hr hm hl hcell
  go_enter Tryd.func35, Tryd.ntmps35
  go_wp2_with fail
  go_loopg [3, 4] m (fun g n' i' wr => ∃ i : Nat, i + g = m ∧ i' = .int .i64 i ∧ n' = .int .u64 (getL (l.take i) : Nat) ∧ w = wr)
  case atStart => exact ⟨0, by omega, rfl, rfl, rfl⟩
  case round =>
    obtain ⟨i, hig, rfl, rfl, rfl⟩ := hrel
    by_cases hlt : i < m
    · have hlti : (i : Int) < (m : Int) := by omega
      have hi0 : (0 : Int) ≤ (i : Int) := by omega
      obtain ⟨x, hx⟩ : ∃ x, l.getD i 0 = x := ⟨_, rfl⟩
      have hx256 : x < 256 := by rw [← hx]; exact getD_lt HL.out.2.1 i
      have hc := HL.out.2.2 i _ (bs_get (by rw [HL.out.1]; exact hlt))
      rw [hx] at hc
      have hg := getL_lt (l := l.take i) (fun x hx => HL.out.2.1 x (List.mem_of_mem_take hx))
      obtain ⟨q, hq⟩ : ∃ q, getL (l.take i) = q := ⟨_, rfl⟩
      have hp : 256 ^ (l.take i).length ≤ 256 ^ 7 := Nat.pow_le_pow_right (by omega) (by rw [List.length_take]; omega)
      rw [hq] at hg ⊢
      have hq7 : q < 72057594037927936 := by have h7 : (256 : Nat) ^ 7 = 72057594037927936 := by decide
                                             omega
      have hs : getL (l.take (i + 1)) = 256 * q + x := by
        have e : l.take (i + 1) = l.take i ++ [x] := by
          rw [List.take_add_one, List.getElem?_eq_getElem (by rw [HL.out.1]; exact hlt)]
          rw [← hx]; simp [HL.out.1, hlt]
        rw [e, getL_snoc, hq]
      have Hs := Lib.hid hs
      clear hs hq hx hg hp
      go_wp2_with fail
      go_roundg (gk - 1)
      case measure => omega
      case rel => exact ⟨i + 1, by omega, by go_num, by rw [Hs.out]; go_num, rfl⟩
    · have hlti : ¬ (i : Int) < (m : Int) := by omega
      obtain rfl : i = m := by omega
      rw [List.take_of_length_le (by rw [HL.out.1]; exact Nat.le_refl _)]
      go_wp2_with fail
      go_ret
      exact ⟨rfl, rfl⟩

theorem padL_more {l : List Nat} {j : Nat} : l ++ List.replicate j 0 ++ [0] = l ++ List.replicate (j + 1) 0 := by
  rw [List.append_assoc, List.replicate_succ']

set_option maxRecDepth 100000 in
set_option maxHeartbeats 1000000 in
theorem rpad_any (l : List Nat) (v : Value) (n : Nat) (w : World) (hr : Reads w v (bs l)) (hl : l.length ≤ n) (hn : n ≤ 1000000) :
    Calls Tryd.prog 27 #[v, .int .i64 (n : Nat)] w fun e w' => ∃ v', e = .returned v' ∧ w'.ownsRow w.heap.size 5 1 v' n (bs (padL l n)) ∧ Below w.heap.size w w' := by
  obtain ⟨va, vc, rfl⟩ := hr.len
  have hinfo : (Tryd.prog.info? 5).map (fun i => (i.zero, i.size, i.bytes)) = some (some (.int .u8 0), 1, 1) := by kernel_rfl
  obtain ⟨i0, hi0, hz0, hz1, hz2⟩ := info_parts hinfo
  have Hi0 := Lib.hid (And.intro hi0 (And.intro hz0 (And.intro hz1 hz2)))
  rw [bs_length] at hr ⊢
  obtain ⟨m, hm⟩ : ∃ m, l.length = m := ⟨_, rfl⟩
  rw [hm] at hr hl ⊢
  have HL := Lib.hid (And.intro hr hm)
  have hb0 : (bs l).length = m := by rw [bs_length, HL.out.2]
  have HB := Lib.hid hb0
  obtain ⟨N, hN⟩ : ∃ N, w.heap.size = N := ⟨_, rfl⟩
  have HN := Lib.hid hN
  clear hinfo hi0 hz0 hz1 hz2 hr hm hb0 hN
  go_enter Tryd.func27, Tryd.ntmps27
  go_wp2_with (at_builtin; refine wpList_append_reads rfl _ _ 26 rfl w.heap.size 5 i0 (.int .u8 0) 1 Tryd.underlying26 Hi0.out.1 Hi0.out.2.1 Hi0.out.2.2.1 Hi0.out.2.2.2 rfl (.slice none 0 0) 0 [] rfl (World.ownsRow_nil _ _ _ _) (.slice va m vc) (bs l) rfl HL.out.1 (bs_one _) (by rw [HB.out]; unfold maxLen; omega) (by rw [HB.out]; omega) (Nat.le_refl _) ?_; intro v1 w1 hown1 hgr1; have HO := Lib.hid (And.intro hown1 ((Below.refl w.heap.size w).grown hgr1 (Nat.le_refl _) (fun k hk => by cases hk))); clear hown1 hgr1)
  have hown := HO.out.1
  have hbel := HO.out.2
  rw [HB.out, Nat.zero_add, List.nil_append, HN.out] at hown
  rw [HN.out] at hbel
  clear HO
  go_loopg [5] (n - m) (fun g v wr => ∃ j : Nat, m + j + g = n ∧ wr.ownsRow N 5 1 v (m + j) (bs (l ++ List.replicate j 0)) ∧ Below N w wr)
  case atStart => exact ⟨0, by omega, by rw [List.replicate_zero, List.append_nil]; exact hown, hbel⟩
  case round =>
    clear hown hbel
    obtain ⟨j, hjg, hown, hbel⟩ := hrel
    obtain ⟨q, hq⟩ : ∃ q, m + j = q := ⟨_, rfl⟩
    rw [hq] at hown
    have hvl : ∃ a c, u5 = .slice a q c := by
      rcases hown.2 with ⟨h, h0⟩ | ⟨g, cap, _, h, _⟩
      · exact ⟨none, 0, by rw [h, h0]⟩
      · exact ⟨_, _, h⟩
    obtain ⟨a, c, hv⟩ := hvl
    subst hv
    have hNs : N ≤ wr.heap.size := by rw [← HN.out]; exact hbel.size
    by_cases hlt : q < n
    · have hlti : (q : Int) < (n : Int) := by omega
      have hown' := hown.alloc (.cells #[.int .u8 0] 5)
      have hb' : Below N w (wr.alloc (.cells #[.int .u8 0] 5)) := hbel.alloc hNs _
      have c5 : N ≤ (wr.alloc (.cells #[.int .u8 0] 5)).heap.size := by simp; omega
      have Hq := Lib.hid hq
      have HO := Lib.hid hown
      clear hq hown
      go_wp2_with (at_builtin; refine wpList_append_own _ rfl _ _ 26 rfl N 5 i0 (.int .u8 0) 1 1 Tryd.underlying26 Hi0.out.1 Hi0.out.2.1 Hi0.out.2.2.1 Hi0.out.2.2.2 rfl (by decide) _ _ _ rfl hown' ⟨wr.heap.size, 0, none⟩ 1 1 [.int .u8 0] rfl rfl (cell_one_new _ _ _) (bs_one [0]) (by unfold maxLen; omega) (by omega) c5 ?_; intro v' w1 hown1 hgrow _)
      go_roundg (gk - 1)
      case measure => have := Hq.out; omega
      case rel =>
        refine ⟨j + 1, by have := Hq.out; omega, ?_, hb'.grown hgrow c5 (fun k hk => (HO.out.lt k hk).1)⟩
        rw [← Nat.add_assoc, Hq.out]
        rw [show bs (l ++ List.replicate j 0) ++ [.int .u8 0] = bs (l ++ List.replicate (j + 1) 0) by rw [← padL_more, ← bs_append (l ++ List.replicate j 0) [0]]; rfl] at hown1
        exact hown1
    · have hlti : ¬ (q : Int) < (n : Int) := by omega
      obtain rfl : q = n := by omega
      have HO : Hid (wr.ownsRow N 5 1 (.slice a q c) q (bs (padL l q)) ∧ Below N w wr) := ⟨by rw [padL, HL.out.2, show q - m = j by omega]; exact hown, hbel⟩
      clear hown hbel hq
      go_wp2_with fail
      go_ret
      exact ⟨_, rfl, by rw [HN.out]; exact HO.out.1, by rw [HN.out]; exact HO.out.2⟩
end Go.Proofs.YtdopdaoapdeabaaDoor
