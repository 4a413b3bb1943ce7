/- WALK: sacristanref04.Box. -/
import Derived.Test.YtdopdaoapdeabaaDoorRefW
import Derived.Test.YtdopdaoapdeabaaDoorRefP
import Derived.Test.YtdopdaoapdeabaaDoorCipW
namespace Go.Proofs.YtdopdaoapdeabaaDoor
open Go.RowKit

set_option maxRecDepth 100000 in
set_option maxHeartbeats 2000000 in
theorem rbox_any (w : World) :
    Calls Tryd.prog 28 #[] w fun e w' => ∃ v, e = .returned v ∧ w'.ownsRow w.heap.size 3 1 v 256 (ks .i64 sbox) ∧ Below w.heap.size w w' := by
  have hmk : ∀ w, (Instr.makeSlice 34 (.int .i64 256) (.int .i64 256)).run Tryd.prog w = .ok (.slice (some ⟨w.heap.size, 0, none⟩) 256 256) (w.alloc (.cells (kx .i64 (zeros 256)) 3)) := fun _ => by kernel_rfl
  go_enter Tryd.func28, Tryd.ntmps28
  go_wp2
  have hB0 : Nums .i64 (w.alloc (.cells (kx .i64 (zeros 256)) 3)) w.heap.size (invL 1) 3 := by rw [invL_one]; exact Nums.new _ _ _ _
  have hW0 : Below w.heap.size w (w.alloc (.cells (kx .i64 (zeros 256)) 3)) := (Below.refl _ _).alloc (Nat.le_refl _) _
  generalize w.alloc (.cells (kx .i64 (zeros 256)) 3) = W at hB0 hW0 ⊢
  generalize hN : w.heap.size = N at hB0 hW0 ⊢
  have HN := Lib.hid hN
  clear hN hmk
  go_loopg [2] 255 (fun g a' wr => ∃ a : Nat, a + g = 256 ∧ 1 ≤ a ∧ a' = .int .i64 a ∧ Nums .i64 wr N (invL a) 3 ∧ Below N w wr)
  case atStart => exact ⟨1, by omega, by omega, rfl, hB0, hW0⟩
  case round =>
    clear hB0 hW0
    obtain ⟨a, hag, ha1, rfl, hB, hb⟩ := hrel
    by_cases hlt : a < 256
    · have hlti : (a : Int) < 256 := by omega
      have hgv := ginv_lt hlt
      go_wp2
      obtain rfl : gk = 256 - a := by omega
      obtain ⟨wo, hwo⟩ : ∃ wo : World, wo = wr := ⟨_, rfl⟩
      rw [← hwo] at hB hb ⊢
      clear hwo wr
      go_loopg [3, 4] 6 (fun g b' i' wr => ∃ b : Nat, wo = wr ∧ g ≤ 6 ∧ b' = .int .i64 b ∧ b < 256 ∧ i' = .int .i64 (6 - (g : Int)) ∧ Hid (ginvUp g a b = ginv a))
      case atStart => exact ⟨a, rfl, by omega, rfl, hlt, rfl, rfl⟩
      case round =>
        obtain ⟨b, rfl, hg6, rfl, hb256, rfl, hgi⟩ := hrel
        have hbb := gmul_lt b hb256
        have hbba := gmul_lt a hbb
        have hcell := hB.cell (i := a) (by rw [invL_length]; exact hlt)
        have hfree := hB.free a
        rcases Nat.eq_zero_or_pos gk with h0 | h0
        · subst h0
          have hset := hB.set a (ginv a)
          rw [invL_set hlt] at hset
          have hgb : gmul b b = ginv a := hgi.out
          go_wp2_with fail
          refine (rmul_any _ _ _ (by omega) (by omega) (by omega) (by omega)).mono ?_
          rw [Int.toNat_natCast, hgb]
          clear hgb
          rintro e w' ⟨rfl, rfl⟩
          go_wp2_with fail
          go_roundg (256 - (a + 1))
          case measure => omega
          case rel => exact ⟨a + 1, by omega, by omega, by go_num, hset, hb.setCell (Nat.le_refl _) _⟩
        · obtain ⟨j, rfl⟩ : ∃ j, gk = j + 1 := ⟨gk - 1, by omega⟩
          have hi : (6 : Int) - ((j + 1 : Nat) : Int) = 5 - (j : Int) := by omega
          rw [hi]
          go_wp2_with fail
          refine (rmul_any _ _ _ (by omega) (by omega) (by omega) (by omega)).mono ?_
          rw [Int.toNat_natCast]
          rintro e w' ⟨rfl, rfl⟩
          go_wp2_with fail
          refine (rmul_any _ _ _ (by omega) (by omega) (by omega) (by omega)).mono ?_
          rw [Int.toNat_natCast, Int.toNat_natCast]
          rintro e w' ⟨rfl, rfl⟩
          go_wp2_with fail
          go_roundg j
          case measure => omega
          case rel => exact ⟨gmul (gmul b b) a, rfl, by omega, rfl, hbba, by congr 1; omega, hgi.out⟩
    · have hlti : ¬ (a : Int) < 256 := by omega
      obtain rfl : a = 256 := by omega
      go_wp2
      obtain rfl : gk = 0 := by omega
      obtain ⟨wo, hwo⟩ : ∃ wo : World, wo = wr := ⟨_, rfl⟩
      rw [← hwo] at hB hb ⊢
      clear hwo wr
      have hinfo : (Tryd.prog.info? 3).map (fun i => (i.zero, i.size, i.bytes)) = some (some (.int .i64 0), 1, 8) := by kernel_rfl
      obtain ⟨i0, hi0, hz0, hz1, hz2⟩ := info_parts hinfo
      have Hi := Lib.hid (And.intro hi0 (And.intro hz0 (And.intro hz1 hz2)))
      clear hinfo hi0 hz0 hz1 hz2
      go_loopg [5, 6] 256 (fun g v a' wr => ∃ a : Nat, a + g = 256 ∧ a' = .int .i64 a ∧ wr.ownsRow (N + 1) 3 1 v a (ks .i64 (sbox.take a)) ∧ Nums .i64 wr N (invL 256) 3 ∧ Below N w wr)
      case atStart => exact ⟨0, by omega, rfl, World.ownsRow_nil _ _ _ _, hB, hb⟩
      case round =>
        clear hB hb
        obtain ⟨a, hag, rfl, hown, hB, hb⟩ := hrel
        by_cases hlt : a < 256
        · have hlti : (a : Int) < 256 := by omega
          go_wp2
          obtain rfl : gk = 256 - a := by omega
          obtain ⟨wo, hwo⟩ : ∃ wo : World, wo = wr := ⟨_, rfl⟩
          rw [← hwo] at hown hB hb ⊢
          clear hwo wr
          have hgl := ginv_lt hlt
          go_loopg [7, 8] 8 (fun g n' i' wr => ∃ i : Nat, i + g = 8 ∧ n' = .int .i64 (rnum (ginv a) i : Nat) ∧ i' = .int .i64 i ∧ wr.ownsRow (N + 1) 3 1 u5 a (ks .i64 (sbox.take a)) ∧ Nums .i64 wr N (invL 256) 3 ∧ Below N w wr)
          case atStart => exact ⟨0, rfl, rfl, rfl, hown, hB, hb⟩
          case round =>
            clear hown hB hb
            obtain ⟨i, hig, rfl, rfl, hown, hB, hb⟩ := hrel
            by_cases hi8 : i < 8
            · have hi8i : (i : Int) < 8 := by omega
              have e99 := shr99 i
              go_wp2
              obtain rfl : gk = 8 - i := by omega
              obtain ⟨w5, hwo⟩ : ∃ w5 : World, w5 = wr := ⟨_, rfl⟩
              rw [← hwo] at hown hB hb ⊢
              clear hwo wr e99
              go_loopg [9, 10] 5 (fun g b' k' wr => ∃ k : Nat, k + g = 5 ∧ b' = .int .i64 (rbitUp (ginv a) i k : Nat) ∧ k' = .int .i64 k ∧ wr.ownsRow (N + 1) 3 1 u5 a (ks .i64 (sbox.take a)) ∧ Nums .i64 wr N (invL 256) 3 ∧ Below N w wr)
              case atStart => exact ⟨0, rfl, rfl, rfl, hown, hB, hb⟩
              case round =>
                clear hown hB hb
                obtain ⟨k, hkg, rfl, rfl, hown, hB, hb⟩ := hrel
                by_cases hk5 : k < 5
                · have hk5i : (k : Int) < 5 := by omega
                  obtain ⟨j, hj, hj7⟩ : ∃ j, [0, 4, 5, 6, 7].getD k 0 = j ∧ j ≤ 7 := ⟨_, rfl, jk_le k hk5⟩
                  have hjc : (wr.alloc (.cells #[.int .i64 0, .int .i64 4, .int .i64 5, .int .i64 6, .int .i64 7] 3)).cell? ⟨wr.heap.size, k, none⟩ = some (.int .i64 (j : Int)) := by
                    have := (Nums.new .i64 wr [0, 4, 5, 6, 7] 3).cell (i := k) (by simp; omega)
                    rw [hj] at this
                    exact this
                  have Hj := Lib.hid hj
                  clear hj
                  have hcell : (wr.alloc (.cells #[.int .i64 0, .int .i64 4, .int .i64 5, .int .i64 6, .int .i64 7] 3)).cell? ⟨N, a, none⟩ = some (.int .i64 (ginv a : Nat)) := by
                    have := (hB.old (.cells #[.int .i64 0, .int .i64 4, .int .i64 5, .int .i64 6, .int .i64 7] 3)).cell (i := a) (by rw [invL_length]; exact hlt)
                    rw [invL_get hlt, if_pos hlt] at this
                    exact this
                  have hbl := rbitUp_lt (ginv a) i k
                  go_wp2
                  go_roundg (gk - 1)
                  case measure => omega
                  case rel =>
                    refine ⟨k + 1, by omega, ?_, by go_num, hown.alloc _, hB.old _, hb.alloc (Nat.le_of_lt (by have := hB.lt; omega)) _⟩
                    rw [rbit_step (by omega)]
                    rw [rbitUp, Hj.out]
                · have hk5i : ¬ (k : Int) < 5 := by omega
                  obtain rfl : k = 5 := by omega
                  go_wp2
                  go_roundg (8 - (i + 1))
                  case measure => omega
                  case rel => exact ⟨i + 1, by omega, by rw [rnum_step hi8 (rnum_lt _ _)]; rfl, by go_num, hown, hB, hb⟩
            · have hi8i : ¬ (i : Int) < 8 := by omega
              obtain rfl : i = 8 := by omega
              obtain rfl : gk = 0 := by omega
              rw [rnum_box a hlt] at *
              have c3 : a + 1 ≤ maxLen := by unfold maxLen; omega
              have c5 : N + 1 ≤ (wr.alloc (.cells #[.int .i64 (sbox.getD a 0 : Nat)] 3)).heap.size := by have := hB.lt; simp; omega
              have hown' := hown.alloc (.cells #[.int .i64 (sbox.getD a 0 : Nat)] 3)
              have hB' := hB.old (.cells #[.int .i64 (sbox.getD a 0 : Nat)] 3)
              have hb' := hb.alloc (Nat.le_of_lt hB.lt) (.cells #[.int .i64 (sbox.getD a 0 : Nat)] 3)
              go_wp2_with (at_builtin; refine wpList_append_own _ rfl _ _ 34 rfl (N + 1) 3 i0 (.int .i64 0) 1 8 Tryd.underlying34 Hi.out.1 Hi.out.2.1 Hi.out.2.2.1 Hi.out.2.2.2 rfl (by decide) _ _ _ rfl hown' ⟨wr.heap.size, 0, none⟩ 1 1 [.int .i64 (sbox.getD a 0 : Nat)] rfl rfl (cell_one_new _ _ _) (ks_one .i64 [sbox.getD a 0]) c3 (by omega) c5 ?_; intro v' w1 hown1 hgrow _)
              go_roundg (256 - (a + 1))
              case measure => omega
              case rel =>
                rw [take_snoc_ks (by rw [sbox_length]; exact hlt)] at hown1
                refine ⟨a + 1, by omega, by go_num, hown1, hB'.grown hgrow ?_, hb'.grown hgrow (by omega) ?_⟩
                · intro e
                  have := hown.lt N e.symm
                  omega
                · intro k hk
                  have := hown.lt k hk
                  omega
        · have hlti : ¬ (a : Int) < 256 := by omega
          obtain rfl : a = 256 := by omega
          go_wp2
          go_ret
          refine ⟨_, rfl, ?_, ?_⟩
          · rw [HN.out]
            have := owns_mono hown (Nat.le_succ N)
            rwa [List.take_of_length_le (by rw [sbox_length]; omega)] at this
          · rw [HN.out]; exact hb
end Go.Proofs.YtdopdaoapdeabaaDoor
