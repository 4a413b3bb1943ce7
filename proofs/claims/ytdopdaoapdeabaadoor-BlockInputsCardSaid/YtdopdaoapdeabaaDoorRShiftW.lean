/- WALK: sacristanref04.shift. -/
import Derived.Test.YtdopdaoapdeabaaDoorRowL
namespace Go.Proofs.YtdopdaoapdeabaaDoor
open Go.RowKit

theorem shift_at {l : List Nat} (hl : l.length = 16) {c r : Nat} (hc : c < 4) (hr : r < 4) : (shiftL l).getD (4 * c + r) 0 = sbox.getD (l.getD (4 * ((c + r) % 4) + r) 0) 0 := by
  rw [shiftL, upd_get (by omega), if_pos (by omega), shiftF, show (4 * c + r + 4 * ((4 * c + r) % 4)) % 16 = 4 * ((c + r) % 4) + r by omega]

set_option maxRecDepth 100000 in
set_option maxHeartbeats 2000000 in
theorem rshift_any (v1 v2 : Value) (l : List Nat) (w : World) (h1 : Reads w v1 (ks .i64 l)) (h2 : Reads w v2 (ks .i64 sbox)) (hl : l.length = 16) (hlt : ∀ x ∈ l, x < 256) :
    Calls Tryd.prog 55 #[v1, v2] w fun e w' => ∃ v, e = .returned v ∧ w'.ownsRow w.heap.size 3 1 v 16 (ks .i64 (shiftL l)) ∧ Below w.heap.size w w' := by
  have hsl := sbox_length
  obtain ⟨b1, o1, c1, rfl, hc1, hb1, _⟩ := h1.get (i := 0) (by omega)
  obtain ⟨b2, o2, c2, rfl, hc2, hb2, _⟩ := h2.get (i := 0) (by omega)
  have hinfo : (Tryd.prog.info? 3).map (fun i => (i.zero, i.size, i.bytes)) = some (some (.int .i64 0), 1, 8) := by kernel_rfl
  obtain ⟨i0, hi0, hz0, hz1, hz2⟩ := info_parts hinfo
  have Hi := Lib.hid (And.intro hi0 (And.intro hz0 (And.intro hz1 hz2)))
  have Hl := Lib.hid (And.intro hl hlt)
  have HR := Lib.hid (And.intro h1 h2)
  rw [hl] at hc1 HR ⊢
  rw [hsl] at hc2 HR ⊢
  clear hinfo hi0 hz0 hz1 hz2 h1 h2 hl hlt hsl
  obtain ⟨N, hN⟩ : ∃ N, w.heap.size = N := ⟨_, rfl⟩
  rw [hN] at hb1 hb2 ⊢
  have HN := Lib.hid hN
  clear hN
  go_enter Tryd.func55, Tryd.ntmps55
  go_wp2_with fail
  go_loopg [5, 6] 4 (fun g v i' wr => ∃ c : Nat, c + g = 4 ∧ i' = .int .i64 c ∧ wr.ownsRow N 3 1 v (4 * c) (ks .i64 ((shiftL l).take (4 * c))) ∧ Below N w wr)
  case atStart => exact ⟨0, rfl, rfl, World.ownsRow_nil _ _ _ _, Below.refl _ _⟩
  case round =>
    obtain ⟨c, hcg, rfl, hown, hbel⟩ := hrel
    by_cases hclt : c < 4
    · have hclti : (c : Int) < 4 := by omega
      obtain rfl : gk = 4 - c := by omega
      go_wp2_with fail
      go_loopg [5, 7] 4 (fun g v i' wr => ∃ r : Nat, r + g = 4 ∧ i' = .int .i64 r ∧ wr.ownsRow N 3 1 v (4 * c + r) (ks .i64 ((shiftL l).take (4 * c + r))) ∧ Below N w wr)
      case atStart => exact ⟨0, rfl, rfl, hown, hbel⟩
      case round =>
        clear hown hbel
        obtain ⟨r, hrg, rfl, hown, hbel⟩ := hrel
        by_cases hrlt : r < 4
        · have hrlti : (r : Int) < 4 := by omega
          obtain ⟨p, hp⟩ : ∃ p, 4 * ((c + r) % 4) + r = p := ⟨_, rfl⟩
          have hp16 : p < 16 := by omega
          have hpi : 4 * (((c : Int) + (r : Int)) % 4) + (r : Int) = (p : Int) := by omega
          obtain ⟨x, hx⟩ : ∃ x, l.getD p 0 = x := ⟨_, rfl⟩
          have hx256 : x < 256 := by rw [← hx]; exact getD_lt Hl.out.2 p
          obtain ⟨z, hz⟩ : ∃ z, sbox.getD x 0 = z := ⟨_, rfl⟩
          have hBsz : N ≤ wr.heap.size := by rw [← HN.out]; exact hbel.size
          have hq1 : wr.cell? ⟨b1, o1 + p, none⟩ = some (.int .i64 (x : Nat)) := by
            obtain ⟨b, o, c, hv, _, _, h⟩ := HR.out.1.get (i := p) (by rw [Hl.out.1]; exact hp16)
            injection hv with e1 e2 e3
            injection e1 with e1
            injection e1 with e1 e4
            subst e1 e4
            rw [hbel.cell (p := ⟨b1, o1 + p, none⟩) hb1, h, hx]
          have hq2 : wr.cell? ⟨b2, o2 + x, none⟩ = some (.int .i64 (z : Nat)) := by
            obtain ⟨b, o, c, hv, _, _, h⟩ := HR.out.2.get (i := x) (by rw [sbox_length]; exact hx256)
            injection hv with e1 e2 e3
            injection e1 with e1
            injection e1 with e1 e4
            subst e1 e4
            rw [hbel.cell (p := ⟨b2, o2 + x, none⟩) hb2, h, hz]
          have Hz : Hid ((shiftL l).getD (4 * c + r) 0 = z) := by
            show (shiftL l).getD (4 * c + r) 0 = z
            rw [shift_at Hl.out.1 hclt hrlt, hp, hx, hz]
          have hxi : (0 : Int) ≤ (x : Int) ∧ (x : Int) < 256 := ⟨by omega, by omega⟩
          have hpi0 : (0 : Int) ≤ (p : Int) ∧ (p : Int) < 16 := ⟨by omega, by omega⟩
          have hown' := hown.alloc (.cells #[.int .i64 (z : Nat)] 3)
          have hb' := hbel.alloc hBsz (.cells #[.int .i64 (z : Nat)] 3)
          have c5 : N ≤ (wr.alloc (.cells #[.int .i64 (z : Nat)] 3)).heap.size := by simp; omega
          clear hx hz hp
          go_wp2_with (at_builtin; refine wpList_append_own _ rfl _ _ 34 rfl N 3 i0 (.int .i64 0) 1 8 Tryd.underlying34 Hi.out.1 Hi.out.2.1 Hi.out.2.2.1 Hi.out.2.2.2 rfl (by decide) _ _ _ rfl hown' ⟨wr.heap.size, 0, none⟩ 1 1 [.int .i64 (z : Nat)] rfl rfl (cell_one_new _ _ _) (ks_one .i64 [z]) (by unfold maxLen; omega) (by omega) c5 ?_; intro v' w1 hown1 hgrow _)
          go_roundg (gk - 1)
          case measure => omega
          case rel =>
            rw [take_snoc_ks' (by rw [shiftL_length, Hl.out.1]; omega) Hz.out] at hown1
            exact ⟨r + 1, by omega, by go_num, hown1, hb'.grown hgrow c5 (fun k hk => (hown.lt k hk).1)⟩
        · have hrlti : ¬ (r : Int) < 4 := by omega
          obtain rfl : r = 4 := by omega
          go_wp2_with fail
          go_roundg (4 - (c + 1))
          case measure => omega
          case rel => exact ⟨c + 1, by omega, by go_num, hown, hbel⟩
    · have hclti : ¬ (c : Int) < 4 := by omega
      obtain rfl : c = 4 := by omega
      go_wp2_with fail
      go_ret
      rw [List.take_of_length_le (by rw [shiftL_length, Hl.out.1]; omega)] at hown
      exact ⟨_, rfl, hown, hbel⟩
end Go.Proofs.YtdopdaoapdeabaaDoor
