/- WALK: sacristanref04.mix. -/
import Derived.Test.YtdopdaoapdeabaaDoorRowL
namespace Go.Proofs.YtdopdaoapdeabaaDoor
open Go.RowKit

/-- the factors -/
def mm : List Nat := [2, 3, 1, 1]
/-- a mixed byte, step by step -/
def rmixN (l : List Nat) (c r : Nat) : Nat → Nat
  | 0 => 0
  | k + 1 => rmixN l c r k ^^^ gmul (l.getD (4 * c + k) 0) (mm.getD ((k + 4 - r) % 4) 0)
theorem mm_lt (q : Nat) : mm.getD q 0 < 256 := getD_lt (by decide) q
theorem rmixN_lt {l : List Nat} (hl : ∀ x ∈ l, x < 256) (c r : Nat) : ∀ k, rmixN l c r k < 256
  | 0 => (by decide : 0 < 256)
  | k + 1 => xor_lt_256 (rmixN_lt hl c r k) (gmul_lt _ (getD_lt hl _))
theorem rmixN_all {l : List Nat} (hl : ∀ x ∈ l, x < 256) {c r : Nat} (hr : r < 4) : rmixN l c r 4 = mixF l (4 * c + r) := by
  have h0 := gmul_one (getD_lt hl (4 * c + 0))
  have h1 := gmul_one (getD_lt hl (4 * c + 1))
  have h2 := gmul_one (getD_lt hl (4 * c + 2))
  have h3 := gmul_one (getD_lt hl (4 * c + 3))
  have hc : r = 0 ∨ r = 1 ∨ r = 2 ∨ r = 3 := by omega
  rcases hc with rfl | rfl | rfl | rfl
  · rw [mixF, show (4 * c + 0) / 4 * 4 = 4 * c by omega, show (4 * c + 0) % 4 = 0 by omega, show (4 * c + 0 + 1) % 4 = 1 by omega, show (4 * c + 0 + 2) % 4 = 2 by omega, show (4 * c + 0 + 3) % 4 = 3 by omega]
    show 0 ^^^ gmul (l.getD (4 * c + 0) 0) 2 ^^^ gmul (l.getD (4 * c + 1) 0) 3 ^^^ gmul (l.getD (4 * c + 2) 0) 1 ^^^ gmul (l.getD (4 * c + 3) 0) 1 = _
    rw [h2, h3, Nat.zero_xor]
  · rw [mixF, show (4 * c + 1) / 4 * 4 = 4 * c by omega, show (4 * c + 1) % 4 = 1 by omega, show (4 * c + 1 + 1) % 4 = 2 by omega, show (4 * c + 1 + 2) % 4 = 3 by omega, show (4 * c + 1 + 3) % 4 = 0 by omega]
    show 0 ^^^ gmul (l.getD (4 * c + 0) 0) 1 ^^^ gmul (l.getD (4 * c + 1) 0) 2 ^^^ gmul (l.getD (4 * c + 2) 0) 3 ^^^ gmul (l.getD (4 * c + 3) 0) 1 = _
    rw [h0, h3, Nat.zero_xor]
    ac_rfl
  · rw [mixF, show (4 * c + 2) / 4 * 4 = 4 * c by omega, show (4 * c + 2) % 4 = 2 by omega, show (4 * c + 2 + 1) % 4 = 3 by omega, show (4 * c + 2 + 2) % 4 = 0 by omega, show (4 * c + 2 + 3) % 4 = 1 by omega]
    show 0 ^^^ gmul (l.getD (4 * c + 0) 0) 1 ^^^ gmul (l.getD (4 * c + 1) 0) 1 ^^^ gmul (l.getD (4 * c + 2) 0) 2 ^^^ gmul (l.getD (4 * c + 3) 0) 3 = _
    rw [h0, h1, Nat.zero_xor]
    ac_rfl
  · rw [mixF, show (4 * c + 3) / 4 * 4 = 4 * c by omega, show (4 * c + 3) % 4 = 3 by omega, show (4 * c + 3 + 1) % 4 = 0 by omega, show (4 * c + 3 + 2) % 4 = 1 by omega, show (4 * c + 3 + 3) % 4 = 2 by omega]
    show 0 ^^^ gmul (l.getD (4 * c + 0) 0) 3 ^^^ gmul (l.getD (4 * c + 1) 0) 1 ^^^ gmul (l.getD (4 * c + 2) 0) 1 ^^^ gmul (l.getD (4 * c + 3) 0) 2 = _
    rw [h1, h2, Nat.zero_xor]
    ac_rfl

/-- while columns are mixed -/
structure SM (w X : World) (N : Nat) (v : Value) (n : Nat) (xs : List Value) : Prop where
  own : X.ownsRow (N + 1) 3 1 v n xs
  m : Nums .i64 X N mm 3
  bel : Below N w X
theorem SM.drew {w X : World} {N : Nat} {v : Value} {n : Nat} {xs : List Value} (h : SM w X N v n xs) : SM w X.drew N v n xs :=
  ⟨h.own.kept (grownBy_drew X none) (by by_cases e : v.ownBlock = none; exact .inl e; exact .inr e), h.m, h.bel.drew⟩

set_option maxRecDepth 100000 in
set_option maxHeartbeats 2000000 in
theorem rmix_any (v1 : Value) (l : List Nat) (w : World) (h1 : Reads w v1 (ks .i64 l)) (hl : l.length = 16) (hlt : ∀ x ∈ l, x < 256) :
    Calls Tryd.prog 56 #[v1] w fun e w' => ∃ v, e = .returned v ∧ w'.ownsRow w.heap.size 3 1 v 16 (ks .i64 (mixL l)) ∧ Below w.heap.size w w' := by
  obtain ⟨b1, o1, c1, rfl, hc1, hb1, _⟩ := h1.get (i := 0) (by omega)
  have hinfo : (Tryd.prog.info? 3).map (fun i => (i.zero, i.size, i.bytes)) = some (some (.int .i64 0), 1, 8) := by kernel_rfl
  obtain ⟨i0, hi0, hz0, hz1, hz2⟩ := info_parts hinfo
  have Hi := Lib.hid (And.intro hi0 (And.intro hz0 (And.intro hz1 hz2)))
  have Hl := Lib.hid (And.intro hl hlt)
  have HR := Lib.hid h1
  rw [hl] at hc1 HR ⊢
  clear hinfo hi0 hz0 hz1 hz2 h1 hl hlt
  obtain ⟨N, hN⟩ : ∃ N, w.heap.size = N := ⟨_, rfl⟩
  rw [hN] at hb1 ⊢
  have HN := Lib.hid hN
  have hM0 : SM w (w.alloc (.cells #[.int .i64 2, .int .i64 3, .int .i64 1, .int .i64 1] 3)) N (.slice none 0 0) 0 [] :=
    ⟨World.ownsRow_nil _ _ _ _, by rw [← hN]; exact Nums.new .i64 w mm 3, by rw [← hN]; exact (Below.refl _ _).alloc (Nat.le_refl _) _⟩
  go_enter Tryd.func56, Tryd.ntmps56
  go_upto_region 2 with (fail)
  generalize w.alloc (.cells #[.int .i64 2, .int .i64 3, .int .i64 1, .int .i64 1] 3) = W at hM0 ⊢
  clear hN
  go_wp2_with fail
  go_loopg [4, 5] 4 (fun g v i' wr => ∃ c : Nat, c + g = 4 ∧ i' = .int .i64 c ∧ SM w wr N v (4 * c) (ks .i64 ((mixL l).take (4 * c))))
  case atStart => exact ⟨0, rfl, rfl, hM0⟩
  case round =>
    clear hM0
    obtain ⟨c, hcg, rfl, hM⟩ := hrel
    by_cases hclt : c < 4
    · have hclti : (c : Int) < 4 := by omega
      obtain rfl : gk = 4 - c := by omega
      go_wp2_with fail
      go_loopg [4, 6] 4 (fun g v i' wr => ∃ r : Nat, r + g = 4 ∧ i' = .int .i64 r ∧ SM w wr N v (4 * c + r) (ks .i64 ((mixL l).take (4 * c + r))))
      case atStart => exact ⟨0, rfl, rfl, hM⟩
      case round =>
        clear hM
        obtain ⟨r, hrg, rfl, hM⟩ := hrel
        by_cases hrlt : r < 4
        · have hrlti : (r : Int) < 4 := by omega
          obtain rfl : gk = 4 - r := by omega
          have hall := rmixN_all Hl.out.2 (c := c) hrlt
          have Hall := Lib.hid hall
          clear hall
          obtain ⟨vo, hvo⟩ : ∃ vo, u4 = vo := ⟨_, rfl⟩
          rw [hvo] at hM
          have HV := Lib.hid hvo
          go_wp2_with fail
          rw [hvo]
          clear hvo
          go_loopg [7, 8] 4 (fun g n' i' wr => ∃ j : Nat, j + g = 4 ∧ n' = .int .i64 (rmixN l c r j) ∧ i' = .int .i64 j ∧ SM w wr N vo (4 * c + r) (ks .i64 ((mixL l).take (4 * c + r))))
          case atStart => exact ⟨0, rfl, rfl, rfl, hM⟩
          case round =>
            clear hM
            obtain ⟨j, hjg, rfl, rfl, hM⟩ := hrel
            have hn256 := rmixN_lt Hl.out.2 c r j
            by_cases hjlt : j < 4
            · have hjlti : (j : Int) < 4 := by omega
              obtain ⟨p, hp⟩ : ∃ p, 4 * c + j = p := ⟨_, rfl⟩
              have hp16 : p < 16 := by omega
              have hw1 : IntKind.i64.wrap (4 * (c : Int)) = 4 * (c : Int) := wrap_small (by omega) (by omega)
              have hw2 : IntKind.i64.wrap (4 * (c : Int) + (j : Int)) = (p : Int) := by rw [wrap_small (by omega) (by omega)]; omega
              obtain ⟨q, hq⟩ : ∃ q, (j + 4 - r) % 4 = q := ⟨_, rfl⟩
              have hq4 : q < 4 := by omega
              have hw3 : IntKind.i64.wrap ((j : Int) - (r : Int)) = (j : Int) - (r : Int) := wrap_small (by omega) (by omega)
              have hw4 : IntKind.i64.wrap ((j : Int) - (r : Int) + 4) = ((j + 4 - r : Nat) : Int) := by rw [wrap_small (by omega) (by omega)]; omega
              have hw5 : Int.tmod ((j + 4 - r : Nat) : Int) 4 = (q : Int) := by rw [Int.tmod_eq_emod_of_nonneg (by omega)]; omega
              obtain ⟨x, hx⟩ : ∃ x, l.getD p 0 = x := ⟨_, rfl⟩
              have hx256 : x < 256 := by rw [← hx]; exact getD_lt Hl.out.2 p
              obtain ⟨y, hy⟩ : ∃ y, mm.getD q 0 = y := ⟨_, rfl⟩
              have hy256 : y < 256 := by rw [← hy]; exact mm_lt q
              obtain ⟨g, hg⟩ : ∃ g, gmul x y = g := ⟨_, rfl⟩
              have hg256 : g < 256 := by rw [← hg]; exact gmul_lt y hx256
              have hns : rmixN l c r (j + 1) = rmixN l c r j ^^^ g := by rw [rmixN, hp, hq, hx, hy, hg]
              obtain ⟨n, hn⟩ : ∃ n, rmixN l c r j = n := ⟨_, rfl⟩
              rw [hn] at hns hn256 ⊢
              have hxy := xor_i64 (x := n) (y := g) (by omega) (by omega)
              obtain ⟨z, hz⟩ : ∃ z, n ^^^ g = z := ⟨_, rfl⟩
              rw [hz] at hxy hns
              have hq1 : wr.cell? ⟨b1, o1 + p, none⟩ = some (.int .i64 (x : Nat)) := by
                obtain ⟨b, o, c, hv, _, _, h⟩ := HR.out.get (i := p) (by rw [Hl.out.1]; exact hp16)
                injection hv with e1 e2 e3
                injection e1 with e1
                injection e1 with e1 e4
                subst e1 e4
                rw [hM.bel.cell (p := ⟨b1, o1 + p, none⟩) hb1, h, hx]
              have hq2 : wr.cell? ⟨N, q, none⟩ = some (.int .i64 (y : Nat)) := by
                rw [hM.m.cell (i := q) hq4, hy]
              have Hn := Lib.hid hns
              have Hg := Lib.hid hg
              have HH := Lib.hid hM
              have hpi0 : (0 : Int) ≤ (p : Int) ∧ (p : Int) < 16 := ⟨by omega, by omega⟩
              have hqi0 : (0 : Int) ≤ (q : Int) ∧ (q : Int) < 4 := ⟨by omega, by omega⟩
              clear hM hx hy hg hn hz hns hp hq
              go_upto_region 13 with (fail)
              refine wp_region_held_drew (S := (fun w' => w'.cell? ⟨b1, o1 + p, none⟩ = some (.int .i64 (x : Nat)) ∧ w'.cell? ⟨N, q, none⟩ = some (.int .i64 (y : Nat)))) (by kernel_rfl) ?_ (fun hHeld => ?_)
              · exact ⟨hq1, hq2⟩
              refine take_run (v := ?_) 0 (some 22) rfl rfl (by kernel_rfl) (by kernel_rfl) (by kernel_rfl) (fun _ _ _ h => h) hHeld (by rfl) ?_ ?_
              rotate_left
              · intro _ hSw; go_simp; try with_reducible rfl
              simp only [Act.put, List.setIfInBounds_toArray, List.set_cons_zero, List.set_cons_succ]
              refine take_run (v := ?_) 1 (some 23) rfl rfl (by kernel_rfl) (by kernel_rfl) (by kernel_rfl) (fun _ _ _ h => h) hHeld (by rfl) ?_ ?_
              rotate_left
              · intro _ hSw; go_simp; try with_reducible rfl
              simp only [Act.put, List.setIfInBounds_toArray, List.set_cons_zero, List.set_cons_succ]
              refine take_run (v := ?_) 2 (some 24) rfl rfl (by kernel_rfl) (by kernel_rfl) (by kernel_rfl) (fun _ _ _ h => h) hHeld (by rfl) ?_ ?_
              rotate_left
              · intro _ hSw; go_simp; try with_reducible rfl
              simp only [Act.put, List.setIfInBounds_toArray, List.set_cons_zero, List.set_cons_succ]
              refine take_run (v := ?_) 3 (some 25) rfl rfl (by kernel_rfl) (by kernel_rfl) (by kernel_rfl) (fun _ _ _ h => h) hHeld (by rfl) ?_ ?_
              rotate_left
              · intro _ hSw; go_simp; try with_reducible rfl
              simp only [Act.put, List.setIfInBounds_toArray, List.set_cons_zero, List.set_cons_succ]
              refine take_run (v := ?_) 4 (some 26) rfl rfl (by kernel_rfl) (by kernel_rfl) (by kernel_rfl) (fun _ _ _ h => h) hHeld (by rfl) ?_ ?_
              rotate_left
              · intro _ hSw; go_simp; try with_reducible rfl
              simp only [Act.put, List.setIfInBounds_toArray, List.set_cons_zero, List.set_cons_succ]
              refine take_run (v := ?_) 5 (some 27) rfl rfl (by kernel_rfl) (by kernel_rfl) (by kernel_rfl) (fun _ _ _ h => h) hHeld (by rfl) ?_ ?_
              rotate_left
              · intro _ hSw; go_simp; try with_reducible rfl
              simp only [Act.put, List.setIfInBounds_toArray, List.set_cons_zero, List.set_cons_succ]
              refine take_run (v := ?_) 6 (some 28) rfl rfl (by kernel_rfl) (by kernel_rfl) (by kernel_rfl) (fun _ _ _ h => h) hHeld (by rfl) ?_ ?_
              rotate_left
              · intro _ hSw; go_simp; try with_reducible rfl
              simp only [Act.put, List.setIfInBounds_toArray, List.set_cons_zero, List.set_cons_succ]
              refine take_run (v := ?_) 7 (some 29) rfl rfl (by kernel_rfl) (by kernel_rfl) (by kernel_rfl) (fun _ _ _ h => h) hHeld (by rfl) ?_ ?_
              rotate_left
              · intro _ hSw; go_simp; try with_reducible rfl
              simp only [Act.put, List.setIfInBounds_toArray, List.set_cons_zero, List.set_cons_succ]
              refine take_run (v := ?_) 8 (some 30) rfl rfl (by kernel_rfl) (by kernel_rfl) (by kernel_rfl) (fun _ _ _ h => h) hHeld (by rfl) ?_ ?_
              rotate_left
              · intro _ hSw; go_simp; try with_reducible rfl
              simp only [Act.put, List.setIfInBounds_toArray, List.set_cons_zero, List.set_cons_succ]
              refine take_run (v := ?_) 9 (some 31) rfl rfl (by kernel_rfl) (by kernel_rfl) (by kernel_rfl) (fun _ _ _ h => h) hHeld (by rfl) ?_ ?_
              rotate_left
              · intro _ hSw; go_simp; try with_reducible rfl
              simp only [Act.put, List.setIfInBounds_toArray, List.set_cons_zero, List.set_cons_succ]
              refine take_run (v := ?_) 10 (some 32) rfl rfl (by kernel_rfl) (by kernel_rfl) (by kernel_rfl) (fun _ _ _ h => h) hHeld (by rfl) ?_ ?_
              rotate_left
              · intro _ hSw; go_simp; try with_reducible rfl
              simp only [Act.put, List.setIfInBounds_toArray, List.set_cons_zero, List.set_cons_succ]
              refine take_run (v := ?_) 11 (some 33) rfl rfl (by kernel_rfl) (by kernel_rfl) (by kernel_rfl) (fun _ _ _ h => h) hHeld (by rfl) ?_ ?_
              rotate_left
              · intro _ hSw; go_simp; try with_reducible rfl
              simp only [Act.put, List.setIfInBounds_toArray, List.set_cons_zero, List.set_cons_succ]
              refine take_run (v := ?_) 12 (some 34) rfl rfl (by kernel_rfl) (by kernel_rfl) (by kernel_rfl) (fun _ _ _ h => h) hHeld (by rfl) ?_ ?_
              rotate_left
              · intro _ hSw; go_simp; try with_reducible rfl
              simp only [Act.put, List.setIfInBounds_toArray, List.set_cons_zero, List.set_cons_succ]
              refine take_run (v := ?_) 13 (some 35) rfl rfl (by kernel_rfl) (by kernel_rfl) (by kernel_rfl) (fun _ _ _ h => h) hHeld (by rfl) ?_ ?_
              rotate_left
              · intro _ hSw; go_simp; try with_reducible rfl
              simp only [Act.put, List.setIfInBounds_toArray, List.set_cons_zero, List.set_cons_succ]
              refine take_run (v := ?_) 14 (some 36) rfl rfl (by kernel_rfl) (by kernel_rfl) (by kernel_rfl) (fun _ _ _ h => h) hHeld (by rfl) ?_ ?_
              rotate_left
              · intro _ hSw; go_simp; try with_reducible rfl
              simp only [Act.put, List.setIfInBounds_toArray, List.set_cons_zero, List.set_cons_succ]
              refine take_run (v := ?_) 15 (some 37) rfl rfl (by kernel_rfl) (by kernel_rfl) (by kernel_rfl) (fun _ _ _ h => h) hHeld (by rfl) ?_ ?_
              rotate_left
              · intro _ hSw; go_simp; try with_reducible rfl
              simp only [Act.put, List.setIfInBounds_toArray, List.set_cons_zero, List.set_cons_succ]
              refine call_at (f := ?_) (args := ?_) 16 (some 38) rfl rfl (by kernel_rfl) (by rfl) ?_ ?_
              rotate_left 2
              · go_simp; first | (refine ⟨?_, ?_⟩ <;> with_reducible rfl) | with_reducible rfl
              refine (rmul_any (x : Int) (y : Int) _ (by omega) (by omega) (by omega) (by omega)).mono ?_
              rintro _ w3 ⟨rfl, rfl⟩
              refine ⟨_, rfl, ?_, fun hHeld => ?_⟩
              · exact hHeld
              rw [Int.toNat_natCast, Int.toNat_natCast, Hg.out]
              simp only [Act.put, List.setIfInBounds_toArray, List.set_cons_zero, List.set_cons_succ]
              refine take_run (v := ?_) 17 (some 39) rfl rfl (by kernel_rfl) (by kernel_rfl) (by kernel_rfl) (fun _ _ _ h => h) hHeld (by rfl) ?_ ?_
              rotate_left
              · intro _ hSw; go_simp; try with_reducible rfl
              simp only [Act.put, List.setIfInBounds_toArray, List.set_cons_zero, List.set_cons_succ]
              refine take_run (v := ?_) 18 (some 7) rfl rfl (by kernel_rfl) (by kernel_rfl) (by kernel_rfl) (fun _ _ _ h => h) hHeld (by rfl) ?_ ?_
              rotate_left
              · intro _ hSw; go_simp; try with_reducible rfl
              simp only [Act.put, List.setIfInBounds_toArray, List.set_cons_zero, List.set_cons_succ]
              refine wpAnyH_done (by kernel_rfl) ?_ _
              go_wp2_with fail
              go_roundg (gk - 1)
              case measure => omega
              case rel => exact ⟨j + 1, by omega, by rw [Hn.out], by go_num, HH.out.drew⟩
            · have hjlti : ¬ (j : Int) < 4 := by omega
              obtain rfl : j = 4 := by omega
              rw [Hall.out]
              obtain ⟨z, hz⟩ : ∃ z, mixF l (4 * c + r) = z := ⟨_, rfl⟩
              rw [hz]
              have Hz : Hid ((mixL l).getD (4 * c + r) 0 = z) := by
                show (mixL l).getD (4 * c + r) 0 = z
                rw [mixL, upd_get (by rw [Hl.out.1]; omega), if_pos (by omega), hz]
              have hBsz : N + 1 ≤ wr.heap.size := hM.m.lt
              have hown' := hM.own.alloc (.cells #[.int .i64 (z : Nat)] 3)
              have hm' := hM.m.old (.cells #[.int .i64 (z : Nat)] 3)
              have hb' := hM.bel.alloc (by omega) (.cells #[.int .i64 (z : Nat)] 3)
              have c5 : N + 1 ≤ (wr.alloc (.cells #[.int .i64 (z : Nat)] 3)).heap.size := by simp; omega
              clear hz hn256
              go_wp2_with (at_builtin; refine wpList_append_own _ rfl _ _ 34 rfl (N + 1) 3 i0 (.int .i64 0) 1 8 Tryd.underlying34 Hi.out.1 Hi.out.2.1 Hi.out.2.2.1 Hi.out.2.2.2 rfl (by decide) _ _ _ rfl hown' ⟨wr.heap.size, 0, none⟩ 1 1 [.int .i64 (z : Nat)] rfl rfl (cell_one_new _ _ _) (ks_one .i64 [z]) (by unfold maxLen; omega) (by omega) c5 ?_; intro v' w1 hown1 hgrow _)
              go_roundg (4 - (r + 1))
              case measure => omega
              case rel =>
                rw [take_snoc_ks' (by rw [mixL_length, Hl.out.1]; omega) Hz.out] at hown1
                exact ⟨r + 1, by omega, by go_num, hown1, hm'.grown hgrow (fun e => by have := (hM.own.lt N e.symm).1; omega), hb'.grown hgrow (by omega) (fun k hk => by have := (hM.own.lt k hk).1; omega)⟩
        · have hrlti : ¬ (r : Int) < 4 := by omega
          obtain rfl : r = 4 := by omega
          go_wp2_with fail
          go_roundg (4 - (c + 1))
          case measure => omega
          case rel => exact ⟨c + 1, by omega, by go_num, hM⟩
    · have hclti : ¬ (c : Int) < 4 := by omega
      obtain rfl : c = 4 := by omega
      go_wp2_with fail
      go_ret
      have hown := owns_mono hM.own (Nat.le_succ N)
      rw [List.take_of_length_le (by rw [mixL_length, Hl.out.1]; omega)] at hown
      exact ⟨_, rfl, hown, hM.bel⟩
end Go.Proofs.YtdopdaoapdeabaaDoor
