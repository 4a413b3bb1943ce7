/- WALK: mix. -/
import Derived.Test.YtdopdaoapdeabaaDoorTurnW
namespace Go.Proofs.YtdopdaoapdeabaaDoor
open Go.RowKit

theorem rangeAt_grown {w w' : World} {b o : Nat} {cs : List Value} (h : w.rangeAt b o cs) {row : Option Nat} (hg : w.grownBy w' row) (hne : some b ≠ row) : w'.rangeAt b o cs := fun j v hj => hg.cell (h j v hj) hne
theorem range_get {w : World} {b o : Nat} {l : List Nat} (h : w.rangeAt b o (bs l)) {j : Nat} (hj : j < l.length) : w.cell? ⟨b, o + j, none⟩ = some (.int .u8 (l.getD j 0 : Nat)) := h j _ (bs_get hj)
theorem owns_range {w : World} {base : Nat} {e : TypeId} {v : Value} {n : Nat} {xs : List Value} (h : w.ownsRow base e 1 v n xs) (hn : 0 < n) :
    ∃ g cap, v = .slice (some ⟨g, 0, none⟩) n cap ∧ base ≤ g ∧ g < w.heap.size ∧ n ≤ cap ∧ w.rangeAt g 0 xs := by
  rcases h.2 with ⟨_, h0⟩ | ⟨g, cap, cur, hv, hb, hg, hnc, _⟩
  · omega
  · subst hv
    refine ⟨g, cap, rfl, hb, lt_of_block hg, hnc, fun j v hj => ?_⟩
    have hl := h.1
    rw [Nat.zero_add, h.cellAt j (by have := (List.getElem?_eq_some_iff.1 hj).1; omega)]; exact hj
theorem grown_below {B : Nat} {w w' : World} {row : Option Nat} (h : Below B w w') (hB : w.heap.size ≤ B) : w.grownBy w' row :=
  ⟨h.os, h.tape, h.output, h.size, fun k hk _ => h.block k (by omega)⟩

set_option maxRecDepth 100000 in
set_option maxHeartbeats 2000000 in
theorem mix_any (sb : Nat) (l : List Nat) (w : World) (hs : Bytes w sb l 22) (hl : l.length = 16) (hl' : ∀ x ∈ l, x < 256) :
    Calls Tryd.prog 47 #[.pointer (some ⟨sb, 0, none⟩)] w fun e w' => e = .returned (.tuple #[]) ∧ Bytes w' sb (mixL l) 22 ∧ w.grownBy w' (some sb) := by
  have Hl := Lib.hid hl
  clear hl
  have hinfo : (Tryd.prog.info? 5).map (fun i => (i.zero, i.size, i.bytes)) = some (some (.int .u8 0), 1, 1) := by kernel_rfl
  obtain ⟨i0, hi0, hz0, hz1, hz2⟩ := info_parts hinfo
  have Hi := Lib.hid (And.intro hi0 (And.intro hz0 (And.intro hz1 hz2)))
  clear hinfo hi0 hz0 hz1 hz2
  go_enter Tryd.func47, Tryd.ntmps47
  go_wp2
  go_loopg [2] 4 (fun g i' wr => ∃ c : Nat, c + g = 4 ∧ i' = .int .i64 ((4 * c : Nat) : Int) ∧ Bytes wr sb (upd (mixF l) l (4 * c)) 22 ∧ w.grownBy wr (some sb))
  case atStart => exact ⟨0, rfl, rfl, by rw [upd_zero]; exact hs, grownBy_refl _ _⟩
  case round =>
    clear hs
    obtain ⟨c, hcg, rfl, hB, hG⟩ := hrel
    by_cases hlt : c < 4
    · obtain ⟨p, hp⟩ : ∃ p, 4 * c = p := ⟨_, rfl⟩
      rw [hp] at hB ⊢
      have Hp := Lib.hid hp
      have hp16 : p + 4 ≤ 16 := by omega
      have hpi : (0 : Int) ≤ (p : Int) ∧ (p : Int) < 16 ∧ (p : Int) + 4 ≤ 16 := ⟨by omega, by omega, by omega⟩
      have hne : ¬ 16 = p := by omega
      obtain rfl : gk = 4 - c := by omega
      obtain ⟨wo, hwo⟩ : ∃ wo : World, wo = wr := ⟨_, rfl⟩
      rw [← hwo] at hB hG ⊢
      clear hwo wr hp
      have hsl : ∀ w', (Instr.sliceAt 22 (.pointer (some ⟨sb, 0, none⟩)) (some (.int .i64 (p : Int))) (some (.int .i64 ((p : Int) + 4))) none).run Tryd.prog w' = .ok (.slice (some ⟨sb, p, none⟩) 4 (16 - p)) w' := fun w' => by
        have := sliceAt_arr Tryd.underlying22 (by kernel_rfl) sb 0 p (p + 4) .i64 .i64 (by omega) (by omega) (by omega) w'
        rw [Nat.zero_add, show p + 4 - p = 4 by omega] at this
        exact this
      have hcl : ((l.drop p).take 4).length = 4 := by rw [List.length_take, List.length_drop, Hl.out]; omega
      have hnews : ∀ j u, (bs ((l.drop p).take 4))[j]? = some u → wo.cell? ((⟨sb, p, none⟩ : Addr).add j) = some u := fun j u hj => by
        have hj4 : j < 4 := by
          have := (List.getElem?_eq_some_iff.1 hj).1
          rw [bs_length, hcl] at this; exact this
        rw [Addr.add_mid, hB.cell (by rw [upd_length, Hl.out]; omega), ← hj, bs_get (by rw [hcl]; exact hj4), upd_get (by rw [Hl.out]; omega), if_neg (by omega)]
        simp [hj4]
      have Hn := Lib.hid hnews
      have Hcl := Lib.hid hcl
      clear hnews hcl
      go_wp2_with (at_builtin; refine wpList_append_own _ rfl _ _ 26 rfl wo.heap.size 5 i0 (.int .u8 0) 1 1 Tryd.underlying26 Hi.out.1 Hi.out.2.1 Hi.out.2.2.1 Hi.out.2.2.2 rfl (by decide) _ 0 [] rfl (World.ownsRow_nil _ _ _ _) ⟨sb, p, none⟩ 4 (16 - p) (bs ((l.drop p).take 4)) rfl (by rw [bs_length, Hcl.out]) Hn.out (bs_one _) (by unfold maxLen; omega) (by omega) (Nat.le_refl _) ?_; intro v1 w1 hown1 hgr1 hiff; clear hiff; have hgr : wo.grownBy w1 none := hgr1; clear hgr1; rw [Nat.zero_add, List.nil_append] at hown1; obtain ⟨cg, cap, hv1, hg1, hg2, hcap, hcr⟩ := owns_range hown1 (by omega); rw [hv1]; clear hown1 hv1)
      have hsbo := hB.lt
      have hB1 := hB.grown hgr (by simp)
      have hG1 : w.grownBy w1 (some sb) := grownBy_trans hG ⟨hgr.os, hgr.tape, hgr.output, hgr.size, fun i hi _ => hgr.block i hi (by simp)⟩
      have hcs : cg ≠ sb := by omega
      clear hgr hG hB hg1
      go_loopg [19] 4 (fun g k' wr => ∃ k : Nat, k + g = 4 ∧ k' = .int .i64 (k : Int) ∧ Bytes wr sb (upd (mixF l) l (p + k)) 22 ∧ wr.rangeAt cg 0 (bs ((l.drop p).take 4)) ∧ cg < wr.heap.size ∧ w.grownBy wr (some sb))
      case atStart => exact ⟨0, rfl, rfl, hB1, hcr, hg2, hG1⟩
      case round =>
        clear hB1 hcr hg2 hG1
        obtain ⟨k, hkg, rfl, hB, hcr, hg2, hG⟩ := hrel
        by_cases hk : k < 4
        · have hki : (k : Int) < 4 := by omega
          go_wp2_with fail
          refine (turned_any cg 0 4 cap k ((l.drop p).take 4) _ Hcl.out (by omega) hcap hk hcr hg2).mono ?_
          rintro e w2 ⟨v, rfl, hown, hb2⟩
          obtain ⟨tg, tcap, rfl, hg3, hg4, htcap, htr⟩ := owns_range hown (by omega)
          clear hown
          have hrl := rot4_length (l := l) (p := p) hk (by rw [Hl.out]; omega)
          have hrt := rot4_lt p k hl'
          change w2.rangeAt tg 0 (bs (rot4 l p k)) at htr
          have c0 := range_get htr (j := 0) (by omega)
          have c1 := range_get htr (j := 1) (by omega)
          have c2 := range_get htr (j := 2) (by omega)
          have c3 := range_get htr (j := 3) (by omega)
          have g0 := getD_lt hrt 0
          have g1 := getD_lt hrt 1
          have g2 := getD_lt hrt 2
          have g3 := getD_lt hrt 3
          have hmix := mix_rot (l := l) (c := c) hk (by rw [Hl.out]; omega)
          rw [Hp.out] at hmix
          simp only [Nat.zero_add] at c0 c1 c2 c3
          generalize (rot4 l p k).getD 0 0 = x0 at c0 g0 hmix
          generalize (rot4 l p k).getD 1 0 = x1 at c1 g1 hmix
          generalize (rot4 l p k).getD 2 0 = x2 at c2 g2 hmix
          generalize (rot4 l p k).getD 3 0 = x3 at c3 g3 hmix
          have hy0 := gmul_lt 2 g0
          have hy1 := gmul_lt 3 g1
          have z1 := bits_xor hy0 hy1
          have z1' := xor_lt_256 hy0 hy1
          have z2 := bits_xor z1' g2
          have z2' := xor_lt_256 z1' g2
          have z3 := bits_xor z2' g3
          obtain ⟨q, hq⟩ : ∃ q, p + k = q := ⟨_, rfl⟩
          obtain ⟨y, hy⟩ : ∃ y, gmul x0 2 ^^^ gmul x1 3 ^^^ x2 ^^^ x3 = y := ⟨_, rfl⟩
          rw [hq] at hB
          rw [hy] at hmix z3
          rw [hq] at hmix
          have hpq : IntKind.i64.wrap ((p : Int) + (k : Int)) = (q : Int) := by rw [IntKind.wrap_i64]; omega
          have hq16 : (0 : Int) ≤ (q : Int) ∧ (q : Int) < 16 := ⟨by omega, by omega⟩
          have hlt2 := hB.lt
          have hB2 := hB.below hb2 hlt2
          have hcr2 := rangeAt_below hcr hb2 (Nat.le_refl _)
          have hG2 := grownBy_trans hG (grown_below hb2 (Nat.le_refl _))
          have hgt : tg ≠ sb := by omega
          have hcg2 : cg < w2.heap.size := by have := hb2.size; omega
          obtain ⟨v0, hcell⟩ : ∃ v, w2.cell? ⟨sb, q, none⟩ = some v := ⟨_, hB2.cell (i := q) (by rw [upd_length, Hl.out]; omega)⟩
          have hfree := hB2.free q
          have hset := hB2.set q y
          have hcr3 : (w2.setCell ⟨sb, q, none⟩ (.int .u8 (y : Nat))).rangeAt cg 0 (bs ((l.drop p).take 4)) := rangeAt_grown hcr2 (grownBy_setCell _ _ _) (by simpa using hcs)
          have hG3 := grownBy_trans hG2 (grownBy_setCell w2 ⟨sb, q, none⟩ (.int .u8 (y : Nat)))
          have hs4 : ∀ j u, w2.cell? ⟨tg, j, none⟩ = some u → (w2.setCell ⟨sb, q, none⟩ (.int .u8 (y : Nat))).drew.cell? ⟨tg, j, none⟩ = some u := fun j u h => by
            show (w2.setCell ⟨sb, q, none⟩ (.int .u8 (y : Nat))).cell? ⟨tg, j, none⟩ = some u
            rw [World.cell?_setCell_other _ _ _ _ (by simp)]; exact h
          have S0 := Lib.hid (And.intro (hs4 0 _ c0) (And.intro (hs4 1 _ c1) (And.intro (hs4 2 _ c2) (hs4 3 _ c3))))
          clear hs4
          have HQ := Lib.hid (And.intro hq (And.intro hy hmix))
          clear hq hy hmix hB hB2 hcr hcr2 hG hG2 htr hb2 hrt hrl z1' z2' hg2
          go_wp2_with fail
          go_region_held3 (fun w' => w'.cell? ⟨tg, 0, none⟩ = some (.int .u8 (x0 : Nat)) ∧ w'.cell? ⟨tg, 1, none⟩ = some (.int .u8 (x1 : Nat)) ∧ w'.cell? ⟨tg, 2, none⟩ = some (.int .u8 (x2 : Nat)) ∧ w'.cell? ⟨tg, 3, none⟩ = some (.int .u8 (x3 : Nat))) (first | exact S0.out | go_keep) (first | (go_at_call 38; (with_reducible refine (mul_any (x0 : Int) 2 _ (by omega) (by omega) (by omega) (by omega)).mono ?_); rw [Int.toNat_natCast]; rintro e w' ⟨rfl, rfl⟩) | (go_at_call 38; (with_reducible refine (mul_any (x1 : Int) 3 _ (by omega) (by omega) (by omega) (by omega)).mono ?_); rw [Int.toNat_natCast]; rintro e w' ⟨rfl, rfl⟩))
          clear c0 c1 c2 c3
          go_wp2
          go_roundg (gk - 1)
          case measure => omega
          case rel =>
            obtain ⟨hq, hy, hm⟩ := HQ.out
            refine ⟨k + 1, by omega, by go_num, ?_, hcr3, by simpa [World.setCell] using hcg2, grownBy_trans hG3 (grownBy_drew _ _)⟩
            rw [show p + (k + 1) = q + 1 by omega, ← upd_set (by rw [Hl.out]; omega), hm]
            exact hset
        · have hki : ¬ (k : Int) < 4 := by omega
          obtain rfl : k = 4 := by omega
          go_wp2
          go_roundg (4 - (c + 1))
          case measure => omega
          case rel =>
            have hp4 : p + 4 = 4 * (c + 1) := by have := Hp.out; omega
            refine ⟨c + 1, by omega, ?_, by rw [← hp4]; exact hB, hG⟩
            rw [← hp4]; rfl
    · obtain rfl : c = 4 := by omega
      go_wp2
      go_end0
      exact ⟨rfl, hB, hG⟩
end Go.Proofs.YtdopdaoapdeabaaDoor
