/- WALK: sacristanlaw04.AesBack. -/
import Derived.Test.YtdopdaoapdeabaaStreamP
import Derived.Test.YtdopdaoapdeabaaKnownW
namespace Go.Proofs.Ytdopdaoapdeabaa
open Go.RowKit

set_option maxRecDepth 100000 in
set_option maxHeartbeats 4000000 in
theorem aesBack_walk (key at_ : List Nat) (v : Value) (l : List Nat) (k : Nat) (w : World) (hkl : key.length = 16) (hkt : ∀ x ∈ key, x < 256) (hal : at_.length = 16) (hat : ∀ x ∈ at_, x < 256)
    (hr : Reads w v (bs l)) (hlt : ∀ x ∈ l, x < 256) (_ : l.length ≤ maxLen) (hk : k < 256) :
    Calls Try.prog 10 #[.agg (bx key), .agg (bx at_), v, .int .u8 k] w fun e w' => e = .returned (.bool true) ∧ Below w.heap.size w w' := by
  obtain ⟨va, vc, hv⟩ := hr.len
  subst hv
  rw [bs_length] at hr ⊢
  have Hl := Lib.hid (And.intro hal hat)
  have Hkey := Lib.hid (And.intro hkl hkt)
  have HR := Lib.hid hr
  have HX := Lib.hid hlt
  have hi : ∀ m : List Nat, m.length = 16 → (Try.prog.info? 30).map (·.size) = some (bx m).size := by intro m hm; rw [bx_size, hm]; kernel_rfl
  have Hi := Lib.hid hi
  have hik : (Try.prog.info? 35).map (·.size) = some (bx key).size := by rw [bx_size, hkl]; kernel_rfl
  have Hik := Lib.hid hik
  obtain ⟨m, hm⟩ : ∃ m, l.length = m := ⟨_, rfl⟩
  rw [hm] at hr ⊢
  have Hm := Lib.hid hm
  obtain ⟨N, hN⟩ : ∃ N, w.heap.size = N := ⟨_, rfl⟩
  have HN := Lib.hid hN
  have hW0 : Below N w ((w.alloc (.cells (bx key) 35)).alloc (.cells (bx at_) 30)) := by rw [← hN]; exact ((Below.refl _ _).alloc (Nat.le_refl _) _).alloc (by simp) _
  have hK0 : Bytes ((w.alloc (.cells (bx key) 35)).alloc (.cells (bx at_) 30)) N key 35 := by rw [← hN]; exact (Bytes.new _ _ _).old _
  have hA0 : Bytes ((w.alloc (.cells (bx key) 35)).alloc (.cells (bx at_) 30)) (N + 1) at_ 30 := by
    have := Bytes.new (w.alloc (.cells (bx key) 35)) at_ 30
    rwa [show (w.alloc (.cells (bx key) 35)).heap.size = N + 1 by simp [hN]] at this
  have hR0 := hr.below hW0 (Nat.le_of_eq hN)
  have HW := Lib.hid (And.intro hW0 (And.intro hK0 (And.intro hA0 hR0)))
  clear hr hi hik hm hkl hkt hal hat hlt hW0 hK0 hA0 hR0
  by_cases h600 : m ≤ 600
  · have hm0 : ¬ (600 : Int) < (m : Int) := by omega
    go_enter Try.func10, Try.ntmps10
    go_upto_region 3 with (fail)
    have hNW : N ≤ ((w.alloc (.cells (bx key) 35)).alloc (.cells (bx at_) 30)).heap.size := by simp [hN]; omega
    obtain ⟨W, hWe⟩ : ∃ W, W = ((w.alloc (.cells (bx key) 35)).alloc (.cells (bx at_) 30)) := ⟨_, rfl⟩
    rw [← hWe] at HW hNW ⊢
    clear hWe hN
    go_upto_region 4 with (first | (refine wpList_load_row rfl 35 _ rfl N rfl 35 (bx key) _ _ HW.out.2.1.row Try.underlying35 rfl Hik.out ?_) | (go_at_call 18; refine (new_any key _ Hkey.out.1 Hkey.out.2).mono ?_; rintro e w1 ⟨b, bb, rfl, hc1, hj1, hj2, hb1⟩))
    have hB1 : BK w1 N b bb (N + 1) (keysL key) at_ := ⟨hc1, HW.out.2.2.1.below hb1 HW.out.2.2.1.lt, Nat.le_trans hNW hb1.size⟩
    have hbel1 : Below N w w1 := HW.out.1.trans (hb1.mono hNW)
    have hR1 := HW.out.2.2.2.below hb1 (Nat.le_refl _)
    have Hk := Lib.hid hc1.lt
    clear HW hNW hb1 hc1 hj1 hj2
    clear W
    obtain ⟨c, hc⟩ : ∃ c, xorL l (streamL (keysL key) at_ l.length) = c := ⟨_, rfl⟩
    have hs1 := streamL_length (ks := keysL key) Hl.out.1 l.length
    have hst := streamL_lt Hk.out Hl.out.2 l.length
    have hcl : c.length = l.length := by rw [← hc, xorL_length, hs1]
    have hct : ∀ x ∈ c, x < 256 := by rw [← hc]; exact xorL_lt HX.out hst
    have hcc : xorL c (streamL (keysL key) at_ c.length) = l := by rw [hcl, ← hc]; exact xorL_xorL hs1
    have Hc := Lib.hid (And.intro hcl (And.intro hct hcc))
    have Hce := Lib.hid hc
    clear hs1 hst hcl hct hcc hc
    go_upto_region 5 with (first | (refine wpList_load_row rfl 30 _ rfl (N + 1) rfl 30 (bx at_) _ _ hB1.place.row Try.underlying30 rfl (Hi.out at_ Hl.out.1) ?_) | (go_at_call 26; refine (xor_any b bb (keysL key) at_ l _ _ hB1.cip Hl.out.1 Hl.out.2 hR1 HX.out (by rw [Hm.out]; omega)).mono ?_; rintro e w2 ⟨x, rfl, hown, hb2⟩))
    have hRx := reads_of_owns hown
    rw [Hce.out] at hRx
    have hB2 := hB1.below hb2
    have hbel2 := hB1.trans hbel1 hb2
    have hR2 := hR1.below hb2 (Nat.le_refl _)
    obtain ⟨xa, xc, hxe⟩ := hRx.len
    rw [bs_length, Hc.out.1, Hm.out] at hxe
    subst hxe
    clear hB1 hbel1 hR1 hb2 hown
    clear w1
    go_upto_region 7 with (first | (refine wpList_load_row_g rfl 30 _ rfl (N + 1) rfl 30 (bx at_) _ _ hB2.place.row Try.underlying30 rfl (Hi.out at_ Hl.out.1) ?_) | (go_at_call 26; refine (xor_any b bb (keysL key) at_ c _ _ hB2.cip Hl.out.1 Hl.out.2 hRx Hc.out.2.1 (by rw [Hc.out.1, Hm.out]; omega)).mono ?_; rintro e w3 ⟨y, rfl, hown, hb3⟩; have hRy := reads_of_owns hown; rw [Hc.out.2.2] at hRy; have hB3 := hB2.below hb3; have hbel3 := hB2.trans hbel2 hb3; have hR3 := hR2.below hb3 (Nat.le_refl _); clear hown hb3 hB2 hbel2 hR2 hRx; clear w2) | (go_at_call 24; refine (same_any y _ l l _ hRy hR3 HX.out HX.out).mono ?_; rintro e w4 ⟨rfl, hb4⟩))
    have hB4 := hB3.below hb4
    have hbel4 := hB3.trans hbel3 hb4
    clear hB3 hbel3 hR3 hRy hb4
    clear w3
    go_upto_region 8 with (fail)
    obtain ⟨q, hq⟩ : ∃ q : Nat, (k : Int) % 20 = q := ⟨k % 20, by omega⟩
    have hq20 : q < 20 := by omega
    rw [hq]
    clear hq hk
    have hn40 : (16 * (q : Int) + 40).toNat = 16 * q + 40 := by omega
    have Hn40 := Lib.hid hn40
    have Hdrop := Lib.hid (stream_drop (ks := keysL key) Hl.out.1 Hl.out.2 q 40)
    have hslen := streamL_length (ks := keysL key) Hl.out.1 (16 * q + 40)
    have hslt := streamL_lt Hk.out Hl.out.2 (16 * q + 40)
    obtain ⟨st, hst⟩ : ∃ st, streamL (keysL key) at_ (16 * q + 40) = st := ⟨_, rfl⟩
    rw [hst] at hslen hslt Hdrop
    have Hst := Lib.hid (And.intro hst (And.intro hslen hslt))
    clear hst hslen hslt hn40
    go_upto_region 9 with (first | (refine wpList_load_row rfl 30 _ rfl (N + 1) rfl 30 (bx at_) _ _ hB4.place.row Try.underlying30 rfl (Hi.out at_ Hl.out.1) ?_) | (go_at_call 23; refine (stream_any b bb (keysL key) at_ _ _ hB4.cip Hl.out.1 Hl.out.2 (by omega)).mono ?_; rw [Hn40.out]; rintro e w5 ⟨s, rfl, hown, hb5⟩))
    rw [Hst.out.1] at hown
    have hRs := reads_of_owns hown
    obtain ⟨g, soff, scap, rfl, hsc, hj1, hj2⟩ := hRs.pos (by rw [bs_length, Hst.out.2.1]; omega)
    rw [bs_length, Hst.out.2.1] at hsc hRs ⊢
    have hB5 := hB4.below hb5
    have hbel5 := hB4.trans hbel4 hb5
    clear hB4 hbel4 hb5 hown hj1 hj2
    clear w4
    go_upto_region 10 with (first | (refine wpList_load_row rfl 30 _ rfl (N + 1) rfl 30 (bx at_) _ _ hB5.place.row Try.underlying30 rfl (Hi.out at_ Hl.out.1) ?_) | (go_at_call 17; refine (next_any at_ q _ Hl.out.1 Hl.out.2 (by omega) (by omega)).mono ?_; rw [Int.toNat_natCast]; rintro e w6 ⟨rfl, hb6⟩; have hB6 := hB5.below hb6; have hbel6 := hB5.trans hbel5 hb6; have hRs6 := hRs.below hb6 (Nat.le_refl _); clear hB5 hbel5 hRs hb6; clear w5) | (go_at_call 23; refine (stream_any b bb (keysL key) (nextL at_ q) 40 _ hB6.cip (nextL_length _ Hl.out.1) (nextL_lt _ Hl.out.2) (by omega)).mono ?_; rintro e w7 ⟨t, rfl, hown, hb7⟩))
    have hRt := reads_of_owns hown
    rw [show (40 : Int).toNat = 40 from rfl, ← Hdrop.out] at hRt
    have hRs7 := hRs6.below hb7 (Nat.le_refl _)
    have hRd := hRs7.drop (k := 16 * q) (by omega)
    rw [bs_drop, Nat.add_sub_cancel_left] at hRd
    have hB7 := hB6.below hb7
    have hbel7 := hB6.trans hbel6 hb7
    have hdt : ∀ x ∈ st.drop (16 * q), x < 256 := fun x hx => Hst.out.2.2 x (List.mem_of_mem_drop hx)
    have Hdt := Lib.hid hdt
    have hne : ¬ scap = 16 * q := by omega
    have hsl : (0 : Int) ≤ 16 * (q : Int) ∧ 16 * (q : Int) ≤ 16 * (q : Int) + 40 ∧ 16 * (q : Int) ≤ (scap : Int) := ⟨by omega, by omega, by omega⟩
    have hnat : (16 * (q : Int)).toNat = 16 * q := by omega
    clear hB6 hbel6 hRs6 hb7 hown hRs7 hdt
    clear w6
    go_wp2_with (first | (go_at_call 24; refine (same_any _ _ _ _ _ hRd hRt Hdt.out Hdt.out).mono ?_; rintro e w8 ⟨rfl, hb8⟩) | (go_at_call 16; refine (known_any _).mono ?_; rintro e w9 ⟨rfl, hb9⟩))
    go_ret
    refine ⟨rfl, ?_⟩
    rw [HN.out]
    have hbel8 := hB7.trans hbel7 hb8
    exact hbel8.trans (hb9.mono ((hB7.below hb8).size))
  · have hm0 : (600 : Int) < (m : Int) := by omega
    go_enter Try.func10, Try.ntmps10
    go_wp2_with fail
    refine (known_any _).mono ?_
    rintro e w1 ⟨rfl, hb1⟩
    go_wp2_with fail
    go_ret
    refine ⟨rfl, ?_⟩
    rw [HN.out]
    exact HW.out.1.trans (hb1.mono (by simp; omega))
end Go.Proofs.Ytdopdaoapdeabaa
