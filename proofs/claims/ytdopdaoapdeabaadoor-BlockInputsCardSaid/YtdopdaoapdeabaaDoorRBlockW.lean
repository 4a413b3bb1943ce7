/- WALK: sacristanref04.Block. -/
import Derived.Test.YtdopdaoapdeabaaDoorRAddW
import Derived.Test.YtdopdaoapdeabaaDoorRShiftW
import Derived.Test.YtdopdaoapdeabaaDoorRMixW
import Derived.Test.YtdopdaoapdeabaaDoorAddW
namespace Go.Proofs.YtdopdaoapdeabaaDoor
open Go.RowKit

/-- a spread key of the reference -/
structure IsC (X : World) (kv bv : Value) (K : List Nat) : Prop where
  box : Reads X bv (ks .i64 sbox)
  keys : ∃ kg kcap, kv = .slice (some ⟨kg, 0, none⟩) 11 kcap ∧ 11 ≤ kcap ∧ kg < X.heap.size ∧ ∀ r, r < 11 → ∃ rv, X.cell? ⟨kg, r, none⟩ = some rv ∧ Reads X rv (ks .i64 (keyL K r))
  len : K.length = 176
  lt : ∀ x ∈ K, x < 256
theorem IsC.below {X X' : World} {kv bv : Value} {K : List Nat} (h : IsC X kv bv K) {B : Nat} (hb : Below B X X') (hB : X.heap.size ≤ B) : IsC X' kv bv K := by
  obtain ⟨kg, kcap, e, hc, hg, hr⟩ := h.keys
  refine ⟨h.box.below hb hB, ⟨kg, kcap, e, hc, Nat.lt_of_lt_of_le hg hb.size, fun r hr' => ?_⟩, h.len, h.lt⟩
  obtain ⟨rv, h1, h2⟩ := hr r hr'
  exact ⟨rv, by rw [hb.cell (p := ⟨kg, r, none⟩) (show kg < B by omega)]; exact h1, h2.below hb hB⟩

/-- while a block is enciphered -/
structure SB (w X : World) (N : Nat) (kv bv : Value) (K l : List Nat) (v : Value) (m : List Nat) : Prop where
  isc : IsC X kv bv K
  c0 : X.cell? ⟨N, 0, none⟩ = some kv
  c1 : X.cell? ⟨N, 1, none⟩ = some bv
  inb : Bytes X (N + 1) l 39
  out : Slot X (N + 2) 16 39
  s : Reads X v (ks .i64 m)
  bel : Below N w X
theorem SB.size {w X : World} {N : Nat} {kv bv : Value} {K l : List Nat} {v : Value} {m : List Nat} (h : SB w X N kv bv K l v m) : N + 2 < X.heap.size := h.out.lt
theorem SB.below {w X X' : World} {N : Nat} {kv bv : Value} {K l : List Nat} {v : Value} {m : List Nat} (h : SB w X N kv bv K l v m) (hb : Below X.heap.size X X') : SB w X' N kv bv K l v m := by
  have hs := h.size
  exact ⟨h.isc.below hb (Nat.le_refl _), by rw [hb.cell (p := ⟨N, 0, none⟩) (show N < X.heap.size by omega)]; exact h.c0, by rw [hb.cell (p := ⟨N, 1, none⟩) (show N < X.heap.size by omega)]; exact h.c1,
    h.inb.below hb h.inb.lt, h.out.below hb hs, h.s.below hb (Nat.le_refl _), h.bel.trans (hb.mono (by omega))⟩
theorem SB.set {w X : World} {N : Nat} {kv bv : Value} {K l : List Nat} {v : Value} {m : List Nat} (h : SB w X N kv bv K l v m) {v' : Value} {m' : List Nat} (hv : Reads X v' (ks .i64 m')) : SB w X N kv bv K l v' m' :=
  ⟨h.isc, h.c0, h.c1, h.inb, h.out, hv, h.bel⟩

/-- the state ahead of a round -/
def stL (K l : List Nat) (r : Nat) : List Nat := if r ≤ 10 then roundsL K l (r - 1) else blockL K l
theorem stL_length {K l : List Nat} (h : l.length = 16) (r : Nat) : (stL K l r).length = 16 := by
  unfold stL; split
  · rw [roundsL_length, h]
  · rw [blockL_length, h]
theorem stL_lt {K l : List Nat} (hk : ∀ x ∈ K, x < 256) (h : ∀ x ∈ l, x < 256) (r : Nat) : ∀ x ∈ stL K l r, x < 256 := by
  unfold stL; split
  · exact roundsL_lt hk h _
  · exact blockL_lt hk h
theorem stL_step {K l : List Nat} {r : Nat} (h1 : 1 ≤ r) (h : r < 10) : addL (mixL (shiftL (stL K l r))) (keyL K r) = stL K l (r + 1) := by
  obtain ⟨q, rfl⟩ : ∃ q, r = q + 1 := ⟨r - 1, by omega⟩
  rw [stL, if_pos (by omega), stL, if_pos (by omega), show q + 1 + 1 - 1 = q + 1 by omega, roundsL, roundL]
  rfl
theorem stL_last {K l : List Nat} : addL (shiftL (stL K l 10)) (keyL K 10) = stL K l 11 := rfl

set_option maxRecDepth 100000 in
set_option maxHeartbeats 4000000 in
theorem rblock_any (kv bv : Value) (K l : List Nat) (w : World) (hc : IsC w kv bv K) (hl : l.length = 16) (hl' : ∀ x ∈ l, x < 256) :
    Calls Tryd.prog 48 #[.agg #[kv, bv], .agg (bx l)] w fun e w' => e = .returned (.agg (bx (blockL K l))) ∧ Below w.heap.size w w' := by
  have hinfo : (Tryd.prog.info? 3).map (fun i => (i.zero, i.size, i.bytes)) = some (some (.int .i64 0), 1, 8) := by kernel_rfl
  obtain ⟨i0, hi0, hz0, hz1, hz2⟩ := info_parts hinfo
  have Hi0 := Lib.hid (And.intro hi0 (And.intro hz0 (And.intro hz1 hz2)))
  have hi : ∀ m : List Nat, m.length = 16 → (Tryd.prog.info? 39).map (·.size) = some (bx m).size := by intro m hm; rw [bx_size, hm]; kernel_rfl
  have Hi := Lib.hid hi
  have Hl := Lib.hid (And.intro hl hl')
  have Hk := Lib.hid (And.intro hc.len hc.lt)
  obtain ⟨N, hN⟩ : ∃ N, w.heap.size = N := ⟨_, rfl⟩
  have HN := Lib.hid hN
  have s1 : (w.alloc (Obj.cells #[kv, bv] 36)).heap.size = N + 1 := by simp [hN]
  have s2 : ((w.alloc (Obj.cells #[kv, bv] 36)).alloc (Obj.cells (bx l) 39)).heap.size = N + 2 := by simp [hN]
  have hW0 : Below N w (((w.alloc (Obj.cells #[kv, bv] 36)).alloc (Obj.cells (bx l) 39)).alloc (Obj.cells #[Value.int IntKind.u8 0, Value.int IntKind.u8 0, Value.int IntKind.u8 0, Value.int IntKind.u8 0, Value.int IntKind.u8 0, Value.int IntKind.u8 0, Value.int IntKind.u8 0, Value.int IntKind.u8 0, Value.int IntKind.u8 0, Value.int IntKind.u8 0, Value.int IntKind.u8 0, Value.int IntKind.u8 0, Value.int IntKind.u8 0, Value.int IntKind.u8 0, Value.int IntKind.u8 0, Value.int IntKind.u8 0] 39)) :=
    (((Below.refl N w).alloc (by omega) _).alloc (by rw [s1]; omega) _).alloc (by rw [s2]; omega) _
  have hS0 : SB w (((w.alloc (Obj.cells #[kv, bv] 36)).alloc (Obj.cells (bx l) 39)).alloc (Obj.cells #[Value.int IntKind.u8 0, Value.int IntKind.u8 0, Value.int IntKind.u8 0, Value.int IntKind.u8 0, Value.int IntKind.u8 0, Value.int IntKind.u8 0, Value.int IntKind.u8 0, Value.int IntKind.u8 0, Value.int IntKind.u8 0, Value.int IntKind.u8 0, Value.int IntKind.u8 0, Value.int IntKind.u8 0, Value.int IntKind.u8 0, Value.int IntKind.u8 0, Value.int IntKind.u8 0, Value.int IntKind.u8 0] 39)) N kv bv K l (.slice none 0 0) [] := by
    have k0 : (w.alloc (Obj.cells #[kv, bv] 36)).heap[N]? = some (.cells #[kv, bv] 36 (0, 0)) := by rw [← hN]; exact heap_alloc_new w _
    have kk : Below (N + 1) (w.alloc (Obj.cells #[kv, bv] 36)) (((w.alloc (Obj.cells #[kv, bv] 36)).alloc (Obj.cells (bx l) 39)).alloc (Obj.cells #[Value.int IntKind.u8 0, Value.int IntKind.u8 0, Value.int IntKind.u8 0, Value.int IntKind.u8 0, Value.int IntKind.u8 0, Value.int IntKind.u8 0, Value.int IntKind.u8 0, Value.int IntKind.u8 0, Value.int IntKind.u8 0, Value.int IntKind.u8 0, Value.int IntKind.u8 0, Value.int IntKind.u8 0, Value.int IntKind.u8 0, Value.int IntKind.u8 0, Value.int IntKind.u8 0, Value.int IntKind.u8 0] 39)) :=
      ((Below.refl (N + 1) _).alloc (by omega) _).alloc (by omega) _
    have k1 := Bytes.new (w.alloc (Obj.cells #[kv, bv] 36)) l 39
    rw [s1] at k1
    have k2 := Slot.new ((w.alloc (Obj.cells #[kv, bv] 36)).alloc (Obj.cells (bx l) 39)) #[Value.int IntKind.u8 0, Value.int IntKind.u8 0, Value.int IntKind.u8 0, Value.int IntKind.u8 0, Value.int IntKind.u8 0, Value.int IntKind.u8 0, Value.int IntKind.u8 0, Value.int IntKind.u8 0, Value.int IntKind.u8 0, Value.int IntKind.u8 0, Value.int IntKind.u8 0, Value.int IntKind.u8 0, Value.int IntKind.u8 0, Value.int IntKind.u8 0, Value.int IntKind.u8 0, Value.int IntKind.u8 0] 39
    rw [s2] at k2
    refine ⟨hc.below hW0 (by omega), ?_, ?_, k1.old _, k2, .inl ⟨rfl, rfl⟩, hW0⟩
    · rw [kk.cell (p := ⟨N, 0, none⟩) (show N < N + 1 by omega)]; simp [World.cell?, k0]
    · rw [kk.cell (p := ⟨N, 1, none⟩) (show N < N + 1 by omega)]; simp [World.cell?, k0]
  have s3 : (((w.alloc (Obj.cells #[kv, bv] 36)).alloc (Obj.cells (bx l) 39)).alloc (Obj.cells #[Value.int IntKind.u8 0, Value.int IntKind.u8 0, Value.int IntKind.u8 0, Value.int IntKind.u8 0, Value.int IntKind.u8 0, Value.int IntKind.u8 0, Value.int IntKind.u8 0, Value.int IntKind.u8 0, Value.int IntKind.u8 0, Value.int IntKind.u8 0, Value.int IntKind.u8 0, Value.int IntKind.u8 0, Value.int IntKind.u8 0, Value.int IntKind.u8 0, Value.int IntKind.u8 0, Value.int IntKind.u8 0] 39)).heap.size = N + 3 := by simp [hN]
  obtain ⟨kg, kcap, hkv, hkc, hj1, hj2⟩ := hc.keys
  have Hkv := Lib.hid hkv
  clear hj1 hj2 hkv
  clear hinfo hi0 hz0 hz1 hz2 hi hc hl hl' hW0 s1 s2
  go_enter Tryd.func48, Tryd.ntmps48
  go_upto_region 1 with (fail)
  obtain ⟨W, hWe⟩ : ∃ W, W = ((w.alloc (Obj.cells #[kv, bv] 36)).alloc (Obj.cells (bx l) 39)).alloc (Obj.cells #[Value.int IntKind.u8 0, Value.int IntKind.u8 0, Value.int IntKind.u8 0, Value.int IntKind.u8 0, Value.int IntKind.u8 0, Value.int IntKind.u8 0, Value.int IntKind.u8 0, Value.int IntKind.u8 0, Value.int IntKind.u8 0, Value.int IntKind.u8 0, Value.int IntKind.u8 0, Value.int IntKind.u8 0, Value.int IntKind.u8 0, Value.int IntKind.u8 0, Value.int IntKind.u8 0, Value.int IntKind.u8 0] 39) := ⟨_, rfl⟩
  rw [← hWe] at hS0 s3
  rw [← hWe]
  clear hN hWe
  have hkv := Hkv.out
  clear Hkv
  subst hkv
  go_wp2_with fail
  go_loopg [5, 6] 16 (fun g v i' wr => ∃ i : Nat, i + g = 16 ∧ i' = .int .i64 i ∧ wr.ownsRow (N + 3) 3 1 v i (ks .i64 (l.take i)) ∧ Below (N + 3) W wr)
  case atStart => exact ⟨0, rfl, rfl, World.ownsRow_nil _ _ _ _, Below.refl _ _⟩
  case round =>
    obtain ⟨i, hig, rfl, hown, hbel⟩ := hrel
    by_cases hlt : i < 16
    · have hlti : (i : Int) < 16 := by omega
      have hi0 : (0 : Int) ≤ (i : Int) := by omega
      obtain ⟨x, hx⟩ : ∃ x, l.getD i 0 = x := ⟨_, rfl⟩
      have hx256 : x < 256 := by rw [← hx]; exact getD_lt Hl.out.2 i
      have hcell : wr.cell? ⟨N + 1, i, none⟩ = some (.int .u8 (x : Nat)) := by
        rw [hbel.cell (p := ⟨N + 1, i, none⟩) (show N + 1 < N + 3 by omega), hS0.inb.cell (i := i) (by rw [Hl.out.1]; exact hlt), hx]
      have hBsz : N + 3 ≤ wr.heap.size := by rw [← s3]; exact hbel.size
      have hown' := hown.alloc (.cells #[.int .i64 (x : Nat)] 3)
      have hb' := hbel.alloc hBsz (.cells #[.int .i64 (x : Nat)] 3)
      have c5 : N + 3 ≤ (wr.alloc (.cells #[.int .i64 (x : Nat)] 3)).heap.size := by simp; omega
      have Hx := Lib.hid hx
      clear hx
      go_wp2_with (at_builtin; refine wpList_append_own _ rfl _ _ 34 rfl (N + 3) 3 i0 (.int .i64 0) 1 8 Tryd.underlying34 Hi0.out.1 Hi0.out.2.1 Hi0.out.2.2.1 Hi0.out.2.2.2 rfl (by decide) _ _ _ rfl hown' ⟨wr.heap.size, 0, none⟩ 1 1 [.int .i64 (x : Nat)] rfl rfl (cell_one_new _ _ _) (ks_one .i64 [x]) (by unfold maxLen; omega) (by omega) c5 ?_; intro v' w1 hown1 hgrow _)
      go_roundg (gk - 1)
      case measure => omega
      case rel =>
        rw [take_snoc_ks' (by rw [Hl.out.1]; exact hlt) Hx.out] at hown1
        exact ⟨i + 1, by omega, by go_num, hown1, hb'.grown hgrow c5 (fun k hk => (hown.lt k hk).1)⟩
    · have hlti : ¬ (i : Int) < 16 := by omega
      obtain rfl : i = 16 := by omega
      rw [List.take_of_length_le (by rw [Hl.out.1]; omega)] at hown
      have hS := (hS0.below (by rw [s3]; exact hbel)).set (reads_of_owns hown)
      clear hown hbel hig hlt hlti hS0 s3
      obtain ⟨kg', kcap', hke, hj1, hj2, hkr⟩ := hS.isc.keys
      injection hke with e1 e2 e3
      injection e1 with e1
      injection e1 with e1
      subst e1 e3
      obtain ⟨rv, hrv, hrr⟩ := hkr 0 (by omega)
      have hq0 := hS.c0
      clear hkr e2 hj1 hj2
      go_upto_region 7 with (go_at_call 54; refine (radd_any _ rv l (keyL K 0) _ hS.s hrr Hl.out.1 (keyL_length (by rw [Hk.out.1]; omega)) Hl.out.2 (keyL_lt 0 Hk.out.2)).mono ?_; rintro e w2 ⟨v2, rfl, hown2, hb2⟩)
      have hS2 := (hS.below hb2).set (reads_of_owns hown2)
      rw [show addL l (keyL K 0) = stL K l 1 from rfl] at hS2
      clear hS hown2 hb2 hrv hrr hq0
      go_wp2_with fail
      go_loopg [5, 7] 10 (fun g v i' wr => ∃ r : Nat, r + g = 11 ∧ 1 ≤ r ∧ i' = .int .i64 r ∧ SB w wr N (.slice (some ⟨kg, 0, none⟩) 11 kcap) bv K l v (stL K l r))
      case atStart => exact ⟨1, rfl, Nat.le_refl _, rfl, hS2⟩
      case round =>
        clear hS2
        obtain ⟨r, hrg, hr1, rfl, hS⟩ := hrel
        have hsl := stL_length (K := K) Hl.out.1 r
        have hst := stL_lt Hk.out.2 Hl.out.2 r
        by_cases hr11 : r < 11
        · have hri : (r : Int) ≤ 10 := by omega
          have hr0 : (0 : Int) ≤ (r : Int) ∧ (r : Int) < 11 := ⟨by omega, by omega⟩
          have hq1 := hS.c1
          have Hs := Lib.hid (And.intro hsl hst)
          have Hkl : Hid ((keyL K r).length = 16 ∧ ∀ x ∈ keyL K r, x < 256) := ⟨keyL_length (by rw [Hk.out.1]; omega), keyL_lt r Hk.out.2⟩
          clear hsl hst
          go_upto_region 11 with (go_at_call 55; refine (rshift_any _ bv (stL K l r) _ hS.s hS.isc.box Hs.out.1 Hs.out.2).mono ?_; rintro e w3 ⟨v3, rfl, hown3, hb3⟩)
          have hS3 := (hS.below hb3).set (reads_of_owns hown3)
          clear hS hown3 hb3 hq1
          clear wr
          by_cases hr10 : r < 10
          · have hri10 : (r : Int) < 10 := by omega
            go_upto_region 13 with (go_at_call 56; refine (rmix_any v3 (shiftL (stL K l r)) _ hS3.s (by rw [shiftL_length, Hs.out.1]) (shiftL_lt Hs.out.2)).mono ?_; rintro e w4 ⟨v4, rfl, hown4, hb4⟩)
            have hS4 := (hS3.below hb4).set (reads_of_owns hown4)
            clear hS3 hown4 hb4
            clear w3
            obtain ⟨kg', kcap', hke, hj1, hj2, hkr⟩ := hS4.isc.keys
            injection hke with e1 e2 e3
            injection e1 with e1
            injection e1 with e1
            subst e1 e3
            obtain ⟨rv, hrv, hrr⟩ := hkr r hr11
            have hq0 := hS4.c0
            clear hkr e2 hj1 hj2
            go_wp2_with (go_at_call 54; refine (radd_any _ rv (mixL (shiftL (stL K l r))) (keyL K r) _ hS4.s hrr (by rw [mixL_length, shiftL_length, Hs.out.1]) Hkl.out.1 (mixL_lt (shiftL_lt Hs.out.2)) Hkl.out.2).mono ?_; rintro e w5 ⟨v5, rfl, hown5, hb5⟩)
            have hS5 := (hS4.below hb5).set (reads_of_owns hown5)
            rw [stL_step hr1 hr10] at hS5
            go_roundg (gk - 1)
            case measure => omega
            case rel => exact ⟨r + 1, by omega, by omega, by go_num, hS5⟩
          · have hri10 : ¬ (r : Int) < 10 := by omega
            obtain rfl : r = 10 := by omega
            go_upto_region 13 with (fail)
            obtain ⟨kg', kcap', hke, hj1, hj2, hkr⟩ := hS3.isc.keys
            injection hke with e1 e2 e3
            injection e1 with e1
            injection e1 with e1
            subst e1 e3
            obtain ⟨rv, hrv, hrr⟩ := hkr 10 hr11
            have hq0 := hS3.c0
            clear hkr e2 hj1 hj2
            go_wp2_with (go_at_call 54; refine (radd_any _ rv (shiftL (stL K l 10)) (keyL K 10) _ hS3.s hrr (by rw [shiftL_length, Hs.out.1]) Hkl.out.1 (shiftL_lt Hs.out.2) Hkl.out.2).mono ?_; rintro e w5 ⟨v5, rfl, hown5, hb5⟩)
            have hS5 := (hS3.below hb5).set (reads_of_owns hown5)
            rw [stL_last] at hS5
            go_roundg (gk - 1)
            case measure => omega
            case rel => exact ⟨11, by omega, by omega, by rfl, hS5⟩
        · have hri : ¬ (r : Int) ≤ 10 := by omega
          obtain rfl : r = 11 := by omega
          rw [show stL K l 11 = blockL K l from rfl] at hS hsl hst
          go_upto_region 15 with (fail)
          obtain ⟨m, hm⟩ : ∃ m, m = blockL K l := ⟨_, rfl⟩
          rw [← hm] at hS hsl hst
          have Hm := Lib.hid (And.intro hsl hst)
          have Hme := Lib.hid hm
          clear hm
          obtain ⟨sb, so, sc, hv, hsc, hj1, hj2⟩ := hS.s.get (i := 0) (by omega)
          rw [hsl] at hv hsc
          subst hv
          obtain ⟨O, hO⟩ : ∃ O, wr.heap.size = O := ⟨_, rfl⟩
          have hB0 : Bytes (wr.alloc (Obj.cells #[Value.int IntKind.u8 0, Value.int IntKind.u8 0, Value.int IntKind.u8 0, Value.int IntKind.u8 0, Value.int IntKind.u8 0, Value.int IntKind.u8 0, Value.int IntKind.u8 0, Value.int IntKind.u8 0, Value.int IntKind.u8 0, Value.int IntKind.u8 0, Value.int IntKind.u8 0, Value.int IntKind.u8 0, Value.int IntKind.u8 0, Value.int IntKind.u8 0, Value.int IntKind.u8 0, Value.int IntKind.u8 0] 39)) O (upd (fun i => m.getD i 0) (zeros 16) 0) 39 := by
            rw [← hO, upd_zero]; exact Bytes.new wr (zeros 16) 39
          have hb0 : Below O wr (wr.alloc (Obj.cells #[Value.int IntKind.u8 0, Value.int IntKind.u8 0, Value.int IntKind.u8 0, Value.int IntKind.u8 0, Value.int IntKind.u8 0, Value.int IntKind.u8 0, Value.int IntKind.u8 0, Value.int IntKind.u8 0, Value.int IntKind.u8 0, Value.int IntKind.u8 0, Value.int IntKind.u8 0, Value.int IntKind.u8 0, Value.int IntKind.u8 0, Value.int IntKind.u8 0, Value.int IntKind.u8 0, Value.int IntKind.u8 0] 39)) := (Below.refl O wr).alloc (by omega) _
          have hNO := hS.size
          rw [hO] at hNO ⊢
          have HO := Lib.hid hO
          obtain ⟨X, hX⟩ : ∃ X, X = wr.alloc (Obj.cells #[Value.int IntKind.u8 0, Value.int IntKind.u8 0, Value.int IntKind.u8 0, Value.int IntKind.u8 0, Value.int IntKind.u8 0, Value.int IntKind.u8 0, Value.int IntKind.u8 0, Value.int IntKind.u8 0, Value.int IntKind.u8 0, Value.int IntKind.u8 0, Value.int IntKind.u8 0, Value.int IntKind.u8 0, Value.int IntKind.u8 0, Value.int IntKind.u8 0, Value.int IntKind.u8 0, Value.int IntKind.u8 0] 39) := ⟨_, rfl⟩
          rw [← hX] at hB0 hb0 ⊢
          clear hX hO hj1 hj2 hsl hst hrg hr1 hr11 hri
          obtain ⟨Y, hY⟩ : ∃ Y, Y = wr := ⟨_, rfl⟩
          rw [← hY] at hb0 hS HO
          clear hY
          go_wp2_with fail
          go_loopg [9] 16 (fun g i' wr => ∃ i : Nat, i + g = 16 ∧ i' = .int .i64 i ∧ Bytes wr O (upd (fun i => m.getD i 0) (zeros 16) i) 39 ∧ Below O Y wr)
          case atStart => exact ⟨0, rfl, rfl, hB0, hb0⟩
          case round =>
            clear hB0 hb0
            obtain ⟨i, hig, rfl, hB, hb⟩ := hrel
            have hS' := hS.below (by rw [HO.out]; exact hb)
            by_cases hlt : i < 16
            · have hlti : (i : Int) < 16 := by omega
              have hi0 : (0 : Int) ≤ (i : Int) := by omega
              obtain ⟨x, hx⟩ : ∃ x, m.getD i 0 = x := ⟨_, rfl⟩
              have hx256 : x < 256 := by rw [← hx]; exact getD_lt Hm.out.2 i
              have hq1 : wr.cell? ⟨sb, so + i, none⟩ = some (.int .i64 (x : Nat)) := by
                obtain ⟨b, o, c, hv, _, _, h⟩ := hS'.s.get (i := i) (by rw [Hm.out.1]; exact hlt)
                injection hv with e1 e2 e3
                injection e1 with e1
                injection e1 with e1 e4
                subst e1 e4
                rw [h, hx]
              have hfree := hB.free i
              have hset := hB.set i x
              have hset' : Bytes (wr.setCell ⟨O, i, none⟩ (.int .u8 (x : Nat))) O (upd (fun i => m.getD i 0) (zeros 16) (i + 1)) 39 := by
                rw [← upd_set (by rw [zeros_length]; exact hlt), hx]; exact hset
              have hb' := hb.setCell (p := ⟨O, i, none⟩) (Nat.le_refl _) (.int .u8 (x : Nat))
              have HS := Lib.hid (And.intro hset' hb')
              have HB := Lib.hid hB.row
              have hBc := hB.cell (i := i) (by rw [upd_length, zeros_length]; exact hlt)
              clear hx hset hset' hb' hS' hB
              go_wp2_with fail
              go_roundg (gk - 1)
              case measure => omega
              case rel => exact ⟨i + 1, by omega, by go_num, HS.out.1, HS.out.2⟩
            · have hlti : ¬ (i : Int) < 16 := by omega
              obtain rfl : i = 16 := by omega
              have hfin : upd (fun i => m.getD i 0) (zeros 16) 16 = m := by
                apply ext_getD2
                · rw [upd_length, zeros_length, Hm.out.1]
                · intro i hi
                  rw [upd_length, zeros_length] at hi
                  rw [upd_get (by rw [zeros_length]; exact hi), if_pos hi]
              rw [hfin] at hB
              obtain ⟨old, hold, holdn⟩ := hS'.out
              have Holdn := Lib.hid holdn
              have Hbel := Lib.hid hS'.bel
              clear holdn hS' hfin hb hig hlt hlti
              go_wp2_with (first | (refine wpList_load_row rfl 39 _ rfl O rfl 39 _ _ _ hB.row Tryd.underlying39 rfl (Hi.out m Hm.out.1) ?_) | (refine wpList_store_row rfl 39 _ _ rfl (N + 2) _ rfl rfl 39 _ hold (Hi.out m Hm.out.1) (by rw [bx_size, Hm.out.1]; exact Holdn.out) (bx_one _) ?_))
              refine bodyPost_ret (results_cell_row rfl _ _ (N + 2) 39 _ _ _ rfl (setRow_heap wr (N + 2) _ (bx m) _ _ hold) Tryd.underlying39 rfl (Hi.out m Hm.out.1)) rfl ⟨by rw [Hme.out], ?_⟩
              rw [HN.out]; exact Below.setRow Hbel.out (by omega) _
end Go.Proofs.YtdopdaoapdeabaaDoor
