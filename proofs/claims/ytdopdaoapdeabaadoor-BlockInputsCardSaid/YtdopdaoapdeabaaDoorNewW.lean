/- WALK: New. -/
import Derived.Test.YtdopdaoapdeabaaDoorMixW
import Derived.Test.YtdopdaoapdeabaaDoorSchedP
namespace Go.Proofs.YtdopdaoapdeabaaDoor
open Go.RowKit

/-- a cipher while it is made: these are its bytes -/
def CipB (w : World) (b bb : Nat) (ks : List Nat) : Prop := w.heap[b]? = some (.cells (bx ks ++ #[.pointer (some ⟨bb, 0, none⟩)]) 75 (0, 0))
theorem CipB.cell {w : World} {b bb : Nat} {ks : List Nat} (h : CipB w b bb ks) {i : Nat} (hi : i < ks.length) : w.cell? ⟨b, i, none⟩ = some (.int .u8 (ks.getD i 0 : Nat)) := by
  rw [cell_of_row w b i _ _ _ h, Array.getElem?_append_left (by rw [bx_size]; exact hi), bx_get hi]
theorem CipB.free {w : World} {b bb : Nat} {ks : List Nat} (h : CipB w b bb ks) (i : Nat) : w.frozen? ⟨b, i, none⟩ = false := by
  unfold CipB at h
  simp [World.frozen?, h]
theorem CipB.ptr {w : World} {b bb : Nat} {ks : List Nat} (h : CipB w b bb ks) : w.cell? ⟨b, ks.length, none⟩ = some (.pointer (some ⟨bb, 0, none⟩)) := by
  rw [cell_of_row w b _ _ _ _ h, Array.getElem?_append_right (by rw [bx_size]; exact Nat.le_refl _), bx_size, Nat.sub_self]; rfl
theorem CipB.set {w : World} {b bb : Nat} {ks : List Nat} (h : CipB w b bb ks) {i : Nat} (hi : i < ks.length) (v : Nat) : CipB (w.setCell ⟨b, i, none⟩ (.int .u8 (v : Int))) b bb (ks.set i v) := by
  have hlt := lt_of_block h
  have h' : w.heap[b] = .cells (bx ks ++ #[.pointer (some ⟨bb, 0, none⟩)]) 75 (0, 0) := by
    unfold CipB at h
    simpa [Array.getElem?_eq_getElem hlt] using h
  show (w.heap.modify b _)[b]? = _
  rw [Array.getElem?_eq_getElem (by simpa using hlt), Array.getElem_modify_self, h', ← bx_set]
  simp only [Option.isSome_none, Bool.false_eq_true, if_false]
  rw [Array.setIfInBounds_append_left (by rw [bx_size]; exact hi)]
theorem CipB.grown {w w' : World} {b bb : Nat} {ks : List Nat} (h : CipB w b bb ks) {row : Option Nat} (hg : w.grownBy w' row) (hne : some b ≠ row) : CipB w' b bb ks := by
  unfold CipB at h ⊢
  rw [hg.block b (lt_of_block h) hne]; exact h
theorem CipB.lt {w : World} {b bb : Nat} {ks : List Nat} (h : CipB w b bb ks) : b < w.heap.size := lt_of_block h

theorem CipB.setCells {b bb : Nat} : ∀ (l : List Nat) (o : Nat) (ks : List Nat) (w : World), CipB w b bb ks → o + l.length ≤ ks.length → CipB (w.setCells b o (bs l)) b bb (ks.take o ++ l ++ ks.drop (o + l.length))
  | [], o, ks, w, h, _ => by simpa [World.setCells, bs] using h
  | x :: r, o, ks, w, h, hl => by
    simp only [List.length_cons] at hl
    have h1 := CipB.setCells r (o + 1) (ks.set o x) _ (h.set (i := o) (by omega) x) (by rw [List.length_set]; omega)
    have e1 : (ks.set o x).take (o + 1) = ks.take o ++ [x] := by
      rw [List.take_add_one, List.take_set_of_le (Nat.le_refl o), List.getElem?_set_self (by omega)]; rfl
    have e2 : (ks.set o x).drop (o + 1 + r.length) = ks.drop (o + (r.length + 1)) := by
      rw [List.drop_set_of_lt (by omega)]; congr 1; omega
    rw [e1, e2] at h1
    simpa [World.setCells, bs] using h1

theorem grownBy_setCells (b : Nat) : ∀ (vs : List Value) (o : Nat) (w : World), w.grownBy (w.setCells b o vs) (some b)
  | [], _, w => grownBy_refl w _
  | v :: r, o, w => grownBy_trans (grownBy_setCell w ⟨b, o, none⟩ v) (grownBy_setCells b r (o + 1) _)

/-- a cipher's cells, at the first -/
def z177 : Array Value := bx (zeros 176) ++ #[.pointer none]
def z177p (v : Value) : Array Value := bx (zeros 176) ++ #[v]
theorem z177_size : z177.size = 177 := by decide +kernel
theorem z177_set (v : Value) : z177.setIfInBounds 176 v = z177p v := by
  unfold z177 z177p
  rw [Array.setIfInBounds_append_right (by rw [bx_size, zeros_length]; exact Nat.le_refl _), bx_size, zeros_length]
  rfl

/-- while a row is made: the word, the cipher, the box, the row ahead, what was -/
structure NI (w wr : World) (N bb wb tg tcap : Nat) (wl row L : List Nat) : Prop where
  own : wr.ownsRow (wb + 1) 5 1 (.slice (some ⟨tg, 0, none⟩) 4 tcap) 4 (bs wl)
  cip : CipB wr (bb + 1) bb L
  box : Bytes wr bb sbox 70
  row : Bytes wr wb row 22
  bel : Below N w wr
theorem NI.tg_ge {w wr : World} {N bb wb tg tcap : Nat} {wl row L : List Nat} (h : NI w wr N bb wb tg tcap wl row L) : wb + 1 ≤ tg := (h.own.lt tg rfl).1
theorem NI.word {w wr : World} {N bb wb tg tcap : Nat} {wl row L : List Nat} (h : NI w wr N bb wb tg tcap wl row L) (h1 : bb + 1 < wb) (h2 : N < bb) (j x : Nat) :
    NI w (wr.setCell ⟨tg, j, none⟩ (.int .u8 (x : Int))) N bb wb tg tcap (wl.set j x) row L := by
  have hg := h.tg_ge
  have hs := h.own.stored j (.int .u8 (x : Int))
  have hG := grownBy_setCell wr ⟨tg, j, none⟩ (.int .u8 (x : Int))
  refine ⟨?_, h.cip.grown hG (by simp; omega), h.box.grown hG (by simp; omega), h.row.grown hG (by simp; omega), h.bel.setCell (show N ≤ tg by omega) _⟩
  have := hs.1
  simpa [bs, List.map_set] using this
theorem NI.key {w wr : World} {N bb wb tg tcap : Nat} {wl row L : List Nat} (h : NI w wr N bb wb tg tcap wl row L) (h1 : bb + 1 < wb) (h2 : N < bb) {j : Nat} (hj : j < L.length) (x : Nat) :
    NI w (wr.setCell ⟨bb + 1, j, none⟩ (.int .u8 (x : Int))) N bb wb tg tcap wl row (L.set j x) := by
  have hg := h.tg_ge
  have hG := grownBy_setCell wr ⟨bb + 1, j, none⟩ (.int .u8 (x : Int))
  exact ⟨h.own.kept hG (.inr (by simp [Value.ownBlock]; omega)), h.cip.set hj x, h.box.grown hG (by simp), h.row.grown hG (by simp; omega), h.bel.setCell (show N ≤ bb + 1 by omega) _⟩
theorem NI.drew {w wr : World} {N bb wb tg tcap : Nat} {wl row L : List Nat} (h : NI w wr N bb wb tg tcap wl row L) : NI w wr.drew N bb wb tg tcap wl row L :=
  ⟨h.own.kept (grownBy_drew wr none) (.inr (by simp [Value.ownBlock])), h.cip, h.box, h.row, h.bel.drew⟩
theorem NI.wcell {w wr : World} {N bb wb tg tcap : Nat} {wl row L : List Nat} (h : NI w wr N bb wb tg tcap wl row L) (hl : wl.length = 4) {j : Nat} (hj : j < 4) : wr.cell? ⟨tg, j, none⟩ = some (.int .u8 (wl.getD j 0 : Nat)) := by
  rw [h.own.cellAt j (by omega), bs_get (by omega)]

/-- what New tells -/
def NewPost (key : List Nat) (w : World) (e : Ending) (w' : World) : Prop := ∃ b bb, e = .returned (.pointer (some ⟨b, 0, none⟩)) ∧ IsCipher w' b bb (keysL key) ∧ w.heap.size ≤ b ∧ w.heap.size ≤ bb ∧ Below w.heap.size w w'

set_option maxRecDepth 100000 in
set_option maxHeartbeats 4000000 in
theorem new_any (key : List Nat) (w : World) (hl : key.length = 16) (hl' : ∀ x ∈ key, x < 256) :
    Calls Tryd.prog 20 #[.agg (bx key)] w (NewPost key w) := by
  have hz : ∀ w, (zeroValue 70).run Tryd.prog w = .ok (.agg (bx (zeros 256))) w := fun _ => by kernel_rfl
  have hz2 : ∀ w, (zeroValue 75).run Tryd.prog w = .ok (.agg z177) w := fun _ => by kernel_rfl
  have hz3 := z177_size
  have hz4 := z177_set
  have Hl := Lib.hid hl
  have Hsi : Hid ((Tryd.prog.info? 70).map (·.size) = some (bx sbox).size) := by rw [bx_size, sbox_length]; show _ = _; kernel_rfl
  clear hl
  go_enter Tryd.func20, Tryd.ntmps20
  go_wp2_with fail
  refine (lay_any _).mono ?_
  rintro e w1 ⟨rfl, hb1⟩
  go_wp2_with (first | (refine wpList_store_new rfl 70 _ _ rfl _ (bx sbox) 70 rfl rfl Hsi.out (by rw [bx_size, bx_size, sbox_length]; rfl) (bx_one _) ?_))
  obtain ⟨N, hN⟩ : ∃ N, w.heap.size = N := ⟨_, rfl⟩
  have hbs : (w.alloc (Obj.cells (bx key) 23)).heap.size = N + 1 := by rw [← hN]; simp
  rw [hbs] at hb1
  have hK0 := (Bytes.new w key 23).below hb1 (by rw [hN]; exact Nat.lt_succ_self N)
  have hW1 : Below N w w1 := ((Below.refl N w).alloc (by rw [hN]; exact Nat.le_refl _) _).trans (hb1.mono (Nat.le_succ N))
  have hsz := hb1.size
  rw [hbs] at hsz
  obtain ⟨bb, hbb⟩ : ∃ bb, w1.heap.size = bb := ⟨_, rfl⟩
  have hX : Bytes ((w1.alloc (Obj.cells (bx sbox) 70)).alloc (Obj.cells (z177p (.pointer (some ⟨bb, 0, none⟩))) 75)) bb sbox 70 := by rw [← hbb]; exact (Bytes.new _ _ _).old _
  have hC : CipB ((w1.alloc (Obj.cells (bx sbox) 70)).alloc (Obj.cells (z177p (.pointer (some ⟨bb, 0, none⟩))) 75)) (bb + 1) bb (zeros 176) := by
    have := heap_alloc_last (w1.alloc (Obj.cells (bx sbox) 70)) (Obj.cells (z177p (.pointer (some ⟨bb, 0, none⟩))) 75)
    rw [show (w1.alloc (Obj.cells (bx sbox) 70)).heap.size = bb + 1 by rw [← hbb]; simp] at this
    exact this
  have hKK : Bytes ((w1.alloc (Obj.cells (bx sbox) 70)).alloc (Obj.cells (z177p (.pointer (some ⟨bb, 0, none⟩))) 75)) N key 23 := by rw [← hN]; exact (hK0.old _).old _
  have hWW : Below N w ((w1.alloc (Obj.cells (bx sbox) 70)).alloc (Obj.cells (z177p (.pointer (some ⟨bb, 0, none⟩))) 75)) := (hW1.alloc (by omega) _).alloc (by simp; omega) _
  rw [hN, hbb]
  generalize (w1.alloc (Obj.cells (bx sbox) 70)).alloc (Obj.cells (z177p (.pointer (some ⟨bb, 0, none⟩))) 75) = W at hX hC hKK hWW ⊢
  have HN := Lib.hid hN
  have hNb : N < bb := by omega
  clear hz hz2 hz3 hz4 hb1 hbs hK0 hW1 hN hbb hsz Hsi w1
  have hrk := hKK.range
  have hth : W.there (bb + 1) 0 16 := fun j hj => ⟨by rw [Nat.zero_add, hC.cell (i := j) (by rw [zeros_length]; omega)]; rfl, by rw [Nat.zero_add]; exact hC.free j⟩
  have hu := Tryd.underlying23
  have hi : (Tryd.prog.info? 23).map (·.size) = some (bs key).length := by rw [bs_length, Hl.out]; kernel_rfl
  have hi2 : (Tryd.prog.info? 22).map (·.size) = some (bs key).length := by rw [bs_length, Hl.out]; kernel_rfl
  have hcs : (bs key).length = 16 := by rw [bs_length, Hl.out]
  have h1 := bs_one key
  go_region_held3 (fun w' => w'.rangeAt N 0 (bs key) ∧ w'.there (bb + 1) 0 16) (go_keep_ranges) (fail)
  have hgr : W.grownBy (W.drew.setCells (bb + 1) 0 (bs key)) (some (bb + 1)) := grownBy_trans (grownBy_drew W _) (grownBy_setCells _ _ _ _)
  have hX1 := hX.grown hgr (by simp)
  have hC1 : CipB (W.drew.setCells (bb + 1) 0 (bs key)) (bb + 1) bb (pad176 (sched key 0)) := by
    have := CipB.setCells (b := bb + 1) (bb := bb) key 0 (zeros 176) W.drew hC (by rw [zeros_length, Hl.out]; omega)
    rwa [zeros_splice] at this
  have hW1 : Below N w (W.drew.setCells (bb + 1) 0 (bs key)) := hWW.grown hgr (by have := hWW.size; rw [HN.out] at this; exact this) (fun k hk => by cases hk; omega)
  generalize W.drew.setCells (bb + 1) 0 (bs key) = W1 at hX1 hC1 hW1 ⊢
  clear hX hC hKK hWW hrk hth hu hi hi2 hcs h1 hgr
  go_wp2
  go_loopg [5, 6] 10 (fun g r i' wr => ∃ i : Nat, i + g = 11 ∧ 1 ≤ i ∧ r = .int .u8 (rc i : Nat) ∧ i' = .int .i64 (i : Int) ∧ CipB wr (bb + 1) bb (pad176 (sched key (16 * (i - 1)))) ∧ Bytes wr bb sbox 70 ∧ Below N w wr)
  case atStart => exact ⟨1, rfl, by omega, rfl, rfl, hC1, hX1, hW1⟩
  case round =>
    clear hX1 hC1 hW1
    obtain ⟨i, hig, hi1, rfl, rfl, hC, hX, hW⟩ := hrel
    by_cases hlt : i < 11
    · have hlti : (i : Int) < 11 := by omega
      obtain ⟨m, hm⟩ : ∃ m, i - 1 = m := ⟨_, rfl⟩
      rw [hm] at hC
      have hmi : ((i : Int) - 1) = (m : Int) := by omega
      have Hm : Hid (m + 1 = i) := by show m + 1 = i; omega
      have hm10 : (0 : Int) ≤ (m : Int) ∧ (m : Int) < 11 := ⟨by omega, by omega⟩
      have hi11 : (0 : Int) ≤ (i : Int) ∧ (i : Int) < 11 := ⟨by omega, by omega⟩
      obtain rfl : gk = 11 - i := by omega
      obtain ⟨L, hL⟩ : ∃ L, sched key (16 * m) = L := ⟨_, rfl⟩
      have hLl : L.length = 16 * m + 16 := by rw [← hL, sched_length, Hl.out]; omega
      have hLt : ∀ x ∈ L, x < 256 := by rw [← hL]; exact sched_lt hl' _
      rw [hL] at hC
      have hpl := pad176_length (l := L) (by omega)
      have hrg : wr.rangeAt (bb + 1) (m * 16) (bs (keyL L m)) := fun j v hj => by
        have hj16 : j < 16 := by
          have := (List.getElem?_eq_some_iff.1 hj).1
          rw [bs_length, keyL_length (by omega)] at this; exact this
        rw [hC.cell (by rw [hpl]; omega), pad176_get (by omega), ← hj, bs_get (by rw [keyL_length (by omega)]; exact hj16), keyL_get hj16, Nat.mul_comm]
      have hinf : (Tryd.prog.info? 22).map (·.size) = some (bs (keyL L m)).length := by rw [bs_length, keyL_length (by omega)]; kernel_rfl
      have Hk16 : Hid ((bx (keyL L m)).size = 16) := by show _ = _; rw [bx_size, keyL_length (by omega)]
      have Hlm := Lib.hid (And.intro hm (And.intro hL (And.intro hLl hpl)))
      obtain ⟨wo, hwo⟩ : ∃ wo : World, wo = wr := ⟨_, rfl⟩
      rw [← hwo] at hC hX hW hrg ⊢
      clear hm hL hLl hpl hwo wr hig
      go_wp2_with (first | (refine wpList_load_mid rfl 22 _ rfl (bb + 1) (m * 16) rfl (bs (keyL L m)) _ hrg Tryd.underlying22 rfl hinf ?_) | (refine wpList_store_new rfl 22 _ _ rfl _ (bx (keyL L m)) 22 rfl rfl (by rw [Hk16.out]; kernel_rfl) (by rw [Hk16.out]; rfl) (bx_one _) ?_))
      obtain ⟨wb, hwb⟩ : ∃ wb, wo.heap.size = wb := ⟨_, rfl⟩
      have hbwb : bb + 1 < wb := by rw [← hwb]; exact hC.lt
      have hWS := Bytes.new wo (keyL L m) 22
      rw [hwb] at hWS
      have hC2 : CipB (wo.alloc (Obj.cells (bx (keyL L m)) 22)) (bb + 1) bb (pad176 L) := hC.grown (World.grownBy_alloc wo _ none) (by simp)
      have hX2 := hX.old (Obj.cells (bx (keyL L m)) 22)
      have hW2 : Below N w (wo.alloc (Obj.cells (bx (keyL L m)) 22)) := hW.alloc (by omega) _
      have hsz2 : (wo.alloc (Obj.cells (bx (keyL L m)) 22)).heap.size = wb + 1 := by rw [← hwb]; simp
      rw [hwb]
      generalize wo.alloc (Obj.cells (bx (keyL L m)) 22) = w3 at hWS hC2 hX2 hW2 hsz2 ⊢
      have hkl : ((keyL L m).drop 12).length = 4 := by rw [List.length_drop, keyL_length (by have := Hlm.out.2.2.1; omega)]
      have hsr : w3.rangeAt wb 12 (bs ((keyL L m).drop 12)) := fun j v hj => by
        refine hWS.range (12 + j) v ?_ |> fun h => by simpa using h
        rw [← hj]; simp [bs]
      refine (turned_any wb 12 4 4 1 ((keyL L m).drop 12) _ hkl (by omega) (by omega) (by omega) hsr (by omega)).mono ?_
      rw [rotW_eq (by have := Hlm.out.2.2.1; omega), Hm.out]
      clear hkl hsr hC hX hW hrg hinf Hk16
      rintro e w4 ⟨v, rfl, hown, hb4⟩
      have hC := hC2.grown (grown_below (row := none) hb4 (Nat.le_refl _)) (by simp)
      have hX := hX2.below hb4 (by omega)
      have hWS4 := hWS.below hb4 (by omega)
      have hW := hW2.trans (hb4.mono (by omega))
      obtain ⟨tg, tcap, hv, hg3, hg4, htcap, _⟩ := owns_range hown (by omega)
      subst hv
      rw [hsz2] at hown hg3
      have hNI : NI w w4 N bb wb tg tcap (upd (boxW L i) (rotW L i) 0) (keyL L m) (pad176 L) := ⟨by rw [upd_zero]; exact hown, hC, hX, hWS4, hW⟩
      clear hC2 hX2 hWS hW2 hb4 hsz2 hC hX hWS4 hW hown hwb hg4
      go_wp2_with fail
      go_loopg [35] 4 (fun g j' wr => ∃ j : Nat, j + g = 4 ∧ j' = .int .i64 (j : Int) ∧ NI w wr N bb wb tg tcap (upd (boxW L i) (rotW L i) j) (keyL L m) (pad176 L))
      case atStart => exact ⟨0, rfl, rfl, hNI⟩
      case round =>
        clear hNI
        obtain ⟨j, hjg, rfl, hNI⟩ := hrel
        by_cases hj : j < 4
        · have hji : (j : Int) < 4 := by omega
          have hj0 : (0 : Int) ≤ (j : Int) := by omega
          have hwc := hNI.wcell (by rw [upd_length, rotW_length]) hj
          rw [upd_get (by rw [rotW_length]; exact hj), if_neg (Nat.lt_irrefl j)] at hwc
          have hwl := hNI.word hbwb hNb j (boxW L i j)
          rw [upd_set (by rw [rotW_length]; exact hj)] at hwl
          have hx256 := getD_lt (rotW_lt hLt i) j
          have hbox := hNI.box.cell (i := (rotW L i).getD j 0) (by rw [sbox_length]; exact hx256)
          have hfe : boxW L i j = sbox.getD ((rotW L i).getD j 0) 0 := rfl
          rw [hfe] at hwl
          have hptr := hNI.cip.ptr
          rw [Hlm.out.2.2.2] at hptr
          have hfree := hNI.own.frozenAt j
          generalize (rotW L i).getD j 0 = x at hwc hx256 hbox hwl
          generalize sbox.getD x 0 = y at hbox hwl
          have HNI := Lib.hid hNI
          clear hNI hfe
          go_wp2_with fail
          go_roundg (gk - 1)
          case measure => omega
          case rel => exact ⟨j + 1, by omega, by go_num, hwl⟩
        · have hji : ¬ (j : Int) < 4 := by omega
          obtain rfl : j = 4 := by omega
          have hwc := hNI.wcell (by rw [upd_length, rotW_length]) (j := 0) (by omega)
          have hfree := hNI.own.frozenAt 0
          have hwl := hNI.word hbwb hNb 0 ((upd (boxW L i) (rotW L i) 4).getD 0 0 ^^^ rc i)
          rw [wordL_zero] at hwl
          have hx256 : (upd (boxW L i) (rotW L i) 4).getD 0 0 < 256 := getD_lt (upd_lt (fun _ _ => getD_lt sbox_lt _) (rotW_lt hLt i)) 0
          have hxr := bits_xor hx256 (rc_lt i)
          have hrc := rc_lt i
          generalize (upd (boxW L i) (rotW L i) 4).getD 0 0 = x at hwc hx256 hxr hwl
          have HNI := Lib.hid hNI
          clear hNI
          go_wp2_with fail
          refine (mul_any (rc i : Nat) 2 _ (by omega) (by omega) (by omega) (by omega)).mono ?_
          rw [Int.toNat_natCast, show Int.toNat 2 = 2 from rfl, ← rc_succ hi1]
          rintro e w' ⟨rfl, rfl⟩
          generalize wr.setCell ⟨tg, 0, none⟩ (.int .u8 (x ^^^ rc i : Nat)) = w5 at hwl ⊢
          clear hwc hxr hfree
          go_wp2_with fail
          have hstart : NI w w5 N bb wb tg tcap (wordL (sched key (16 * m + 0)) i 0) (keyL L m) (pad176 (sched key (16 * m + 0))) := by rw [Nat.add_zero, Hlm.out.2.1]; exact hwl
          clear hwl
          go_loopg [60] 16 (fun g k' wr => ∃ k : Nat, k + g = 16 ∧ k' = .int .i64 (k : Int) ∧ NI w wr N bb wb tg tcap (wordL (sched key (16 * m + k)) i k) (keyL L m) (pad176 (sched key (16 * m + k))))
          case atStart => exact ⟨0, rfl, rfl, hstart⟩
          case round =>
            clear hstart
            obtain ⟨k, hkg, rfl, hNI⟩ := hrel
            by_cases hk : k < 16
            · have hki : (k : Int) < 16 := by omega
              have hk0 : (0 : Int) ≤ (k : Int) := by omega
              have hSl : (sched key (16 * m + k)).length = 16 * i + k := by rw [sched_length, Hl.out]; have := Hm.out; omega
              have hSt : ∀ x ∈ sched key (16 * m + k), x < 256 := sched_lt hl' _
              have hstep := kstep_row hi1 hk hSl
              have hnext : sched key (16 * m + (k + 1)) = sched key (16 * m + k) ++ [kstep (sched key (16 * m + k))] := rfl
              have hrowk : (keyL L m).getD k 0 = (sched key (16 * m + k)).getD (16 * (i - 1) + k) 0 := by
                rw [keyL_get hk, ← Hlm.out.2.1, show 16 * (i - 1) + k = 16 * m + k by have := Hm.out; omega]
                exact (sched_get (by omega) (by rw [Hl.out]; omega)).symm
              obtain ⟨q, hq⟩ : ∃ q, k % 4 = q := ⟨_, rfl⟩
              have hq4 : (0 : Int) ≤ (q : Int) ∧ (q : Int) < 4 := ⟨by omega, by omega⟩
              have hwc := hNI.wcell (wordL_length _ _ _) (j := q) (by omega)
              rw [wordL_get (by omega)] at hwc
              have hrk := hNI.row.cell (i := k) (by rw [keyL_length (by have := Hlm.out.2.2.1; omega)]; exact hk)
              rw [hrowk] at hrk
              have hfree := hNI.own.frozenAt q
              have hw1 := hNI.word hbwb hNb q (kstep (sched key (16 * m + k)))
              rw [← hq, wordL_step hi1 hk hSl, ← hnext, hq] at hw1
              have hx256 := wordAt_lt hSt i k q
              have hy256 := getD_lt hSt (16 * (i - 1) + k)
              rw [hq] at hstep
              have hxy := bits_xor hx256 hy256
              rw [← hstep] at hxy
              generalize hS : sched key (16 * m + k) = S at hwc hrk hw1 hx256 hy256 hxy hSl hSt hnext hNI hstep
              generalize wordAt S i k q = x at hwc hx256 hxy
              generalize S.getD (16 * (i - 1) + k) 0 = y at hrk hy256 hxy
              obtain ⟨z, hz⟩ : ∃ z, kstep S = z := ⟨_, rfl⟩
              rw [hz] at hw1 hnext hxy
              have HNI := Lib.hid (And.intro hNI (And.intro hS (And.intro hSl (And.intro hnext hstep))))
              have e1 : ((k : Int)).tmod 4 = (q : Int) := by rw [Int.tmod_eq_emod_of_nonneg hk0]; omega
              have HQ := Lib.hid hq
              have Hw1 := Lib.hid hw1
              have hz6 : (wr.setCell ⟨tg, q, none⟩ (.int .u8 (z : Nat))).drew.cell? ⟨tg, q, none⟩ = some (.int .u8 (z : Nat)) := by
                show (wr.setCell ⟨tg, q, none⟩ (.int .u8 (z : Nat))).cell? ⟨tg, q, none⟩ = _
                exact World.cell?_setCell_same _ _ _ hwc
              have Hz6 := Lib.hid hz6
              clear hNI hS hSl hnext hstep hz hq hrowk hw1 hz6
              go_wp2_with fail
              go_region
              go_wp2_with fail
              have hz6 := Hz6.out
              have hw6 := Hw1.out.drew
              generalize (wr.setCell ⟨tg, q, none⟩ (.int .u8 (z : Nat))).drew = w6 at hz6 hw6 ⊢
              have hSl := HNI.out.2.2.1
              have hpad := pad176_length (l := S) (by omega)
              obtain ⟨v0, hv0⟩ : ∃ v, w6.cell? ⟨bb + 1, i * 16 + k, none⟩ = some v := ⟨_, hw6.cip.cell (i := i * 16 + k) (by rw [hpad]; omega)⟩
              have hf6 := hw6.cip.free (i * 16 + k)
              have hw7 := hw6.key hbwb hNb (j := i * 16 + k) (by rw [hpad]; omega) z
              have eS : (pad176 S).set (i * 16 + k) z = pad176 (sched key (16 * m + (k + 1))) := by
                rw [HNI.out.2.2.2.1, ← pad176_set (by omega), hSl, Nat.mul_comm]
              rw [eS] at hw7
              have Hw7 := Lib.hid hw7
              clear hSl hpad hw6 hw7 eS hwc hrk hfree hxy
              go_region
              go_wp2_with fail
              go_roundg (gk - 1)
              case measure => omega
              case rel => exact ⟨k + 1, by omega, by go_num, Hw7.out.drew⟩
            · have hki : ¬ (k : Int) < 16 := by omega
              obtain rfl : k = 16 := by omega
              go_wp2
              go_roundg (11 - (i + 1))
              case measure => omega
              case rel =>
                have e : 16 * m + 16 = 16 * (i + 1 - 1) := by have := Hm.out; omega
                rw [e] at hNI
                exact ⟨i + 1, by omega, by omega, rfl, by go_num, hNI.cip, hNI.box, hNI.bel⟩
    · have hlti : ¬ (i : Int) < 11 := by omega
      obtain rfl : i = 11 := by omega
      go_wp2
      go_ret
      have hfull : pad176 (sched key (16 * (11 - 1))) = keysL key := pad176_full (by rw [sched_length, Hl.out])
      rw [hfull] at hC
      refine ⟨bb + 1, bb, rfl, ⟨hC, hX, by rw [keysL, sched_length, Hl.out], sched_lt hl' _, by omega⟩, ?_, ?_, ?_⟩
      · rw [HN.out]; omega
      · rw [HN.out]; omega
      · rw [HN.out]; exact hW
end Go.Proofs.YtdopdaoapdeabaaDoor
