/- WALK: sacristanref04.New. -/
import Derived.Test.YtdopdaoapdeabaaDoorRBlockW
import Derived.Test.YtdopdaoapdeabaaDoorRBoxW
import Derived.Test.YtdopdaoapdeabaaDoorSchedP
namespace Go.Proofs.YtdopdaoapdeabaaDoor
open Go.RowKit

/-- a word of the reference, at byte i (of four) -/
def rw (l : List Nat) (i : Nat) : List Nat := (List.range 4).map fun k => if i % 16 = 0 then wordF l (i / 16) k else l.getD (i - 4 + k) 0
theorem rw_length (l : List Nat) (i : Nat) : (rw l i).length = 4 := by simp [rw]
theorem rw_get {l : List Nat} {i k : Nat} (hk : k < 4) : (rw l i).getD k 0 = if i % 16 = 0 then wordF l (i / 16) k else l.getD (i - 4 + k) 0 := by simp [rw, hk]

theorem rw_lt {l : List Nat} (h : ∀ x ∈ l, x < 256) (i : Nat) : ∀ x ∈ rw l i, x < 256 := fun x hx => by
  simp only [rw, List.mem_map] at hx
  obtain ⟨j, _, rfl⟩ := hx
  split
  · exact wordF_lt h _ _
  · exact getD_lt h _
theorem own_ne_word {X : World} {B wb cap n : Nat} {e : TypeId} {xs : List Value} {wl : List Nat} {k : IntKind} (h : X.ownsRow B e 1 (.slice (some ⟨wb, 0, none⟩) n cap) n xs) (hn : 16 ≤ n) (hw : Nums k X wb wl e) (hl : wl.length = 4) : False := by
  rcases h.2 with ⟨h0, _⟩ | ⟨g, cap', cur, hv, _, hg, hnc, _, hcs, _⟩
  · cases h0
  · injection hv with e1 e2 e3
    injection e1 with e1
    injection e1 with e1
    subst e1 e3
    have hr := hw.row
    rw [hg] at hr
    injection hr with hr
    injection hr with hr
    rw [hr, kx_size] at hcs
    omega
/-- the next byte, by the reference's word -/
theorem kstep_rw {key : List Nat} {t i j : Nat} (hk : key.length = 16) (hi : 16 + 4 * t = i) (hj : j < 4) : kstep (sched key (4 * t + j)) = (sched key (4 * t + j)).getD (i - 16 + j) 0 ^^^ (rw (sched key (4 * t)) i).getD j 0 := by
  have hl : (sched key (4 * t + j)).length = i + j := by rw [sched_length, hk]; omega
  have hg : ∀ p, p < i → (sched key (4 * t + j)).getD p 0 = (sched key (4 * t)).getD p 0 := fun p hp => sched_get (by omega) (by omega)
  unfold kstep
  rw [hl, rw_get hj, show i + j - 16 = i - 16 + j by omega]
  congr 1
  by_cases h : i % 16 = 0
  · rw [if_pos (by omega), if_pos h, show (i + j) / 16 = i / 16 by omega, show (i + j) % 16 = j by omega, wordF, wordF, hg _ (by omega)]
  · rw [if_neg (by omega), if_neg h, show i + j - 4 = i - 4 + j by omega, hg _ (by omega)]

/-- while a key is spread -/
structure SN (w X : World) (N P bg bc : Nat) (key : List Nat) (v : Value) (n : Nat) (L : List Nat) : Prop where
  key : Bytes X N key 23
  res : X.heap[N + 1]? = some (.cells #[.slice none 0 0, .slice none 0 0] 36 (0, 0))
  c : X.heap[P]? = some (.cells #[.slice none 0 0, .slice (some ⟨bg, 0, none⟩) 256 bc] 36 (0, 0))
  box : X.rangeAt bg 0 (ks .i64 sbox)
  own : X.ownsRow (P + 1) 3 1 v n (ks .i64 L)
  bel : Below N w X
  lt : N + 1 < P
  hbg : bg < P ∧ N + 1 < bg
theorem SN.sizeP {w X : World} {N P bg bc : Nat} {key : List Nat} {v : Value} {n : Nat} {L : List Nat} (h : SN w X N P bg bc key v n L) : P + 1 ≤ X.heap.size := lt_of_block h.c
theorem SN.more {w X X' : World} {N P bg bc : Nat} {key : List Nat} {v v' : Value} {n n' : Nat} {L L' : List Nat} (h : SN w X N P bg bc key v n L) (hb : Below (P + 1) X X') (ho : X'.ownsRow (P + 1) 3 1 v' n' (ks .i64 L')) : SN w X' N P bg bc key v' n' L' := by
  have h1 := h.lt
  have h2 := h.hbg
  refine ⟨h.key.below hb (by omega), by rw [hb.block (N + 1) (by omega)]; exact h.res, by rw [hb.block P (by omega)]; exact h.c, fun j u hj => ?_, ho, h.bel.trans (hb.mono (by omega)), h1, h2⟩
  rw [hb.cell (p := ⟨bg, 0 + j, none⟩) (show bg < P + 1 by omega)]
  exact h.box j u hj

theorem _root_.Go.RowKit.Below.alloc_cell {w : World} {B : Nat} {o : Obj} {a : Addr} {v : Value} (_ : Below B w (w.drew.alloc o)) (h : w.cell? a = some v) : (w.drew.alloc o).cell? a = some v := by
  have hb : Below w.heap.size w (w.drew.alloc o) := (Below.refl _ _).drew.alloc (Nat.le_refl _) _
  rw [hb.cell (p := a) (World.block_lt_of_cell? w _ h)]; exact h

/-- a part of a slice -/
theorem slice_lh {P : Program} {t e : TypeId} (hu : P.underlying t = some (.slice e)) (hs : (P.info? e).map (·.size) = some 1) (b o len cap l h : Nat) (kl kh : IntKind) (h1 : l ≤ h) (h2 : h ≤ cap) (h3 : l < cap) (w : World) :
    (Instr.slice t (.slice (some ⟨b, o, none⟩) len cap) (some (.int kl (l : Int))) (some (.int kh (h : Int))) none).run P w = .ok (.slice (some ⟨b, o + l, none⟩) (h - l) (cap - l)) w := by
  have ee : P.elem t = e := by simp [Program.elem, hu]
  have hz : ∀ w, (sizeOf e).run P w = .ok 1 w := fun w => by
    cases hq : P.info? e with
    | none => simp [hq] at hs
    | some d =>
      have hd : d.size = 1 := by simpa [hq] using hs
      simp [sizeOf, typeInfo, hq, hd]
  have hne : ¬ cap = l := by omega
  rw [run_slice_lh w t (some ⟨b, o, none⟩) len cap (by rw [ee]; exact hu) kl kh l h (by omega) (by omega) (by omega), ee, hz]
  simp [sliced, hne, Addr.add_mid]
/-- the rows of a spread key -/
def keysV (g cap t : Nat) : List Value := (List.range t).map fun j => .slice (some ⟨g, 16 * j, none⟩) 16 (cap - 16 * j)
theorem keysV_snoc (g cap t : Nat) : keysV g cap t ++ [.slice (some ⟨g, 16 * t, none⟩) 16 (cap - 16 * t)] = keysV g cap (t + 1) := by simp [keysV, List.range_succ]
theorem keysV_get {g cap t j : Nat} (hj : j < t) : (keysV g cap t)[j]? = some (.slice (some ⟨g, 16 * j, none⟩) 16 (cap - 16 * j)) := by simp [keysV, hj]

/-- while the rows are laid -/
structure SK (w X : World) (N P bg bc B g cap : Nat) (key : List Nat) (u v : Value) (t : Nat) : Prop where
  res : X.heap[N + 1]? = some (.cells #[.slice none 0 0, .slice none 0 0] 36 (0, 0))
  c : X.heap[P]? = some (.cells #[u, .slice (some ⟨bg, 0, none⟩) 256 bc] 36 (0, 0))
  box : X.rangeAt bg 0 (ks .i64 sbox)
  row : X.rangeAt g 0 (ks .i64 (keysL key))
  own : X.ownsRow B 34 1 v t (keysV g cap t)
  bel : Below N w X
  size : B ≤ X.heap.size
  lt : N + 1 < P
  hP : P < g
  hbg : bg < P ∧ N + 1 < bg
  hg : g < B
theorem SK.more {w X X' : World} {N P bg bc B g cap : Nat} {key : List Nat} {u v v' : Value} {t t' : Nat} (h : SK w X N P bg bc B g cap key u v t) (hb : Below B X X') (ho : X'.ownsRow B 34 1 v' t' (keysV g cap t')) : SK w X' N P bg bc B g cap key u v' t' := by
  have h1 := h.lt
  have h2 := h.hbg
  have h3 := h.hP
  have h4 := h.hg
  refine ⟨by rw [hb.block (N + 1) (by omega)]; exact h.res, by rw [hb.block P (by omega)]; exact h.c, fun j x hj => ?_, fun j x hj => ?_, ho, h.bel.trans (hb.mono (by omega)), hb.size_of h.size, h1, h3, h2, h4⟩
  · rw [hb.cell (p := ⟨bg, 0 + j, none⟩) (show bg < B by omega)]; exact h.box j x hj
  · rw [hb.cell (p := ⟨g, 0 + j, none⟩) (show g < B by omega)]; exact h.row j x hj
theorem SK.cell {w X : World} {N P bg bc B g cap : Nat} {key : List Nat} {u v : Value} {t : Nat} (h : SK w X N P bg bc B g cap key u v t) : X.cell? ⟨P, 0, none⟩ = some u := by
  rw [cell_of_row X P 0 _ _ _ h.c]; rfl
theorem SK.free {w X : World} {N P bg bc B g cap : Nat} {key : List Nat} {u v : Value} {t : Nat} (h : SK w X N P bg bc B g cap key u v t) : X.frozen? ⟨P, 0, none⟩ = false := by
  have := h.c
  simp [World.frozen?, this]
theorem SK.store {w X : World} {N P bg bc B g cap : Nat} {key : List Nat} {u v : Value} {t : Nat} (h : SK w X N P bg bc B g cap key u v t) : SK w (X.setCell ⟨P, 0, none⟩ v) N P bg bc B g cap key v v t := by
  have h1 := h.lt
  have h2 := h.hbg
  have h3 := h.hP
  have h4 := h.hg
  refine ⟨by rw [Below.heap_setCell _ _ _ _ (show N + 1 ≠ P by omega)]; exact h.res, ?_, fun j x hj => ?_, fun j x hj => ?_, ?_, h.bel.setCell (show N ≤ P by omega) _, by have := h.size; simpa using this, h1, h3, h2, h4⟩
  · have hlt := lt_of_block h.c
    have h' : X.heap[P] = .cells #[u, .slice (some ⟨bg, 0, none⟩) 256 bc] 36 (0, 0) := by
      have := h.c
      simpa [Array.getElem?_eq_getElem hlt] using this
    show (X.heap.modify P _)[P]? = _
    rw [Array.getElem?_eq_getElem (by simpa using hlt), Array.getElem_modify_self, h']
    rfl
  · rw [World.cell?_setCell_far X ⟨P, 0, none⟩ ⟨bg, 0 + j, none⟩ v (show P ≠ bg by omega)]; exact h.box j x hj
  · rw [World.cell?_setCell_far X ⟨P, 0, none⟩ ⟨g, 0 + j, none⟩ v (show P ≠ g by omega)]; exact h.row j x hj
  · refine h.own.kept (grownBy_setCell X ⟨P, 0, none⟩ v) ?_
    by_cases e : v.ownBlock = none
    · exact .inl e
    · refine .inr fun e' => ?_
      have := (h.own.lt P e').1
      omega

theorem SK.isC {w X X' : World} {N P bg bc B g cap : Nat} {key : List Nat} {u : Value} (h : SK w X N P bg bc B g cap key u u 11) (hX : X.grownBy X' (some (N + 1))) (hbc : 256 ≤ bc) (hcap : 176 ≤ cap) (hl : key.length = 16) (hl' : ∀ x ∈ key, x < 256) :
    IsC X' u (.slice (some ⟨bg, 0, none⟩) 256 bc) (keysL key) := by
  have h1 := h.lt
  have h2 := h.hbg
  have h3 := h.hP
  have h4 := h.hg
  have h5 := h.size
  obtain ⟨kg, kcap, rfl, hk1, hk2, hk3, hk4⟩ := owns_range h.own (by omega)
  have hlen : (keysL key).length = 176 := by rw [keysL, sched_length, hl]
  have far : ∀ b o v, b ≠ N + 1 → X.cell? ⟨b, o, none⟩ = some v → X'.cell? ⟨b, o, none⟩ = some v := fun b o v hb hv => by
    rw [World.cell?_of_block (hX.block b (World.block_lt_of_cell? X _ hv) (by intro e; injection e with e; exact hb e))]; exact hv
  refine ⟨.inr ⟨⟨bg, 0, none⟩, bc, by rw [ks_length, sbox_length], by rw [ks_length, sbox_length]; exact hbc, fun j x hj => ?_⟩, ⟨kg, kcap, rfl, hk3, Nat.lt_of_lt_of_le hk2 hX.size, fun r hr => ⟨.slice (some ⟨g, 16 * r, none⟩) 16 (cap - 16 * r), ?_, ?_⟩⟩, hlen, sched_lt hl' _⟩
  · rw [Addr.add_mid]; exact far _ _ _ (by omega) (h.box j x hj)
  · have := hk4 r _ (keysV_get hr)
    rw [Nat.zero_add] at this
    exact far _ _ _ (by omega) this
  · have hkl : (keyL (keysL key) r).length = 16 := keyL_length (by rw [hlen]; omega)
    refine .inr ⟨⟨g, 16 * r, none⟩, cap - 16 * r, by rw [ks_length, hkl], by rw [ks_length, hkl]; omega, fun j x hj => ?_⟩
    rw [Addr.add_mid]
    have hj16 : j < 16 := by
      have := (List.getElem?_eq_some_iff.1 hj).1
      rwa [ks_length, hkl] at this
    rw [ks_get (by rw [hkl]; exact hj16), keyL_get hj16, Option.some.injEq] at hj
    subst hj
    have := h.row (16 * r + j) _ (ks_get (by rw [hlen]; omega))
    rw [Nat.zero_add] at this
    exact far _ _ _ (by omega) this

/-- what New tells -/
def RNewPost (key : List Nat) (w : World) (e : Ending) (w' : World) : Prop := ∃ kv bv, e = .returned (.agg #[kv, bv]) ∧ IsC w' kv bv (keysL key) ∧ Below w.heap.size w w'

set_option maxRecDepth 100000 in
set_option maxHeartbeats 4000000 in
theorem rnew_any (key : List Nat) (w : World) (hl : key.length = 16) (hl' : ∀ x ∈ key, x < 256) :
    Calls Tryd.prog 12 #[.agg (bx key)] w (RNewPost key w) := by
  have hinfo : (Tryd.prog.info? 3).map (fun i => (i.zero, i.size, i.bytes)) = some (some (.int .i64 0), 1, 8) := by kernel_rfl
  obtain ⟨i0, hi0, hz0, hz1, hz2⟩ := info_parts hinfo
  have Hi0 := Lib.hid (And.intro hi0 (And.intro hz0 (And.intro hz1 hz2)))
  have Hl := Lib.hid (And.intro hl hl')
  obtain ⟨N, hN⟩ : ∃ N, w.heap.size = N := ⟨_, rfl⟩
  have HN := Lib.hid hN
  clear hinfo hi0 hz0 hz1 hz2 hl hl'
  go_enter Tryd.func12, Tryd.ntmps12
  go_upto_region 2 with (go_at_call 28; refine (rbox_any _).mono ?_; rintro e w1 ⟨bv, rfl, hown, hb1⟩; obtain ⟨bg, bc, rfl, hj1, hj2, hbc, hj3⟩ := owns_range hown (by omega))
  obtain ⟨P, hP⟩ : ∃ P, w1.heap.size = P := ⟨_, rfl⟩
  have hS0 : SN w (w1.alloc (Obj.cells #[.slice none 0 0, .slice (some ⟨bg, 0, none⟩) 256 bc] 36)) N P bg bc key (.slice none 0 0) 0 [] := by
    have s1 : (w.alloc (Obj.cells (bx key) 23)).heap.size = N + 1 := by simp [hN]
    have s2 : ((w.alloc (Obj.cells (bx key) 23)).alloc (Obj.cells #[.slice none 0 0, .slice none 0 0] 36)).heap.size = N + 2 := by simp [hN]
    have k1 := Bytes.new w key 23
    rw [hN] at k1
    have k2 := heap_alloc_new (w.alloc (Obj.cells (bx key) 23)) (Obj.cells #[.slice none 0 0, .slice none 0 0] 36)
    rw [s1] at k2
    rw [s2] at hb1 hown
    have hsz := hb1.size
    rw [s2, hP] at hsz
    have hb2 : Below P w1 (w1.alloc (Obj.cells #[.slice none 0 0, .slice (some ⟨bg, 0, none⟩) 256 bc] 36)) := (Below.refl P w1).alloc (by omega) _
    refine ⟨(((k1.old _).below hb1 (by omega)).below hb2 (by omega)), ?_, ?_, fun j u hj => ?_, World.ownsRow_nil _ _ _ _, ?_, by omega, by omega⟩
    · rw [hb2.block (N + 1) (by omega), hb1.block (N + 1) (by omega)]; exact k2
    · rw [← hP]; exact heap_alloc_new w1 _
    · rw [hb2.cell (p := ⟨bg, 0 + j, none⟩) (show bg < P by omega)]; exact hj3 j u hj
    · exact ((((Below.refl N w).alloc (by omega) _).alloc (by rw [s1]; omega) _).trans (hb1.mono (by omega))).trans (hb2.mono (by omega))
  rw [hP]
  obtain ⟨W, hWe⟩ : ∃ W, W = w1.alloc (Obj.cells #[.slice none 0 0, .slice (some ⟨bg, 0, none⟩) 256 bc] 36) := ⟨_, rfl⟩
  rw [← hWe] at hS0 ⊢
  clear hWe hP hN hown hb1 hj1 hj2 hj3
  go_wp2_with fail
  go_loopg [4, 5] 16 (fun g v i' wr => ∃ i : Nat, i + g = 16 ∧ i' = .int .i64 i ∧ SN w wr N P bg bc key v i (key.take i))
  case atStart => exact ⟨0, rfl, rfl, hS0⟩
  case round =>
    clear hS0
    obtain ⟨i, hig, rfl, hS⟩ := hrel
    have hBsz := hS.sizeP
    by_cases hlt : i < 16
    · have hlti : (i : Int) < 16 := by omega
      have hi0 : (0 : Int) ≤ (i : Int) := by omega
      obtain ⟨x, hx⟩ : ∃ x, key.getD i 0 = x := ⟨_, rfl⟩
      have hx256 : x < 256 := by rw [← hx]; exact getD_lt Hl.out.2 i
      have hcell := hS.key.cell (i := i) (by rw [Hl.out.1]; exact hlt)
      rw [hx] at hcell
      have hown' := hS.own.alloc (.cells #[.int .i64 (x : Nat)] 3)
      have hb' : Below (P + 1) wr (wr.alloc (.cells #[.int .i64 (x : Nat)] 3)) := (Below.refl _ _).alloc hBsz _
      have c5 : P + 1 ≤ (wr.alloc (.cells #[.int .i64 (x : Nat)] 3)).heap.size := by simp; omega
      have Hx := Lib.hid hx
      have HS := Lib.hid hS
      clear hx hS
      go_wp2_with (at_builtin; refine wpList_append_own _ rfl _ _ 34 rfl (P + 1) 3 i0 (.int .i64 0) 1 8 Tryd.underlying34 Hi0.out.1 Hi0.out.2.1 Hi0.out.2.2.1 Hi0.out.2.2.2 rfl (by decide) _ _ _ rfl hown' ⟨wr.heap.size, 0, none⟩ 1 1 [.int .i64 (x : Nat)] rfl rfl (cell_one_new _ _ _) (ks_one .i64 [x]) (by unfold maxLen; omega) (by omega) c5 ?_; intro v' w1 hown1 hgrow _)
      go_roundg (gk - 1)
      case measure => omega
      case rel =>
        rw [take_snoc_ks' (by rw [Hl.out.1]; exact hlt) Hx.out] at hown1
        exact ⟨i + 1, by omega, by go_num, HS.out.more (hb'.grown hgrow c5 (fun k hk => (HS.out.own.lt k hk).1)) hown1⟩
    · have hlti : ¬ (i : Int) < 16 := by omega
      obtain rfl : i = 16 := by omega
      rw [List.take_of_length_le (by rw [Hl.out.1]; omega)] at hS
      clear hig hlt hlti hBsz
      go_wp2_with fail
      go_loopg [4, 6, 7] 40 (fun g v r' i' wr => ∃ t : Nat, t + g = 40 ∧ i' = .int .i64 ((16 + 4 * t : Nat) : Int) ∧ r' = .int .i64 (rc ((t + 3) / 4 + 1) : Nat) ∧ SN w wr N P bg bc key v (16 + 4 * t) (sched key (4 * t)))
      case atStart => exact ⟨0, rfl, rfl, rfl, hS⟩
      case round =>
        clear hS
        obtain ⟨t, htg, rfl, rfl, hS⟩ := hrel
        by_cases htlt : t < 40
        · have htlti : ((16 + 4 * t : Nat) : Int) < 176 := by omega
          obtain ⟨i, hi⟩ : ∃ i, 16 + 4 * t = i := ⟨_, rfl⟩
          rw [hi] at hS htlti ⊢
          obtain ⟨L, hL⟩ : ∃ L, sched key (4 * t) = L := ⟨_, rfl⟩
          have hLl : L.length = i := by rw [← hL, sched_length, Hl.out.1]; omega
          have hLt : ∀ x ∈ L, x < 256 := by rw [← hL]; exact sched_lt Hl.out.2 _
          rw [hL] at hS
          have HL := Lib.hid (And.intro hL (And.intro hLl hLt))
          obtain ⟨g, cap, hv, hg1, hg2, hcap, hrg⟩ := owns_range hS.own (by omega)
          subst hv
          obtain ⟨a0, h0⟩ : ∃ a, L.getD (i - 4) 0 = a := ⟨_, rfl⟩
          obtain ⟨a1, h1⟩ : ∃ a, L.getD (i - 3) 0 = a := ⟨_, rfl⟩
          obtain ⟨a2, h2⟩ : ∃ a, L.getD (i - 2) 0 = a := ⟨_, rfl⟩
          obtain ⟨a3, h3⟩ : ∃ a, L.getD (i - 1) 0 = a := ⟨_, rfl⟩
          have hget : ∀ j, j < i → wr.cell? ⟨g, j, none⟩ = some (.int .i64 (L.getD j 0 : Nat)) := fun j hj => by
            have := hrg j _ (ks_get (by rw [hLl]; exact hj))
            rwa [Nat.zero_add] at this
          have hq0 := hget (i - 4) (by omega)
          have hq1 := hget (i - 3) (by omega)
          have hq2 := hget (i - 2) (by omega)
          have hq3 := hget (i - 1) (by omega)
          rw [h0] at hq0
          rw [h1] at hq1
          rw [h2] at hq2
          rw [h3] at hq3
          have Ha := Lib.hid (And.intro h0 (And.intro h1 (And.intro h2 h3)))
          have hw4 : IntKind.i64.wrap ((i : Int) - 4) = ((i - 4 : Nat) : Int) := by rw [wrap_small (by omega) (by omega)]; omega
          have hw3 : IntKind.i64.wrap ((i : Int) - 3) = ((i - 3 : Nat) : Int) := by rw [wrap_small (by omega) (by omega)]; omega
          have hw2 : IntKind.i64.wrap ((i : Int) - 2) = ((i - 2 : Nat) : Int) := by rw [wrap_small (by omega) (by omega)]; omega
          have hw1 : IntKind.i64.wrap ((i : Int) - 1) = ((i - 1 : Nat) : Int) := by rw [wrap_small (by omega) (by omega)]; omega
          have hl4 : ((i - 4 : Nat) : Int) < (i : Int) := by omega
          have hl3 : ((i - 3 : Nat) : Int) < (i : Int) := by omega
          have hl2 : ((i - 2 : Nat) : Int) < (i : Int) := by omega
          have hl1 : ((i - 1 : Nat) : Int) < (i : Int) := by omega
          clear hL hLl hLt hrg hget h0 h1 h2 h3
          go_upto_region 11 with (fail)
          refine wp_region_held_drew (S := (fun w' => w'.cell? ⟨g, i - 4, none⟩ = some (.int .i64 (a0 : Nat)) ∧ w'.cell? ⟨g, i - 3, none⟩ = some (.int .i64 (a1 : Nat)) ∧ w'.cell? ⟨g, i - 2, none⟩ = some (.int .i64 (a2 : Nat)) ∧ w'.cell? ⟨g, i - 1, none⟩ = some (.int .i64 (a3 : Nat)))) (by kernel_rfl) ?_ (fun hHeld => ?_)
          · exact ⟨hq0, hq1, hq2, hq3⟩
          refine take_run (v := ?_) 0 (some 28) rfl rfl (by kernel_rfl) (by kernel_rfl) (by kernel_rfl) (fun _ _ _ h => h) hHeld (by rfl) ?_ ?_
          rotate_left
          · intro _ hSw; go_simp; try with_reducible rfl
          simp only [Act.put, List.setIfInBounds_toArray, List.set_cons_zero, List.set_cons_succ]
          refine take_run (v := ?_) 1 (some 29) rfl rfl (by kernel_rfl) (by kernel_rfl) (by kernel_rfl) (fun _ _ _ h => h) hHeld (by rfl) ?_ ?_
          rotate_left
          · intro _ hSw; go_simp; try with_reducible rfl
          simp only [Act.put, List.setIfInBounds_toArray, List.set_cons_zero, List.set_cons_succ]
          refine take_run (v := ?_) 2 (some 30) rfl rfl (by kernel_rfl) (by kernel_rfl) (by kernel_rfl) (fun _ _ _ h => h) hHeld (by rfl) ?_ ?_
          rotate_left
          · intro _ hSw; go_simp; try with_reducible rfl
          simp only [Act.put, List.setIfInBounds_toArray, List.set_cons_zero, List.set_cons_succ]
          refine take_run (v := ?_) 3 (some 31) rfl rfl (by kernel_rfl) (by kernel_rfl) (by kernel_rfl) (fun _ _ _ h => h) hHeld (by rfl) ?_ ?_
          rotate_left
          · intro _ hSw; go_simp; try with_reducible rfl
          simp only [Act.put, List.setIfInBounds_toArray, List.set_cons_zero, List.set_cons_succ]
          refine take_run (v := ?_) 4 (some 32) rfl rfl (by kernel_rfl) (by kernel_rfl) (by kernel_rfl) (fun _ _ _ h => h) hHeld (by rfl) ?_ ?_
          rotate_left
          · intro _ hSw; go_simp; try with_reducible rfl
          simp only [Act.put, List.setIfInBounds_toArray, List.set_cons_zero, List.set_cons_succ]
          refine take_run (v := ?_) 5 (some 33) rfl rfl (by kernel_rfl) (by kernel_rfl) (by kernel_rfl) (fun _ _ _ h => h) hHeld (by rfl) ?_ ?_
          rotate_left
          · intro _ hSw; go_simp; try with_reducible rfl
          simp only [Act.put, List.setIfInBounds_toArray, List.set_cons_zero, List.set_cons_succ]
          refine take_run (v := ?_) 6 (some 34) rfl rfl (by kernel_rfl) (by kernel_rfl) (by kernel_rfl) (fun _ _ _ h => h) hHeld (by rfl) ?_ ?_
          rotate_left
          · intro _ hSw; go_simp; try with_reducible rfl
          simp only [Act.put, List.setIfInBounds_toArray, List.set_cons_zero, List.set_cons_succ]
          refine take_run (v := ?_) 7 (some 35) rfl rfl (by kernel_rfl) (by kernel_rfl) (by kernel_rfl) (fun _ _ _ h => h) hHeld (by rfl) ?_ ?_
          rotate_left
          · intro _ hSw; go_simp; try with_reducible rfl
          simp only [Act.put, List.setIfInBounds_toArray, List.set_cons_zero, List.set_cons_succ]
          refine take_run (v := ?_) 8 (some 36) rfl rfl (by kernel_rfl) (by kernel_rfl) (by kernel_rfl) (fun _ _ _ h => h) hHeld (by rfl) ?_ ?_
          rotate_left
          · intro _ hSw; go_simp; try with_reducible rfl
          simp only [Act.put, List.setIfInBounds_toArray, List.set_cons_zero, List.set_cons_succ]
          refine take_run (v := ?_) 9 (some 37) rfl rfl (by kernel_rfl) (by kernel_rfl) (by kernel_rfl) (fun _ _ _ h => h) hHeld (by rfl) ?_ ?_
          rotate_left
          · intro _ hSw; go_simp; try with_reducible rfl
          simp only [Act.put, List.setIfInBounds_toArray, List.set_cons_zero, List.set_cons_succ]
          refine take_run (v := ?_) 10 (some 38) rfl rfl (by kernel_rfl) (by kernel_rfl) (by kernel_rfl) (fun _ _ _ h => h) hHeld (by rfl) ?_ ?_
          rotate_left
          · intro _ hSw; go_simp; try with_reducible rfl
          simp only [Act.put, List.setIfInBounds_toArray, List.set_cons_zero, List.set_cons_succ]
          refine take_run (v := ?_) 11 (some 39) rfl rfl (by kernel_rfl) (by kernel_rfl) (by kernel_rfl) (fun _ _ _ h => h) hHeld (by rfl) ?_ ?_
          rotate_left
          · intro _ hSw; go_simp; try with_reducible rfl
          simp only [Act.put, List.setIfInBounds_toArray, List.set_cons_zero, List.set_cons_succ]
          refine take_run (v := ?_) 12 (some 40) rfl rfl (by kernel_rfl) (by kernel_rfl) (by kernel_rfl) (fun _ _ _ h => h) hHeld (by rfl) ?_ ?_
          rotate_left
          · intro _ hSw; go_simp; try with_reducible rfl
          simp only [Act.put, List.setIfInBounds_toArray, List.set_cons_zero, List.set_cons_succ]
          refine take_run (v := ?_) 13 (some 41) rfl rfl (by kernel_rfl) (by kernel_rfl) (by kernel_rfl) (fun _ _ _ h => h) hHeld (by rfl) ?_ ?_
          rotate_left
          · intro _ hSw; go_simp; try with_reducible rfl
          simp only [Act.put, List.setIfInBounds_toArray, List.set_cons_zero, List.set_cons_succ]
          refine take_run (v := ?_) 14 (some 42) rfl rfl (by kernel_rfl) (by kernel_rfl) (by kernel_rfl) (fun _ _ _ h => h) hHeld (by rfl) ?_ ?_
          rotate_left
          · intro _ hSw; go_simp; try with_reducible rfl
          simp only [Act.put, List.setIfInBounds_toArray, List.set_cons_zero, List.set_cons_succ]
          refine take_run (v := ?_) 15 (some 43) rfl rfl (by kernel_rfl) (by kernel_rfl) (by kernel_rfl) (fun _ _ _ h => h) hHeld (by rfl) ?_ ?_
          rotate_left
          · intro _ hSw; go_simp; try with_reducible rfl
          simp only [Act.put, List.setIfInBounds_toArray, List.set_cons_zero, List.set_cons_succ]
          refine take_run (v := ?_) 16 (some 44) rfl rfl (by kernel_rfl) (by kernel_rfl) (by kernel_rfl) (fun _ _ _ h => h) hHeld (by rfl) ?_ ?_
          rotate_left
          · intro _ hSw; go_simp; try with_reducible rfl
          simp only [Act.put, List.setIfInBounds_toArray, List.set_cons_zero, List.set_cons_succ]
          refine take_run (v := ?_) 17 (some 45) rfl rfl (by kernel_rfl) (by kernel_rfl) (by kernel_rfl) (fun _ _ _ h => h) hHeld (by rfl) ?_ ?_
          rotate_left
          · intro _ hSw; go_simp; try with_reducible rfl
          simp only [Act.put, List.setIfInBounds_toArray, List.set_cons_zero, List.set_cons_succ]
          refine take_run (v := ?_) 18 (some 46) rfl rfl (by kernel_rfl) (by kernel_rfl) (by kernel_rfl) (fun _ _ _ h => h) hHeld (by rfl) ?_ ?_
          rotate_left
          · intro _ hSw; go_simp; try with_reducible rfl
          simp only [Act.put, List.setIfInBounds_toArray, List.set_cons_zero, List.set_cons_succ]
          refine take_run (v := ?_) 19 (some 47) rfl rfl (by kernel_rfl) (by kernel_rfl) (by kernel_rfl) (fun _ _ _ h => h) hHeld (by rfl) ?_ ?_
          rotate_left
          · intro _ hSw; go_simp; try with_reducible rfl
          simp only [Act.put, List.setIfInBounds_toArray, List.set_cons_zero, List.set_cons_succ]
          refine op_at 20 (some 48) rfl rfl (by kernel_rfl) (by rfl) (fun K hK => ?_)
          refine wp_buildVals 34 3 4 #[(0, .tmp 32), (1, .tmp 37), (2, .tmp 42), (3, .tmp 47)] ?_ [(.int .i64 (a0 : Nat)), (.int .i64 (a1 : Nat)), (.int .i64 (a2 : Nat)), (.int .i64 (a3 : Nat))] ?_ ?_ ?_ ?_ ?_ ?_ ?_ ?_ ?_
          · rfl
          · exact Tryd.underlying34
          · kernel_rfl
          · kernel_rfl
          · rfl
          · decide
          · decide
          · rfl
          · intro v hv; simp only [List.mem_cons, List.not_mem_nil, or_false] at hv; rcases hv with rfl | rfl | rfl | rfl <;> rfl
          have hB1 : Below (P + 1) wr (wr.drew.alloc (.cells #[(.int .i64 (a0 : Nat)), (.int .i64 (a1 : Nat)), (.int .i64 (a2 : Nat)), (.int .i64 (a3 : Nat))] 3)) := (Below.refl _ _).drew.alloc hS.sizeP _
          refine hK _ _ ⟨?_, fun hHeld => ?_⟩
          · exact ⟨(hB1.alloc_cell hq0), (hB1.alloc_cell hq1), (hB1.alloc_cell hq2), (hB1.alloc_cell hq3)⟩
          clear hK
          simp only [Act.put, List.setIfInBounds_toArray, List.set_cons_zero, List.set_cons_succ]
          refine take_run (v := ?_) 21 (some 8) rfl rfl (by kernel_rfl) (by kernel_rfl) (by kernel_rfl) (fun _ _ _ h => h) hHeld (by rfl) ?_ ?_
          rotate_left
          · intro _ hSw; go_simp; try with_reducible rfl
          simp only [Act.put, List.setIfInBounds_toArray, List.set_cons_zero, List.set_cons_succ]
          refine wpAnyH_done (by kernel_rfl) ?_ _
          have hS1 := hS.more hB1 ((hS.own.kept (grownBy_drew wr none) (by by_cases e : (Value.slice (some ⟨g, 0, none⟩) i cap).ownBlock = none; exact .inl e; exact .inr e)).alloc _)
          have hW1 : Nums .i64 (wr.drew.alloc (.cells #[.int .i64 (a0 : Nat), .int .i64 (a1 : Nat), .int .i64 (a2 : Nat), .int .i64 (a3 : Nat)] 3)) wr.heap.size [a0, a1, a2, a3] 3 := Nums.new .i64 wr.drew [a0, a1, a2, a3] 3
          obtain ⟨X, hX⟩ : ∃ X, X = wr.drew.alloc (.cells #[.int .i64 (a0 : Nat), .int .i64 (a1 : Nat), .int .i64 (a2 : Nat), .int .i64 (a3 : Nat)] 3) := ⟨_, rfl⟩
          rw [← hX] at hS1 hW1 ⊢
          obtain ⟨wb, hwb⟩ : ∃ wb, wr.heap.size = wb := ⟨_, rfl⟩
          rw [hwb] at hW1 ⊢
          clear hX hwb hq0 hq1 hq2 hq3 hHeld hB1 hS hw1 hw2 hw3 hw4 hl1 hl2 hl3 hl4 hg1 hg2
          have hgk : gk = 40 - t := by omega
          subst hgk
          by_cases hi16 : i % 16 = 0
          · have h16 : (i : Int) % 16 = 0 := by omega
            have la0 : a0 < 256 := by rw [← Ha.out.1]; exact getD_lt HL.out.2.2 _
            have la1 : a1 < 256 := by rw [← Ha.out.2.1]; exact getD_lt HL.out.2.2 _
            have la2 : a2 < 256 := by rw [← Ha.out.2.2.1]; exact getD_lt HL.out.2.2 _
            have la3 : a3 < 256 := by rw [← Ha.out.2.2.2]; exact getD_lt HL.out.2.2 _
            obtain ⟨b0, e0⟩ : ∃ b, sbox.getD a1 0 = b := ⟨_, rfl⟩
            obtain ⟨b1, e1⟩ : ∃ b, sbox.getD a2 0 = b := ⟨_, rfl⟩
            obtain ⟨b2, e2⟩ : ∃ b, sbox.getD a3 0 = b := ⟨_, rfl⟩
            obtain ⟨b3, e3⟩ : ∃ b, sbox.getD a0 0 = b := ⟨_, rfl⟩
            obtain ⟨q, hq⟩ : ∃ q, rc ((t + 3) / 4 + 1) = q := ⟨_, rfl⟩
            have hq256 : q < 256 := by rw [← hq]; exact rc_lt _
            have lb0 : b0 < 256 := by rw [← e0]; exact getD_lt sbox_lt _
            obtain ⟨z0, hz⟩ : ∃ z, b0 ^^^ q = z := ⟨_, rfl⟩
            have hxz := xor_i64 (x := b0) (y := q) (by omega) (by omega)
            rw [hz] at hxz
            have hbox : ∀ j, j < 256 → X.cell? ⟨bg, j, none⟩ = some (.int .i64 (sbox.getD j 0 : Nat)) := fun j hj => by
              have := hS1.box j _ (ks_get (by rw [sbox_length]; exact hj))
              rwa [Nat.zero_add] at this
            have hp1 : X.cell? ⟨P, 1, none⟩ = some (.slice (some ⟨bg, 0, none⟩) 256 bc) := by rw [cell_of_row X P 1 _ _ _ hS1.c]; rfl
            have hm0 : X.cell? ⟨wb, 0, none⟩ = some (.int .i64 (a0 : Nat)) := hW1.cell (i := 0) (by simp)
            have hm1 : X.cell? ⟨wb, 1, none⟩ = some (.int .i64 (a1 : Nat)) := hW1.cell (i := 1) (by simp)
            have hm2 : X.cell? ⟨wb, 2, none⟩ = some (.int .i64 (a2 : Nat)) := hW1.cell (i := 2) (by simp)
            have hm3 : X.cell? ⟨wb, 3, none⟩ = some (.int .i64 (a3 : Nat)) := hW1.cell (i := 3) (by simp)
            have hb0 := hbox a1 la1
            have hb1 := hbox a2 la2
            have hb2 := hbox a3 la3
            have hb3 := hbox a0 la0
            rw [e0] at hb0
            rw [e1] at hb1
            rw [e2] at hb2
            rw [e3] at hb3
            have HS1 := Lib.hid hS1
            have He := Lib.hid (And.intro e0 (And.intro e1 (And.intro e2 (And.intro e3 (And.intro hq hz)))))
            have li0 : (0 : Int) ≤ (a0 : Int) ∧ (a0 : Int) < 256 := ⟨by omega, by omega⟩
            have li1 : (0 : Int) ≤ (a1 : Int) ∧ (a1 : Int) < 256 := ⟨by omega, by omega⟩
            have li2 : (0 : Int) ≤ (a2 : Int) ∧ (a2 : Int) < 256 := ⟨by omega, by omega⟩
            have li3 : (0 : Int) ≤ (a3 : Int) ∧ (a3 : Int) < 256 := ⟨by omega, by omega⟩
            rw [hq]
            clear e0 e1 e2 e3 hq hz hbox hS1 hHeld hW1
            go_upto_region 13 with (fail)
            refine wp_region_held_drew (S := (fun w' => w'.cell? ⟨P, 1, none⟩ = some (.slice (some ⟨bg, 0, none⟩) 256 bc) ∧ w'.cell? ⟨wb, 0, none⟩ = some (.int .i64 (a0 : Nat)) ∧ w'.cell? ⟨wb, 1, none⟩ = some (.int .i64 (a1 : Nat)) ∧ w'.cell? ⟨wb, 2, none⟩ = some (.int .i64 (a2 : Nat)) ∧ w'.cell? ⟨wb, 3, none⟩ = some (.int .i64 (a3 : Nat)) ∧ w'.cell? ⟨bg, a1, none⟩ = some (.int .i64 (b0 : Nat)) ∧ w'.cell? ⟨bg, a2, none⟩ = some (.int .i64 (b1 : Nat)) ∧ w'.cell? ⟨bg, a3, none⟩ = some (.int .i64 (b2 : Nat)) ∧ w'.cell? ⟨bg, a0, none⟩ = some (.int .i64 (b3 : Nat)))) (by kernel_rfl) ?_ (fun hHeld => ?_)
            · exact ⟨hp1, hm0, hm1, hm2, hm3, hb0, hb1, hb2, hb3⟩
            refine take_run (v := ?_) 0 (some 52) rfl rfl (by kernel_rfl) (by kernel_rfl) (by kernel_rfl) (fun _ _ _ h => h) hHeld (by rfl) ?_ ?_
            rotate_left
            · intro _ hSw; go_simp; try with_reducible rfl
            simp only [Act.put, List.setIfInBounds_toArray, List.set_cons_zero, List.set_cons_succ]
            refine take_run (v := ?_) 1 (some 53) rfl rfl (by kernel_rfl) (by kernel_rfl) (by kernel_rfl) (fun _ _ _ h => h) hHeld (by rfl) ?_ ?_
            rotate_left
            · intro _ hSw; go_simp; try with_reducible rfl
            simp only [Act.put, List.setIfInBounds_toArray, List.set_cons_zero, List.set_cons_succ]
            refine take_run (v := ?_) 2 (some 54) rfl rfl (by kernel_rfl) (by kernel_rfl) (by kernel_rfl) (fun _ _ _ h => h) hHeld (by rfl) ?_ ?_
            rotate_left
            · intro _ hSw; go_simp; try with_reducible rfl
            simp only [Act.put, List.setIfInBounds_toArray, List.set_cons_zero, List.set_cons_succ]
            refine take_run (v := ?_) 3 (some 55) rfl rfl (by kernel_rfl) (by kernel_rfl) (by kernel_rfl) (fun _ _ _ h => h) hHeld (by rfl) ?_ ?_
            rotate_left
            · intro _ hSw; go_simp; try with_reducible rfl
            simp only [Act.put, List.setIfInBounds_toArray, List.set_cons_zero, List.set_cons_succ]
            refine take_run (v := ?_) 4 (some 56) rfl rfl (by kernel_rfl) (by kernel_rfl) (by kernel_rfl) (fun _ _ _ h => h) hHeld (by rfl) ?_ ?_
            rotate_left
            · intro _ hSw; go_simp; try with_reducible rfl
            simp only [Act.put, List.setIfInBounds_toArray, List.set_cons_zero, List.set_cons_succ]
            refine take_run (v := ?_) 5 (some 57) rfl rfl (by kernel_rfl) (by kernel_rfl) (by kernel_rfl) (fun _ _ _ h => h) hHeld (by rfl) ?_ ?_
            rotate_left
            · intro _ hSw; go_simp; try with_reducible rfl
            simp only [Act.put, List.setIfInBounds_toArray, List.set_cons_zero, List.set_cons_succ]
            refine take_run (v := ?_) 6 (some 58) rfl rfl (by kernel_rfl) (by kernel_rfl) (by kernel_rfl) (fun _ _ _ h => h) hHeld (by rfl) ?_ ?_
            rotate_left
            · intro _ hSw; go_simp; try with_reducible rfl
            simp only [Act.put, List.setIfInBounds_toArray, List.set_cons_zero, List.set_cons_succ]
            refine take_run (v := ?_) 7 (some 59) rfl rfl (by kernel_rfl) (by kernel_rfl) (by kernel_rfl) (fun _ _ _ h => h) hHeld (by rfl) ?_ ?_
            rotate_left
            · intro _ hSw; go_simp; try with_reducible rfl
            simp only [Act.put, List.setIfInBounds_toArray, List.set_cons_zero, List.set_cons_succ]
            refine take_run (v := ?_) 8 (some 60) rfl rfl (by kernel_rfl) (by kernel_rfl) (by kernel_rfl) (fun _ _ _ h => h) hHeld (by rfl) ?_ ?_
            rotate_left
            · intro _ hSw; go_simp; try with_reducible rfl
            simp only [Act.put, List.setIfInBounds_toArray, List.set_cons_zero, List.set_cons_succ]
            refine take_run (v := ?_) 9 (some 61) rfl rfl (by kernel_rfl) (by kernel_rfl) (by kernel_rfl) (fun _ _ _ h => h) hHeld (by rfl) ?_ ?_
            rotate_left
            · intro _ hSw; go_simp; try with_reducible rfl
            simp only [Act.put, List.setIfInBounds_toArray, List.set_cons_zero, List.set_cons_succ]
            refine take_run (v := ?_) 10 (some 62) rfl rfl (by kernel_rfl) (by kernel_rfl) (by kernel_rfl) (fun _ _ _ h => h) hHeld (by rfl) ?_ ?_
            rotate_left
            · intro _ hSw; go_simp; try with_reducible rfl
            simp only [Act.put, List.setIfInBounds_toArray, List.set_cons_zero, List.set_cons_succ]
            refine take_run (v := ?_) 11 (some 63) rfl rfl (by kernel_rfl) (by kernel_rfl) (by kernel_rfl) (fun _ _ _ h => h) hHeld (by rfl) ?_ ?_
            rotate_left
            · intro _ hSw; go_simp; try with_reducible rfl
            simp only [Act.put, List.setIfInBounds_toArray, List.set_cons_zero, List.set_cons_succ]
            refine take_run (v := ?_) 12 (some 64) rfl rfl (by kernel_rfl) (by kernel_rfl) (by kernel_rfl) (fun _ _ _ h => h) hHeld (by rfl) ?_ ?_
            rotate_left
            · intro _ hSw; go_simp; try with_reducible rfl
            simp only [Act.put, List.setIfInBounds_toArray, List.set_cons_zero, List.set_cons_succ]
            refine take_run (v := ?_) 13 (some 65) rfl rfl (by kernel_rfl) (by kernel_rfl) (by kernel_rfl) (fun _ _ _ h => h) hHeld (by rfl) ?_ ?_
            rotate_left
            · intro _ hSw; go_simp; try with_reducible rfl
            simp only [Act.put, List.setIfInBounds_toArray, List.set_cons_zero, List.set_cons_succ]
            refine take_run (v := ?_) 14 (some 66) rfl rfl (by kernel_rfl) (by kernel_rfl) (by kernel_rfl) (fun _ _ _ h => h) hHeld (by rfl) ?_ ?_
            rotate_left
            · intro _ hSw; go_simp; try with_reducible rfl
            simp only [Act.put, List.setIfInBounds_toArray, List.set_cons_zero, List.set_cons_succ]
            refine take_run (v := ?_) 15 (some 67) rfl rfl (by kernel_rfl) (by kernel_rfl) (by kernel_rfl) (fun _ _ _ h => h) hHeld (by rfl) ?_ ?_
            rotate_left
            · intro _ hSw; go_simp; try with_reducible rfl
            simp only [Act.put, List.setIfInBounds_toArray, List.set_cons_zero, List.set_cons_succ]
            refine take_run (v := ?_) 16 (some 68) rfl rfl (by kernel_rfl) (by kernel_rfl) (by kernel_rfl) (fun _ _ _ h => h) hHeld (by rfl) ?_ ?_
            rotate_left
            · intro _ hSw; go_simp; try with_reducible rfl
            simp only [Act.put, List.setIfInBounds_toArray, List.set_cons_zero, List.set_cons_succ]
            refine take_run (v := ?_) 17 (some 69) rfl rfl (by kernel_rfl) (by kernel_rfl) (by kernel_rfl) (fun _ _ _ h => h) hHeld (by rfl) ?_ ?_
            rotate_left
            · intro _ hSw; go_simp; try with_reducible rfl
            simp only [Act.put, List.setIfInBounds_toArray, List.set_cons_zero, List.set_cons_succ]
            refine take_run (v := ?_) 18 (some 70) rfl rfl (by kernel_rfl) (by kernel_rfl) (by kernel_rfl) (fun _ _ _ h => h) hHeld (by rfl) ?_ ?_
            rotate_left
            · intro _ hSw; go_simp; try with_reducible rfl
            simp only [Act.put, List.setIfInBounds_toArray, List.set_cons_zero, List.set_cons_succ]
            refine take_run (v := ?_) 19 (some 71) rfl rfl (by kernel_rfl) (by kernel_rfl) (by kernel_rfl) (fun _ _ _ h => h) hHeld (by rfl) ?_ ?_
            rotate_left
            · intro _ hSw; go_simp; try with_reducible rfl
            simp only [Act.put, List.setIfInBounds_toArray, List.set_cons_zero, List.set_cons_succ]
            refine take_run (v := ?_) 20 (some 72) rfl rfl (by kernel_rfl) (by kernel_rfl) (by kernel_rfl) (fun _ _ _ h => h) hHeld (by rfl) ?_ ?_
            rotate_left
            · intro _ hSw; go_simp; try with_reducible rfl
            simp only [Act.put, List.setIfInBounds_toArray, List.set_cons_zero, List.set_cons_succ]
            refine take_run (v := ?_) 21 (some 73) rfl rfl (by kernel_rfl) (by kernel_rfl) (by kernel_rfl) (fun _ _ _ h => h) hHeld (by rfl) ?_ ?_
            rotate_left
            · intro _ hSw; go_simp; try with_reducible rfl
            simp only [Act.put, List.setIfInBounds_toArray, List.set_cons_zero, List.set_cons_succ]
            refine take_run (v := ?_) 22 (some 74) rfl rfl (by kernel_rfl) (by kernel_rfl) (by kernel_rfl) (fun _ _ _ h => h) hHeld (by rfl) ?_ ?_
            rotate_left
            · intro _ hSw; go_simp; try with_reducible rfl
            simp only [Act.put, List.setIfInBounds_toArray, List.set_cons_zero, List.set_cons_succ]
            refine take_run (v := ?_) 23 (some 75) rfl rfl (by kernel_rfl) (by kernel_rfl) (by kernel_rfl) (fun _ _ _ h => h) hHeld (by rfl) ?_ ?_
            rotate_left
            · intro _ hSw; go_simp; try with_reducible rfl
            simp only [Act.put, List.setIfInBounds_toArray, List.set_cons_zero, List.set_cons_succ]
            refine take_run (v := ?_) 24 (some 76) rfl rfl (by kernel_rfl) (by kernel_rfl) (by kernel_rfl) (fun _ _ _ h => h) hHeld (by rfl) ?_ ?_
            rotate_left
            · intro _ hSw; go_simp; try with_reducible rfl
            simp only [Act.put, List.setIfInBounds_toArray, List.set_cons_zero, List.set_cons_succ]
            refine take_run (v := ?_) 25 (some 77) rfl rfl (by kernel_rfl) (by kernel_rfl) (by kernel_rfl) (fun _ _ _ h => h) hHeld (by rfl) ?_ ?_
            rotate_left
            · intro _ hSw; go_simp; try with_reducible rfl
            simp only [Act.put, List.setIfInBounds_toArray, List.set_cons_zero, List.set_cons_succ]
            refine take_run (v := ?_) 26 (some 78) rfl rfl (by kernel_rfl) (by kernel_rfl) (by kernel_rfl) (fun _ _ _ h => h) hHeld (by rfl) ?_ ?_
            rotate_left
            · intro _ hSw; go_simp; try with_reducible rfl
            simp only [Act.put, List.setIfInBounds_toArray, List.set_cons_zero, List.set_cons_succ]
            refine take_run (v := ?_) 27 (some 79) rfl rfl (by kernel_rfl) (by kernel_rfl) (by kernel_rfl) (fun _ _ _ h => h) hHeld (by rfl) ?_ ?_
            rotate_left
            · intro _ hSw; go_simp; try with_reducible rfl
            simp only [Act.put, List.setIfInBounds_toArray, List.set_cons_zero, List.set_cons_succ]
            refine take_run (v := ?_) 28 (some 80) rfl rfl (by kernel_rfl) (by kernel_rfl) (by kernel_rfl) (fun _ _ _ h => h) hHeld (by rfl) ?_ ?_
            rotate_left
            · intro _ hSw; go_simp; try with_reducible rfl
            simp only [Act.put, List.setIfInBounds_toArray, List.set_cons_zero, List.set_cons_succ]
            refine take_run (v := ?_) 29 (some 81) rfl rfl (by kernel_rfl) (by kernel_rfl) (by kernel_rfl) (fun _ _ _ h => h) hHeld (by rfl) ?_ ?_
            rotate_left
            · intro _ hSw; go_simp; try with_reducible rfl
            simp only [Act.put, List.setIfInBounds_toArray, List.set_cons_zero, List.set_cons_succ]
            refine op_at 30 (some 82) rfl rfl (by kernel_rfl) (by rfl) (fun K hK => ?_)
            refine wp_buildVals 34 3 4 #[(0, .tmp 60), (1, .tmp 67), (2, .tmp 74), (3, .tmp 81)] ?_ [(.int .i64 (z0 : Nat)), (.int .i64 (b1 : Nat)), (.int .i64 (b2 : Nat)), (.int .i64 (b3 : Nat))] ?_ ?_ ?_ ?_ ?_ ?_ ?_ ?_ ?_
            · rfl
            · exact Tryd.underlying34
            · kernel_rfl
            · kernel_rfl
            · rfl
            · decide
            · decide
            · rfl
            · intro v hv; simp only [List.mem_cons, List.not_mem_nil, or_false] at hv; rcases hv with rfl | rfl | rfl | rfl <;> rfl
            have hB2 : Below (P + 1) X (X.drew.alloc (.cells #[(.int .i64 (z0 : Nat)), (.int .i64 (b1 : Nat)), (.int .i64 (b2 : Nat)), (.int .i64 (b3 : Nat))] 3)) := (Below.refl _ _).drew.alloc HS1.out.sizeP _
            refine hK _ _ ⟨?_, fun hHeld => ?_⟩
            · exact ⟨(hB2.alloc_cell hp1), (hB2.alloc_cell hm0), (hB2.alloc_cell hm1), (hB2.alloc_cell hm2), (hB2.alloc_cell hm3), (hB2.alloc_cell hb0), (hB2.alloc_cell hb1), (hB2.alloc_cell hb2), (hB2.alloc_cell hb3)⟩
            clear hK
            simp only [Act.put, List.setIfInBounds_toArray, List.set_cons_zero, List.set_cons_succ]
            refine take_run (v := ?_) 31 (some 8) rfl rfl (by kernel_rfl) (by kernel_rfl) (by kernel_rfl) (fun _ _ _ h => h) hHeld (by rfl) ?_ ?_
            rotate_left
            · intro _ hSw; go_simp; try with_reducible rfl
            simp only [Act.put, List.setIfInBounds_toArray, List.set_cons_zero, List.set_cons_succ]
            refine wpAnyH_done (by kernel_rfl) ?_ _
            have hS2 := HS1.out.more hB2 ((HS1.out.own.kept (grownBy_drew X none) (by by_cases e : (Value.slice (some ⟨g, 0, none⟩) i cap).ownBlock = none; exact .inl e; exact .inr e)).alloc _)
            have hW2 : Nums .i64 (X.drew.alloc (.cells #[(.int .i64 (z0 : Nat)), (.int .i64 (b1 : Nat)), (.int .i64 (b2 : Nat)), (.int .i64 (b3 : Nat))] 3)) X.heap.size [z0, b1, b2, b3] 3 := Nums.new .i64 X.drew [z0, b1, b2, b3] 3
            have hwl : [z0, b1, b2, b3] = rw L i := by
              rw [rw, show (List.range 4) = [0, 1, 2, 3] from rfl]
              simp only [List.map_cons, List.map_nil, if_pos hi16, wordF]
              rw [show 16 * (i / 16) - 4 + (0 + 1) % 4 = i - 3 by omega, show 16 * (i / 16) - 4 + (1 + 1) % 4 = i - 2 by omega, show 16 * (i / 16) - 4 + (2 + 1) % 4 = i - 1 by omega, show 16 * (i / 16) - 4 + (3 + 1) % 4 = i - 4 by omega, Ha.out.1, Ha.out.2.1, Ha.out.2.2.1, Ha.out.2.2.2, He.out.1, He.out.2.1, He.out.2.2.1, He.out.2.2.2.1, if_pos trivial, if_neg (by decide), if_neg (by decide), if_neg (by decide), show i / 16 = (t + 3) / 4 + 1 by omega, He.out.2.2.2.2.1, He.out.2.2.2.2.2, Nat.xor_zero, Nat.xor_zero, Nat.xor_zero]
            rw [hwl] at hW2
            obtain ⟨Y, hY⟩ : ∃ Y, Y = X.drew.alloc (.cells #[(.int .i64 (z0 : Nat)), (.int .i64 (b1 : Nat)), (.int .i64 (b2 : Nat)), (.int .i64 (b3 : Nat))] 3) := ⟨_, rfl⟩
            rw [← hY] at hS2 hW2 ⊢
            obtain ⟨yb, hyb⟩ : ∃ yb, X.heap.size = yb := ⟨_, rfl⟩
            rw [hyb] at hW2 ⊢
            have hq2 : gmul q 2 = rc ((t + 1 + 3) / 4 + 1) := by rw [← He.out.2.2.2.2.1, ← rc_succ (by omega)]; congr 1; omega
            have hS1 := hS2
            have hW1 := hW2
            clear hwl hY hyb hS2 hW2 hHeld hB2 hxz hp1 hm0 hm1 hm2 hm3 hb0 hb1 hb2 hb3 li0 li1 li2 li3 la0 la1 la2 la3
            have Hq2 := Lib.hid hq2
            clear hq2
            go_wp2_with (go_at_call 29; refine (rmul_any _ _ _ (by omega) (by omega) (by omega) (by omega)).mono ?_; rw [Int.toNat_natCast, show Int.toNat 2 = 2 from rfl, Hq2.out]; rintro e w' ⟨rfl, rfl⟩)
            go_loopg [4, 9] 4 (fun gq v j' wr => ∃ j : Nat, j + gq = 4 ∧ j' = .int .i64 j ∧ SN w wr N P bg bc key v (i + j) (sched key (4 * t + j)) ∧ Nums .i64 wr yb (rw L i) 3)
            case atStart => exact ⟨0, rfl, rfl, by rw [Nat.add_zero, Nat.add_zero, HL.out.1]; exact hS1, hW1⟩
            case round =>
              clear hS1 hW1
              obtain ⟨j, hjg, rfl, hS, hW⟩ := hrel
              by_cases hjlt : j < 4
              · have hjlti : (j : Int) < 4 := by omega
                obtain ⟨g', cap', hv, hg1, hg2, hcap', hrg⟩ := owns_range hS.own (by omega)
                subst hv
                have HI := Lib.hid (And.intro hS hW)
                have hne : g' ≠ yb := fun e => by
                  subst e
                  exact own_ne_word hS.own (by omega) hW (rw_length L i)
                obtain ⟨p0, hp0⟩ : ∃ p0, i - 16 = p0 := ⟨_, rfl⟩
                obtain ⟨p, hp⟩ : ∃ p, p0 + j = p := ⟨_, rfl⟩
                obtain ⟨x, hx⟩ : ∃ x, (sched key (4 * t + j)).getD p 0 = x := ⟨_, rfl⟩
                obtain ⟨y, hy⟩ : ∃ y, (rw L i).getD j 0 = y := ⟨_, rfl⟩
                have hsl : (sched key (4 * t + j)).length = i + j := by rw [sched_length, Hl.out.1]; omega
                have hx256 : x < 256 := by rw [← hx]; exact getD_lt (sched_lt Hl.out.2 _) _
                have hy256 : y < 256 := by rw [← hy]; exact getD_lt (rw_lt HL.out.2.2 i) _
                have hq1 := hrg p _ (ks_get (by rw [hsl]; omega))
                rw [Nat.zero_add, hx] at hq1
                have hq2 := hW.cell (i := j) (by rw [rw_length]; omega)
                rw [hy] at hq2
                obtain ⟨z, hz⟩ : ∃ z, x ^^^ y = z := ⟨_, rfl⟩
                have hxy := xor_i64 (x := x) (y := y) (by omega) (by omega)
                rw [hz] at hxy
                have Hz : Hid (kstep (sched key (4 * t + j)) = z) := by
                  show kstep (sched key (4 * t + j)) = z
                  rw [← hz, ← hx, ← hy, ← HL.out.1]
                  rw [kstep_rw (i := i) Hl.out.1 (by omega) hjlt, hp0, hp]
                have Hx := Lib.hid hx
                have Hy := Lib.hid hy
                have hw1 : IntKind.i64.wrap ((i : Int) - 16) = (p0 : Int) := by rw [wrap_small (by omega) (by omega)]; omega
                have hw2 : IntKind.i64.wrap ((p0 : Int) + (j : Int)) = (p : Int) := by rw [wrap_small (by omega) (by omega)]; omega
                have hlx : (p : Int) < (i : Int) + (j : Int) := by omega
                have hlp : p < i + j := by omega
                have hj0 : (0 : Int) ≤ (j : Int) := by omega
                clear hx hy hz hsl hrg hS hW hp0 hp
                go_upto_region 18 with (fail)
                refine wp_region_held_drew (S := (fun w' => w'.cell? ⟨g', p, none⟩ = some (.int .i64 (x : Nat)) ∧ w'.cell? ⟨yb, j, none⟩ = some (.int .i64 (y : Nat)))) (by kernel_rfl) ?_ (fun hHeld => ?_)
                · exact ⟨hq1, hq2⟩
                refine take_run (v := ?_) 0 (some 89) rfl rfl (by kernel_rfl) (by kernel_rfl) (by kernel_rfl) (fun _ _ _ h => h) hHeld (by rfl) ?_ ?_
                rotate_left
                · intro _ hSw; go_simp; try with_reducible rfl
                simp only [Act.put, List.setIfInBounds_toArray, List.set_cons_zero, List.set_cons_succ]
                refine take_run (v := ?_) 1 (some 90) rfl rfl (by kernel_rfl) (by kernel_rfl) (by kernel_rfl) (fun _ _ _ h => h) hHeld (by rfl) ?_ ?_
                rotate_left
                · intro _ hSw; go_simp; try with_reducible rfl
                simp only [Act.put, List.setIfInBounds_toArray, List.set_cons_zero, List.set_cons_succ]
                refine take_run (v := ?_) 2 (some 91) rfl rfl (by kernel_rfl) (by kernel_rfl) (by kernel_rfl) (fun _ _ _ h => h) hHeld (by rfl) ?_ ?_
                rotate_left
                · intro _ hSw; go_simp; try with_reducible rfl
                simp only [Act.put, List.setIfInBounds_toArray, List.set_cons_zero, List.set_cons_succ]
                refine take_run (v := ?_) 3 (some 92) rfl rfl (by kernel_rfl) (by kernel_rfl) (by kernel_rfl) (fun _ _ _ h => h) hHeld (by rfl) ?_ ?_
                rotate_left
                · intro _ hSw; go_simp; try with_reducible rfl
                simp only [Act.put, List.setIfInBounds_toArray, List.set_cons_zero, List.set_cons_succ]
                refine take_run (v := ?_) 4 (some 93) rfl rfl (by kernel_rfl) (by kernel_rfl) (by kernel_rfl) (fun _ _ _ h => h) hHeld (by rfl) ?_ ?_
                rotate_left
                · intro _ hSw; go_simp; try with_reducible rfl
                simp only [Act.put, List.setIfInBounds_toArray, List.set_cons_zero, List.set_cons_succ]
                refine take_run (v := ?_) 5 (some 94) rfl rfl (by kernel_rfl) (by kernel_rfl) (by kernel_rfl) (fun _ _ _ h => h) hHeld (by rfl) ?_ ?_
                rotate_left
                · intro _ hSw; go_simp; try with_reducible rfl
                simp only [Act.put, List.setIfInBounds_toArray, List.set_cons_zero, List.set_cons_succ]
                refine take_run (v := ?_) 6 (some 95) rfl rfl (by kernel_rfl) (by kernel_rfl) (by kernel_rfl) (fun _ _ _ h => h) hHeld (by rfl) ?_ ?_
                rotate_left
                · intro _ hSw; go_simp; try with_reducible rfl
                simp only [Act.put, List.setIfInBounds_toArray, List.set_cons_zero, List.set_cons_succ]
                refine take_run (v := ?_) 7 (some 96) rfl rfl (by kernel_rfl) (by kernel_rfl) (by kernel_rfl) (fun _ _ _ h => h) hHeld (by rfl) ?_ ?_
                rotate_left
                · intro _ hSw; go_simp; try with_reducible rfl
                simp only [Act.put, List.setIfInBounds_toArray, List.set_cons_zero, List.set_cons_succ]
                refine take_run (v := ?_) 8 (some 97) rfl rfl (by kernel_rfl) (by kernel_rfl) (by kernel_rfl) (fun _ _ _ h => h) hHeld (by rfl) ?_ ?_
                rotate_left
                · intro _ hSw; go_simp; try with_reducible rfl
                simp only [Act.put, List.setIfInBounds_toArray, List.set_cons_zero, List.set_cons_succ]
                refine take_run (v := ?_) 9 (some 98) rfl rfl (by kernel_rfl) (by kernel_rfl) (by kernel_rfl) (fun _ _ _ h => h) hHeld (by rfl) ?_ ?_
                rotate_left
                · intro _ hSw; go_simp; try with_reducible rfl
                simp only [Act.put, List.setIfInBounds_toArray, List.set_cons_zero, List.set_cons_succ]
                refine take_run (v := ?_) 10 (some 99) rfl rfl (by kernel_rfl) (by kernel_rfl) (by kernel_rfl) (fun _ _ _ h => h) hHeld (by rfl) ?_ ?_
                rotate_left
                · intro _ hSw; go_simp; try with_reducible rfl
                simp only [Act.put, List.setIfInBounds_toArray, List.set_cons_zero, List.set_cons_succ]
                refine take_run (v := ?_) 11 (some 100) rfl rfl (by kernel_rfl) (by kernel_rfl) (by kernel_rfl) (fun _ _ _ h => h) hHeld (by rfl) ?_ ?_
                rotate_left
                · intro _ hSw; go_simp; try with_reducible rfl
                simp only [Act.put, List.setIfInBounds_toArray, List.set_cons_zero, List.set_cons_succ]
                refine take_run (v := ?_) 12 (some 101) rfl rfl (by kernel_rfl) (by kernel_rfl) (by kernel_rfl) (fun _ _ _ h => h) hHeld (by rfl) ?_ ?_
                rotate_left
                · intro _ hSw; go_simp; try with_reducible rfl
                simp only [Act.put, List.setIfInBounds_toArray, List.set_cons_zero, List.set_cons_succ]
                refine op_at 13 (some 102) rfl rfl (by kernel_rfl) (by rfl) (fun K hK => ?_)
                refine wp_buildVals 34 3 1 #[(0, .tmp 101)] ?_ [(.int .i64 (z : Nat))] ?_ ?_ ?_ ?_ ?_ ?_ ?_ ?_ ?_
                · rfl
                · exact Tryd.underlying34
                · kernel_rfl
                · kernel_rfl
                · rfl
                · decide
                · decide
                · rfl
                · intro v hv; simp only [List.mem_singleton] at hv; subst hv; rfl
                have hB1 : Below (P + 1) wr (wr.drew.alloc (.cells #[(.int .i64 (z : Nat))] 3)) := (Below.refl _ _).drew.alloc HI.out.1.sizeP _
                have hownA := (HI.out.1.own.kept (grownBy_drew wr none) (by by_cases e : (Value.slice (some ⟨g', 0, none⟩) (i + j) cap').ownBlock = none; exact .inl e; exact .inr e)).alloc (.cells #[(.int .i64 (z : Nat))] 3)
                have hc1 := hB1.alloc_cell hq1
                have hc2 := hB1.alloc_cell hq2
                refine hK _ _ ⟨?_, fun hHeld => ?_⟩
                · first | exact ⟨hd1, hd2⟩ | exact ⟨hc1, hc2⟩
                clear hK
                simp only [Act.put, List.setIfInBounds_toArray, List.set_cons_zero, List.set_cons_succ]
                refine op_at 14 (some 103) rfl rfl (by kernel_rfl) (by rfl) (fun K hK => ?_)
                refine wp_append_own_keep (.tmp 89) (.tmp 102) 34 ?_ (P + 1) 3 i0 (.int .i64 0) 1 8 Tryd.underlying34 Hi0.out.1 Hi0.out.2.1 Hi0.out.2.2.1 Hi0.out.2.2.2 ?_ ?_ g' (i + j) cap' (ks .i64 (sched key (4 * t + j))) ?_ hownA ⟨wr.drew.heap.size, 0, none⟩ 1 1 [(.int .i64 (z : Nat))] ?_ ?_ (cell_one_new _ _ _) ?_ ?_ ?_ ?_ ?_
                · rfl
                · rfl
                · decide
                · rfl
                · rfl
                · rfl
                · intro u hu; simp only [List.mem_singleton] at hu; subst hu; rfl
                · unfold maxLen; omega
                · omega
                · exact hB1.size_of HI.out.1.sizeP
                intro v1 w1 hown1 hgr1 hkp
                have hB2 : Below (P + 1) wr w1 := hB1.grown hgr1 (hB1.size_of HI.out.1.sizeP) (fun k hk => (HI.out.1.own.lt k hk).1)
                have hd1 := hkp p _ (by rw [ks_get (by rw [sched_length, Hl.out.1]; omega), Hx.out])
                have hW' := (HI.out.2.below ((Below.refl _ _).drew.alloc (Nat.le_refl _) (.cells #[(.int .i64 (z : Nat))] 3)) HI.out.2.lt).grown hgr1 (fun e => hne (by injection e with e; exact e.symm))
                have hd2 := hW'.cell (i := j) (by rw [rw_length]; omega)
                rw [Hy.out] at hd2
                refine hK _ _ ⟨?_, fun hHeld => ?_⟩
                · first | exact ⟨hd1, hd2⟩ | exact ⟨hc1, hc2⟩
                clear hK
                simp only [Act.put, List.setIfInBounds_toArray, List.set_cons_zero, List.set_cons_succ]
                refine take_run (v := ?_) 15 (some 4) rfl rfl (by kernel_rfl) (by kernel_rfl) (by kernel_rfl) (fun _ _ _ h => h) hHeld (by rfl) ?_ ?_
                rotate_left
                · intro _ hSw; go_simp; try with_reducible rfl
                simp only [Act.put, List.setIfInBounds_toArray, List.set_cons_zero, List.set_cons_succ]
                refine wpAnyH_done (by kernel_rfl) ?_ _
                go_wp2_with fail
                go_roundg (gk - 1)
                case measure => omega
                case rel =>
                  refine ⟨j + 1, by omega, by go_num, HI.out.1.more hB2 ?_, hW'⟩
                  rw [show ks .i64 (sched key (4 * t + j)) ++ [.int .i64 (z : Nat)] = ks .i64 (sched key (4 * t + (j + 1))) by rw [← Nat.add_assoc, sched, ← ks_append, Hz.out]; rfl] at hown1
                  exact hown1
              · have hjlti : ¬ (j : Int) < 4 := by omega
                obtain rfl : j = 4 := by omega
                go_wp2_with fail
                go_roundg (40 - (t + 1))
                case measure => omega
                case rel => exact ⟨t + 1, by omega, by go_num, by first | rfl | rw [hround], by rw [show 16 + 4 * (t + 1) = i + 4 by omega, show 4 * (t + 1) = 4 * t + 4 by omega]; exact hS⟩
          · have h16 : ¬ (i : Int) % 16 = 0 := by omega
            have hwl : [a0, a1, a2, a3] = rw L i := by
              rw [rw, show (List.range 4) = [0, 1, 2, 3] from rfl]
              simp only [List.map_cons, List.map_nil, if_neg hi16]
              rw [show i - 4 + 0 = i - 4 by omega, show i - 4 + 1 = i - 3 by omega, show i - 4 + 2 = i - 2 by omega, show i - 4 + 3 = i - 1 by omega, Ha.out.1, Ha.out.2.1, Ha.out.2.2.1, Ha.out.2.2.2]
            rw [hwl] at hW1
            have hround : (t + 3) / 4 + 1 = (t + 1 + 3) / 4 + 1 := by omega
            clear hwl
            go_wp2_with fail
            go_loopg [4, 9] 4 (fun gq v j' wr => ∃ j : Nat, j + gq = 4 ∧ j' = .int .i64 j ∧ SN w wr N P bg bc key v (i + j) (sched key (4 * t + j)) ∧ Nums .i64 wr wb (rw L i) 3)
            case atStart => exact ⟨0, rfl, rfl, by rw [Nat.add_zero, Nat.add_zero, HL.out.1]; exact hS1, hW1⟩
            case round =>
              clear hS1 hW1
              obtain ⟨j, hjg, rfl, hS, hW⟩ := hrel
              by_cases hjlt : j < 4
              · have hjlti : (j : Int) < 4 := by omega
                obtain ⟨g', cap', hv, hg1, hg2, hcap', hrg⟩ := owns_range hS.own (by omega)
                subst hv
                have HI := Lib.hid (And.intro hS hW)
                have hne : g' ≠ wb := fun e => by
                  subst e
                  exact own_ne_word hS.own (by omega) hW (rw_length L i)
                obtain ⟨p0, hp0⟩ : ∃ p0, i - 16 = p0 := ⟨_, rfl⟩
                obtain ⟨p, hp⟩ : ∃ p, p0 + j = p := ⟨_, rfl⟩
                obtain ⟨x, hx⟩ : ∃ x, (sched key (4 * t + j)).getD p 0 = x := ⟨_, rfl⟩
                obtain ⟨y, hy⟩ : ∃ y, (rw L i).getD j 0 = y := ⟨_, rfl⟩
                have hsl : (sched key (4 * t + j)).length = i + j := by rw [sched_length, Hl.out.1]; omega
                have hx256 : x < 256 := by rw [← hx]; exact getD_lt (sched_lt Hl.out.2 _) _
                have hy256 : y < 256 := by rw [← hy]; exact getD_lt (rw_lt HL.out.2.2 i) _
                have hq1 := hrg p _ (ks_get (by rw [hsl]; omega))
                rw [Nat.zero_add, hx] at hq1
                have hq2 := hW.cell (i := j) (by rw [rw_length]; omega)
                rw [hy] at hq2
                obtain ⟨z, hz⟩ : ∃ z, x ^^^ y = z := ⟨_, rfl⟩
                have hxy := xor_i64 (x := x) (y := y) (by omega) (by omega)
                rw [hz] at hxy
                have Hz : Hid (kstep (sched key (4 * t + j)) = z) := by
                  show kstep (sched key (4 * t + j)) = z
                  rw [← hz, ← hx, ← hy, ← HL.out.1]
                  rw [kstep_rw (i := i) Hl.out.1 (by omega) hjlt, hp0, hp]
                have Hx := Lib.hid hx
                have Hy := Lib.hid hy
                have hw1 : IntKind.i64.wrap ((i : Int) - 16) = (p0 : Int) := by rw [wrap_small (by omega) (by omega)]; omega
                have hw2 : IntKind.i64.wrap ((p0 : Int) + (j : Int)) = (p : Int) := by rw [wrap_small (by omega) (by omega)]; omega
                have hlx : (p : Int) < (i : Int) + (j : Int) := by omega
                have hlp : p < i + j := by omega
                have hj0 : (0 : Int) ≤ (j : Int) := by omega
                clear hx hy hz hsl hrg hS hW hp0 hp
                go_upto_region 18 with (fail)
                refine wp_region_held_drew (S := (fun w' => w'.cell? ⟨g', p, none⟩ = some (.int .i64 (x : Nat)) ∧ w'.cell? ⟨wb, j, none⟩ = some (.int .i64 (y : Nat)))) (by kernel_rfl) ?_ (fun hHeld => ?_)
                · exact ⟨hq1, hq2⟩
                refine take_run (v := ?_) 0 (some 89) rfl rfl (by kernel_rfl) (by kernel_rfl) (by kernel_rfl) (fun _ _ _ h => h) hHeld (by rfl) ?_ ?_
                rotate_left
                · intro _ hSw; go_simp; try with_reducible rfl
                simp only [Act.put, List.setIfInBounds_toArray, List.set_cons_zero, List.set_cons_succ]
                refine take_run (v := ?_) 1 (some 90) rfl rfl (by kernel_rfl) (by kernel_rfl) (by kernel_rfl) (fun _ _ _ h => h) hHeld (by rfl) ?_ ?_
                rotate_left
                · intro _ hSw; go_simp; try with_reducible rfl
                simp only [Act.put, List.setIfInBounds_toArray, List.set_cons_zero, List.set_cons_succ]
                refine take_run (v := ?_) 2 (some 91) rfl rfl (by kernel_rfl) (by kernel_rfl) (by kernel_rfl) (fun _ _ _ h => h) hHeld (by rfl) ?_ ?_
                rotate_left
                · intro _ hSw; go_simp; try with_reducible rfl
                simp only [Act.put, List.setIfInBounds_toArray, List.set_cons_zero, List.set_cons_succ]
                refine take_run (v := ?_) 3 (some 92) rfl rfl (by kernel_rfl) (by kernel_rfl) (by kernel_rfl) (fun _ _ _ h => h) hHeld (by rfl) ?_ ?_
                rotate_left
                · intro _ hSw; go_simp; try with_reducible rfl
                simp only [Act.put, List.setIfInBounds_toArray, List.set_cons_zero, List.set_cons_succ]
                refine take_run (v := ?_) 4 (some 93) rfl rfl (by kernel_rfl) (by kernel_rfl) (by kernel_rfl) (fun _ _ _ h => h) hHeld (by rfl) ?_ ?_
                rotate_left
                · intro _ hSw; go_simp; try with_reducible rfl
                simp only [Act.put, List.setIfInBounds_toArray, List.set_cons_zero, List.set_cons_succ]
                refine take_run (v := ?_) 5 (some 94) rfl rfl (by kernel_rfl) (by kernel_rfl) (by kernel_rfl) (fun _ _ _ h => h) hHeld (by rfl) ?_ ?_
                rotate_left
                · intro _ hSw; go_simp; try with_reducible rfl
                simp only [Act.put, List.setIfInBounds_toArray, List.set_cons_zero, List.set_cons_succ]
                refine take_run (v := ?_) 6 (some 95) rfl rfl (by kernel_rfl) (by kernel_rfl) (by kernel_rfl) (fun _ _ _ h => h) hHeld (by rfl) ?_ ?_
                rotate_left
                · intro _ hSw; go_simp; try with_reducible rfl
                simp only [Act.put, List.setIfInBounds_toArray, List.set_cons_zero, List.set_cons_succ]
                refine take_run (v := ?_) 7 (some 96) rfl rfl (by kernel_rfl) (by kernel_rfl) (by kernel_rfl) (fun _ _ _ h => h) hHeld (by rfl) ?_ ?_
                rotate_left
                · intro _ hSw; go_simp; try with_reducible rfl
                simp only [Act.put, List.setIfInBounds_toArray, List.set_cons_zero, List.set_cons_succ]
                refine take_run (v := ?_) 8 (some 97) rfl rfl (by kernel_rfl) (by kernel_rfl) (by kernel_rfl) (fun _ _ _ h => h) hHeld (by rfl) ?_ ?_
                rotate_left
                · intro _ hSw; go_simp; try with_reducible rfl
                simp only [Act.put, List.setIfInBounds_toArray, List.set_cons_zero, List.set_cons_succ]
                refine take_run (v := ?_) 9 (some 98) rfl rfl (by kernel_rfl) (by kernel_rfl) (by kernel_rfl) (fun _ _ _ h => h) hHeld (by rfl) ?_ ?_
                rotate_left
                · intro _ hSw; go_simp; try with_reducible rfl
                simp only [Act.put, List.setIfInBounds_toArray, List.set_cons_zero, List.set_cons_succ]
                refine take_run (v := ?_) 10 (some 99) rfl rfl (by kernel_rfl) (by kernel_rfl) (by kernel_rfl) (fun _ _ _ h => h) hHeld (by rfl) ?_ ?_
                rotate_left
                · intro _ hSw; go_simp; try with_reducible rfl
                simp only [Act.put, List.setIfInBounds_toArray, List.set_cons_zero, List.set_cons_succ]
                refine take_run (v := ?_) 11 (some 100) rfl rfl (by kernel_rfl) (by kernel_rfl) (by kernel_rfl) (fun _ _ _ h => h) hHeld (by rfl) ?_ ?_
                rotate_left
                · intro _ hSw; go_simp; try with_reducible rfl
                simp only [Act.put, List.setIfInBounds_toArray, List.set_cons_zero, List.set_cons_succ]
                refine take_run (v := ?_) 12 (some 101) rfl rfl (by kernel_rfl) (by kernel_rfl) (by kernel_rfl) (fun _ _ _ h => h) hHeld (by rfl) ?_ ?_
                rotate_left
                · intro _ hSw; go_simp; try with_reducible rfl
                simp only [Act.put, List.setIfInBounds_toArray, List.set_cons_zero, List.set_cons_succ]
                refine op_at 13 (some 102) rfl rfl (by kernel_rfl) (by rfl) (fun K hK => ?_)
                refine wp_buildVals 34 3 1 #[(0, .tmp 101)] ?_ [(.int .i64 (z : Nat))] ?_ ?_ ?_ ?_ ?_ ?_ ?_ ?_ ?_
                · rfl
                · exact Tryd.underlying34
                · kernel_rfl
                · kernel_rfl
                · rfl
                · decide
                · decide
                · rfl
                · intro v hv; simp only [List.mem_singleton] at hv; subst hv; rfl
                have hB1 : Below (P + 1) wr (wr.drew.alloc (.cells #[(.int .i64 (z : Nat))] 3)) := (Below.refl _ _).drew.alloc HI.out.1.sizeP _
                have hownA := (HI.out.1.own.kept (grownBy_drew wr none) (by by_cases e : (Value.slice (some ⟨g', 0, none⟩) (i + j) cap').ownBlock = none; exact .inl e; exact .inr e)).alloc (.cells #[(.int .i64 (z : Nat))] 3)
                have hc1 := hB1.alloc_cell hq1
                have hc2 := hB1.alloc_cell hq2
                refine hK _ _ ⟨?_, fun hHeld => ?_⟩
                · first | exact ⟨hd1, hd2⟩ | exact ⟨hc1, hc2⟩
                clear hK
                simp only [Act.put, List.setIfInBounds_toArray, List.set_cons_zero, List.set_cons_succ]
                refine op_at 14 (some 103) rfl rfl (by kernel_rfl) (by rfl) (fun K hK => ?_)
                refine wp_append_own_keep (.tmp 89) (.tmp 102) 34 ?_ (P + 1) 3 i0 (.int .i64 0) 1 8 Tryd.underlying34 Hi0.out.1 Hi0.out.2.1 Hi0.out.2.2.1 Hi0.out.2.2.2 ?_ ?_ g' (i + j) cap' (ks .i64 (sched key (4 * t + j))) ?_ hownA ⟨wr.drew.heap.size, 0, none⟩ 1 1 [(.int .i64 (z : Nat))] ?_ ?_ (cell_one_new _ _ _) ?_ ?_ ?_ ?_ ?_
                · rfl
                · rfl
                · decide
                · rfl
                · rfl
                · rfl
                · intro u hu; simp only [List.mem_singleton] at hu; subst hu; rfl
                · unfold maxLen; omega
                · omega
                · exact hB1.size_of HI.out.1.sizeP
                intro v1 w1 hown1 hgr1 hkp
                have hB2 : Below (P + 1) wr w1 := hB1.grown hgr1 (hB1.size_of HI.out.1.sizeP) (fun k hk => (HI.out.1.own.lt k hk).1)
                have hd1 := hkp p _ (by rw [ks_get (by rw [sched_length, Hl.out.1]; omega), Hx.out])
                have hW' := (HI.out.2.below ((Below.refl _ _).drew.alloc (Nat.le_refl _) (.cells #[(.int .i64 (z : Nat))] 3)) HI.out.2.lt).grown hgr1 (fun e => hne (by injection e with e; exact e.symm))
                have hd2 := hW'.cell (i := j) (by rw [rw_length]; omega)
                rw [Hy.out] at hd2
                refine hK _ _ ⟨?_, fun hHeld => ?_⟩
                · first | exact ⟨hd1, hd2⟩ | exact ⟨hc1, hc2⟩
                clear hK
                simp only [Act.put, List.setIfInBounds_toArray, List.set_cons_zero, List.set_cons_succ]
                refine take_run (v := ?_) 15 (some 4) rfl rfl (by kernel_rfl) (by kernel_rfl) (by kernel_rfl) (fun _ _ _ h => h) hHeld (by rfl) ?_ ?_
                rotate_left
                · intro _ hSw; go_simp; try with_reducible rfl
                simp only [Act.put, List.setIfInBounds_toArray, List.set_cons_zero, List.set_cons_succ]
                refine wpAnyH_done (by kernel_rfl) ?_ _
                go_wp2_with fail
                go_roundg (gk - 1)
                case measure => omega
                case rel =>
                  refine ⟨j + 1, by omega, by go_num, HI.out.1.more hB2 ?_, hW'⟩
                  rw [show ks .i64 (sched key (4 * t + j)) ++ [.int .i64 (z : Nat)] = ks .i64 (sched key (4 * t + (j + 1))) by rw [← Nat.add_assoc, sched, ← ks_append, Hz.out]; rfl] at hown1
                  exact hown1
              · have hjlti : ¬ (j : Int) < 4 := by omega
                obtain rfl : j = 4 := by omega
                go_wp2_with fail
                go_roundg (40 - (t + 1))
                case measure => omega
                case rel => exact ⟨t + 1, by omega, by go_num, by first | rfl | rw [hround], by rw [show 16 + 4 * (t + 1) = i + 4 by omega, show 4 * (t + 1) = 4 * t + 4 by omega]; exact hS⟩
        · have htlti : ¬ ((16 + 4 * t : Nat) : Int) < 176 := by omega
          obtain rfl : t = 40 := by omega
          obtain ⟨g, cap, hv, hg1, hg2, hcap, hrg⟩ := owns_range hS.own (by omega)
          obtain ⟨B, hB⟩ : ∃ B, wr.heap.size = B := ⟨_, rfl⟩
          have hK0 : SK w wr N P bg bc B g cap key (.slice none 0 0) (.slice none 0 0) 0 := ⟨hS.res, hS.c, hS.box, fun j x hj => by rw [Nat.zero_add]; have := hrg j x hj; rwa [Nat.zero_add] at this, World.ownsRow_nil _ _ _ _, hS.bel, by omega, hS.lt, by omega, hS.hbg, by omega⟩
          subst hv
          have hinfo1 : (Tryd.prog.info? 34).map (fun i => (i.zero, i.size, i.bytes)) = some (some (.slice none 0 0), 1, 24) := by kernel_rfl
          obtain ⟨i1, hi1, hz1, hz2, hz3⟩ := info_parts hinfo1
          have Hi1 := Lib.hid (And.intro hi1 (And.intro hz1 (And.intro hz2 hz3)))
          clear hS htlt htlti hrg hB hi1 hz1 hz2 hz3 hinfo1 hg1 hg2
          go_wp2_with fail
          go_loopg [10] 11 (fun gq i' wr => ∃ (t : Nat) (u : Value), t + gq = 11 ∧ i' = .int .i64 ((16 * t : Nat) : Int) ∧ SK w wr N P bg bc B g cap key u u t)
          case atStart => exact ⟨0, _, rfl, rfl, hK0⟩
          case round =>
            clear hK0
            obtain ⟨t, u, htg, rfl, hS⟩ := hrel
            by_cases htlt : t < 11
            · obtain ⟨p, hp⟩ : ∃ p, 16 * t = p := ⟨_, rfl⟩
              rw [hp]
              have hpi : (p : Int) < 176 := by omega
              obtain ⟨p16, hp16⟩ : ∃ p', p + 16 = p' := ⟨_, rfl⟩
              obtain ⟨c16, hc16⟩ : ∃ c', cap - p = c' := ⟨_, rfl⟩
              have hsl : ∀ w, (Instr.slice 34 (.slice (some ⟨g, 0, none⟩) (16 + 4 * 40) cap) (some (.int .i64 (p : Int))) (some (.int .i64 (p16 : Int))) none).run Tryd.prog w = .ok (.slice (some ⟨g, p, none⟩) 16 c16) w := fun w => by
                rw [← hc16]
                have := slice_lh (P := Tryd.prog) Tryd.underlying34 (by kernel_rfl) g 0 (16 + 4 * 40) cap p p16 .i64 .i64 (by omega) (by omega) (by omega) w
                rw [Nat.zero_add, show p16 - p = 16 by omega] at this
                exact this
              have hw : IntKind.i64.wrap ((p : Int) + 16) = (p16 : Int) := by rw [wrap_small (by omega) (by omega)]; omega
              have hq0 := hS.cell
              have Hp := Lib.hid (And.intro hp (And.intro hc16 hp16))
              replace hS := Lib.hid hS
              clear hp hp16 hc16 hcap
              go_upto_region 22 with (fail)
              refine wp_region_held_drew (S := (fun _ => True)) (by kernel_rfl) ?_ (fun hHeld => ?_)
              · trivial
              refine take_run (v := ?_) 0 (some 108) rfl rfl (by kernel_rfl) (by kernel_rfl) (by kernel_rfl) (fun _ _ _ h => h) hHeld (by rfl) ?_ ?_
              rotate_left
              · intro _ hSw; go_simp; try with_reducible rfl
              simp only [Act.put, List.setIfInBounds_toArray, List.set_cons_zero, List.set_cons_succ]
              refine take_run (v := ?_) 2 (some 110) rfl rfl (by kernel_rfl) (by kernel_rfl) (by kernel_rfl) (fun _ _ _ h => h) hHeld (by rfl) ?_ ?_
              rotate_left
              · intro _ hSw; go_simp; try with_reducible rfl
              simp only [Act.put, List.setIfInBounds_toArray, List.set_cons_zero, List.set_cons_succ]
              refine take_run (v := ?_) 3 (some 111) rfl rfl (by kernel_rfl) (by kernel_rfl) (by kernel_rfl) (fun _ _ _ h => h) hHeld (by rfl) ?_ ?_
              rotate_left
              · intro _ hSw; go_simp; try with_reducible rfl
              simp only [Act.put, List.setIfInBounds_toArray, List.set_cons_zero, List.set_cons_succ]
              refine take_run (v := ?_) 4 (some 112) rfl rfl (by kernel_rfl) (by kernel_rfl) (by kernel_rfl) (fun _ _ _ h => h) hHeld (by rfl) ?_ ?_
              rotate_left
              · intro _ hSw; go_simp; try with_reducible rfl
              simp only [Act.put, List.setIfInBounds_toArray, List.set_cons_zero, List.set_cons_succ]
              refine take_run (v := ?_) 5 (some 113) rfl rfl (by kernel_rfl) (by kernel_rfl) (by kernel_rfl) (fun _ _ _ h => h) hHeld (by rfl) ?_ ?_
              rotate_left
              · intro _ hSw; go_simp; try with_reducible rfl
              simp only [Act.put, List.setIfInBounds_toArray, List.set_cons_zero, List.set_cons_succ]
              refine take_run (v := ?_) 6 (some 114) rfl rfl (by kernel_rfl) (by kernel_rfl) (by kernel_rfl) (fun _ _ _ h => h) hHeld (by rfl) ?_ ?_
              rotate_left
              · intro _ hSw; go_simp; try with_reducible rfl
              simp only [Act.put, List.setIfInBounds_toArray, List.set_cons_zero, List.set_cons_succ]
              refine branch2 1 7 (some 109) (some 115) rfl rfl rfl rfl (by kernel_rfl) (by rfl) (by rfl) (fun K hK => ?_) (fun K hK => ?_)
              · refine wp_load_one 33 (.tmp 108) ?_ ⟨P, 0, none⟩ u ?_ ?_ ?_
                · rfl
                · rfl
                · exact loadVar_slice Tryd.underlying33 (by first | exact hq1 | exact hq0)
                refine hK _ _ ⟨?_, fun hHeld => ?_⟩
                · trivial
                clear hK
                simp only [Act.put, List.setIfInBounds_toArray, List.set_cons_zero, List.set_cons_succ]
                refine op_at 7 (some 115) rfl rfl (by kernel_rfl) (by rfl) (fun K hK => ?_)
                refine wp_buildVals 33 34 1 #[(0, .tmp 114)] ?_ [(.slice (some ⟨g, p, none⟩) 16 c16)] ?_ ?_ ?_ ?_ ?_ ?_ ?_ ?_ ?_
                · rfl
                · exact Tryd.underlying33
                · kernel_rfl
                · kernel_rfl
                · rfl
                · decide
                · decide
                · rfl
                · intro v hv; simp only [List.mem_singleton] at hv; subst hv; rfl
                have hB1 : Below B wr (wr.drew.alloc (.cells #[(.slice (some ⟨g, p, none⟩) 16 c16)] 34)) := (Below.refl _ _).drew.alloc hS.out.size _
                have hownA := (hS.out.own.kept (grownBy_drew wr none) (by by_cases e : u.ownBlock = none; exact .inl e; exact .inr e)).alloc (.cells #[(.slice (some ⟨g, p, none⟩) 16 c16)] 34)
                have hq1 := hB1.alloc_cell hq0
                refine hK _ _ ⟨?_, fun hHeld => ?_⟩
                · trivial
                clear hK
                simp only [Act.put, List.setIfInBounds_toArray, List.set_cons_zero, List.set_cons_succ]
                refine op_at 8 (some 116) rfl rfl (by kernel_rfl) (by rfl) (fun K hK => ?_)
                refine wp_append_own _ (.tmp 109) (.tmp 115) 33 ?_ B 34 i1 (.slice none 0 0) 1 24 Tryd.underlying33 Hi1.out.1 Hi1.out.2.1 Hi1.out.2.2.1 Hi1.out.2.2.2 ?_ ?_ u t (keysV g cap t) ?_ hownA ⟨wr.drew.heap.size, 0, none⟩ 1 1 [(.slice (some ⟨g, p, none⟩) 16 c16)] ?_ ?_ (cell_one_new _ _ _) ?_ ?_ ?_ ?_ ?_
                · rfl
                · rfl
                · decide
                · rfl
                · rfl
                · rfl
                · intro u hu; simp only [List.mem_singleton] at hu; subst hu; rfl
                · unfold maxLen; omega
                · omega
                · exact hB1.size_of hS.out.size
                intro v1 w1 hown1 hgr1 _
                obtain ⟨kg, kc, hv, hk1, hk2, hk3, hk4⟩ := owns_range hown1 (by omega)
                subst hv
                clear hk1 hk2 hk3 hk4
                have hB2 : Below B wr w1 := hB1.grown hgr1 (hB1.size_of hS.out.size) (fun k hk => (hS.out.own.lt k hk).1)
                have hS2 := hS.out.more hB2 (by rw [show ((.slice (some ⟨g, p, none⟩) 16 c16) : Value) = .slice (some ⟨g, 16 * t, none⟩) 16 (cap - 16 * t) by rw [Hp.out.1, Hp.out.2.1], keysV_snoc] at hown1; exact hown1)
                have hq2 := hS2.cell
                have hq3 := hS2.free
                refine hK _ _ ⟨?_, fun hHeld => ?_⟩
                · trivial
                clear hK
                simp only [Act.put, List.setIfInBounds_toArray, List.set_cons_zero, List.set_cons_succ]
                refine take_run (v := ?_) 9 (some 117) rfl rfl (by kernel_rfl) (by kernel_rfl) (by kernel_rfl) (fun _ _ _ h => h) hHeld (by rfl) ?_ ?_
                rotate_left
                · intro _ hSw; go_simp; try with_reducible rfl
                simp only [Act.put, List.setIfInBounds_toArray, List.set_cons_zero, List.set_cons_succ]
                refine op_at 10 none rfl rfl (by kernel_rfl) (by rfl) (fun K hK => ?_)
                refine wp_store_one 33 (.tmp 117) (.tmp 116) ?_ ⟨P, 0, none⟩ (.slice (some ⟨kg, 0, none⟩) (t + 1) kc) ?_ ?_ ?_ ?_
                · rfl
                · rfl
                · rfl
                · go_simp
                refine hK _ _ ⟨?_, fun hHeld => ?_⟩
                · trivial
                clear hK
                simp only [Act.put]
                refine wpAnyH_done (by kernel_rfl) ?_ _
                have hS3 := hS2.store
                go_wp2_with fail
                go_roundg (gk - 1)
                case measure => omega
                case rel => exact ⟨t + 1, _, by omega, by rw [show 16 * (t + 1) = p16 by have := Hp.out.1; have := Hp.out.2.2; omega], hS3⟩
              · refine wp_buildVals 33 34 1 #[(0, .tmp 114)] ?_ [(.slice (some ⟨g, p, none⟩) 16 c16)] ?_ ?_ ?_ ?_ ?_ ?_ ?_ ?_ ?_
                · rfl
                · exact Tryd.underlying33
                · kernel_rfl
                · kernel_rfl
                · rfl
                · decide
                · decide
                · rfl
                · intro v hv; simp only [List.mem_singleton] at hv; subst hv; rfl
                have hB1 : Below B wr (wr.drew.alloc (.cells #[(.slice (some ⟨g, p, none⟩) 16 c16)] 34)) := (Below.refl _ _).drew.alloc hS.out.size _
                have hownA := (hS.out.own.kept (grownBy_drew wr none) (by by_cases e : u.ownBlock = none; exact .inl e; exact .inr e)).alloc (.cells #[(.slice (some ⟨g, p, none⟩) 16 c16)] 34)
                have hq1 := hB1.alloc_cell hq0
                refine hK _ _ ⟨?_, fun hHeld => ?_⟩
                · trivial
                clear hK
                simp only [Act.put, List.setIfInBounds_toArray, List.set_cons_zero, List.set_cons_succ]
                refine op_at 1 (some 109) rfl rfl (by kernel_rfl) (by rfl) (fun K hK => ?_)
                refine wp_load_one 33 (.tmp 108) ?_ ⟨P, 0, none⟩ u ?_ ?_ ?_
                · rfl
                · rfl
                · exact loadVar_slice Tryd.underlying33 (by first | exact hq1 | exact hq0)
                refine hK _ _ ⟨?_, fun hHeld => ?_⟩
                · trivial
                clear hK
                simp only [Act.put, List.setIfInBounds_toArray, List.set_cons_zero, List.set_cons_succ]
                refine op_at 8 (some 116) rfl rfl (by kernel_rfl) (by rfl) (fun K hK => ?_)
                refine wp_append_own _ (.tmp 109) (.tmp 115) 33 ?_ B 34 i1 (.slice none 0 0) 1 24 Tryd.underlying33 Hi1.out.1 Hi1.out.2.1 Hi1.out.2.2.1 Hi1.out.2.2.2 ?_ ?_ u t (keysV g cap t) ?_ hownA ⟨wr.drew.heap.size, 0, none⟩ 1 1 [(.slice (some ⟨g, p, none⟩) 16 c16)] ?_ ?_ (cell_one_new _ _ _) ?_ ?_ ?_ ?_ ?_
                · rfl
                · rfl
                · decide
                · rfl
                · rfl
                · rfl
                · intro u hu; simp only [List.mem_singleton] at hu; subst hu; rfl
                · unfold maxLen; omega
                · omega
                · exact hB1.size_of hS.out.size
                intro v1 w1 hown1 hgr1 _
                obtain ⟨kg, kc, hv, hk1, hk2, hk3, hk4⟩ := owns_range hown1 (by omega)
                subst hv
                clear hk1 hk2 hk3 hk4
                have hB2 : Below B wr w1 := hB1.grown hgr1 (hB1.size_of hS.out.size) (fun k hk => (hS.out.own.lt k hk).1)
                have hS2 := hS.out.more hB2 (by rw [show ((.slice (some ⟨g, p, none⟩) 16 c16) : Value) = .slice (some ⟨g, 16 * t, none⟩) 16 (cap - 16 * t) by rw [Hp.out.1, Hp.out.2.1], keysV_snoc] at hown1; exact hown1)
                have hq2 := hS2.cell
                have hq3 := hS2.free
                refine hK _ _ ⟨?_, fun hHeld => ?_⟩
                · trivial
                clear hK
                simp only [Act.put, List.setIfInBounds_toArray, List.set_cons_zero, List.set_cons_succ]
                refine take_run (v := ?_) 9 (some 117) rfl rfl (by kernel_rfl) (by kernel_rfl) (by kernel_rfl) (fun _ _ _ h => h) hHeld (by rfl) ?_ ?_
                rotate_left
                · intro _ hSw; go_simp; try with_reducible rfl
                simp only [Act.put, List.setIfInBounds_toArray, List.set_cons_zero, List.set_cons_succ]
                refine op_at 10 none rfl rfl (by kernel_rfl) (by rfl) (fun K hK => ?_)
                refine wp_store_one 33 (.tmp 117) (.tmp 116) ?_ ⟨P, 0, none⟩ (.slice (some ⟨kg, 0, none⟩) (t + 1) kc) ?_ ?_ ?_ ?_
                · rfl
                · rfl
                · rfl
                · go_simp
                refine hK _ _ ⟨?_, fun hHeld => ?_⟩
                · trivial
                clear hK
                simp only [Act.put]
                refine wpAnyH_done (by kernel_rfl) ?_ _
                have hS3 := hS2.store
                go_wp2_with fail
                go_roundg (gk - 1)
                case measure => omega
                case rel => exact ⟨t + 1, _, by omega, by rw [show 16 * (t + 1) = p16 by have := Hp.out.1; have := Hp.out.2.2; omega], hS3⟩
            · have hpi : ¬ ((16 * t : Nat) : Int) < 176 := by omega
              obtain rfl : t = 11 := by omega
              have hi2 : ∀ a b : Value, (Tryd.prog.info? 36).map (·.size) = some (#[a, b] : Array Value).size := fun _ _ => by kernel_rfl
              have h1 : ∀ n c, (#[u, .slice (some ⟨bg, 0, none⟩) n c] : Array Value).all (·.oneCell') = true := fun n c => by
                obtain ⟨kg, kc, hv, _⟩ := owns_range hS.own (by omega)
                rw [hv]; simp [Value.oneCell']
              have Hc := Lib.hid hcap
              clear hcap
              go_wp2_with (first | (refine wpList_load_row rfl 36 _ rfl P rfl 36 _ _ _ hS.c Tryd.underlying36 rfl (hi2 _ _) ?_) | (refine wpList_store_row rfl 36 _ _ rfl (N + 1) _ rfl rfl 36 _ hS.res (hi2 _ _) rfl (h1 _ _) ?_))
              refine bodyPost_ret (results_cell_row rfl _ _ (N + 1) 36 _ _ _ rfl (setRow_heap wr (N + 1) _ _ _ _ hS.res) Tryd.underlying36 rfl (hi2 _ _)) rfl ⟨_, _, rfl, hS.isC (setRow_grown wr _ _) hbc (by have := Hc.out; omega) Hl.out.1 Hl.out.2, ?_⟩
              rw [HN.out]; exact Below.setRow hS.bel (by omega) _
end Go.Proofs.YtdopdaoapdeabaaDoor
