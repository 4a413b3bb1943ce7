/- WALK: block.Inputs; the places of a block's stream, in words of lists. -/
import Derived.Test.YtdopdaoapdeabaaDoorHeadsW
import Derived.Great.BuildSlice
namespace Go.Proofs.YtdopdaoapdeabaaDoor
open Go.RowKit

/-! ### plain: the places -/
/-- the first n places -/
def inL (H : List Nat) : Nat → List Nat
  | 0 => []
  | n + 1 => inL H n ++ nextL H n
theorem inL_length {H : List Nat} (h : H.length = 16) : ∀ n, (inL H n).length = n * 16
  | 0 => rfl
  | n + 1 => by rw [inL, List.length_append, inL_length h n, nextL_length _ h]; omega
theorem inL_get {H : List Nat} (h : H.length = 16) : ∀ (n i j : Nat), i < n → j < 16 → (inL H n)[16 * i + j]? = (nextL H i)[j]?
  | 0, _, _, hi, _ => by omega
  | n + 1, i, j, hi, hj => by
    have hl := inL_length h n
    by_cases hin : i < n
    · rw [inL, List.getElem?_append_left (by omega)]
      exact inL_get h n i j hin hj
    · obtain rfl : i = n := by omega
      rw [inL, List.getElem?_append_right (by omega), hl]
      congr 1
      omega
theorem num_append (l : List Nat) : ∀ (n : Nat) (m : List Nat), m.length = n → num (l ++ m) = num l * 256 ^ n + num m
  | 0, m, hm => by
    have : m = [] := List.eq_nil_of_length_eq_zero hm
    subst this; simp [num]
  | n + 1, m, hm => by
    have hne : m ≠ [] := by intro e; subst e; simp at hm
    have e := List.dropLast_concat_getLast hne
    have h1 := num_append l n m.dropLast (by simp [hm])
    rw [← e, ← List.append_assoc, num_snoc, num_snoc, h1, Nat.pow_succ]
    generalize 256 ^ n = p
    generalize num l = a
    rw [Nat.add_mul, Nat.mul_assoc, Nat.add_assoc]
theorem head_place {a b c d i k : Nat} (ha : a < 18446744073709551616) (hb : b < 4294967296) (hc : c < 18446744073709551616) (hd : d < 4294967296) (hi : i < 16) (hk : k < 16)
    (h : nextL (headL a b) i = nextL (headL c d) k) : i = k ∧ a = c ∧ b = d := by
  have e := congrArg num h
  rw [nextL_num _ (headL_length _ _), nextL_num _ (headL_length _ _)] at e
  have hz : num (putL 0 4) = 0 := by decide
  have hl : ∀ a b, (putL a 8 ++ putL b 4).length = 12 := fun a b => by simp [putL_length]
  have ht : ∀ a b, ∀ x ∈ putL a 8 ++ putL b 4, x < 256 := fun a b x hx => headL_lt a b x (by rw [headL]; exact List.mem_append_left _ hx)
  have h1 : ∀ a b, num (headL a b) = num (putL a 8 ++ putL b 4) * 4294967296 := fun a b => by
    rw [headL, num_append _ 4 _ (putL_length _ _), hz, show (256 : Nat) ^ 4 = 4294967296 by decide, Nat.add_zero]
  have b1 := num_lt 12 _ (hl a b) (ht a b)
  have b2 := num_lt 12 _ (hl c d) (ht c d)
  rw [h1, h1] at e
  have p1 : (256 : Nat) ^ 12 = 79228162514264337593543950336 := by decide
  have p2 : (256 : Nat) ^ 16 = 340282366920938463463374607431768211456 := by decide
  rw [p1] at b1 b2
  rw [p2] at e
  generalize hx : num (putL a 8 ++ putL b 4) = x at e b1
  generalize hy : num (putL c 8 ++ putL d 4) = y at e b2
  have e1 : x = y ∧ i = k := by omega
  refine ⟨e1.2, headL_inj ?_ ha hb hc hd⟩
  have e2 := num_inj 12 _ _ (hl a b) (hl c d) (ht a b) (ht c d) (by rw [hx, hy]; exact e1.1)
  rw [headL, headL, e2]

/-! ### a slice literal of one array -/
theorem fold_lay : ∀ (R : List Value) (k : Nat) (pre rest : List Value), pre.length = k → rest.length = R.length →
    (R.zipIdx k).foldl (fun (cs : Array Value) (x : Value × Nat) => cs.setIfInBounds (0 + x.2) x.1) (pre ++ rest).toArray = (pre ++ R).toArray
  | [], k, pre, rest, _, hr => by
    have : rest = [] := List.eq_nil_of_length_eq_zero hr
    subst this; simp
  | c :: R, k, pre, rest, hp, hr => by
    obtain ⟨r, rest', rfl⟩ : ∃ r rest', rest = r :: rest' := by cases rest with
      | nil => simp at hr
      | cons r t => exact ⟨r, t, rfl⟩
    rw [List.zipIdx_cons, List.foldl_cons]
    have e : (pre ++ r :: rest').toArray.setIfInBounds (0 + k) c = ((pre ++ [c]) ++ rest').toArray := by
      rw [List.setIfInBounds_toArray, Nat.zero_add, List.set_append_right _ _ (by omega), hp, Nat.sub_self, List.set_cons_zero]; simp
    show (R.zipIdx (k + 1)).foldl _ ((pre ++ r :: rest').toArray.setIfInBounds (0 + k) c) = _
    rw [e, fold_lay R (k + 1) (pre ++ [c]) rest' (by simp [hp]) (by simpa using hr)]
    simp
theorem fill_agg {n : Nat} (R : List Value) (cs : Array Value) (hR : R.length = n) (hc : cs.size = n) :
    Instr.fill (fun i => some (i * n, n)) cs [(0, .agg R.toArray)] = some R.toArray := by
  have h := fold_lay R 0 [] cs.toList rfl (by simp [hR, hc])
  simp only [List.nil_append, Array.toArray_toList] at h
  have hs : (Value.agg R.toArray).cells = R.toArray := rfl
  simp only [Instr.fill, hs, List.size_toArray, hR, hc, Nat.zero_mul, Nat.zero_add, ne_eq, not_true_eq_false, gt_iff_lt, Nat.lt_irrefl, decide_false, Bool.or_self, ite_false, Bool.false_eq_true]
  congr 1
  simpa using h
theorem new_cells (w : World) (l : List Nat) (t : TypeId) : ∀ (j : Nat) (u : Value), (bs l)[j]? = some u → (w.alloc (.cells (bx l) t)).cell? ((⟨w.heap.size, 0, none⟩ : Addr).add j) = some u := by
  intro j u hu
  have hadd : (⟨w.heap.size, 0, none⟩ : Addr).add j = ⟨w.heap.size, j, none⟩ := by unfold Addr.add; split <;> simp_all
  have h := (Bytes.new w l t).range j u hu
  rw [Nat.zero_add] at h
  rw [hadd]; exact h
/-- the rows of a slice that the call owns -/
theorem owns_rows {w : World} {base : Nat} {e : TypeId} {v : Value} {H : List Nat} (hH : H.length = 16) (h : w.ownsRow base e 16 v 16 (bs (inL H 16))) :
    ∃ g cap, v = .slice (some ⟨g, 0, none⟩) 16 cap ∧ base ≤ g ∧ g < w.heap.size ∧ 16 ≤ cap ∧ ∀ i, i < 16 → w.rangeAt g (16 * i) (bs (nextL H i)) := by
  rcases h.2 with ⟨_, h0⟩ | ⟨g, cap, cur, hv, hb, hg, hnc, _⟩
  · omega
  · subst hv
    refine ⟨g, cap, rfl, hb, lt_of_block hg, hnc, fun i hi j u hu => ?_⟩
    have hj : j < 16 := by
      have := (List.getElem?_eq_some_iff.1 hu).1
      rwa [bs_length, nextL_length _ hH] at this
    have h1 := h.cells (g := g) rfl (16 * i + j) u (by
      have h2 := inL_get hH 16 i j hi hj
      simp only [bs, List.getElem?_map] at hu ⊢
      rw [h2]; exact hu)
    have hadd : (⟨g, 0, none⟩ : Addr).add (16 * i + j) = ⟨g, 16 * i + j, none⟩ := by unfold Addr.add; split <;> simp_all
    rwa [hadd] at h1

set_option maxRecDepth 100000 in
set_option maxHeartbeats 2000000 in
theorem inputs_any (e s : Nat) (w : World) (hs : s < 4294967296) :
    Calls Tryd.prog 22 #[.int .u64 e, .int .u32 s] w fun en w' => ∃ v, en = .returned v ∧ w'.ownsRow w.heap.size 39 16 v 16 (bs (inL (headL e s) 16)) ∧ Below w.heap.size w w' := by
  have hinfo : (Tryd.prog.info? 39).map (fun i => (i.zero.map (·.cells.size), i.size, i.bytes)) = some (some 16, 16, 16) := by kernel_rfl
  obtain ⟨i0, z0, hi0, hz0, hz1, hz2, hz3⟩ : ∃ i z, Tryd.prog.info? 39 = some i ∧ i.zero = some z ∧ z.cells.size = 16 ∧ i.size = 16 ∧ i.bytes = 16 := by
    cases hi : Tryd.prog.info? 39 with
    | none => simp [hi] at hinfo
    | some i =>
      simp only [hi, Option.map_some, Option.some.injEq, Prod.mk.injEq] at hinfo
      obtain ⟨h1, h2, h3⟩ := hinfo
      cases hz : i.zero with
      | none => simp [hz] at h1
      | some z => exact ⟨i, z, rfl, hz, by simpa [hz] using h1, h2, h3⟩
  have Hi0 := Lib.hid (And.intro hi0 (And.intro hz0 (And.intro hz1 (And.intro hz2 hz3))))
  obtain ⟨N, hN⟩ : ∃ N, w.heap.size = N := ⟨_, rfl⟩
  have HN := Lib.hid hN
  have Hs := Lib.hid hs
  obtain ⟨H, hH⟩ : ∃ H, headL e s = H := ⟨_, rfl⟩
  have HH : Hid (headL e s = H ∧ H.length = 16 ∧ (∀ x ∈ H, x < 256)) := ⟨hH, by rw [← hH, headL_length], by rw [← hH]; exact headL_lt _ _⟩
  rw [hN, hH]
  have hb0 : Below N w w := Below.refl _ _
  clear hinfo hi0 hz0 hz1 hz2 hz3 hN hH hs
  go_enter Tryd.func22, Tryd.ntmps22
  go_wp2_with fail
  go_loopg [5, 7] 16 (fun g v' i' wr => ∃ i : Nat, i + g = 16 ∧ i' = .int .i64 i ∧ wr.ownsRow N 39 16 v' i (bs (inL H i)) ∧ Below N w wr)
  case atStart => exact ⟨0, by omega, rfl, World.ownsRow_nil _ _ _ _, hb0⟩
  case round =>
    obtain ⟨i, hig, rfl, hown, hb⟩ := hrel
    by_cases hlt : i < 16
    · have hlti : (i : Int) < 16 := by omega
      have hi0 : (0 : Int) ≤ (i : Int) := by omega
      have HO := Lib.hid (And.intro hown hb)
      obtain ⟨R, hR⟩ : ∃ R, nextL H i = R := ⟨_, rfl⟩
      have HR : Hid (nextL H i = R ∧ R.length = 16) := ⟨hR, by rw [← hR, nextL_length _ HH.out.2.1]⟩
      clear hown hb hb0 hR
      go_wp2_with (first
        | (go_at_call 14; refine (head_any e s _ Hs.out).mono ?_; rw [HH.out.1]; rintro en w1 ⟨rfl, hb1⟩))
      go_at_call 40
      refine (next_any H (i : Int) _ HH.out.2.1 HH.out.2.2 (by omega) (by omega)).mono ?_
      rw [show ((i : Nat) : Int).toNat = i from rfl, HR.out.1]
      rintro en w2 ⟨rfl, hb2⟩
      simp only []
      go_step
      have hc := new_cells w2 R 39
      have hNr : N ≤ wr.heap.size := Nat.le_trans (by rw [← HN.out]; exact Nat.le_refl _) HO.out.2.size
      have hN1 : N ≤ w1.heap.size := Nat.le_trans hNr hb1.size
      have hNW : N ≤ w2.heap.size := Nat.le_trans hN1 hb2.size
      have hO2 : (w2.alloc (.cells (bx R) 39)).ownsRow N 39 16 u5 i (bs (inL H i)) := by
        have k1 := HO.out.1.kept (row := none) (grown_below hb1 (Nat.le_refl _)) (by cases hv : u5.ownBlock <;> simp)
        have k2 := k1.kept (row := none) (grown_below hb2 (Nat.le_refl _)) (by cases hv : u5.ownBlock <;> simp)
        exact k2.alloc _
      have hbel : Below N w (w2.alloc (.cells (bx R) 39)) := ((HO.out.2.trans (hb1.mono hNr)).trans (hb2.mono hN1)).alloc hNW _
      have hNW' : N ≤ (w2.alloc (.cells (bx R) 39)).heap.size := by simp; omega
      refine wpList_buildSlice rfl 54 39 1 #[(0, .tmp 15)] rfl (bx R) i0 z0 Tryd.underlying54 Hi0.out.1 Hi0.out.2.1 (by rw [Hi0.out.2.2.2.1]; omega) (by rw [Hi0.out.2.2.2.1]; omega) ?_ ?_
      · rw [Hi0.out.2.2.2.1, Array.toList_map]
        show Instr.fill _ _ [(0, Value.agg (bs R).toArray)] = some (bs R).toArray
        refine fill_agg (bs R) _ ?_ ?_
        · rw [bs_length, HR.out.2]
        · simp
      refine wpList_append_own _ rfl (.tmp 10) (.tmp 16) 54 rfl N 39 i0 z0 16 16 Tryd.underlying54 Hi0.out.1 Hi0.out.2.1 Hi0.out.2.2.2.1 Hi0.out.2.2.2.2 Hi0.out.2.2.1 (by decide) u5 i (bs (inL H i)) rfl hO2 ⟨w2.heap.size, 0, none⟩ 1 1 (bs R) rfl (by rw [bs_length, HR.out.2]) hc (bs_one _) (by unfold maxLen; omega) (by omega) hNW' ?_
      intro v3 w3 hown3 hgr3 _
      rw [bs_append, ← HR.out.1] at hown3
      have hb3 := hbel.grown hgr3 hNW' (fun k hk => (HO.out.1.lt k hk).1)
      clear hgr3 hbel hNW' hO2 hNW hN1 hNr hc hb1 hb2
      simp only [Act.put]
      go_wp2_with fail
      go_roundg (gk - 1)
      case measure => omega
      case rel => exact ⟨i + 1, by omega, by go_num, hown3, hb3⟩
    · have hlti : ¬ (i : Int) < 16 := by omega
      obtain rfl : i = 16 := by omega
      have HO := Lib.hid (And.intro hown hb)
      clear hown hb hb0
      go_wp2_with fail
      go_ret
      exact ⟨_, rfl, HO.out.1, HO.out.2⟩
end Go.Proofs.YtdopdaoapdeabaaDoor
