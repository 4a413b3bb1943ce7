/- MEMORY: blocks of bytes, rows that are read, in words of lists. No program in sight. -/
import Derived.WalkKit
import Derived.WalkSpells
import Derived.WalkLawsBesides
import Derived.Deep.MidRow
import Derived.Lib.Hide
import Derived.Deep.RegionHeld3
import Derived.BigQuiet
import Derived.Stop.BytesEq
import Derived.BigRegion
import Derived.Deep.Cut
import Derived.Deep.LoopGhost
namespace Go.Proofs.YtdopdaoapdeabaaDoor
open Go.RowKit

/-- bytes as a list of values -/
def bs (l : List Nat) : List Value := l.map fun (n : Nat) => Value.int .u8 (n : Int)
/-- bytes as cells -/
def bx (l : List Nat) : Array Value := (bs l).toArray

theorem bx_size (l : List Nat) : (bx l).size = l.length := by simp [bx, bs]
theorem bx_get {l : List Nat} {i : Nat} (hi : i < l.length) : (bx l)[i]? = some (.int .u8 (l.getD i 0 : Nat)) := by
  simp [bx, bs, hi]
theorem bx_set {l : List Nat} {i v : Nat} : (bx l).setIfInBounds i (.int .u8 (v : Int)) = bx (l.set i v) := by
  simp [bx, bs, List.map_set]

/-- block b has these bytes -/
def Bytes (w : World) (b : Nat) (l : List Nat) (t : TypeId) : Prop := w.heap[b]? = some (.cells (bx l) t (0, 0))

theorem Bytes.cell {w : World} {b : Nat} {l : List Nat} {t : TypeId} (h : Bytes w b l t) {i : Nat} (hi : i < l.length) : w.cell? ⟨b, i, none⟩ = some (.int .u8 (l.getD i 0 : Nat)) := by
  unfold Bytes at h
  simp [World.cell?, h, bx_get hi]
theorem Bytes.free {w : World} {b : Nat} {l : List Nat} {t : TypeId} (h : Bytes w b l t) (i : Nat) : w.frozen? ⟨b, i, none⟩ = false := by
  unfold Bytes at h
  simp [World.frozen?, h]
theorem Bytes.row {w : World} {b : Nat} {l : List Nat} {t : TypeId} (h : Bytes w b l t) : w.heap[b]? = some (.cells (bx l) t (0, 0)) := h
theorem Bytes.lt {w : World} {b : Nat} {l : List Nat} {t : TypeId} (h : Bytes w b l t) : b < w.heap.size := lt_of_block h
theorem Bytes.set {w : World} {b : Nat} {l : List Nat} {t : TypeId} (h : Bytes w b l t) (i v : Nat) : Bytes (w.setCell ⟨b, i, none⟩ (.int .u8 (v : Int))) b (l.set i v) t := by
  have hlt := h.lt
  have h' : w.heap[b] = .cells (bx l) t (0, 0) := by
    unfold Bytes at h
    simpa [Array.getElem?_eq_getElem hlt] using h
  show (w.heap.modify b _)[b]? = _
  rw [Array.getElem?_eq_getElem (by simpa using hlt), Array.getElem_modify_self, h']
  simp [bx_set]
theorem Bytes.other {w : World} {b : Nat} {l : List Nat} {t : TypeId} (h : Bytes w b l t) (a : Addr) (v : Value) (hb : b ≠ a.block) : Bytes (w.setCell a v) b l t := by
  unfold Bytes at h ⊢
  rw [Below.heap_setCell _ _ _ _ hb]; exact h
theorem Bytes.below {w w' : World} {b : Nat} {l : List Nat} {t : TypeId} (h : Bytes w b l t) {B : Nat} (hw : Below B w w') (hb : b < B) : Bytes w' b l t := by
  unfold Bytes at h ⊢
  rw [hw.block b hb]; exact h
theorem bx_one (l : List Nat) : (bx l).all (·.oneCell') = true := by
  rw [Array.all_eq_true_iff_forall_mem]
  intro v hv
  simp [bx, bs] at hv
  obtain ⟨n, _, rfl⟩ := hv
  rfl
theorem Bytes.setRow {w : World} {b : Nat} {l : List Nat} {t : TypeId} (h : Bytes w b l t) (l' : List Nat) : Bytes (w.setRow b (bx l')) b l' t := setRow_heap w b _ _ t _ h
theorem Below.setRow {B : Nat} {a w : World} (h : Below B a w) {g : Nat} (hg : B ≤ g) (c : Array Value) : Below B a (w.setRow g c) :=
  h.trans ⟨rfl, rfl, rfl, by simp, fun k hk => by simp only [World.setRow, Array.getElem?_modify]; rw [if_neg (by omega)]⟩
theorem Bytes.new (w : World) (l : List Nat) (t : TypeId) : Bytes (w.alloc (.cells (bx l) t)) w.heap.size l t := by
  show (w.heap.push _)[w.heap.size]? = _
  simp


/-- block b has n cells -/
def Slot (w : World) (b n : Nat) (t : TypeId) : Prop := ∃ old : Array Value, w.heap[b]? = some (.cells old t (0, 0)) ∧ old.size = n
theorem Slot.other {w : World} {b n : Nat} {t : TypeId} (h : Slot w b n t) (a : Addr) (v : Value) (hb : b ≠ a.block) : Slot (w.setCell a v) b n t := by
  obtain ⟨old, h, hn⟩ := h
  exact ⟨old, by rw [Below.heap_setCell _ _ _ _ hb]; exact h, hn⟩
theorem Slot.below {w w' : World} {b n : Nat} {t : TypeId} (h : Slot w b n t) {B : Nat} (hw : Below B w w') (hb : b < B) : Slot w' b n t := by
  obtain ⟨old, h, hn⟩ := h
  exact ⟨old, by rw [hw.block b hb]; exact h, hn⟩
theorem Slot.new (w : World) (c : Array Value) (t : TypeId) : Slot (w.alloc (.cells c t)) w.heap.size c.size t :=
  ⟨c, by show (w.heap.push _)[w.heap.size]? = _; simp, rfl⟩
theorem Slot.old {w : World} {b n : Nat} {t : TypeId} (h : Slot w b n t) (o : Obj) : Slot (w.alloc o) b n t := by
  obtain ⟨old, h, hn⟩ := h
  exact ⟨old, by rw [Below.heap_alloc w o b (lt_of_block h)]; exact h, hn⟩
theorem Slot.lt {w : World} {b n : Nat} {t : TypeId} (h : Slot w b n t) : b < w.heap.size := by obtain ⟨_, h, _⟩ := h; exact lt_of_block h
theorem Slot.setRow {w : World} {b n : Nat} {t : TypeId} (h : Slot w b n t) (l : List Nat) : Bytes (w.setRow b (bx l)) b l t := by
  obtain ⟨old, h, _⟩ := h
  exact setRow_heap w b _ _ t _ h
theorem Bytes.slot {w : World} {b : Nat} {l : List Nat} {t : TypeId} (h : Bytes w b l t) : Slot w b l.length t := ⟨_, h, bx_size l⟩
theorem Bytes.old {w : World} {b : Nat} {l : List Nat} {t : TypeId} (h : Bytes w b l t) (o : Obj) : Bytes (w.alloc o) b l t := by
  show (w.alloc o).heap[b]? = _
  rw [Below.heap_alloc w o b h.lt]; exact h

/-- an element of an array by value -/
theorem run_index_bx {P : Program} {t e : TypeId} {n : Nat} (hu : P.underlying t = some (.array n e)) (he : P.underlying e = some (.int .u8)) (hs : (P.info? e).map (·.size) = some 1)
    {l : List Nat} (hl : l.length = n) (k : IntKind) {i : Int} (h0 : 0 ≤ i) (h1 : i < n) (w : World) :
    (Instr.index t (.agg (bx l)) (.int k i)).run P w = .ok (.int .u8 (l.getD i.toNat 0 : Nat)) w := by
  obtain ⟨j, rfl⟩ := Int.eq_ofNat_of_zero_le h0
  have hj : j < l.length := by omega
  cases hq : P.info? e with
  | none => simp [hq] at hs
  | some d =>
    have hd : d.size = 1 := by simpa [hq] using hs
    have hagg : (isAgg e).run P w = .ok false w := by
      unfold isAgg
      rw [Sem.run_bind, run_underlying he w]
      rfl
    simp [Instr.index, asIntOf, Sem.run_bind, run_underlying hu w, part, hagg, sizeOf, typeInfo, hq, hd, bx_get hj]
    intro h
    omega

/-- what is read in a row: nil, or cells at a place -/
def Reads (w : World) (v : Value) (xs : List Value) : Prop :=
  (v = .slice none 0 0 ∧ xs = []) ∨
  ∃ a cap, v = .slice (some a) xs.length cap ∧ xs.length ≤ cap ∧ ∀ j u, xs[j]? = some u → w.cell? (a.add j) = some u

theorem bs_length (l : List Nat) : (bs l).length = l.length := by simp [bs]
theorem bs_get {l : List Nat} {i : Nat} (hi : i < l.length) : (bs l)[i]? = some (.int .u8 (l.getD i 0 : Nat)) := by simp [bs, hi]
theorem bs_append (l m : List Nat) : bs l ++ bs m = bs (l ++ m) := by simp [bs]
theorem bs_one (l : List Nat) : ∀ u ∈ bs l, u.oneCell' = true := by
  intro u hu
  simp [bs] at hu
  obtain ⟨n, _, rfl⟩ := hu
  rfl
/-- numbers as a list of values -/
def is (l : List Int) : List Value := l.map fun n => Value.int .i64 n

theorem Addr.add_block (a : Addr) (n : Nat) : (a.add n).block = a.block := by unfold Addr.add; split <;> rfl
theorem Reads.below {w w' : World} {v : Value} {xs : List Value} (h : Reads w v xs) {B : Nat} (hb : Below B w w') (hB : w.heap.size ≤ B) : Reads w' v xs := by
  rcases h with h | ⟨a, cap, hv, hc, hx⟩
  · exact .inl h
  · refine .inr ⟨a, cap, hv, hc, fun j u hj => ?_⟩
    have h1 := hx j u hj
    have h2 := World.block_lt_of_cell? w _ h1
    rw [hb.cell (p := a.add j) (by omega)]; exact h1
theorem Reads.pos {w : World} {v : Value} {xs : List Value} (h : Reads w v xs) (hp : 0 < xs.length) :
    ∃ b off cap, v = .slice (some ⟨b, off, none⟩) xs.length cap ∧ xs.length ≤ cap ∧ b < w.heap.size ∧ ∀ j u, xs[j]? = some u → w.cell? ⟨b, off + j, none⟩ = some u := by
  rcases h with ⟨_, rfl⟩ | ⟨⟨b, off, spot⟩, cap, hv, hc, hx⟩
  · simp at hp
  · have h0 := hx 0 xs[0] (List.getElem?_eq_getElem hp)
    have hs : spot = none := by simpa [Addr.add] using World.cell?_spot h0
    subst hs
    exact ⟨b, off, cap, hv, hc, by have := World.block_lt_of_cell? w _ h0; rwa [Addr.add_block] at this, fun j u hj => by have := hx j u hj; rwa [Addr.add_mid] at this⟩
theorem Reads.len {w : World} {v : Value} {xs : List Value} (h : Reads w v xs) : ∃ a cap, v = .slice a xs.length cap := by
  rcases h with ⟨rfl, rfl⟩ | ⟨a, cap, hv, _⟩
  · exact ⟨none, 0, rfl⟩
  · exact ⟨some a, cap, hv⟩
theorem reads_of_owns {w : World} {base : Nat} {e : TypeId} {v : Value} {n : Nat} {xs : List Value} (h : w.ownsRow base e 1 v n xs) : Reads w v xs := by
  have hl := h.1
  rcases h.2 with ⟨hv, hn⟩ | ⟨g, cap, cur, hv, hb, hg, hnc, hcm, hcs, ht⟩
  · refine .inl ⟨by rw [hv], ?_⟩
    subst hn
    exact List.eq_nil_of_length_eq_zero (by simpa using hl)
  · exact .inr ⟨⟨g, 0, none⟩, cap, by rw [hv, hl]; simp, by rw [hl]; omega, fun j u hj => h.cells (g := g) (by rw [hv]; rfl) j u hj⟩

/-- two arrays of bytes by value: are they the same? -/
theorem bx_cells {l : List Nat} (h : ∀ x ∈ l, x < 256) : bx l = ((l.map UInt8.ofNat).map Extern.Stop.cell).toArray := by
  unfold bx bs
  congr 1
  rw [List.map_map]
  refine List.map_congr_left fun x hx => ?_
  have := h x hx
  simp [Function.comp, Extern.Stop.cell]
  omega
theorem bytes_beq {l m : List Nat} (hl : ∀ x ∈ l, x < 256) (hm : ∀ x ∈ m, x < 256) : (l.map UInt8.ofNat == m.map UInt8.ofNat) = decide (l = m) := by
  rw [Bool.eq_iff_iff]
  simp only [beq_iff_eq, decide_eq_true_eq]
  constructor
  · intro h
    have e : ∀ k : List Nat, (∀ x ∈ k, x < 256) → (k.map UInt8.ofNat).map UInt8.toNat = k := by
      intro k hk
      rw [List.map_map]
      conv => rhs; rw [← List.map_id k]
      refine List.map_congr_left fun x hx => ?_
      have := hk x hx
      simp [Function.comp]
      omega
    rw [← e l hl, h, e m hm]
  · intro h; rw [h]
theorem run_eql_bx {P : Program} {t e : TypeId} {n : Nat} (ht : P.underlying t = some (.array n e)) (he : P.underlying e = some (.int .u8)) (hsz : (P.info? e).map (·.size) = some 1)
    {l m : List Nat} (hl : l.length = n) (hm : m.length = n) (hl' : ∀ x ∈ l, x < 256) (hm' : ∀ x ∈ m, x < 256) (w : World) :
    (binOp .eql t (.agg (bx l)) (.agg (bx m))).run P w = .ok (.bool (decide (l = m))) w := by
  have hs : ∀ w, (sizeOf e).run P w = .ok 1 w := fun w => by
    cases hq : P.info? e with
    | none => simp [hq] at hsz
    | some d =>
      have hd : d.size = 1 := by simpa [hq] using hsz
      simp [sizeOf, typeInfo, hq, hd]
  rw [bx_cells hl', bx_cells hm', run_eql_bytes w t e n ht he hs _ _ (by simpa using hl) (by simpa using hm), bytes_beq hl' hm']
theorem run_neq_bx {P : Program} {t e : TypeId} {n : Nat} (ht : P.underlying t = some (.array n e)) (he : P.underlying e = some (.int .u8)) (hsz : (P.info? e).map (·.size) = some 1)
    {l m : List Nat} (hl : l.length = n) (hm : m.length = n) (hl' : ∀ x ∈ l, x < 256) (hm' : ∀ x ∈ m, x < 256) (w : World) :
    (binOp .neq t (.agg (bx l)) (.agg (bx m))).run P w = .ok (.bool (!decide (l = m))) w := by
  have hs : ∀ w, (sizeOf e).run P w = .ok 1 w := fun w => by
    cases hq : P.info? e with
    | none => simp [hq] at hsz
    | some d =>
      have hd : d.size = 1 := by simpa [hq] using hsz
      simp [sizeOf, typeInfo, hq, hd]
  rw [bx_cells hl', bx_cells hm', run_neq_struct, run_equalIn_bytes w 9998 t e n ht he hs _ _ (by simpa using hl) (by simpa using hm), bytes_beq hl' hm']
  rfl

theorem rangeAt_below {w w' : World} {b o : Nat} {cs : List Value} (h : w.rangeAt b o cs) {B : Nat} (hb : Below B w w') (hB : w.heap.size ≤ B) : w'.rangeAt b o cs := fun j v hj => by
  have h1 := h j v hj
  have h2 := World.block_lt_of_cell? w _ h1
  have h3 : b < w.heap.size := h2
  rw [hb.cell (p := ⟨b, o + j, none⟩) (show b < B by omega)]; exact h1
theorem Bytes.range {w : World} {b : Nat} {l : List Nat} {t : TypeId} (h : Bytes w b l t) : w.rangeAt b 0 (bs l) := fun j v hj => by
  have hlt : j < l.length := by have := (List.getElem?_eq_some_iff.1 hj).1; rwa [bs_length] at this
  have h1 := h.cell hlt
  rw [Nat.zero_add, h1, ← hj, bs_get hlt]
/-- sixteen bytes -/
def Good (l : List Nat) : Prop := l.length = 16 ∧ ∀ x ∈ l, x < 256

/-! numbers of any kind -/
def ks (k : IntKind) (l : List Nat) : List Value := l.map fun (n : Nat) => Value.int k (n : Int)
def kx (k : IntKind) (l : List Nat) : Array Value := (ks k l).toArray
theorem ks_length (k : IntKind) (l : List Nat) : (ks k l).length = l.length := by simp [ks]
theorem ks_get {k : IntKind} {l : List Nat} {i : Nat} (hi : i < l.length) : (ks k l)[i]? = some (.int k (l.getD i 0 : Nat)) := by simp [ks, hi]
theorem ks_append (k : IntKind) (l m : List Nat) : ks k l ++ ks k m = ks k (l ++ m) := by simp [ks]
theorem ks_one (k : IntKind) (l : List Nat) : ∀ u ∈ ks k l, u.oneCell' = true := by
  intro u hu
  simp [ks] at hu
  obtain ⟨n, _, rfl⟩ := hu
  rfl
theorem kx_size (k : IntKind) (l : List Nat) : (kx k l).size = l.length := by simp [kx, ks]
theorem kx_get {k : IntKind} {l : List Nat} {i : Nat} (hi : i < l.length) : (kx k l)[i]? = some (.int k (l.getD i 0 : Nat)) := by simp [kx, ks, hi]
theorem kx_set {k : IntKind} {l : List Nat} {i v : Nat} : (kx k l).setIfInBounds i (.int k (v : Int)) = kx k (l.set i v) := by simp [kx, ks, List.map_set]
/-- block b has these numbers -/
def Nums (k : IntKind) (w : World) (b : Nat) (l : List Nat) (t : TypeId) : Prop := w.heap[b]? = some (.cells (kx k l) t (0, 0))
theorem Nums.row {k : IntKind} {w : World} {b : Nat} {l : List Nat} {t : TypeId} (h : Nums k w b l t) : w.heap[b]? = some (.cells (kx k l) t (0, 0)) := h
theorem Nums.cell {k : IntKind} {w : World} {b : Nat} {l : List Nat} {t : TypeId} (h : Nums k w b l t) {i : Nat} (hi : i < l.length) : w.cell? ⟨b, i, none⟩ = some (.int k (l.getD i 0 : Nat)) := by
  unfold Nums at h
  simp [World.cell?, h, kx_get hi]
theorem Nums.free {k : IntKind} {w : World} {b : Nat} {l : List Nat} {t : TypeId} (h : Nums k w b l t) (i : Nat) : w.frozen? ⟨b, i, none⟩ = false := by
  unfold Nums at h
  simp [World.frozen?, h]
theorem Nums.lt {k : IntKind} {w : World} {b : Nat} {l : List Nat} {t : TypeId} (h : Nums k w b l t) : b < w.heap.size := lt_of_block h
theorem Nums.set {k : IntKind} {w : World} {b : Nat} {l : List Nat} {t : TypeId} (h : Nums k w b l t) (i v : Nat) : Nums k (w.setCell ⟨b, i, none⟩ (.int k (v : Int))) b (l.set i v) t := by
  have hlt := h.lt
  have h' : w.heap[b] = .cells (kx k l) t (0, 0) := by
    unfold Nums at h
    simpa [Array.getElem?_eq_getElem hlt] using h
  show (w.heap.modify b _)[b]? = _
  rw [Array.getElem?_eq_getElem (by simpa using hlt), Array.getElem_modify_self, h']
  simp [kx_set]
theorem Nums.other {k : IntKind} {w : World} {b : Nat} {l : List Nat} {t : TypeId} (h : Nums k w b l t) (a : Addr) (v : Value) (hb : b ≠ a.block) : Nums k (w.setCell a v) b l t := by
  unfold Nums at h ⊢
  rw [Below.heap_setCell _ _ _ _ hb]; exact h
theorem Nums.below {k : IntKind} {w w' : World} {b : Nat} {l : List Nat} {t : TypeId} (h : Nums k w b l t) {B : Nat} (hw : Below B w w') (hb : b < B) : Nums k w' b l t := by
  unfold Nums at h ⊢
  rw [hw.block b hb]; exact h
theorem Nums.new (k : IntKind) (w : World) (l : List Nat) (t : TypeId) : Nums k (w.alloc (.cells (kx k l) t)) w.heap.size l t := by
  show (w.heap.push _)[w.heap.size]? = _
  simp
theorem Nums.old {k : IntKind} {w : World} {b : Nat} {l : List Nat} {t : TypeId} (h : Nums k w b l t) (o : Obj) : Nums k (w.alloc o) b l t := by
  show (w.alloc o).heap[b]? = _
  rw [Below.heap_alloc w o b h.lt]; exact h
theorem Nums.grown {k : IntKind} {w w' : World} {b : Nat} {l : List Nat} {t : TypeId} (h : Nums k w b l t) {row : Option Nat} (hg : w.grownBy w' row) (hne : some b ≠ row) : Nums k w' b l t := by
  unfold Nums at h ⊢
  rw [hg.block b (lt_of_block h) hne]; exact h
def zeros (n : Nat) : List Nat := List.replicate n 0
theorem zeros_length (n : Nat) : (zeros n).length = n := by simp [zeros]

/-- a slice of an array through its address -/
theorem sliceAt_arr {P : Program} {t e : TypeId} {n : Nat} (hu : P.underlying t = some (.array n e)) (hs : (P.info? e).map (·.size) = some 1) (b o l h : Nat) (kl kh : IntKind) (h1 : l ≤ h) (h2 : h ≤ n) (h3 : l < n) (w : World) :
    (Instr.sliceAt t (.pointer (some ⟨b, o, none⟩)) (some (.int kl (l : Int))) (some (.int kh (h : Int))) none).run P w = .ok (.slice (some ⟨b, o + l, none⟩) (h - l) (n - l)) w := by
  have ea : P.arrayLen t = n := by simp [Program.arrayLen, hu]
  have ee : P.elem t = e := by simp [Program.elem, hu]
  have hz : ∀ w, (sizeOf e).run P w = .ok 1 w := fun w => by
    cases hq : P.info? e with
    | none => simp [hq] at hs
    | some d =>
      have hd : d.size = 1 := by simpa [hq] using hs
      simp [sizeOf, typeInfo, hq, hd]
  have hne : ¬ n = l := by omega
  rw [run_sliceAt_array_lh w t ⟨b, o, none⟩ (by rw [ea, ee]; exact hu) kl kh l h (by omega) (by omega) (by rw [ea]; omega), ee, hz, ea]
  simp [slicedAt, hne, Addr.add_mid]
end Go.Proofs.YtdopdaoapdeabaaDoor
