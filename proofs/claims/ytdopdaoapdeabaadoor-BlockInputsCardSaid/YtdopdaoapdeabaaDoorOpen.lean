/- AN ARRAY OF BYTES THAT CAME IN BY VALUE, OPENED; bytes in a row that came in, opened. -/
import Derived.SizedLaws
import Derived.Test.YtdopdaoapdeabaaDoorMem
import Derived.ProofKit
import Derived.OpenShut
import Derived.ChangeOld
import Derived.Below
namespace Go.Proofs.YtdopdaoapdeabaaDoor
open Go.RowKit Go.ChangeShapes Go.WideShapes Go.ChangeAt

theorem open_arr {H : Type} {enc : TypeId × Value → H} {P : Program} {w : World} {base b0 n : Nat} {sp : Nat → Bool} {held : Bool} {r : Reach} {t e : TypeId} {v : Value} {d : DataW H} {p : List MemPlace}
    (ht : P.underlying t = some (.array n e)) (he : P.underlying e = some (.int .u8)) (hce : P.cellsOf e = 1) (hct : P.cellsOf t = n)
    (hv : Value.okWide P w r b0 t v) (h : DataW.Trod enc P w base sp held t v d p) : ∃ l : List Nat, v = .agg (bx l) ∧ l.length = n ∧ ∀ x ∈ l, x < 256 := by
  simp only [Value.okWide, ht] at hv
  obtain ⟨cs, rfl, hcs, _⟩ := hv
  obtain ⟨fuel, hf⟩ := h
  obtain ⟨xs, m, _, _, hl, hxl, hx⟩ := DataW.trod_array ht hf
  simp only [Value.cells, Array.length_toList, hct] at hl
  have key : ∀ i, i < n → ∃ k : Nat, cs[i]? = some (.int .u8 (k : Int)) ∧ k < 256 := by
    intro i hi
    have h1 := hx i hi
    rw [hce, Nat.mul_one] at h1
    obtain ⟨y, hy⟩ : ∃ y, xs[i]? = some y := ⟨xs[i], List.getElem?_eq_getElem (by omega)⟩
    rw [hy] at h1
    obtain ⟨z, hz, _, hwf⟩ := DataW.trod_int he h1
    have hb := bounds_u8 hwf
    refine ⟨z.toNat, ?_, by omega⟩
    have h2 : cs[i]? = some (.int .u8 z) := by
      have := congrArg (fun l => l[0]?) hz
      simpa [Value.cells, List.getElem?_take, List.getElem?_drop] using this
    rw [h2, Int.toNat_of_nonneg hb.1]
  refine ⟨cs.toList.map fun v => (intOf v).toNat, ?_, by simpa using hl, ?_⟩
  · congr 1
    apply Array.ext_getElem?
    intro i
    by_cases hi : i < n
    · obtain ⟨k, hk, _⟩ := key i hi
      simp [bx, bs, hk, intOf]
    · rw [Array.getElem?_eq_none (by omega), Array.getElem?_eq_none (by simp [bx, bs]; omega)]
  · intro x hx'
    simp only [List.mem_map, Array.mem_toList_iff] at hx'
    obtain ⟨v, hv, rfl⟩ := hx'
    obtain ⟨i, hi, rfl⟩ := Array.mem_iff_getElem.1 hv
    obtain ⟨k, hk, hk'⟩ := key i (by omega)
    rw [Array.getElem?_eq_getElem hi] at hk
    simp only [Option.some.injEq] at hk
    rw [hk]
    simpa [intOf] using hk'

/-- bytes in a row that came in -/
theorem open_bytes {H : Type} {enc : TypeId × Value → H} {P : Program} {w : World} {base b0 : Nat} {sp : Nat → Bool} {held : Bool} {r : Reach} {t e : TypeId} {v : Value} {d : DataW H} {p : List MemPlace}
    (ht : P.underlying t = some (.slice e)) (he : P.underlying e = some (.int .u8)) (hce : P.cellsOf e = 1)
    (hv : Value.okWide P w r b0 t v) (h : DataW.Trod enc P w base sp held t v d p) : ∃ l : List Nat, Reads w v (bs l) ∧ (∀ x ∈ l, x < 256) ∧ l.length ≤ maxLen := by
  obtain ⟨a0, len0, cap0, rfl⟩ := okWide_slice ht hv
  have lt0 : ∀ x ∈ p, x.block < w.heap.size := by obtain ⟨m, hm⟩ := h; exact DataW.trod_lt m _ _ _ hm
  obtain ⟨fuel, hf⟩ := h
  rcases open_ints ht he hce hf with ⟨hcs, _⟩ | ⟨x, l, c, zs, hcs, _, hl, hm, hz, _, hcell, hwz⟩
  · simp [Value.cells] at hcs
    obtain ⟨rfl, rfl, rfl⟩ := hcs
    exact ⟨[], .inl ⟨rfl, rfl⟩, by simp, by simp⟩
  · simp [Value.cells] at hcs
    obtain ⟨rfl, rfl, rfl⟩ := hcs
    have hwl : ∀ n ∈ zs.take len0, 0 ≤ n ∧ n ≤ 255 := fun n hn => bounds_u8 (hwz n (List.mem_of_mem_take hn))
    have hzl : len0 ≤ zs.length := by rw [hz]; split <;> omega
    have hlen : ((zs.take len0).map Int.toNat).length = len0 := by simp; omega
    refine ⟨(zs.take len0).map Int.toNat, .inr ⟨x, cap0, by rw [bs_length, hlen], by rw [bs_length, hlen]; exact hl, ?_⟩, ?_, by rw [hlen]; omega⟩
    · intro j u hj
      have hjl : j < len0 := by have := (List.getElem?_eq_some_iff.1 hj).1; rw [bs_length, hlen] at this; exact this
      rw [hcell j (by omega)]
      have hjz : j < zs.length := by omega
      have hb := hwl zs[j] (by rw [List.mem_take_iff_getElem]; exact ⟨j, by omega, rfl⟩)
      simp only [bs, List.map_map, List.getElem?_map, List.getElem?_take, hjl, if_true, List.getElem?_eq_getElem hjz, Option.map_some, Function.comp] at hj
      rw [← hj]
      simp [List.getElem?_eq_getElem hjz, Int.toNat_of_nonneg hb.1]
    · intro y hy
      simp only [List.mem_map] at hy
      obtain ⟨n, hn, rfl⟩ := hy
      have := hwl n hn
      omega
/-- likewise, with the form's own reach -/
theorem open_bytesR {H : Type} {enc : TypeId × Value → H} {P : Program} {w : World} {base b0 : Nat} {sp : Nat → Bool} {held : Bool} {r : Reach} {t e : TypeId} {v : Value} {d : DataW H} {p : List MemPlace}
    (ht : P.underlying t = some (.slice e)) (he : P.underlying e = some (.int .u8)) (hce : P.cellsOf e = 1) (hby : P.bytesOf e = 1)
    (hv : Value.okWide P w r b0 t v) (h : DataW.Trod enc P w base sp held t v d p)
    {ts : List TypeId} {ds : List (DataW H)} (hsz : (DataW.weightsEach P ts ds).all (· ≤ reachBytes) = true) {j : Nat} (htj : ts[j]? = some t) (hdj : ds[j]? = some d) :
    ∃ l : List Nat, Reads w v (bs l) ∧ (∀ x ∈ l, x < 256) ∧ l.length ≤ reachBytes := by
  obtain ⟨l, h1, h2, _⟩ := open_bytes ht he hce hv h
  refine ⟨l, h1, h2, ?_⟩
  obtain ⟨a0, len0, cap0, rfl⟩ := okWide_slice ht hv
  obtain ⟨a1, cap1, hv1⟩ := h1.len
  injection hv1 with _ hlen _
  rw [bs_length] at hlen
  obtain ⟨fuel, hf⟩ := h
  rcases open_ints ht he hce hf with ⟨hcs, _⟩ | ⟨x, l', c, zs, hcs, _, hl, hm, hz, hx, hcell, hwz⟩
  · simp [Value.cells] at hcs
    obtain ⟨rfl, rfl, rfl⟩ := hcs
    rw [← hlen]; decide
  · simp [Value.cells] at hcs
    obtain ⟨rfl, rfl, rfl⟩ := hcs
    injection hx with hx1 hx2
    rw [hx1] at hdj
    have := sized_slice hsz htj hdj ht
    rw [hby, Nat.mul_one] at this
    have hll : (lits IntKind.u8 (zs.take len0) : List (DataW H)).length = len0 := by
      have hzl : len0 ≤ zs.length := by rw [hz]; split <;> omega
      simp [lits]; omega
    omega
end Go.Proofs.YtdopdaoapdeabaaDoor
