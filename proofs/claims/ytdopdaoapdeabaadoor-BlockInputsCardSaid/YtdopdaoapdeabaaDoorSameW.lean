/- WALK: Same (two slices of bytes). -/
import Derived.Test.YtdopdaoapdeabaaDoorXorW
import Derived.Laws.BytesArg
namespace Go.Proofs.YtdopdaoapdeabaaDoor
open Go.RowKit

/-- the string that bytes are -/
def strL (l : List Nat) : ByteArray := strOfNums (l.map fun n : Nat => (n : Int))
theorem strL_eq {l m : List Nat} (hl : ∀ x ∈ l, x < 256) (hm : ∀ x ∈ m, x < 256) : ((strL l).toList == (strL m).toList) = decide (l = m) := by
  rw [← bytes_beq hl hm, strL, strL, ByteArray.toList_eq, ByteArray.toList_eq, strOfNums_data, strOfNums_data, List.map_map, List.map_map]
  rfl
theorem conv_any {P : Program} {src e dst : TypeId} (hs : P.underlying src = some (.slice e)) (he : P.underlying e = some (.int .u8)) (hd : P.underlying dst = some .string)
    {w : World} {v : Value} {l : List Nat} (h : Reads w v (bs l)) : (convert src dst v).run P w = .ok (.string (strL l)) w := by
  rcases Nat.eq_zero_or_pos l.length with h0 | h0
  · have hl : l = [] := List.eq_nil_of_length_eq_zero h0
    subst hl
    rcases h with ⟨rfl, _⟩ | ⟨a, cap, rfl, _, _⟩
    · rw [run_convert_bytes_nil w src e hs he 0 0 dst hd]; rfl
    · rw [run_convert_bytes_string w src dst e _ _ cap hs he hd]
      exact run_bytesToString w a _ cap [] (run_loadCells_list (P := P) w a [] (fun j u hj => by simp at hj))
  · obtain ⟨b, off, cap, rfl, _, _, hc⟩ := h.pos (by rw [bs_length]; exact h0)
    refine run_convert_bytes_arg w src e hs he b off _ cap (l.map fun n : Nat => (n : Int)) (by simp [bs]) (fun i hi => ?_) dst hd
    rw [bs_length] at hi
    rw [hc i _ (bs_get hi)]
    simp [hi]

set_option maxRecDepth 100000 in
theorem same_any (v1 v2 : Value) (l m : List Nat) (w : World) (h1 : Reads w v1 (bs l)) (h2 : Reads w v2 (bs m)) (hl : ∀ x ∈ l, x < 256) (hm : ∀ x ∈ m, x < 256) :
    Calls Tryd.prog 13 #[v1, v2] w fun e w' => e = .returned (.bool (decide (l = m))) ∧ Below w.heap.size w w' := by
  have hc1 := conv_any (P := Tryd.prog) (dst := 9) Tryd.underlying26 Tryd.underlying5 Tryd.underlying9 h1
  have hc2 := conv_any (P := Tryd.prog) (dst := 9) Tryd.underlying26 Tryd.underlying5 Tryd.underlying9 h2
  have he := strL_eq hl hm
  clear h1 h2 hl hm
  go_enter Tryd.func13, Tryd.ntmps13
  go_wp2
  go_ret
  exact ⟨rfl, Below.refl _ _⟩
end Go.Proofs.YtdopdaoapdeabaaDoor
