/- THE LISTED VARIABLE: what the condition gives a walk; a world that meets it. -/
import Derived.Test.YtdopdaoapdeabaaDoorRows
import Derived.Test.YtdopdaoapdeabaaDoorB7W
import Derived.Test.YtdopdaoapdeabaaDoorOpen
import Derived.ShutString
import Derived.ChangeSame
import Derived.ChangeVars
import Derived.JoinedOf
import Derived.LaidLaws
import Derived.LaidHandle
import Derived.Stop.Joined
import Derived.Handed
namespace Go.Proofs.YtdopdaoapdeabaaDoor
open Go.ChangeShapes Go.WideShapes Go.RowKit

def laidL : List (String × DataW Unit) := [("errors.errorType", Rows.laid_errors_errorType)]
theorem R.own : ownKnob Tryd.prog.godebug = none := by kernel_rfl
theorem R.laidOut : laidOutB Tryd.prog = true := by kernel_rfl
theorem R.et : Tryd.prog.globalNamed "errors.errorType" = some 0 := by kernel_rfl
theorem R.rt : (Tryd.prog.cutTypes.find? (·.1 == "internal/reflectlite.rtype")).map (·.2) = some 109 := by kernel_rfl
theorem R.oneRow : ((List.range 151).filter fun t => Tryd.prog.rowNamed t [101, 114, 114, 111, 114]) = [65] := by kernel_rfl
theorem R.size : Tryd.prog.types.size = 151 := by kernel_rfl

theorem ET_of_laid {W : World} (h : laidMetH Tryd.prog laidL W) : ET W := by
  have h' : laidMet Tryd.prog [] W ∧ handlesMet Tryd.prog laidL W := h
  obtain ⟨name, u, ty, e1, e2, e3, e4, e5⟩ := h'.2 _ (List.mem_singleton.2 rfl)
  have en : name = [101, 114, 114, 111, 114] := (Option.some.inj e1).symm
  subst en
  obtain rfl := Option.some.inj (R.rt.symm.trans e2)
  have hm : ty ∈ (List.range 151).filter fun t => Tryd.prog.rowNamed t [101, 114, 114, 111, 114] := List.mem_filter.2 ⟨List.mem_range.2 (by rw [← R.size]; exact e3), e4⟩
  rw [R.oneRow] at hm
  obtain rfl := List.mem_singleton.1 hm
  have hh : typeHandle Tryd.prog 65 = .pointer (some ⟨1, 65, none⟩) := by kernel_rfl
  rw [hh] at e5
  unfold ET
  simpa using World.var?_cell R.et e5 0

noncomputable def laidWorld (os : Os) : World :=
  let w0 := World.holding Tryd.prog os ⟨#[], #[], []⟩
  { w0 with heap := w0.heap.modify 0 fun
      | .cells _ t frozen => .cells #[.iface 109 (.agg #[.pointer (some ⟨1, 65, none⟩)])] t frozen
      | o => o }
theorem laidWorld_met (os : Os) (args : Array Value) : laidMetH Tryd.prog laidL ((laidWorld os).forCall (fun _ _ => 0) ⟨#[], args, []⟩).memory :=
  laidMetH_of_parts (laidMet_nil _ _) (by kernel_rfl)
end Go.Proofs.YtdopdaoapdeabaaDoor
