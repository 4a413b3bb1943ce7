/-
  NARROWER THAN 'FOR EVERY INPUT', by the rows' own cells (each row's printed sentence says how): BlockHides: laid · BlockHeads: laid · BlockShows: laid · BlockBack: laid · BlockInputs: laid · BlockKeys: laid.
  DERIVED. THE GIVEN ROWS OF THIS SEAT. 6 by the template 'for every input the law returns true; each argument reads behind the call as it read before'; 0 by the template 'total and deterministic' (their statements: YtdopdaoapdeabaaDoorTotals.lean).
  GIVEN WITH THE SEED: the statements are not yours to turn. If you find one false, say at which input.
  Laid BY PROGRAM, IN A SANDBOX (cutbox-rows.mjs): the forced cells as the released guide's own fill.sh prints them over the translation e215e22c38be8475… (all of the seat's roots in one cut). By AI agents, Wed Nov 11 2026. No macro, syntax, notation, axiom, sorry.
-/
import Derived.Test.YtdopdaoapdeabaaDoorChecked
import GoSem.Claim
import GoSem.ClaimJoined
import GoSem.ClaimMapViews
import Derived.JoinedTies
import Derived.KernelRfl
namespace Go.Proofs.YtdopdaoapdeabaaDoor
/- THE CELL 'sum', in the pinned program and in every row, IS THE sha256 OF THE DUMP (.gsa) THAT YtdopdaoapdeabaaDoorProg.lean LOADS. Nothing in Lean hashes anything: it is a label: what it is worth is what the hold of that sum in a sandbox is worth. -/
noncomputable def Tryd.pinned : Pinned := { name := "ytdopdaoapdeabaadoor", sum := "e215e22c38be84750c2ffab5c984ee292b07502514537e7d57268a0dfeaadc2a", checked := Tryd.checked }
namespace Rows
def none {H : Type} : Left H := { results := [], args := [] }

/- WHAT THE LISTED PACKAGE-LEVEL VARIABLES READ AS WHEN THE CALL BEGINS. Each datum BY PROGRAM (the guide's laid-datum.mjs) off the statement by which the dump's own 'gosem.cut.vars' lays the variable. In a bare row this is a premise. The card (YtdopdaoapdeabaaDoorCards.lean) ties it to the program's text. -/
def laid_errors_errorType {H : Type} : DataW H := .iface "internal/reflectlite.rtype" (.agg [.ptr (.lit (.string [101, 114, 114, 111, 114]))])

/-- 'sacristanlaw07.BlockHides': WHATEVER THE INPUT: true; the input reads as it did. -/
def blockHidesSpec : ChangeSpec := { name := "blockHides", fn := fun _ => fun
  | [d1, d2, d3, d4] => { results := [.lit (.bool true)], args := [d1, d2, d3, d4] }
  | _ => none }
def blockHidesRow : OpenClaim := { program := "ytdopdaoapdeabaadoor", sum := "e215e22c38be84750c2ffab5c984ee292b07502514537e7d57268a0dfeaadc2a", func := "sacristan/sacristanlaw07.BlockHides", spec := "blockHides", inPlace := ["internal/reflectlite.ValueOf", "(internal/reflectlite.Value).Type", "(internal/reflectlite.Value).IsNil", "internal/reflectlite.TypeOf", "(internal/reflectlite.Value).Elem", "(internal/reflectlite.Value).Set"], unfollowed := true, recurses := true, named := ["errors.errorType"], apart := false, laid := [("errors.errorType", laid_errors_errorType)] }
def BlockHidesSaid : Prop := blockHidesRow.holds Tryd.pinned (OpenSpec.ofChange blockHidesSpec)

/-- ITS FALSE NEIGHBOUR: 'it returns false'. Refute it at one input. -/
def blockHidesWrong : ChangeSpec := { name := "blockHides", fn := fun _ => fun
  | [d1, d2, d3, d4] => { results := [.lit (.bool false)], args := [d1, d2, d3, d4] }
  | _ => none }
def BlockHidesWrongFalsely : Prop := blockHidesRow.holds Tryd.pinned (OpenSpec.ofChange blockHidesWrong)

/-- 'sacristanlaw07.BlockHeads': WHATEVER THE INPUT: true; the input reads as it did. -/
def blockHeadsSpec : ChangeSpec := { name := "blockHeads", fn := fun _ => fun
  | [d1, d2, d3, d4, d5] => { results := [.lit (.bool true)], args := [d1, d2, d3, d4, d5] }
  | _ => none }
def blockHeadsRow : OpenClaim := { program := "ytdopdaoapdeabaadoor", sum := "e215e22c38be84750c2ffab5c984ee292b07502514537e7d57268a0dfeaadc2a", func := "sacristan/sacristanlaw07.BlockHeads", spec := "blockHeads", inPlace := ["internal/reflectlite.ValueOf", "(internal/reflectlite.Value).Type", "(internal/reflectlite.Value).IsNil", "internal/reflectlite.TypeOf", "(internal/reflectlite.Value).Elem", "(internal/reflectlite.Value).Set"], unfollowed := true, recurses := true, named := ["errors.errorType"], apart := false, laid := [("errors.errorType", laid_errors_errorType)] }
def BlockHeadsSaid : Prop := blockHeadsRow.holds Tryd.pinned (OpenSpec.ofChange blockHeadsSpec)

/-- ITS FALSE NEIGHBOUR: 'it returns false'. Refute it at one input. -/
def blockHeadsWrong : ChangeSpec := { name := "blockHeads", fn := fun _ => fun
  | [d1, d2, d3, d4, d5] => { results := [.lit (.bool false)], args := [d1, d2, d3, d4, d5] }
  | _ => none }
def BlockHeadsWrongFalsely : Prop := blockHeadsRow.holds Tryd.pinned (OpenSpec.ofChange blockHeadsWrong)

/-- 'sacristanlaw07.BlockShows': WHATEVER THE INPUT: true; the input reads as it did. -/
def blockShowsSpec : ChangeSpec := { name := "blockShows", fn := fun _ => fun
  | [d1, d2] => { results := [.lit (.bool true)], args := [d1, d2] }
  | _ => none }
def blockShowsRow : OpenClaim := { program := "ytdopdaoapdeabaadoor", sum := "e215e22c38be84750c2ffab5c984ee292b07502514537e7d57268a0dfeaadc2a", func := "sacristan/sacristanlaw07.BlockShows", spec := "blockShows", inPlace := ["internal/reflectlite.ValueOf", "(internal/reflectlite.Value).Type", "(internal/reflectlite.Value).IsNil", "internal/reflectlite.TypeOf", "(internal/reflectlite.Value).Elem", "(internal/reflectlite.Value).Set"], unfollowed := true, recurses := true, named := ["errors.errorType"], apart := false, laid := [("errors.errorType", laid_errors_errorType)] }
def BlockShowsSaid : Prop := blockShowsRow.holds Tryd.pinned (OpenSpec.ofChange blockShowsSpec)

/-- ITS FALSE NEIGHBOUR: 'it returns false'. Refute it at one input. -/
def blockShowsWrong : ChangeSpec := { name := "blockShows", fn := fun _ => fun
  | [d1, d2] => { results := [.lit (.bool false)], args := [d1, d2] }
  | _ => none }
def BlockShowsWrongFalsely : Prop := blockShowsRow.holds Tryd.pinned (OpenSpec.ofChange blockShowsWrong)

/-- 'sacristanlaw07.BlockBack': WHATEVER THE INPUT: true; the input reads as it did. -/
def blockBackSpec : ChangeSpec := { name := "blockBack", fn := fun _ => fun
  | [d1, d2, d3, d4, d5] => { results := [.lit (.bool true)], args := [d1, d2, d3, d4, d5] }
  | _ => none }
def blockBackRow : OpenClaim := { program := "ytdopdaoapdeabaadoor", sum := "e215e22c38be84750c2ffab5c984ee292b07502514537e7d57268a0dfeaadc2a", func := "sacristan/sacristanlaw07.BlockBack", spec := "blockBack", inPlace := ["internal/reflectlite.ValueOf", "(internal/reflectlite.Value).Type", "(internal/reflectlite.Value).IsNil", "internal/reflectlite.TypeOf", "(internal/reflectlite.Value).Elem", "(internal/reflectlite.Value).Set"], unfollowed := true, recurses := true, named := ["errors.errorType"], apart := false, laid := [("errors.errorType", laid_errors_errorType)] }
def BlockBackSaid : Prop := blockBackRow.holds Tryd.pinned (OpenSpec.ofChange blockBackSpec)

/-- ITS FALSE NEIGHBOUR: 'it returns false'. Refute it at one input. -/
def blockBackWrong : ChangeSpec := { name := "blockBack", fn := fun _ => fun
  | [d1, d2, d3, d4, d5] => { results := [.lit (.bool false)], args := [d1, d2, d3, d4, d5] }
  | _ => none }
def BlockBackWrongFalsely : Prop := blockBackRow.holds Tryd.pinned (OpenSpec.ofChange blockBackWrong)

/-- 'sacristanlaw07.BlockInputs': WHATEVER THE INPUT: true; the input reads as it did. -/
def blockInputsSpec : ChangeSpec := { name := "blockInputs", fn := fun _ => fun
  | [d1, d2, d3, d4] => { results := [.lit (.bool true)], args := [d1, d2, d3, d4] }
  | _ => none }
def blockInputsRow : OpenClaim := { program := "ytdopdaoapdeabaadoor", sum := "e215e22c38be84750c2ffab5c984ee292b07502514537e7d57268a0dfeaadc2a", func := "sacristan/sacristanlaw07.BlockInputs", spec := "blockInputs", inPlace := ["internal/reflectlite.ValueOf", "(internal/reflectlite.Value).Type", "(internal/reflectlite.Value).IsNil", "internal/reflectlite.TypeOf", "(internal/reflectlite.Value).Elem", "(internal/reflectlite.Value).Set"], unfollowed := true, recurses := true, named := ["errors.errorType"], apart := false, laid := [("errors.errorType", laid_errors_errorType)] }
def BlockInputsSaid : Prop := blockInputsRow.holds Tryd.pinned (OpenSpec.ofChange blockInputsSpec)

/-- ITS FALSE NEIGHBOUR: 'it returns false'. Refute it at one input. -/
def blockInputsWrong : ChangeSpec := { name := "blockInputs", fn := fun _ => fun
  | [d1, d2, d3, d4] => { results := [.lit (.bool false)], args := [d1, d2, d3, d4] }
  | _ => none }
def BlockInputsWrongFalsely : Prop := blockInputsRow.holds Tryd.pinned (OpenSpec.ofChange blockInputsWrong)

/-- 'sacristanlaw07.BlockKeys': WHATEVER THE INPUT: true; the input reads as it did. -/
def blockKeysSpec : ChangeSpec := { name := "blockKeys", fn := fun _ => fun
  | [d1, d2] => { results := [.lit (.bool true)], args := [d1, d2] }
  | _ => none }
def blockKeysRow : OpenClaim := { program := "ytdopdaoapdeabaadoor", sum := "e215e22c38be84750c2ffab5c984ee292b07502514537e7d57268a0dfeaadc2a", func := "sacristan/sacristanlaw07.BlockKeys", spec := "blockKeys", inPlace := ["internal/reflectlite.ValueOf", "(internal/reflectlite.Value).Type", "(internal/reflectlite.Value).IsNil", "internal/reflectlite.TypeOf", "(internal/reflectlite.Value).Elem", "(internal/reflectlite.Value).Set"], unfollowed := true, recurses := true, named := ["errors.errorType"], apart := false, laid := [("errors.errorType", laid_errors_errorType)] }
def BlockKeysSaid : Prop := blockKeysRow.holds Tryd.pinned (OpenSpec.ofChange blockKeysSpec)

/-- ITS FALSE NEIGHBOUR: 'it returns false'. Refute it at one input. -/
def blockKeysWrong : ChangeSpec := { name := "blockKeys", fn := fun _ => fun
  | [d1, d2] => { results := [.lit (.bool false)], args := [d1, d2] }
  | _ => none }
def BlockKeysWrongFalsely : Prop := blockKeysRow.holds Tryd.pinned (OpenSpec.ofChange blockKeysWrong)

/- THE SECOND FORM. 'bulk': how many values and letters a reading holds, each counted each time it is reached (what is shared counts as often as it is met; a slice's spare places count too). A statement '..UptoSaid' is the law's where the arguments, and the package variables that the reading takes, are together of bulk at most 1048576: NARROWER than '..Said'. Prove '..Said' where nothing that the law and all that it calls make is longer than what came in: it says more and counts as full. Else prove '..UptoSaid'. A law counts once. -/
mutual
def uptoBulk {H : Type} : DataW H → Nat
  | .lit (.string bytes) => bytes.length + 1
  | .lit _ => 1
  | .nil => 1
  | .ptr d => uptoBulk d + 1
  | .slice elems spare => uptoBulkAll elems + uptoBulkAll spare + 1
  | .agg parts => uptoBulkAll parts + 1
  | .iface _ d => uptoBulk d + 1
  | .map entries => uptoBulkEntries entries + 1
  | .held _ => 1
def uptoBulkAll {H : Type} : List (DataW H) → Nat
  | [] => 0
  | d :: r => uptoBulk d + uptoBulkAll r
def uptoBulkEntries {H : Type} : List (Lit × DataW H) → Nat
  | [] => 0
  | x :: r => uptoBulkEntry x + uptoBulkEntries r
def uptoBulkEntry {H : Type} : Lit × DataW H → Nat
  | (.string bytes, d) => bytes.length + uptoBulk d + 1
  | (_, d) => uptoBulk d + 1
 end
def uptoSmall : (H : Type) → List (DataW H) → Bool := fun _ ds => decide (uptoBulkAll ds ≤ 1048576)
def OpenSpec.upto (s : _root_.Go.ChangeSpec) : _root_.Go.OpenSpec := { _root_.Go.OpenSpec.ofChange s with cond := some uptoSmall }

/-- 'sacristanlaw07.BlockHides', WHERE WHAT IT READS IS OF BULK AT MOST 1048576: true; the input reads as it did. -/
def blockHidesUptoRow : OpenClaim := { program := "ytdopdaoapdeabaadoor", sum := "e215e22c38be84750c2ffab5c984ee292b07502514537e7d57268a0dfeaadc2a", func := "sacristan/sacristanlaw07.BlockHides", spec := "blockHides", inPlace := ["internal/reflectlite.ValueOf", "(internal/reflectlite.Value).Type", "(internal/reflectlite.Value).IsNil", "internal/reflectlite.TypeOf", "(internal/reflectlite.Value).Elem", "(internal/reflectlite.Value).Set"], unfollowed := true, recurses := true, named := ["errors.errorType"], apart := false, laid := [("errors.errorType", laid_errors_errorType)], narrowed := true }
def BlockHidesUptoSaid : Prop := blockHidesUptoRow.holds Tryd.pinned (OpenSpec.upto blockHidesSpec)

/-- 'sacristanlaw07.BlockHeads', WHERE WHAT IT READS IS OF BULK AT MOST 1048576: true; the input reads as it did. -/
def blockHeadsUptoRow : OpenClaim := { program := "ytdopdaoapdeabaadoor", sum := "e215e22c38be84750c2ffab5c984ee292b07502514537e7d57268a0dfeaadc2a", func := "sacristan/sacristanlaw07.BlockHeads", spec := "blockHeads", inPlace := ["internal/reflectlite.ValueOf", "(internal/reflectlite.Value).Type", "(internal/reflectlite.Value).IsNil", "internal/reflectlite.TypeOf", "(internal/reflectlite.Value).Elem", "(internal/reflectlite.Value).Set"], unfollowed := true, recurses := true, named := ["errors.errorType"], apart := false, laid := [("errors.errorType", laid_errors_errorType)], narrowed := true }
def BlockHeadsUptoSaid : Prop := blockHeadsUptoRow.holds Tryd.pinned (OpenSpec.upto blockHeadsSpec)

/-- 'sacristanlaw07.BlockShows', WHERE WHAT IT READS IS OF BULK AT MOST 1048576: true; the input reads as it did. -/
def blockShowsUptoRow : OpenClaim := { program := "ytdopdaoapdeabaadoor", sum := "e215e22c38be84750c2ffab5c984ee292b07502514537e7d57268a0dfeaadc2a", func := "sacristan/sacristanlaw07.BlockShows", spec := "blockShows", inPlace := ["internal/reflectlite.ValueOf", "(internal/reflectlite.Value).Type", "(internal/reflectlite.Value).IsNil", "internal/reflectlite.TypeOf", "(internal/reflectlite.Value).Elem", "(internal/reflectlite.Value).Set"], unfollowed := true, recurses := true, named := ["errors.errorType"], apart := false, laid := [("errors.errorType", laid_errors_errorType)], narrowed := true }
def BlockShowsUptoSaid : Prop := blockShowsUptoRow.holds Tryd.pinned (OpenSpec.upto blockShowsSpec)

/-- 'sacristanlaw07.BlockBack', WHERE WHAT IT READS IS OF BULK AT MOST 1048576: true; the input reads as it did. -/
def blockBackUptoRow : OpenClaim := { program := "ytdopdaoapdeabaadoor", sum := "e215e22c38be84750c2ffab5c984ee292b07502514537e7d57268a0dfeaadc2a", func := "sacristan/sacristanlaw07.BlockBack", spec := "blockBack", inPlace := ["internal/reflectlite.ValueOf", "(internal/reflectlite.Value).Type", "(internal/reflectlite.Value).IsNil", "internal/reflectlite.TypeOf", "(internal/reflectlite.Value).Elem", "(internal/reflectlite.Value).Set"], unfollowed := true, recurses := true, named := ["errors.errorType"], apart := false, laid := [("errors.errorType", laid_errors_errorType)], narrowed := true }
def BlockBackUptoSaid : Prop := blockBackUptoRow.holds Tryd.pinned (OpenSpec.upto blockBackSpec)

/-- 'sacristanlaw07.BlockInputs', WHERE WHAT IT READS IS OF BULK AT MOST 1048576: true; the input reads as it did. -/
def blockInputsUptoRow : OpenClaim := { program := "ytdopdaoapdeabaadoor", sum := "e215e22c38be84750c2ffab5c984ee292b07502514537e7d57268a0dfeaadc2a", func := "sacristan/sacristanlaw07.BlockInputs", spec := "blockInputs", inPlace := ["internal/reflectlite.ValueOf", "(internal/reflectlite.Value).Type", "(internal/reflectlite.Value).IsNil", "internal/reflectlite.TypeOf", "(internal/reflectlite.Value).Elem", "(internal/reflectlite.Value).Set"], unfollowed := true, recurses := true, named := ["errors.errorType"], apart := false, laid := [("errors.errorType", laid_errors_errorType)], narrowed := true }
def BlockInputsUptoSaid : Prop := blockInputsUptoRow.holds Tryd.pinned (OpenSpec.upto blockInputsSpec)

/-- 'sacristanlaw07.BlockKeys', WHERE WHAT IT READS IS OF BULK AT MOST 1048576: true; the input reads as it did. -/
def blockKeysUptoRow : OpenClaim := { program := "ytdopdaoapdeabaadoor", sum := "e215e22c38be84750c2ffab5c984ee292b07502514537e7d57268a0dfeaadc2a", func := "sacristan/sacristanlaw07.BlockKeys", spec := "blockKeys", inPlace := ["internal/reflectlite.ValueOf", "(internal/reflectlite.Value).Type", "(internal/reflectlite.Value).IsNil", "internal/reflectlite.TypeOf", "(internal/reflectlite.Value).Elem", "(internal/reflectlite.Value).Set"], unfollowed := true, recurses := true, named := ["errors.errorType"], apart := false, laid := [("errors.errorType", laid_errors_errorType)], narrowed := true }
def BlockKeysUptoSaid : Prop := blockKeysUptoRow.holds Tryd.pinned (OpenSpec.upto blockKeysSpec)

end Rows
end Go.Proofs.YtdopdaoapdeabaaDoor
