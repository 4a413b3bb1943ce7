/-
  No cell of these rows narrows 'for every input' (looked for: loops, veiled, ifaces, maps, wideKeys, modest, calm, conditions, laid).
  DERIVED. THE GIVEN ROWS OF THIS SEAT. 9 by the template 'for every input the law returns true; each argument reads behind the call as it read before'; 0 by the template 'total and deterministic' (their statements: YtdopdaoapdeabaaTotals.lean).
  GIVEN WITH THE SEED: the statements are not yours to turn. If you find one false, say at which input.
  Laid BY PROGRAM, IN A SANDBOX (cutbox-rows.mjs): the forced cells as the released guide's own fill.sh prints them over the translation df91492c9aa98f50… (all of the seat's roots in one cut). By AI agents, Wed Nov 11 2026. No macro, syntax, notation, axiom, sorry.
-/
import Derived.Test.YtdopdaoapdeabaaChecked
import GoSem.Claim
import GoSem.ClaimJoined
import GoSem.ClaimMapViews
import Derived.JoinedTies
import Derived.KernelRfl
namespace Go.Proofs.Ytdopdaoapdeabaa
/- THE CELL 'sum', in the pinned program and in every row, IS THE sha256 OF THE DUMP (.gsa) THAT YtdopdaoapdeabaaProg.lean LOADS. Nothing in Lean hashes anything: it is a label: what it is worth is what the hold of that sum in a sandbox is worth. -/
noncomputable def Try.pinned : Pinned := { name := "ytdopdaoapdeabaa", sum := "df91492c9aa98f509a713b975f5a0156c54efe041017b4a05f77cadf4b01d4ff", checked := Try.checked }
namespace Rows
def none {H : Type} : Left H := { results := [], args := [] }

/-- 'sacristanlaw04.AesFields': WHATEVER THE INPUT: true; the input reads as it did. -/
def aesFieldsSpec : ChangeSpec := { name := "aesFields", fn := fun _ => fun
  | [d1, d2] => { results := [.lit (.bool true)], args := [d1, d2] }
  | _ => none }
def aesFieldsRow : OpenClaim := { program := "ytdopdaoapdeabaa", sum := "df91492c9aa98f509a713b975f5a0156c54efe041017b4a05f77cadf4b01d4ff", func := "sacristan/sacristanlaw04.AesFields", spec := "aesFields", apart := false }
def AesFieldsSaid : Prop := aesFieldsRow.holds Try.pinned (OpenSpec.ofChange aesFieldsSpec)

/-- ITS FALSE NEIGHBOUR: 'it returns false'. Refute it at one input. -/
def aesFieldsWrong : ChangeSpec := { name := "aesFields", fn := fun _ => fun
  | [d1, d2] => { results := [.lit (.bool false)], args := [d1, d2] }
  | _ => none }
def AesFieldsWrongFalsely : Prop := aesFieldsRow.holds Try.pinned (OpenSpec.ofChange aesFieldsWrong)

/-- 'sacristanlaw04.AesNext': WHATEVER THE INPUT: true; the input reads as it did. -/
def aesNextSpec : ChangeSpec := { name := "aesNext", fn := fun _ => fun
  | [d1, d2, d3] => { results := [.lit (.bool true)], args := [d1, d2, d3] }
  | _ => none }
def aesNextRow : OpenClaim := { program := "ytdopdaoapdeabaa", sum := "df91492c9aa98f509a713b975f5a0156c54efe041017b4a05f77cadf4b01d4ff", func := "sacristan/sacristanlaw04.AesNext", spec := "aesNext", apart := false }
def AesNextSaid : Prop := aesNextRow.holds Try.pinned (OpenSpec.ofChange aesNextSpec)

/-- ITS FALSE NEIGHBOUR: 'it returns false'. Refute it at one input. -/
def aesNextWrong : ChangeSpec := { name := "aesNext", fn := fun _ => fun
  | [d1, d2, d3] => { results := [.lit (.bool false)], args := [d1, d2, d3] }
  | _ => none }
def AesNextWrongFalsely : Prop := aesNextRow.holds Try.pinned (OpenSpec.ofChange aesNextWrong)

/-- 'sacristanlaw04.AesField': WHATEVER THE INPUT: true; the input reads as it did. -/
def aesFieldSpec : ChangeSpec := { name := "aesField", fn := fun _ => fun
  | [d1, d2, d3] => { results := [.lit (.bool true)], args := [d1, d2, d3] }
  | _ => none }
def aesFieldRow : OpenClaim := { program := "ytdopdaoapdeabaa", sum := "df91492c9aa98f509a713b975f5a0156c54efe041017b4a05f77cadf4b01d4ff", func := "sacristan/sacristanlaw04.AesField", spec := "aesField", apart := false }
def AesFieldSaid : Prop := aesFieldRow.holds Try.pinned (OpenSpec.ofChange aesFieldSpec)

/-- ITS FALSE NEIGHBOUR: 'it returns false'. Refute it at one input. -/
def aesFieldWrong : ChangeSpec := { name := "aesField", fn := fun _ => fun
  | [d1, d2, d3] => { results := [.lit (.bool false)], args := [d1, d2, d3] }
  | _ => none }
def AesFieldWrongFalsely : Prop := aesFieldRow.holds Try.pinned (OpenSpec.ofChange aesFieldWrong)

/-- 'sacristanlaw04.AesBlocks': WHATEVER THE INPUT: true; the input reads as it did. -/
def aesBlocksSpec : ChangeSpec := { name := "aesBlocks", fn := fun _ => fun
  | [d1, d2, d3] => { results := [.lit (.bool true)], args := [d1, d2, d3] }
  | _ => none }
def aesBlocksRow : OpenClaim := { program := "ytdopdaoapdeabaa", sum := "df91492c9aa98f509a713b975f5a0156c54efe041017b4a05f77cadf4b01d4ff", func := "sacristan/sacristanlaw04.AesBlocks", spec := "aesBlocks", apart := false }
def AesBlocksSaid : Prop := aesBlocksRow.holds Try.pinned (OpenSpec.ofChange aesBlocksSpec)

/-- ITS FALSE NEIGHBOUR: 'it returns false'. Refute it at one input. -/
def aesBlocksWrong : ChangeSpec := { name := "aesBlocks", fn := fun _ => fun
  | [d1, d2, d3] => { results := [.lit (.bool false)], args := [d1, d2, d3] }
  | _ => none }
def AesBlocksWrongFalsely : Prop := aesBlocksRow.holds Try.pinned (OpenSpec.ofChange aesBlocksWrong)

/-- 'sacristanlaw04.AesBoxes': WHATEVER THE INPUT: true; the input reads as it did. -/
def aesBoxesSpec : ChangeSpec := { name := "aesBoxes", fn := fun _ => fun
  | [d1, d2, d3] => { results := [.lit (.bool true)], args := [d1, d2, d3] }
  | _ => none }
def aesBoxesRow : OpenClaim := { program := "ytdopdaoapdeabaa", sum := "df91492c9aa98f509a713b975f5a0156c54efe041017b4a05f77cadf4b01d4ff", func := "sacristan/sacristanlaw04.AesBoxes", spec := "aesBoxes", apart := false }
def AesBoxesSaid : Prop := aesBoxesRow.holds Try.pinned (OpenSpec.ofChange aesBoxesSpec)

/-- ITS FALSE NEIGHBOUR: 'it returns false'. Refute it at one input. -/
def aesBoxesWrong : ChangeSpec := { name := "aesBoxes", fn := fun _ => fun
  | [d1, d2, d3] => { results := [.lit (.bool false)], args := [d1, d2, d3] }
  | _ => none }
def AesBoxesWrongFalsely : Prop := aesBoxesRow.holds Try.pinned (OpenSpec.ofChange aesBoxesWrong)

/-- 'sacristanlaw04.AesStreamed': WHATEVER THE INPUT: true; the input reads as it did. -/
def aesStreamedSpec : ChangeSpec := { name := "aesStreamed", fn := fun _ => fun
  | [d1, d2, d3] => { results := [.lit (.bool true)], args := [d1, d2, d3] }
  | _ => none }
def aesStreamedRow : OpenClaim := { program := "ytdopdaoapdeabaa", sum := "df91492c9aa98f509a713b975f5a0156c54efe041017b4a05f77cadf4b01d4ff", func := "sacristan/sacristanlaw04.AesStreamed", spec := "aesStreamed", apart := false }
def AesStreamedSaid : Prop := aesStreamedRow.holds Try.pinned (OpenSpec.ofChange aesStreamedSpec)

/-- ITS FALSE NEIGHBOUR: 'it returns false'. Refute it at one input. -/
def aesStreamedWrong : ChangeSpec := { name := "aesStreamed", fn := fun _ => fun
  | [d1, d2, d3] => { results := [.lit (.bool false)], args := [d1, d2, d3] }
  | _ => none }
def AesStreamedWrongFalsely : Prop := aesStreamedRow.holds Try.pinned (OpenSpec.ofChange aesStreamedWrong)

/-- 'sacristanlaw04.AesStreams': WHATEVER THE INPUT: true; the input reads as it did. -/
def aesStreamsSpec : ChangeSpec := { name := "aesStreams", fn := fun _ => fun
  | [d1, d2, d3, d4] => { results := [.lit (.bool true)], args := [d1, d2, d3, d4] }
  | _ => none }
def aesStreamsRow : OpenClaim := { program := "ytdopdaoapdeabaa", sum := "df91492c9aa98f509a713b975f5a0156c54efe041017b4a05f77cadf4b01d4ff", func := "sacristan/sacristanlaw04.AesStreams", spec := "aesStreams", apart := false }
def AesStreamsSaid : Prop := aesStreamsRow.holds Try.pinned (OpenSpec.ofChange aesStreamsSpec)

/-- ITS FALSE NEIGHBOUR: 'it returns false'. Refute it at one input. -/
def aesStreamsWrong : ChangeSpec := { name := "aesStreams", fn := fun _ => fun
  | [d1, d2, d3, d4] => { results := [.lit (.bool false)], args := [d1, d2, d3, d4] }
  | _ => none }
def AesStreamsWrongFalsely : Prop := aesStreamsRow.holds Try.pinned (OpenSpec.ofChange aesStreamsWrong)

/-- 'sacristanlaw04.AesBack': WHATEVER THE INPUT: true; the input reads as it did. -/
def aesBackSpec : ChangeSpec := { name := "aesBack", fn := fun _ => fun
  | [d1, d2, d3, d4] => { results := [.lit (.bool true)], args := [d1, d2, d3, d4] }
  | _ => none }
def aesBackRow : OpenClaim := { program := "ytdopdaoapdeabaa", sum := "df91492c9aa98f509a713b975f5a0156c54efe041017b4a05f77cadf4b01d4ff", func := "sacristan/sacristanlaw04.AesBack", spec := "aesBack", apart := false }
def AesBackSaid : Prop := aesBackRow.holds Try.pinned (OpenSpec.ofChange aesBackSpec)

/-- ITS FALSE NEIGHBOUR: 'it returns false'. Refute it at one input. -/
def aesBackWrong : ChangeSpec := { name := "aesBack", fn := fun _ => fun
  | [d1, d2, d3, d4] => { results := [.lit (.bool false)], args := [d1, d2, d3, d4] }
  | _ => none }
def AesBackWrongFalsely : Prop := aesBackRow.holds Try.pinned (OpenSpec.ofChange aesBackWrong)

/-- 'sacristanlaw04.AesXors': WHATEVER THE INPUT: true; the input reads as it did. -/
def aesXorsSpec : ChangeSpec := { name := "aesXors", fn := fun _ => fun
  | [d1, d2, d3, d4] => { results := [.lit (.bool true)], args := [d1, d2, d3, d4] }
  | _ => none }
def aesXorsRow : OpenClaim := { program := "ytdopdaoapdeabaa", sum := "df91492c9aa98f509a713b975f5a0156c54efe041017b4a05f77cadf4b01d4ff", func := "sacristan/sacristanlaw04.AesXors", spec := "aesXors", apart := false }
def AesXorsSaid : Prop := aesXorsRow.holds Try.pinned (OpenSpec.ofChange aesXorsSpec)

/-- ITS FALSE NEIGHBOUR: 'it returns false'. Refute it at one input. -/
def aesXorsWrong : ChangeSpec := { name := "aesXors", fn := fun _ => fun
  | [d1, d2, d3, d4] => { results := [.lit (.bool false)], args := [d1, d2, d3, d4] }
  | _ => none }
def AesXorsWrongFalsely : Prop := aesXorsRow.holds Try.pinned (OpenSpec.ofChange aesXorsWrong)

/- THE SECOND FORM. 'bulk': how many values and letters a reading holds, each counted each time it is reached (what is shared counts as often as it is met; a slice's spare places count too). A statement '..UptoSaid' is the law's where the arguments, and the package variables that the reading takes, are together of bulk at most 1048576: NARROWER than '..Said'. Prove '..Said' where nothing that the law and all that it calls make is longer than what came in: it says more and counts as full. Else prove '..UptoSaid'. A law counts once. -/
mutual
def uptoBulk {H : Type} : DataW H → Nat
  | .lit (.string bytes) => bytes.length + 1
  | .lit _ => 1
  | .nil => 1
  | .ptr d => uptoBulk d + 1
  | .slice elems spare => uptoBulkAll elems + uptoBulkAll spare + 1
  | .agg parts => uptoBulkAll parts + 1
  | .iface _ d => uptoBulk d + 1
  | .map entries => uptoBulkEntries entries + 1
  | .held _ => 1
def uptoBulkAll {H : Type} : List (DataW H) → Nat
  | [] => 0
  | d :: r => uptoBulk d + uptoBulkAll r
def uptoBulkEntries {H : Type} : List (Lit × DataW H) → Nat
  | [] => 0
  | x :: r => uptoBulkEntry x + uptoBulkEntries r
def uptoBulkEntry {H : Type} : Lit × DataW H → Nat
  | (.string bytes, d) => bytes.length + uptoBulk d + 1
  | (_, d) => uptoBulk d + 1
 end
def uptoSmall : (H : Type) → List (DataW H) → Bool := fun _ ds => decide (uptoBulkAll ds ≤ 1048576)
def OpenSpec.upto (s : _root_.Go.ChangeSpec) : _root_.Go.OpenSpec := { _root_.Go.OpenSpec.ofChange s with cond := some uptoSmall }

/-- 'sacristanlaw04.AesFields', WHERE WHAT IT READS IS OF BULK AT MOST 1048576: true; the input reads as it did. -/
def aesFieldsUptoRow : OpenClaim := { program := "ytdopdaoapdeabaa", sum := "df91492c9aa98f509a713b975f5a0156c54efe041017b4a05f77cadf4b01d4ff", func := "sacristan/sacristanlaw04.AesFields", spec := "aesFields", apart := false, narrowed := true }
def AesFieldsUptoSaid : Prop := aesFieldsUptoRow.holds Try.pinned (OpenSpec.upto aesFieldsSpec)

/-- 'sacristanlaw04.AesNext', WHERE WHAT IT READS IS OF BULK AT MOST 1048576: true; the input reads as it did. -/
def aesNextUptoRow : OpenClaim := { program := "ytdopdaoapdeabaa", sum := "df91492c9aa98f509a713b975f5a0156c54efe041017b4a05f77cadf4b01d4ff", func := "sacristan/sacristanlaw04.AesNext", spec := "aesNext", apart := false, narrowed := true }
def AesNextUptoSaid : Prop := aesNextUptoRow.holds Try.pinned (OpenSpec.upto aesNextSpec)

/-- 'sacristanlaw04.AesField', WHERE WHAT IT READS IS OF BULK AT MOST 1048576: true; the input reads as it did. -/
def aesFieldUptoRow : OpenClaim := { program := "ytdopdaoapdeabaa", sum := "df91492c9aa98f509a713b975f5a0156c54efe041017b4a05f77cadf4b01d4ff", func := "sacristan/sacristanlaw04.AesField", spec := "aesField", apart := false, narrowed := true }
def AesFieldUptoSaid : Prop := aesFieldUptoRow.holds Try.pinned (OpenSpec.upto aesFieldSpec)

/-- 'sacristanlaw04.AesBlocks', WHERE WHAT IT READS IS OF BULK AT MOST 1048576: true; the input reads as it did. -/
def aesBlocksUptoRow : OpenClaim := { program := "ytdopdaoapdeabaa", sum := "df91492c9aa98f509a713b975f5a0156c54efe041017b4a05f77cadf4b01d4ff", func := "sacristan/sacristanlaw04.AesBlocks", spec := "aesBlocks", apart := false, narrowed := true }
def AesBlocksUptoSaid : Prop := aesBlocksUptoRow.holds Try.pinned (OpenSpec.upto aesBlocksSpec)

/-- 'sacristanlaw04.AesBoxes', WHERE WHAT IT READS IS OF BULK AT MOST 1048576: true; the input reads as it did. -/
def aesBoxesUptoRow : OpenClaim := { program := "ytdopdaoapdeabaa", sum := "df91492c9aa98f509a713b975f5a0156c54efe041017b4a05f77cadf4b01d4ff", func := "sacristan/sacristanlaw04.AesBoxes", spec := "aesBoxes", apart := false, narrowed := true }
def AesBoxesUptoSaid : Prop := aesBoxesUptoRow.holds Try.pinned (OpenSpec.upto aesBoxesSpec)

/-- 'sacristanlaw04.AesStreamed', WHERE WHAT IT READS IS OF BULK AT MOST 1048576: true; the input reads as it did. -/
def aesStreamedUptoRow : OpenClaim := { program := "ytdopdaoapdeabaa", sum := "df91492c9aa98f509a713b975f5a0156c54efe041017b4a05f77cadf4b01d4ff", func := "sacristan/sacristanlaw04.AesStreamed", spec := "aesStreamed", apart := false, narrowed := true }
def AesStreamedUptoSaid : Prop := aesStreamedUptoRow.holds Try.pinned (OpenSpec.upto aesStreamedSpec)

/-- 'sacristanlaw04.AesStreams', WHERE WHAT IT READS IS OF BULK AT MOST 1048576: true; the input reads as it did. -/
def aesStreamsUptoRow : OpenClaim := { program := "ytdopdaoapdeabaa", sum := "df91492c9aa98f509a713b975f5a0156c54efe041017b4a05f77cadf4b01d4ff", func := "sacristan/sacristanlaw04.AesStreams", spec := "aesStreams", apart := false, narrowed := true }
def AesStreamsUptoSaid : Prop := aesStreamsUptoRow.holds Try.pinned (OpenSpec.upto aesStreamsSpec)

/-- 'sacristanlaw04.AesBack', WHERE WHAT IT READS IS OF BULK AT MOST 1048576: true; the input reads as it did. -/
def aesBackUptoRow : OpenClaim := { program := "ytdopdaoapdeabaa", sum := "df91492c9aa98f509a713b975f5a0156c54efe041017b4a05f77cadf4b01d4ff", func := "sacristan/sacristanlaw04.AesBack", spec := "aesBack", apart := false, narrowed := true }
def AesBackUptoSaid : Prop := aesBackUptoRow.holds Try.pinned (OpenSpec.upto aesBackSpec)

/-- 'sacristanlaw04.AesXors', WHERE WHAT IT READS IS OF BULK AT MOST 1048576: true; the input reads as it did. -/
def aesXorsUptoRow : OpenClaim := { program := "ytdopdaoapdeabaa", sum := "df91492c9aa98f509a713b975f5a0156c54efe041017b4a05f77cadf4b01d4ff", func := "sacristan/sacristanlaw04.AesXors", spec := "aesXors", apart := false, narrowed := true }
def AesXorsUptoSaid : Prop := aesXorsUptoRow.holds Try.pinned (OpenSpec.upto aesXorsSpec)

end Rows
end Go.Proofs.Ytdopdaoapdeabaa
