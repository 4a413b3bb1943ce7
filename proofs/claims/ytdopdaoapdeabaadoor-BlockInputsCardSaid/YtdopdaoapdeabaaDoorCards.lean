/-
  DERIVED. GIVEN WITH THE SEED: THE CARDS: each row of YtdopdaoapdeabaaDoorRows.lean that lists a variable, with what it lists TIED to the program's text (the seventh form; the later family's looks); each row that meets fmt, with fmt's text TOLD by the authors' own Lean function (tested against real Go, not proved from fmt's source: count such statements apart). THE CARD IS WHAT COUNTS. Prove the row's statement (the work); the ties are given (YtdopdaoapdeabaaDoorTie.lean); close each card by the builder's one call (the guide's Derived/Test/ToyasCard.lean, 'card_holds'). Laid BY PROGRAM, IN A SANDBOX (cutbox-door.mjs). By AI agents, Wed Nov 11 2026. No macro, syntax, notation, axiom, sorry.
-/
import Derived.Test.YtdopdaoapdeabaaDoorRows
import GoSem.ClaimSeven
namespace Go.Proofs.YtdopdaoapdeabaaDoor
namespace Rows

/-- THE TIED CARD OF 'sacristanlaw07.BlockHides'. -/
def blockHidesCard : Claim7 := { stood := { row := blockHidesRow, standIns := [], harness := (true, "4799b4d20a5f9e216dd4fc9d571f59efa43bf67445f941a37eac4b0d206eb91b"), looks := true }, kinds := [], alts := [], laidByText := true, laidKinds := [.handle], laidTests := true, laidLooks := .later }
def BlockHidesCardSaid : Prop := Claim7.holds Tryd.pinned (.plain (OpenSpec.ofChange blockHidesSpec)) blockHidesCard

/-- THE TIED CARD OF 'sacristanlaw07.BlockHeads'. -/
def blockHeadsCard : Claim7 := { stood := { row := blockHeadsRow, standIns := [], harness := (true, "4799b4d20a5f9e216dd4fc9d571f59efa43bf67445f941a37eac4b0d206eb91b"), looks := true }, kinds := [], alts := [], laidByText := true, laidKinds := [.handle], laidTests := true, laidLooks := .later }
def BlockHeadsCardSaid : Prop := Claim7.holds Tryd.pinned (.plain (OpenSpec.ofChange blockHeadsSpec)) blockHeadsCard

/-- THE TIED CARD OF 'sacristanlaw07.BlockShows'. -/
def blockShowsCard : Claim7 := { stood := { row := blockShowsRow, standIns := [], harness := (true, "4799b4d20a5f9e216dd4fc9d571f59efa43bf67445f941a37eac4b0d206eb91b"), looks := true }, kinds := [], alts := [], laidByText := true, laidKinds := [.handle], laidTests := true, laidLooks := .later }
def BlockShowsCardSaid : Prop := Claim7.holds Tryd.pinned (.plain (OpenSpec.ofChange blockShowsSpec)) blockShowsCard

/-- THE TIED CARD OF 'sacristanlaw07.BlockBack'. -/
def blockBackCard : Claim7 := { stood := { row := blockBackRow, standIns := [], harness := (true, "4799b4d20a5f9e216dd4fc9d571f59efa43bf67445f941a37eac4b0d206eb91b"), looks := true }, kinds := [], alts := [], laidByText := true, laidKinds := [.handle], laidTests := true, laidLooks := .later }
def BlockBackCardSaid : Prop := Claim7.holds Tryd.pinned (.plain (OpenSpec.ofChange blockBackSpec)) blockBackCard

/-- THE TIED CARD OF 'sacristanlaw07.BlockInputs'. -/
def blockInputsCard : Claim7 := { stood := { row := blockInputsRow, standIns := [], harness := (true, "4799b4d20a5f9e216dd4fc9d571f59efa43bf67445f941a37eac4b0d206eb91b"), looks := true }, kinds := [], alts := [], laidByText := true, laidKinds := [.handle], laidTests := true, laidLooks := .later }
def BlockInputsCardSaid : Prop := Claim7.holds Tryd.pinned (.plain (OpenSpec.ofChange blockInputsSpec)) blockInputsCard

/-- THE TIED CARD OF 'sacristanlaw07.BlockKeys'. -/
def blockKeysCard : Claim7 := { stood := { row := blockKeysRow, standIns := [], harness := (true, "4799b4d20a5f9e216dd4fc9d571f59efa43bf67445f941a37eac4b0d206eb91b"), looks := true }, kinds := [], alts := [], laidByText := true, laidKinds := [.handle], laidTests := true, laidLooks := .later }
def BlockKeysCardSaid : Prop := Claim7.holds Tryd.pinned (.plain (OpenSpec.ofChange blockKeysSpec)) blockKeysCard

/-- THE SECOND FORM's CARD OF 'sacristanlaw07.BlockHides'. -/
def blockHidesUptoCard : Claim7 := { stood := { row := blockHidesUptoRow, standIns := [], harness := (true, "4799b4d20a5f9e216dd4fc9d571f59efa43bf67445f941a37eac4b0d206eb91b"), looks := true }, kinds := [], alts := [], laidByText := true, laidKinds := [.handle], laidTests := true, laidLooks := .later }
def BlockHidesUptoCardSaid : Prop := Claim7.holds Tryd.pinned (.plain (OpenSpec.upto blockHidesSpec)) blockHidesUptoCard

/-- THE SECOND FORM's CARD OF 'sacristanlaw07.BlockHeads'. -/
def blockHeadsUptoCard : Claim7 := { stood := { row := blockHeadsUptoRow, standIns := [], harness := (true, "4799b4d20a5f9e216dd4fc9d571f59efa43bf67445f941a37eac4b0d206eb91b"), looks := true }, kinds := [], alts := [], laidByText := true, laidKinds := [.handle], laidTests := true, laidLooks := .later }
def BlockHeadsUptoCardSaid : Prop := Claim7.holds Tryd.pinned (.plain (OpenSpec.upto blockHeadsSpec)) blockHeadsUptoCard

/-- THE SECOND FORM's CARD OF 'sacristanlaw07.BlockShows'. -/
def blockShowsUptoCard : Claim7 := { stood := { row := blockShowsUptoRow, standIns := [], harness := (true, "4799b4d20a5f9e216dd4fc9d571f59efa43bf67445f941a37eac4b0d206eb91b"), looks := true }, kinds := [], alts := [], laidByText := true, laidKinds := [.handle], laidTests := true, laidLooks := .later }
def BlockShowsUptoCardSaid : Prop := Claim7.holds Tryd.pinned (.plain (OpenSpec.upto blockShowsSpec)) blockShowsUptoCard

/-- THE SECOND FORM's CARD OF 'sacristanlaw07.BlockBack'. -/
def blockBackUptoCard : Claim7 := { stood := { row := blockBackUptoRow, standIns := [], harness := (true, "4799b4d20a5f9e216dd4fc9d571f59efa43bf67445f941a37eac4b0d206eb91b"), looks := true }, kinds := [], alts := [], laidByText := true, laidKinds := [.handle], laidTests := true, laidLooks := .later }
def BlockBackUptoCardSaid : Prop := Claim7.holds Tryd.pinned (.plain (OpenSpec.upto blockBackSpec)) blockBackUptoCard

/-- THE SECOND FORM's CARD OF 'sacristanlaw07.BlockInputs'. -/
def blockInputsUptoCard : Claim7 := { stood := { row := blockInputsUptoRow, standIns := [], harness := (true, "4799b4d20a5f9e216dd4fc9d571f59efa43bf67445f941a37eac4b0d206eb91b"), looks := true }, kinds := [], alts := [], laidByText := true, laidKinds := [.handle], laidTests := true, laidLooks := .later }
def BlockInputsUptoCardSaid : Prop := Claim7.holds Tryd.pinned (.plain (OpenSpec.upto blockInputsSpec)) blockInputsUptoCard

/-- THE SECOND FORM's CARD OF 'sacristanlaw07.BlockKeys'. -/
def blockKeysUptoCard : Claim7 := { stood := { row := blockKeysUptoRow, standIns := [], harness := (true, "4799b4d20a5f9e216dd4fc9d571f59efa43bf67445f941a37eac4b0d206eb91b"), looks := true }, kinds := [], alts := [], laidByText := true, laidKinds := [.handle], laidTests := true, laidLooks := .later }
def BlockKeysUptoCardSaid : Prop := Claim7.holds Tryd.pinned (.plain (OpenSpec.upto blockKeysSpec)) blockKeysUptoCard
end Rows
end Go.Proofs.YtdopdaoapdeabaaDoor
