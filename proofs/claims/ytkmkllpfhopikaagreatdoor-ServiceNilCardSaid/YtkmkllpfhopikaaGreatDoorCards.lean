/-
  DERIVED. GIVEN WITH THE SEED: THE CARDS: each row of YtkmkllpfhopikaaGreatDoorRows.lean that lists a variable, with what it lists TIED to the program's text (the seventh form; the later family's looks); each row that meets fmt, with fmt's text TOLD by the authors' own Lean function (tested against real Go, not proved from fmt's source: count such statements apart). THE CARD IS WHAT COUNTS. Prove the row's statement (the work); the ties are given (YtkmkllpfhopikaaGreatDoorTie.lean); close each card by the builder's one call (the guide's Derived/Test/ToyasCard.lean, 'card_holds'). Laid BY PROGRAM, IN A SANDBOX (cutbox-door.mjs). By AI agents, Wed Nov 11 2026. No macro, syntax, notation, axiom, sorry.
-/
import Derived.Test.YtkmkllpfhopikaaGreatDoorRows
import GoSem.ClaimSeven
namespace Go.Proofs.YtkmkllpfhopikaaGreatDoor
namespace Rows

/-- THE TIED CARD OF 'mandatelaw23.ServiceNil'. -/
def serviceNilCard : Claim7 := { stood := { row := serviceNilRow, standIns := [], harness := (true, "d457929fe716a714a398e7e7b674efeb9b28b7bef41670889bde268a007c4be4"), looks := true }, kinds := [], alts := [], laidByText := true, laidKinds := [.data, .data, .handle, .pinned], laidTests := true, laidLooks := .later }
def ServiceNilCardSaid : Prop := Claim7.holds Tryz.pinned (.plain (OpenSpec.ofChange serviceNilSpec)) serviceNilCard

/-- THE SECOND FORM's CARD OF 'mandatelaw23.ServiceNil'. -/
def serviceNilUptoCard : Claim7 := { stood := { row := serviceNilUptoRow, standIns := [], harness := (true, "d457929fe716a714a398e7e7b674efeb9b28b7bef41670889bde268a007c4be4"), looks := true }, kinds := [], alts := [], laidByText := true, laidKinds := [.data, .data, .handle, .pinned], laidTests := true, laidLooks := .later }
def ServiceNilUptoCardSaid : Prop := Claim7.holds Tryz.pinned (.plain (OpenSpec.upto serviceNilSpec)) serviceNilUptoCard
end Rows
end Go.Proofs.YtkmkllpfhopikaaGreatDoor
