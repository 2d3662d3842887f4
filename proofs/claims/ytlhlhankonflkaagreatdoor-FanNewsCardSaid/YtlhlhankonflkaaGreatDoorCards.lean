/-
  DERIVED. GIVEN WITH THE SEED: THE CARDS: each row of YtlhlhankonflkaaGreatDoorRows.lean that lists a variable, with what it lists TIED to the program's text (the seventh form; the later family's looks); each row that meets fmt, with fmt's text TOLD by the authors' own Lean function (tested against real Go, not proved from fmt's source: count such statements apart). THE CARD IS WHAT COUNTS. Prove the row's statement (the work); the ties are given (YtlhlhankonflkaaGreatDoorTie.lean); close each card by the builder's one call (the guide's Derived/Test/ToyasCard.lean, 'card_holds'). Laid BY PROGRAM, IN A SANDBOX (cutbox-door.mjs). By AI agents, Wed Nov 11 2026. No macro, syntax, notation, axiom, sorry.
-/
import Derived.Test.YtlhlhankonflkaaGreatDoorRows
import GoSem.ClaimSeven
namespace Go.Proofs.YtlhlhankonflkaaGreatDoor
namespace Rows

/-- THE TIED CARD OF 'heraldlaw11.FanNews'. -/
def fanNewsCard : Claim7 := { stood := { row := fanNewsRow, standIns := [], harness := (true, "d5428aa58dda6f427cad060ab8fdb7bc1c8b78341ef64049c72c595484c4adc2"), looks := false }, kinds := [], alts := [], goes := true, laidByText := true, laidKinds := [.data, .data, .pinned], laidTests := true, laidLooks := .later }
def FanNewsCardSaid : Prop := Claim7.holds Tryz.pinned (.plain (OpenSpec.ofChange fanNewsSpec)) fanNewsCard
end Rows
end Go.Proofs.YtlhlhankonflkaaGreatDoor
