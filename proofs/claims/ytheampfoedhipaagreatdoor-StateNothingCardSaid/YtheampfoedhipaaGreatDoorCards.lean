/-
  DERIVED. GIVEN WITH THE SEED: THE CARDS: each row of YtheampfoedhipaaGreatDoorRows.lean that lists a variable, with what it lists TIED to the program's text (the seventh form; the later family's looks); each row that meets fmt, with fmt's text TOLD by the authors' own Lean function (tested against real Go, not proved from fmt's source: count such statements apart). THE CARD IS WHAT COUNTS. Prove the row's statement (the work); the ties are given (YtheampfoedhipaaGreatDoorTie.lean); close each card by the builder's one call (the guide's Derived/Test/ToyasCard.lean, 'card_holds'). Laid BY PROGRAM, IN A SANDBOX (cutbox-door.mjs). By AI agents, Wed Nov 11 2026. No macro, syntax, notation, axiom, sorry.
-/
import Derived.Test.YtheampfoedhipaaGreatDoorRows
import GoSem.ClaimSeven
namespace Go.Proofs.YtheampfoedhipaaGreatDoor
namespace Rows

/-- THE TIED CARD OF 'heraldlaw8.StateOnce'. -/
def stateOnceCard : Claim7 := { stood := { row := stateOnceRow, standIns := [], harness := (true, "83ec510f6817de446e1aee2ffabd11fcaae2e0e644f3de68c2b84742b2f23923"), looks := true }, kinds := [], alts := [], laidByText := true, laidKinds := [.data, .data, .data, .data, .data, .pinned], laidTests := true, laidLooks := .later }
def StateOnceCardSaid : Prop := Claim7.holds Tryz.pinned (.plain (OpenSpec.ofChange stateOnceSpec)) stateOnceCard

/-- THE TIED CARD OF 'heraldlaw5.ShotBridges'. -/
def shotBridgesCard : Claim7 := { stood := { row := shotBridgesRow, standIns := [], harness := (true, "83ec510f6817de446e1aee2ffabd11fcaae2e0e644f3de68c2b84742b2f23923"), looks := true }, kinds := [], alts := [], laidByText := true, laidKinds := [.data, .data, .data, .data, .data, .pinned], laidTests := true, laidLooks := .later }
def ShotBridgesCardSaid : Prop := Claim7.holds Tryz.pinned (.plain (OpenSpec.ofChange shotBridgesSpec)) shotBridgesCard

/-- THE TIED CARD OF 'heraldlaw5.ShotReturns'. -/
def shotReturnsCard : Claim7 := { stood := { row := shotReturnsRow, standIns := [], harness := (true, "83ec510f6817de446e1aee2ffabd11fcaae2e0e644f3de68c2b84742b2f23923"), looks := true }, kinds := [], alts := [], laidByText := true, laidKinds := [.data, .data, .data, .data, .data, .pinned], laidTests := true, laidLooks := .later }
def ShotReturnsCardSaid : Prop := Claim7.holds Tryz.pinned (.plain (OpenSpec.ofChange shotReturnsSpec)) shotReturnsCard

/-- THE TIED CARD OF 'heraldlaw8.StatePlays'. -/
def statePlaysCard : Claim7 := { stood := { row := statePlaysRow, standIns := [], harness := (true, "83ec510f6817de446e1aee2ffabd11fcaae2e0e644f3de68c2b84742b2f23923"), looks := true }, kinds := [], alts := [], laidByText := true, laidKinds := [.data, .data, .data, .data, .data, .pinned], laidTests := true, laidLooks := .later }
def StatePlaysCardSaid : Prop := Claim7.holds Tryz.pinned (.plain (OpenSpec.ofChange statePlaysSpec)) statePlaysCard

/-- THE TIED CARD OF 'heraldlaw5.ShotFollows'. -/
def shotFollowsCard : Claim7 := { stood := { row := shotFollowsRow, standIns := [], harness := (true, "83ec510f6817de446e1aee2ffabd11fcaae2e0e644f3de68c2b84742b2f23923"), looks := true }, kinds := [], alts := [], laidByText := true, laidKinds := [.data, .data, .data, .data, .data, .pinned], laidTests := true, laidLooks := .later }
def ShotFollowsCardSaid : Prop := Claim7.holds Tryz.pinned (.plain (OpenSpec.ofChange shotFollowsSpec)) shotFollowsCard

/-- THE TIED CARD OF 'heraldlaw5.ShotParts'. -/
def shotPartsCard : Claim7 := { stood := { row := shotPartsRow, standIns := [], harness := (true, "83ec510f6817de446e1aee2ffabd11fcaae2e0e644f3de68c2b84742b2f23923"), looks := true }, kinds := [], alts := [], laidByText := true, laidKinds := [.data, .data, .data, .data, .data, .pinned], laidTests := true, laidLooks := .later }
def ShotPartsCardSaid : Prop := Claim7.holds Tryz.pinned (.plain (OpenSpec.ofChange shotPartsSpec)) shotPartsCard

/-- THE TIED CARD OF 'heraldlaw5.ShotKeeps'. -/
def shotKeepsCard : Claim7 := { stood := { row := shotKeepsRow, standIns := [], harness := (true, "83ec510f6817de446e1aee2ffabd11fcaae2e0e644f3de68c2b84742b2f23923"), looks := true }, kinds := [], alts := [], laidByText := true, laidKinds := [.data, .data, .data, .data, .data, .pinned], laidTests := true, laidLooks := .later }
def ShotKeepsCardSaid : Prop := Claim7.holds Tryz.pinned (.plain (OpenSpec.ofChange shotKeepsSpec)) shotKeepsCard

/-- THE TIED CARD OF 'heraldlaw8.StateNothing'. -/
def stateNothingCard : Claim7 := { stood := { row := stateNothingRow, standIns := [], harness := (true, "83ec510f6817de446e1aee2ffabd11fcaae2e0e644f3de68c2b84742b2f23923"), looks := true }, kinds := [], alts := [], laidByText := true, laidKinds := [.data, .data, .data, .data, .data, .pinned], laidTests := true, laidLooks := .later }
def StateNothingCardSaid : Prop := Claim7.holds Tryz.pinned (.plain (OpenSpec.ofChange stateNothingSpec)) stateNothingCard

/-- THE TIED CARD OF 'heraldlaw8.StateTells'. -/
def stateTellsCard : Claim7 := { stood := { row := stateTellsRow, standIns := [], harness := (true, "83ec510f6817de446e1aee2ffabd11fcaae2e0e644f3de68c2b84742b2f23923"), looks := true }, kinds := [], alts := [], laidByText := true, laidKinds := [.data, .data, .data, .data, .data, .pinned], laidTests := true, laidLooks := .later }
def StateTellsCardSaid : Prop := Claim7.holds Tryz.pinned (.plain (OpenSpec.ofChange stateTellsSpec)) stateTellsCard

/-- THE TIED CARD OF 'heraldlaw8.StateBrief'. -/
def stateBriefCard : Claim7 := { stood := { row := stateBriefRow, standIns := [], harness := (true, "83ec510f6817de446e1aee2ffabd11fcaae2e0e644f3de68c2b84742b2f23923"), looks := true }, kinds := [], alts := [], laidByText := true, laidKinds := [.data, .data, .data, .data, .data, .pinned], laidTests := true, laidLooks := .later }
def StateBriefCardSaid : Prop := Claim7.holds Tryz.pinned (.plain (OpenSpec.ofChange stateBriefSpec)) stateBriefCard

/-- THE TIED CARD OF 'heraldlaw8.StateKeeps'. -/
def stateKeepsCard : Claim7 := { stood := { row := stateKeepsRow, standIns := [], harness := (true, "83ec510f6817de446e1aee2ffabd11fcaae2e0e644f3de68c2b84742b2f23923"), looks := true }, kinds := [], alts := [], laidByText := true, laidKinds := [.data, .data, .data, .data, .data, .pinned], laidTests := true, laidLooks := .later }
def StateKeepsCardSaid : Prop := Claim7.holds Tryz.pinned (.plain (OpenSpec.ofChange stateKeepsSpec)) stateKeepsCard

/-- THE TIED CARD OF 'heraldlaw8.StateThaws'. -/
def stateThawsCard : Claim7 := { stood := { row := stateThawsRow, standIns := [], harness := (true, "83ec510f6817de446e1aee2ffabd11fcaae2e0e644f3de68c2b84742b2f23923"), looks := true }, kinds := [], alts := [], laidByText := true, laidKinds := [.data, .data, .data, .data, .data, .pinned], laidTests := true, laidLooks := .later }
def StateThawsCardSaid : Prop := Claim7.holds Tryz.pinned (.plain (OpenSpec.ofChange stateThawsSpec)) stateThawsCard

/-- THE SECOND FORM's CARD OF 'heraldlaw8.StateOnce'. -/
def stateOnceUptoCard : Claim7 := { stood := { row := stateOnceUptoRow, standIns := [], harness := (true, "83ec510f6817de446e1aee2ffabd11fcaae2e0e644f3de68c2b84742b2f23923"), looks := true }, kinds := [], alts := [], laidByText := true, laidKinds := [.data, .data, .data, .data, .data, .pinned], laidTests := true, laidLooks := .later }
def StateOnceUptoCardSaid : Prop := Claim7.holds Tryz.pinned (.plain (OpenSpec.upto stateOnceSpec)) stateOnceUptoCard

/-- THE SECOND FORM's CARD OF 'heraldlaw5.ShotBridges'. -/
def shotBridgesUptoCard : Claim7 := { stood := { row := shotBridgesUptoRow, standIns := [], harness := (true, "83ec510f6817de446e1aee2ffabd11fcaae2e0e644f3de68c2b84742b2f23923"), looks := true }, kinds := [], alts := [], laidByText := true, laidKinds := [.data, .data, .data, .data, .data, .pinned], laidTests := true, laidLooks := .later }
def ShotBridgesUptoCardSaid : Prop := Claim7.holds Tryz.pinned (.plain (OpenSpec.upto shotBridgesSpec)) shotBridgesUptoCard

/-- THE SECOND FORM's CARD OF 'heraldlaw5.ShotReturns'. -/
def shotReturnsUptoCard : Claim7 := { stood := { row := shotReturnsUptoRow, standIns := [], harness := (true, "83ec510f6817de446e1aee2ffabd11fcaae2e0e644f3de68c2b84742b2f23923"), looks := true }, kinds := [], alts := [], laidByText := true, laidKinds := [.data, .data, .data, .data, .data, .pinned], laidTests := true, laidLooks := .later }
def ShotReturnsUptoCardSaid : Prop := Claim7.holds Tryz.pinned (.plain (OpenSpec.upto shotReturnsSpec)) shotReturnsUptoCard

/-- THE SECOND FORM's CARD OF 'heraldlaw8.StatePlays'. -/
def statePlaysUptoCard : Claim7 := { stood := { row := statePlaysUptoRow, standIns := [], harness := (true, "83ec510f6817de446e1aee2ffabd11fcaae2e0e644f3de68c2b84742b2f23923"), looks := true }, kinds := [], alts := [], laidByText := true, laidKinds := [.data, .data, .data, .data, .data, .pinned], laidTests := true, laidLooks := .later }
def StatePlaysUptoCardSaid : Prop := Claim7.holds Tryz.pinned (.plain (OpenSpec.upto statePlaysSpec)) statePlaysUptoCard

/-- THE SECOND FORM's CARD OF 'heraldlaw5.ShotFollows'. -/
def shotFollowsUptoCard : Claim7 := { stood := { row := shotFollowsUptoRow, standIns := [], harness := (true, "83ec510f6817de446e1aee2ffabd11fcaae2e0e644f3de68c2b84742b2f23923"), looks := true }, kinds := [], alts := [], laidByText := true, laidKinds := [.data, .data, .data, .data, .data, .pinned], laidTests := true, laidLooks := .later }
def ShotFollowsUptoCardSaid : Prop := Claim7.holds Tryz.pinned (.plain (OpenSpec.upto shotFollowsSpec)) shotFollowsUptoCard

/-- THE SECOND FORM's CARD OF 'heraldlaw5.ShotParts'. -/
def shotPartsUptoCard : Claim7 := { stood := { row := shotPartsUptoRow, standIns := [], harness := (true, "83ec510f6817de446e1aee2ffabd11fcaae2e0e644f3de68c2b84742b2f23923"), looks := true }, kinds := [], alts := [], laidByText := true, laidKinds := [.data, .data, .data, .data, .data, .pinned], laidTests := true, laidLooks := .later }
def ShotPartsUptoCardSaid : Prop := Claim7.holds Tryz.pinned (.plain (OpenSpec.upto shotPartsSpec)) shotPartsUptoCard

/-- THE SECOND FORM's CARD OF 'heraldlaw5.ShotKeeps'. -/
def shotKeepsUptoCard : Claim7 := { stood := { row := shotKeepsUptoRow, standIns := [], harness := (true, "83ec510f6817de446e1aee2ffabd11fcaae2e0e644f3de68c2b84742b2f23923"), looks := true }, kinds := [], alts := [], laidByText := true, laidKinds := [.data, .data, .data, .data, .data, .pinned], laidTests := true, laidLooks := .later }
def ShotKeepsUptoCardSaid : Prop := Claim7.holds Tryz.pinned (.plain (OpenSpec.upto shotKeepsSpec)) shotKeepsUptoCard

/-- THE SECOND FORM's CARD OF 'heraldlaw8.StateNothing'. -/
def stateNothingUptoCard : Claim7 := { stood := { row := stateNothingUptoRow, standIns := [], harness := (true, "83ec510f6817de446e1aee2ffabd11fcaae2e0e644f3de68c2b84742b2f23923"), looks := true }, kinds := [], alts := [], laidByText := true, laidKinds := [.data, .data, .data, .data, .data, .pinned], laidTests := true, laidLooks := .later }
def StateNothingUptoCardSaid : Prop := Claim7.holds Tryz.pinned (.plain (OpenSpec.upto stateNothingSpec)) stateNothingUptoCard

/-- THE SECOND FORM's CARD OF 'heraldlaw8.StateTells'. -/
def stateTellsUptoCard : Claim7 := { stood := { row := stateTellsUptoRow, standIns := [], harness := (true, "83ec510f6817de446e1aee2ffabd11fcaae2e0e644f3de68c2b84742b2f23923"), looks := true }, kinds := [], alts := [], laidByText := true, laidKinds := [.data, .data, .data, .data, .data, .pinned], laidTests := true, laidLooks := .later }
def StateTellsUptoCardSaid : Prop := Claim7.holds Tryz.pinned (.plain (OpenSpec.upto stateTellsSpec)) stateTellsUptoCard

/-- THE SECOND FORM's CARD OF 'heraldlaw8.StateBrief'. -/
def stateBriefUptoCard : Claim7 := { stood := { row := stateBriefUptoRow, standIns := [], harness := (true, "83ec510f6817de446e1aee2ffabd11fcaae2e0e644f3de68c2b84742b2f23923"), looks := true }, kinds := [], alts := [], laidByText := true, laidKinds := [.data, .data, .data, .data, .data, .pinned], laidTests := true, laidLooks := .later }
def StateBriefUptoCardSaid : Prop := Claim7.holds Tryz.pinned (.plain (OpenSpec.upto stateBriefSpec)) stateBriefUptoCard

/-- THE SECOND FORM's CARD OF 'heraldlaw8.StateKeeps'. -/
def stateKeepsUptoCard : Claim7 := { stood := { row := stateKeepsUptoRow, standIns := [], harness := (true, "83ec510f6817de446e1aee2ffabd11fcaae2e0e644f3de68c2b84742b2f23923"), looks := true }, kinds := [], alts := [], laidByText := true, laidKinds := [.data, .data, .data, .data, .data, .pinned], laidTests := true, laidLooks := .later }
def StateKeepsUptoCardSaid : Prop := Claim7.holds Tryz.pinned (.plain (OpenSpec.upto stateKeepsSpec)) stateKeepsUptoCard

/-- THE SECOND FORM's CARD OF 'heraldlaw8.StateThaws'. -/
def stateThawsUptoCard : Claim7 := { stood := { row := stateThawsUptoRow, standIns := [], harness := (true, "83ec510f6817de446e1aee2ffabd11fcaae2e0e644f3de68c2b84742b2f23923"), looks := true }, kinds := [], alts := [], laidByText := true, laidKinds := [.data, .data, .data, .data, .data, .pinned], laidTests := true, laidLooks := .later }
def StateThawsUptoCardSaid : Prop := Claim7.holds Tryz.pinned (.plain (OpenSpec.upto stateThawsSpec)) stateThawsUptoCard
end Rows
end Go.Proofs.YtheampfoedhipaaGreatDoor
