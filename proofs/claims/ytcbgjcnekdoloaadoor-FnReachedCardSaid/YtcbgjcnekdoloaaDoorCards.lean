/-
  DERIVED. GIVEN WITH THE SEED: THE CARDS: each row of YtcbgjcnekdoloaaDoorRows.lean that lists a variable, with what it lists TIED to the program's text (the seventh form; the later family's looks); each row that meets fmt, with fmt's text TOLD by the authors' own Lean function (tested against real Go, not proved from fmt's source: count such statements apart). THE CARD IS WHAT COUNTS. Prove the row's statement (the work); the ties are given (YtcbgjcnekdoloaaDoorTie.lean); close each card by the builder's one call (the guide's Derived/Test/ToyasCard.lean, 'card_holds'). Laid BY PROGRAM, IN A SANDBOX (cutbox-door.mjs). By AI agents, Wed Nov 11 2026. No macro, syntax, notation, axiom, sorry.
-/
import Derived.Test.YtcbgjcnekdoloaaDoorRows
import GoSem.ClaimSeven
namespace Go.Proofs.YtcbgjcnekdoloaaDoor
namespace Rows

/-- THE TIED CARD OF 'laws.FnExactShowCell'. -/
def fnExactShowCellCard : Claim7 := { stood := { row := fnExactShowCellRow, standIns := [], harness := (true, "3333216e7fb27bcc4f673d684bdc2840305900deaaf1dc7545aed9852e35d396"), looks := true }, kinds := [], alts := [], laidByText := true, laidKinds := [.data, .data, .data, .sentinel, .sentinel], laidTests := true, laidLooks := .later }
def FnExactShowCellCardSaid : Prop := Claim7.holds Tryd.pinned (.plain (OpenSpec.ofChange fnExactShowCellSpec)) fnExactShowCellCard

/-- THE TIED CARD OF 'laws.FnReached'. -/
def fnReachedCard : Claim7 := { stood := { row := fnReachedRow, standIns := [], harness := (true, "3333216e7fb27bcc4f673d684bdc2840305900deaaf1dc7545aed9852e35d396"), looks := true }, kinds := [], alts := [], laidByText := true, laidKinds := [.data, .data, .data, .sentinel, .sentinel], laidTests := true, laidLooks := .later }
def FnReachedCardSaid : Prop := Claim7.holds Tryd.pinned (.plain (OpenSpec.ofChange fnReachedSpec)) fnReachedCard

/-- THE SECOND FORM's CARD OF 'laws.FnExactShowCell'. -/
def fnExactShowCellUptoCard : Claim7 := { stood := { row := fnExactShowCellUptoRow, standIns := [], harness := (true, "3333216e7fb27bcc4f673d684bdc2840305900deaaf1dc7545aed9852e35d396"), looks := true }, kinds := [], alts := [], laidByText := true, laidKinds := [.data, .data, .data, .sentinel, .sentinel], laidTests := true, laidLooks := .later }
def FnExactShowCellUptoCardSaid : Prop := Claim7.holds Tryd.pinned (.plain (OpenSpec.upto fnExactShowCellSpec)) fnExactShowCellUptoCard

/-- THE SECOND FORM's CARD OF 'laws.FnReached'. -/
def fnReachedUptoCard : Claim7 := { stood := { row := fnReachedUptoRow, standIns := [], harness := (true, "3333216e7fb27bcc4f673d684bdc2840305900deaaf1dc7545aed9852e35d396"), looks := true }, kinds := [], alts := [], laidByText := true, laidKinds := [.data, .data, .data, .sentinel, .sentinel], laidTests := true, laidLooks := .later }
def FnReachedUptoCardSaid : Prop := Claim7.holds Tryd.pinned (.plain (OpenSpec.upto fnReachedSpec)) fnReachedUptoCard
end Rows
end Go.Proofs.YtcbgjcnekdoloaaDoor
