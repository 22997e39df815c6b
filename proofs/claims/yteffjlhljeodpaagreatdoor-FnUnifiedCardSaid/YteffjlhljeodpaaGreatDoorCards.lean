/-
  DERIVED. GIVEN WITH THE SEED: THE CARDS: each row of YteffjlhljeodpaaGreatDoorRows.lean that lists a variable, with what it lists TIED to the program's text (the seventh form; the later family's looks); each row that meets fmt, with fmt's text TOLD by the authors' own Lean function (tested against real Go, not proved from fmt's source: count such statements apart). THE CARD IS WHAT COUNTS. Prove the row's statement (the work); the ties are given (YteffjlhljeodpaaGreatDoorTie.lean); close each card by the builder's one call (the guide's Derived/Test/ToyasCard.lean, 'card_holds'). Laid BY PROGRAM, IN A SANDBOX (cutbox-door.mjs). By AI agents, Wed Nov 11 2026. No macro, syntax, notation, axiom, sorry.
-/
import Derived.Test.YteffjlhljeodpaaGreatDoorRows
import GoSem.ClaimSeven
namespace Go.Proofs.YteffjlhljeodpaaGreatDoor
namespace Rows

/-- THE TIED CARD OF 'laws.FnUnified'. -/
def fnUnifiedCard : Claim7 := { stood := { row := fnUnifiedRow, standIns := [], harness := (true, "1fceeb1d093ee4e8bdcff14568de75fd1c63e0c23880e58fcbaefcbb5105076c"), looks := true }, kinds := [], alts := [], laidByText := true, laidKinds := [.data, .data, .data, .sentinel, .sentinel], laidTests := true, laidLooks := .later }
def FnUnifiedCardSaid : Prop := Claim7.holds Tryz.pinned (.plain (OpenSpec.ofChange fnUnifiedSpec)) fnUnifiedCard

/-- THE SECOND FORM's CARD OF 'laws.FnUnified'. -/
def fnUnifiedUptoCard : Claim7 := { stood := { row := fnUnifiedUptoRow, standIns := [], harness := (true, "1fceeb1d093ee4e8bdcff14568de75fd1c63e0c23880e58fcbaefcbb5105076c"), looks := true }, kinds := [], alts := [], laidByText := true, laidKinds := [.data, .data, .data, .sentinel, .sentinel], laidTests := true, laidLooks := .later }
def FnUnifiedUptoCardSaid : Prop := Claim7.holds Tryz.pinned (.plain (OpenSpec.upto fnUnifiedSpec)) fnUnifiedUptoCard
end Rows
end Go.Proofs.YteffjlhljeodpaaGreatDoor
