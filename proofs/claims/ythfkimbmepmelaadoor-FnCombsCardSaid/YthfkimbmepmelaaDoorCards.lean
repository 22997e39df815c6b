/-
  DERIVED. GIVEN WITH THE SEED: THE CARDS: each row of YthfkimbmepmelaaDoorRows.lean that lists a variable, with what it lists TIED to the program's text (the seventh form; the later family's looks); each row that meets fmt, with fmt's text TOLD by the authors' own Lean function (tested against real Go, not proved from fmt's source: count such statements apart). THE CARD IS WHAT COUNTS. Prove the row's statement (the work); the ties are given (YthfkimbmepmelaaDoorTie.lean); close each card by the builder's one call (the guide's Derived/Test/ToyasCard.lean, 'card_holds'). Laid BY PROGRAM, IN A SANDBOX (cutbox-door.mjs). By AI agents, Wed Nov 11 2026. No macro, syntax, notation, axiom, sorry.
-/
import Derived.Test.YthfkimbmepmelaaDoorRows
import GoSem.ClaimSeven
namespace Go.Proofs.YthfkimbmepmelaaDoor
namespace Rows

/-- THE TIED CARD OF 'laws.FnCombs'. -/
def fnCombsCard : Claim7 := { stood := { row := fnCombsRow, standIns := [], harness := (true, "b6b77651fcbedc76e68f6fd4e8052050f79afc89f4d41351be736ef7cd8fe924"), looks := true }, kinds := [], alts := [], laidByText := true, laidKinds := [.data, .data, .data, .sentinel, .sentinel], laidTests := true, laidLooks := .later }
def FnCombsCardSaid : Prop := Claim7.holds Tryd.pinned (.plain (OpenSpec.ofChange fnCombsSpec)) fnCombsCard

/-- THE SECOND FORM's CARD OF 'laws.FnCombs'. -/
def fnCombsUptoCard : Claim7 := { stood := { row := fnCombsUptoRow, standIns := [], harness := (true, "b6b77651fcbedc76e68f6fd4e8052050f79afc89f4d41351be736ef7cd8fe924"), looks := true }, kinds := [], alts := [], laidByText := true, laidKinds := [.data, .data, .data, .sentinel, .sentinel], laidTests := true, laidLooks := .later }
def FnCombsUptoCardSaid : Prop := Claim7.holds Tryd.pinned (.plain (OpenSpec.upto fnCombsSpec)) fnCombsUptoCard
end Rows
end Go.Proofs.YthfkimbmepmelaaDoor
