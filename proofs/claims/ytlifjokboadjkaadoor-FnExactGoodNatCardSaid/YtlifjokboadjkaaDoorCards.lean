/-
  DERIVED. GIVEN WITH THE SEED: THE CARDS: each row of YtlifjokboadjkaaDoorRows.lean that lists a variable, with what it lists TIED to the program's text (the seventh form; the later family's looks); each row that meets fmt, with fmt's text TOLD by the authors' own Lean function (tested against real Go, not proved from fmt's source: count such statements apart). THE CARD IS WHAT COUNTS. Prove the row's statement (the work); the ties are given (YtlifjokboadjkaaDoorTie.lean); close each card by the builder's one call (the guide's Derived/Test/ToyasCard.lean, 'card_holds'). Laid BY PROGRAM, IN A SANDBOX (cutbox-door.mjs). By AI agents, Wed Nov 11 2026. No macro, syntax, notation, axiom, sorry.
-/
import Derived.Test.YtlifjokboadjkaaDoorRows
import GoSem.ClaimSeven
namespace Go.Proofs.YtlifjokboadjkaaDoor
namespace Rows

/-- THE TIED CARD OF 'laws.FnExactGoodNat'. -/
def fnExactGoodNatCard : Claim7 := { stood := { row := fnExactGoodNatRow, standIns := [], harness := (true, "24a687f6d9cc6fdaaa0e958d3ae0cd14d64ed3fe9db73b0586bc01f5b0cdbb9c"), looks := false }, kinds := [], alts := [], laidByText := true, laidKinds := [.data, .pinned], laidTests := true, laidLooks := .later }
def FnExactGoodNatCardSaid : Prop := Claim7.holds Tryd.pinned (.plain (OpenSpec.ofChange fnExactGoodNatSpec)) fnExactGoodNatCard

/-- THE SECOND FORM's CARD OF 'laws.FnExactGoodNat'. -/
def fnExactGoodNatUptoCard : Claim7 := { stood := { row := fnExactGoodNatUptoRow, standIns := [], harness := (true, "24a687f6d9cc6fdaaa0e958d3ae0cd14d64ed3fe9db73b0586bc01f5b0cdbb9c"), looks := false }, kinds := [], alts := [], laidByText := true, laidKinds := [.data, .pinned], laidTests := true, laidLooks := .later }
def FnExactGoodNatUptoCardSaid : Prop := Claim7.holds Tryd.pinned (.plain (OpenSpec.upto fnExactGoodNatSpec)) fnExactGoodNatUptoCard
end Rows
end Go.Proofs.YtlifjokboadjkaaDoor
