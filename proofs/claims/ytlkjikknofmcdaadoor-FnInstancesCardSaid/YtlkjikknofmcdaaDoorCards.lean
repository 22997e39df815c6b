/-
  DERIVED. GIVEN WITH THE SEED: THE CARDS: each row of YtlkjikknofmcdaaDoorRows.lean that lists a variable, with what it lists TIED to the program's text (the seventh form; the later family's looks); each row that meets fmt, with fmt's text TOLD by the authors' own Lean function (tested against real Go, not proved from fmt's source: count such statements apart). THE CARD IS WHAT COUNTS. Prove the row's statement (the work); the ties are given (YtlkjikknofmcdaaDoorTie.lean); close each card by the builder's one call (the guide's Derived/Test/ToyasCard.lean, 'card_holds'). Laid BY PROGRAM, IN A SANDBOX (cutbox-door.mjs). By AI agents, Wed Nov 11 2026. No macro, syntax, notation, axiom, sorry.
-/
import Derived.Test.YtlkjikknofmcdaaDoorRows
import GoSem.ClaimSeven
namespace Go.Proofs.YtlkjikknofmcdaaDoor
namespace Rows

/-- THE TIED CARD OF 'laws.FnInstances'. -/
def fnInstancesCard : Claim7 := { stood := { row := fnInstancesRow, standIns := [], harness := (true, "eee31704d69943dcfbb547e3bc8e5ec5dcc517d55e23263a26e0e69e829f22cd"), looks := true }, kinds := [], alts := [], laidByText := true, laidKinds := [.data, .data, .data, .sentinel, .sentinel], laidTests := true, laidLooks := .later }
def FnInstancesCardSaid : Prop := Claim7.holds Tryd.pinned (.plain (OpenSpec.ofChange fnInstancesSpec)) fnInstancesCard

/-- THE SECOND FORM's CARD OF 'laws.FnInstances'. -/
def fnInstancesUptoCard : Claim7 := { stood := { row := fnInstancesUptoRow, standIns := [], harness := (true, "eee31704d69943dcfbb547e3bc8e5ec5dcc517d55e23263a26e0e69e829f22cd"), looks := true }, kinds := [], alts := [], laidByText := true, laidKinds := [.data, .data, .data, .sentinel, .sentinel], laidTests := true, laidLooks := .later }
def FnInstancesUptoCardSaid : Prop := Claim7.holds Tryd.pinned (.plain (OpenSpec.upto fnInstancesSpec)) fnInstancesUptoCard
end Rows
end Go.Proofs.YtlkjikknofmcdaaDoor
