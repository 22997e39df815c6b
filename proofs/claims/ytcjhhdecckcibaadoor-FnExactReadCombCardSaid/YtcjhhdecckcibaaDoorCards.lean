/-
  DERIVED. GIVEN WITH THE SEED: THE CARDS: each row of YtcjhhdecckcibaaDoorRows.lean that lists a variable, with what it lists TIED to the program's text (the seventh form; the later family's looks); each row that meets fmt, with fmt's text TOLD by the authors' own Lean function (tested against real Go, not proved from fmt's source: count such statements apart). THE CARD IS WHAT COUNTS. Prove the row's statement (the work); the ties are given (YtcjhhdecckcibaaDoorTie.lean); close each card by the builder's one call (the guide's Derived/Test/ToyasCard.lean, 'card_holds'). Laid BY PROGRAM, IN A SANDBOX (cutbox-door.mjs). By AI agents, Wed Nov 11 2026. No macro, syntax, notation, axiom, sorry.
-/
import Derived.Test.YtcjhhdecckcibaaDoorRows
import GoSem.ClaimSeven
namespace Go.Proofs.YtcjhhdecckcibaaDoor
namespace Rows

/-- THE TIED CARD OF 'laws.FnExactCombText'. -/
def fnExactCombTextCard : Claim7 := { stood := { row := fnExactCombTextRow, standIns := [], harness := (true, "b2e2a58b97a697acf1a696e6eab1d943ef166cfcc3a0def1cd198d3ebdec561e"), looks := true }, kinds := [], alts := [], laidByText := true, laidKinds := [.data, .data, .data], laidTests := true, laidLooks := .later }
def FnExactCombTextCardSaid : Prop := Claim7.holds Tryd.pinned (.plain (OpenSpec.ofChange fnExactCombTextSpec)) fnExactCombTextCard

/-- THE TIED CARD OF 'laws.FnExactTermText'. -/
def fnExactTermTextCard : Claim7 := { stood := { row := fnExactTermTextRow, standIns := [], harness := (true, "b2e2a58b97a697acf1a696e6eab1d943ef166cfcc3a0def1cd198d3ebdec561e"), looks := true }, kinds := [], alts := [], laidByText := true, laidKinds := [.data, .data, .data], laidTests := true, laidLooks := .later }
def FnExactTermTextCardSaid : Prop := Claim7.holds Tryd.pinned (.plain (OpenSpec.ofChange fnExactTermTextSpec)) fnExactTermTextCard

/-- THE TIED CARD OF 'laws.FnExactReadComb'. -/
def fnExactReadCombCard : Claim7 := { stood := { row := fnExactReadCombRow, standIns := [], harness := (true, "b2e2a58b97a697acf1a696e6eab1d943ef166cfcc3a0def1cd198d3ebdec561e"), looks := true }, kinds := [], alts := [], laidByText := true, laidKinds := [.data, .data, .data, .sentinel, .sentinel], laidTests := true, laidLooks := .later }
def FnExactReadCombCardSaid : Prop := Claim7.holds Tryd.pinned (.plain (OpenSpec.ofChange fnExactReadCombSpec)) fnExactReadCombCard

/-- THE TIED CARD OF 'laws.FnExactReadTerm'. -/
def fnExactReadTermCard : Claim7 := { stood := { row := fnExactReadTermRow, standIns := [], harness := (true, "b2e2a58b97a697acf1a696e6eab1d943ef166cfcc3a0def1cd198d3ebdec561e"), looks := true }, kinds := [], alts := [], laidByText := true, laidKinds := [.data, .data, .data, .sentinel, .sentinel], laidTests := true, laidLooks := .later }
def FnExactReadTermCardSaid : Prop := Claim7.holds Tryd.pinned (.plain (OpenSpec.ofChange fnExactReadTermSpec)) fnExactReadTermCard

/-- THE SECOND FORM's CARD OF 'laws.FnExactCombText'. -/
def fnExactCombTextUptoCard : Claim7 := { stood := { row := fnExactCombTextUptoRow, standIns := [], harness := (true, "b2e2a58b97a697acf1a696e6eab1d943ef166cfcc3a0def1cd198d3ebdec561e"), looks := true }, kinds := [], alts := [], laidByText := true, laidKinds := [.data, .data, .data], laidTests := true, laidLooks := .later }
def FnExactCombTextUptoCardSaid : Prop := Claim7.holds Tryd.pinned (.plain (OpenSpec.upto fnExactCombTextSpec)) fnExactCombTextUptoCard

/-- THE SECOND FORM's CARD OF 'laws.FnExactTermText'. -/
def fnExactTermTextUptoCard : Claim7 := { stood := { row := fnExactTermTextUptoRow, standIns := [], harness := (true, "b2e2a58b97a697acf1a696e6eab1d943ef166cfcc3a0def1cd198d3ebdec561e"), looks := true }, kinds := [], alts := [], laidByText := true, laidKinds := [.data, .data, .data], laidTests := true, laidLooks := .later }
def FnExactTermTextUptoCardSaid : Prop := Claim7.holds Tryd.pinned (.plain (OpenSpec.upto fnExactTermTextSpec)) fnExactTermTextUptoCard

/-- THE SECOND FORM's CARD OF 'laws.FnExactReadComb'. -/
def fnExactReadCombUptoCard : Claim7 := { stood := { row := fnExactReadCombUptoRow, standIns := [], harness := (true, "b2e2a58b97a697acf1a696e6eab1d943ef166cfcc3a0def1cd198d3ebdec561e"), looks := true }, kinds := [], alts := [], laidByText := true, laidKinds := [.data, .data, .data, .sentinel, .sentinel], laidTests := true, laidLooks := .later }
def FnExactReadCombUptoCardSaid : Prop := Claim7.holds Tryd.pinned (.plain (OpenSpec.upto fnExactReadCombSpec)) fnExactReadCombUptoCard

/-- THE SECOND FORM's CARD OF 'laws.FnExactReadTerm'. -/
def fnExactReadTermUptoCard : Claim7 := { stood := { row := fnExactReadTermUptoRow, standIns := [], harness := (true, "b2e2a58b97a697acf1a696e6eab1d943ef166cfcc3a0def1cd198d3ebdec561e"), looks := true }, kinds := [], alts := [], laidByText := true, laidKinds := [.data, .data, .data, .sentinel, .sentinel], laidTests := true, laidLooks := .later }
def FnExactReadTermUptoCardSaid : Prop := Claim7.holds Tryd.pinned (.plain (OpenSpec.upto fnExactReadTermSpec)) fnExactReadTermUptoCard
end Rows
end Go.Proofs.YtcjhhdecckcibaaDoor
