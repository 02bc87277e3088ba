/-
  DERIVED. GIVEN WITH THE SEED: THE CARDS: each row of YtkddkbpoefidpaaGreatDoorRows.lean that lists a variable, with what it lists TIED to the program's text (the seventh form; the later family's looks); each row that meets fmt, with fmt's text TOLD by the authors' own Lean function (tested against real Go, not proved from fmt's source: count such statements apart). THE CARD IS WHAT COUNTS. Prove the row's statement (the work); the ties are given (YtkddkbpoefidpaaGreatDoorTie.lean); close each card by the builder's one call (the guide's Derived/Test/ToyasCard.lean, 'card_holds'). Laid BY PROGRAM, IN A SANDBOX (cutbox-door.mjs). By AI agents, Wed Nov 11 2026. No macro, syntax, notation, axiom, sorry.
-/
import Derived.Test.YtkddkbpoefidpaaGreatDoorRows
import GoSem.ClaimSeven
namespace Go.Proofs.YtkddkbpoefidpaaGreatDoor
namespace Rows

/-- THE TIED CARD OF 'annalistlaw16.GroupDefinition'. -/
def groupDefinitionCard : Claim7 := { stood := { row := groupDefinitionRow, standIns := [], harness := (true, "098133fadc27d79e5da989f7a8df2c1e865486f12c897ab7a9dc841c85a58d2d"), looks := true }, kinds := [], alts := [], laidByText := true, laidKinds := [.data, .data, .data, .data], laidTests := true, laidLooks := .later }
def GroupDefinitionCardSaid : Prop := Claim7.holds Tryz.pinned (.plain (OpenSpec.ofChange groupDefinitionSpec)) groupDefinitionCard

/-- THE TIED CARD OF 'annalistlaw14.JoinInner'. -/
def joinInnerCard : Claim7 := { stood := { row := joinInnerRow, standIns := [], harness := (true, "098133fadc27d79e5da989f7a8df2c1e865486f12c897ab7a9dc841c85a58d2d"), looks := true }, kinds := [], alts := [], laidByText := true, laidKinds := [.data, .data, .data], laidTests := true, laidLooks := .later }
def JoinInnerCardSaid : Prop := Claim7.holds Tryz.pinned (.plain (OpenSpec.ofChange joinInnerSpec)) joinInnerCard

/-- THE TIED CARD OF 'annalistlaw14.JoinLeftOuter'. -/
def joinLeftOuterCard : Claim7 := { stood := { row := joinLeftOuterRow, standIns := [], harness := (true, "098133fadc27d79e5da989f7a8df2c1e865486f12c897ab7a9dc841c85a58d2d"), looks := true }, kinds := [], alts := [], laidByText := true, laidKinds := [.data, .data, .data], laidTests := true, laidLooks := .later }
def JoinLeftOuterCardSaid : Prop := Claim7.holds Tryz.pinned (.plain (OpenSpec.ofChange joinLeftOuterSpec)) joinLeftOuterCard

/-- THE TIED CARD OF 'annalistlaw9.AlgebraCheck'. -/
def algebraCheckCard : Claim7 := { stood := { row := algebraCheckRow, standIns := [], harness := (true, "098133fadc27d79e5da989f7a8df2c1e865486f12c897ab7a9dc841c85a58d2d"), looks := true }, kinds := [], alts := [], laidByText := true, laidKinds := [.data, .data, .data], laidTests := true, laidLooks := .later }
def AlgebraCheckCardSaid : Prop := Claim7.holds Tryz.pinned (.plain (OpenSpec.ofChange algebraCheckSpec)) algebraCheckCard

/-- THE TIED CARD OF 'annalistlaw9.AlgebraEval'. -/
def algebraEvalCard : Claim7 := { stood := { row := algebraEvalRow, standIns := [], harness := (true, "098133fadc27d79e5da989f7a8df2c1e865486f12c897ab7a9dc841c85a58d2d"), looks := true }, kinds := [], alts := [], laidByText := true, laidKinds := [.data, .data, .data], laidTests := true, laidLooks := .later }
def AlgebraEvalCardSaid : Prop := Claim7.holds Tryz.pinned (.plain (OpenSpec.ofChange algebraEvalSpec)) algebraEvalCard

/-- THE TIED CARD OF 'annalistlaw9.AlgebraQueries'. -/
def algebraQueriesCard : Claim7 := { stood := { row := algebraQueriesRow, standIns := [], harness := (true, "098133fadc27d79e5da989f7a8df2c1e865486f12c897ab7a9dc841c85a58d2d"), looks := true }, kinds := [], alts := [], laidByText := true, laidKinds := [.data, .data, .data], laidTests := true, laidLooks := .later }
def AlgebraQueriesCardSaid : Prop := Claim7.holds Tryz.pinned (.plain (OpenSpec.ofChange algebraQueriesSpec)) algebraQueriesCard

/-- THE TIED CARD OF 'annalistlaw9.AlgebraOrder'. -/
def algebraOrderCard : Claim7 := { stood := { row := algebraOrderRow, standIns := [], harness := (true, "098133fadc27d79e5da989f7a8df2c1e865486f12c897ab7a9dc841c85a58d2d"), looks := true }, kinds := [], alts := [], laidByText := true, laidKinds := [.data, .data, .data], laidTests := true, laidLooks := .later }
def AlgebraOrderCardSaid : Prop := Claim7.holds Tryz.pinned (.plain (OpenSpec.ofChange algebraOrderSpec)) algebraOrderCard

/-- THE TIED CARD OF 'annalistlaw9.AlgebraLineage'. -/
def algebraLineageCard : Claim7 := { stood := { row := algebraLineageRow, standIns := [], harness := (true, "098133fadc27d79e5da989f7a8df2c1e865486f12c897ab7a9dc841c85a58d2d"), looks := true }, kinds := [], alts := [], laidByText := true, laidKinds := [.data, .data, .data], laidTests := true, laidLooks := .later }
def AlgebraLineageCardSaid : Prop := Claim7.holds Tryz.pinned (.plain (OpenSpec.ofChange algebraLineageSpec)) algebraLineageCard

/-- THE TIED CARD OF 'annalistlaw9.AlgebraFull'. -/
def algebraFullCard : Claim7 := { stood := { row := algebraFullRow, standIns := [], harness := (true, "098133fadc27d79e5da989f7a8df2c1e865486f12c897ab7a9dc841c85a58d2d"), looks := true }, kinds := [], alts := [], laidByText := true, laidKinds := [.data, .data, .data], laidTests := true, laidLooks := .later }
def AlgebraFullCardSaid : Prop := Claim7.holds Tryz.pinned (.plain (OpenSpec.ofChange algebraFullSpec)) algebraFullCard

/-- THE TIED CARD OF 'annalistlaw9.AlgebraBalance'. -/
def algebraBalanceCard : Claim7 := { stood := { row := algebraBalanceRow, standIns := [], harness := (true, "098133fadc27d79e5da989f7a8df2c1e865486f12c897ab7a9dc841c85a58d2d"), looks := true }, kinds := [], alts := [], laidByText := true, laidKinds := [.data, .data, .data], laidTests := true, laidLooks := .later }
def AlgebraBalanceCardSaid : Prop := Claim7.holds Tryz.pinned (.plain (OpenSpec.ofChange algebraBalanceSpec)) algebraBalanceCard

/-- THE TIED CARD OF 'annalistlaw16.GroupSlices'. -/
def groupSlicesCard : Claim7 := { stood := { row := groupSlicesRow, standIns := [], harness := (true, "098133fadc27d79e5da989f7a8df2c1e865486f12c897ab7a9dc841c85a58d2d"), looks := true }, kinds := [], alts := [], laidByText := true, laidKinds := [.data, .data, .data, .data], laidTests := true, laidLooks := .later }
def GroupSlicesCardSaid : Prop := Claim7.holds Tryz.pinned (.plain (OpenSpec.ofChange groupSlicesSpec)) groupSlicesCard

/-- THE TIED CARD OF 'annalistlaw14.JoinSlices'. -/
def joinSlicesCard : Claim7 := { stood := { row := joinSlicesRow, standIns := [], harness := (true, "098133fadc27d79e5da989f7a8df2c1e865486f12c897ab7a9dc841c85a58d2d"), looks := true }, kinds := [], alts := [], laidByText := true, laidKinds := [.data, .data, .data], laidTests := true, laidLooks := .later }
def JoinSlicesCardSaid : Prop := Claim7.holds Tryz.pinned (.plain (OpenSpec.ofChange joinSlicesSpec)) joinSlicesCard

/-- THE SECOND FORM's CARD OF 'annalistlaw16.GroupDefinition'. -/
def groupDefinitionUptoCard : Claim7 := { stood := { row := groupDefinitionUptoRow, standIns := [], harness := (true, "098133fadc27d79e5da989f7a8df2c1e865486f12c897ab7a9dc841c85a58d2d"), looks := true }, kinds := [], alts := [], laidByText := true, laidKinds := [.data, .data, .data, .data], laidTests := true, laidLooks := .later }
def GroupDefinitionUptoCardSaid : Prop := Claim7.holds Tryz.pinned (.plain (OpenSpec.upto groupDefinitionSpec)) groupDefinitionUptoCard

/-- THE SECOND FORM's CARD OF 'annalistlaw14.JoinInner'. -/
def joinInnerUptoCard : Claim7 := { stood := { row := joinInnerUptoRow, standIns := [], harness := (true, "098133fadc27d79e5da989f7a8df2c1e865486f12c897ab7a9dc841c85a58d2d"), looks := true }, kinds := [], alts := [], laidByText := true, laidKinds := [.data, .data, .data], laidTests := true, laidLooks := .later }
def JoinInnerUptoCardSaid : Prop := Claim7.holds Tryz.pinned (.plain (OpenSpec.upto joinInnerSpec)) joinInnerUptoCard

/-- THE SECOND FORM's CARD OF 'annalistlaw14.JoinLeftOuter'. -/
def joinLeftOuterUptoCard : Claim7 := { stood := { row := joinLeftOuterUptoRow, standIns := [], harness := (true, "098133fadc27d79e5da989f7a8df2c1e865486f12c897ab7a9dc841c85a58d2d"), looks := true }, kinds := [], alts := [], laidByText := true, laidKinds := [.data, .data, .data], laidTests := true, laidLooks := .later }
def JoinLeftOuterUptoCardSaid : Prop := Claim7.holds Tryz.pinned (.plain (OpenSpec.upto joinLeftOuterSpec)) joinLeftOuterUptoCard

/-- THE SECOND FORM's CARD OF 'annalistlaw9.AlgebraCheck'. -/
def algebraCheckUptoCard : Claim7 := { stood := { row := algebraCheckUptoRow, standIns := [], harness := (true, "098133fadc27d79e5da989f7a8df2c1e865486f12c897ab7a9dc841c85a58d2d"), looks := true }, kinds := [], alts := [], laidByText := true, laidKinds := [.data, .data, .data], laidTests := true, laidLooks := .later }
def AlgebraCheckUptoCardSaid : Prop := Claim7.holds Tryz.pinned (.plain (OpenSpec.upto algebraCheckSpec)) algebraCheckUptoCard

/-- THE SECOND FORM's CARD OF 'annalistlaw9.AlgebraEval'. -/
def algebraEvalUptoCard : Claim7 := { stood := { row := algebraEvalUptoRow, standIns := [], harness := (true, "098133fadc27d79e5da989f7a8df2c1e865486f12c897ab7a9dc841c85a58d2d"), looks := true }, kinds := [], alts := [], laidByText := true, laidKinds := [.data, .data, .data], laidTests := true, laidLooks := .later }
def AlgebraEvalUptoCardSaid : Prop := Claim7.holds Tryz.pinned (.plain (OpenSpec.upto algebraEvalSpec)) algebraEvalUptoCard

/-- THE SECOND FORM's CARD OF 'annalistlaw9.AlgebraQueries'. -/
def algebraQueriesUptoCard : Claim7 := { stood := { row := algebraQueriesUptoRow, standIns := [], harness := (true, "098133fadc27d79e5da989f7a8df2c1e865486f12c897ab7a9dc841c85a58d2d"), looks := true }, kinds := [], alts := [], laidByText := true, laidKinds := [.data, .data, .data], laidTests := true, laidLooks := .later }
def AlgebraQueriesUptoCardSaid : Prop := Claim7.holds Tryz.pinned (.plain (OpenSpec.upto algebraQueriesSpec)) algebraQueriesUptoCard

/-- THE SECOND FORM's CARD OF 'annalistlaw9.AlgebraOrder'. -/
def algebraOrderUptoCard : Claim7 := { stood := { row := algebraOrderUptoRow, standIns := [], harness := (true, "098133fadc27d79e5da989f7a8df2c1e865486f12c897ab7a9dc841c85a58d2d"), looks := true }, kinds := [], alts := [], laidByText := true, laidKinds := [.data, .data, .data], laidTests := true, laidLooks := .later }
def AlgebraOrderUptoCardSaid : Prop := Claim7.holds Tryz.pinned (.plain (OpenSpec.upto algebraOrderSpec)) algebraOrderUptoCard

/-- THE SECOND FORM's CARD OF 'annalistlaw9.AlgebraLineage'. -/
def algebraLineageUptoCard : Claim7 := { stood := { row := algebraLineageUptoRow, standIns := [], harness := (true, "098133fadc27d79e5da989f7a8df2c1e865486f12c897ab7a9dc841c85a58d2d"), looks := true }, kinds := [], alts := [], laidByText := true, laidKinds := [.data, .data, .data], laidTests := true, laidLooks := .later }
def AlgebraLineageUptoCardSaid : Prop := Claim7.holds Tryz.pinned (.plain (OpenSpec.upto algebraLineageSpec)) algebraLineageUptoCard

/-- THE SECOND FORM's CARD OF 'annalistlaw9.AlgebraFull'. -/
def algebraFullUptoCard : Claim7 := { stood := { row := algebraFullUptoRow, standIns := [], harness := (true, "098133fadc27d79e5da989f7a8df2c1e865486f12c897ab7a9dc841c85a58d2d"), looks := true }, kinds := [], alts := [], laidByText := true, laidKinds := [.data, .data, .data], laidTests := true, laidLooks := .later }
def AlgebraFullUptoCardSaid : Prop := Claim7.holds Tryz.pinned (.plain (OpenSpec.upto algebraFullSpec)) algebraFullUptoCard

/-- THE SECOND FORM's CARD OF 'annalistlaw9.AlgebraBalance'. -/
def algebraBalanceUptoCard : Claim7 := { stood := { row := algebraBalanceUptoRow, standIns := [], harness := (true, "098133fadc27d79e5da989f7a8df2c1e865486f12c897ab7a9dc841c85a58d2d"), looks := true }, kinds := [], alts := [], laidByText := true, laidKinds := [.data, .data, .data], laidTests := true, laidLooks := .later }
def AlgebraBalanceUptoCardSaid : Prop := Claim7.holds Tryz.pinned (.plain (OpenSpec.upto algebraBalanceSpec)) algebraBalanceUptoCard

/-- THE SECOND FORM's CARD OF 'annalistlaw16.GroupSlices'. -/
def groupSlicesUptoCard : Claim7 := { stood := { row := groupSlicesUptoRow, standIns := [], harness := (true, "098133fadc27d79e5da989f7a8df2c1e865486f12c897ab7a9dc841c85a58d2d"), looks := true }, kinds := [], alts := [], laidByText := true, laidKinds := [.data, .data, .data, .data], laidTests := true, laidLooks := .later }
def GroupSlicesUptoCardSaid : Prop := Claim7.holds Tryz.pinned (.plain (OpenSpec.upto groupSlicesSpec)) groupSlicesUptoCard

/-- THE SECOND FORM's CARD OF 'annalistlaw14.JoinSlices'. -/
def joinSlicesUptoCard : Claim7 := { stood := { row := joinSlicesUptoRow, standIns := [], harness := (true, "098133fadc27d79e5da989f7a8df2c1e865486f12c897ab7a9dc841c85a58d2d"), looks := true }, kinds := [], alts := [], laidByText := true, laidKinds := [.data, .data, .data], laidTests := true, laidLooks := .later }
def JoinSlicesUptoCardSaid : Prop := Claim7.holds Tryz.pinned (.plain (OpenSpec.upto joinSlicesSpec)) joinSlicesUptoCard
end Rows
end Go.Proofs.YtkddkbpoefidpaaGreatDoor
