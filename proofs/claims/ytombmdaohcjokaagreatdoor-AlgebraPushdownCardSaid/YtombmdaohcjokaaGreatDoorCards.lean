/-
  DERIVED. GIVEN WITH THE SEED: THE CARDS: each row of YtombmdaohcjokaaGreatDoorRows.lean that lists a variable, with what it lists TIED to the program's text (the seventh form; the later family's looks); each row that meets fmt, with fmt's text TOLD by the authors' own Lean function (tested against real Go, not proved from fmt's source: count such statements apart). THE CARD IS WHAT COUNTS. Prove the row's statement (the work); the ties are given (YtombmdaohcjokaaGreatDoorTie.lean); close each card by the builder's one call (the guide's Derived/Test/ToyasCard.lean, 'card_holds'). Laid BY PROGRAM, IN A SANDBOX (cutbox-door.mjs). By AI agents, Wed Nov 11 2026. No macro, syntax, notation, axiom, sorry.
-/
import Derived.Test.YtombmdaohcjokaaGreatDoorRows
import GoSem.ClaimSeven
namespace Go.Proofs.YtombmdaohcjokaaGreatDoor
namespace Rows

/-- THE TIED CARD OF 'annalistlaw9.AlgebraCheck'. -/
def algebraCheckCard : Claim7 := { stood := { row := algebraCheckRow, standIns := [], harness := (true, "b4ebeb7a3d63efefbdb92e5342c7a1a6f7d345f0b4cac0aaf43c9a3ce7f59c12"), looks := true }, kinds := [], alts := [], laidByText := true, laidKinds := [.data, .data, .data], laidTests := true, laidLooks := .later }
def AlgebraCheckCardSaid : Prop := Claim7.holds Tryz.pinned (.plain (OpenSpec.ofChange algebraCheckSpec)) algebraCheckCard

/-- THE TIED CARD OF 'annalistlaw9.AlgebraEval'. -/
def algebraEvalCard : Claim7 := { stood := { row := algebraEvalRow, standIns := [], harness := (true, "b4ebeb7a3d63efefbdb92e5342c7a1a6f7d345f0b4cac0aaf43c9a3ce7f59c12"), looks := true }, kinds := [], alts := [], laidByText := true, laidKinds := [.data, .data, .data], laidTests := true, laidLooks := .later }
def AlgebraEvalCardSaid : Prop := Claim7.holds Tryz.pinned (.plain (OpenSpec.ofChange algebraEvalSpec)) algebraEvalCard

/-- THE TIED CARD OF 'annalistlaw9.AlgebraQueries'. -/
def algebraQueriesCard : Claim7 := { stood := { row := algebraQueriesRow, standIns := [], harness := (true, "b4ebeb7a3d63efefbdb92e5342c7a1a6f7d345f0b4cac0aaf43c9a3ce7f59c12"), looks := true }, kinds := [], alts := [], laidByText := true, laidKinds := [.data, .data, .data], laidTests := true, laidLooks := .later }
def AlgebraQueriesCardSaid : Prop := Claim7.holds Tryz.pinned (.plain (OpenSpec.ofChange algebraQueriesSpec)) algebraQueriesCard

/-- THE TIED CARD OF 'annalistlaw9.AlgebraOrder'. -/
def algebraOrderCard : Claim7 := { stood := { row := algebraOrderRow, standIns := [], harness := (true, "b4ebeb7a3d63efefbdb92e5342c7a1a6f7d345f0b4cac0aaf43c9a3ce7f59c12"), looks := true }, kinds := [], alts := [], laidByText := true, laidKinds := [.data, .data, .data], laidTests := true, laidLooks := .later }
def AlgebraOrderCardSaid : Prop := Claim7.holds Tryz.pinned (.plain (OpenSpec.ofChange algebraOrderSpec)) algebraOrderCard

/-- THE TIED CARD OF 'annalistlaw9.AlgebraLineage'. -/
def algebraLineageCard : Claim7 := { stood := { row := algebraLineageRow, standIns := [], harness := (true, "b4ebeb7a3d63efefbdb92e5342c7a1a6f7d345f0b4cac0aaf43c9a3ce7f59c12"), looks := true }, kinds := [], alts := [], laidByText := true, laidKinds := [.data, .data, .data], laidTests := true, laidLooks := .later }
def AlgebraLineageCardSaid : Prop := Claim7.holds Tryz.pinned (.plain (OpenSpec.ofChange algebraLineageSpec)) algebraLineageCard

/-- THE TIED CARD OF 'annalistlaw9.AlgebraFull'. -/
def algebraFullCard : Claim7 := { stood := { row := algebraFullRow, standIns := [], harness := (true, "b4ebeb7a3d63efefbdb92e5342c7a1a6f7d345f0b4cac0aaf43c9a3ce7f59c12"), looks := true }, kinds := [], alts := [], laidByText := true, laidKinds := [.data, .data, .data], laidTests := true, laidLooks := .later }
def AlgebraFullCardSaid : Prop := Claim7.holds Tryz.pinned (.plain (OpenSpec.ofChange algebraFullSpec)) algebraFullCard

/-- THE TIED CARD OF 'annalistlaw9.AlgebraBalance'. -/
def algebraBalanceCard : Claim7 := { stood := { row := algebraBalanceRow, standIns := [], harness := (true, "b4ebeb7a3d63efefbdb92e5342c7a1a6f7d345f0b4cac0aaf43c9a3ce7f59c12"), looks := true }, kinds := [], alts := [], laidByText := true, laidKinds := [.data, .data, .data], laidTests := true, laidLooks := .later }
def AlgebraBalanceCardSaid : Prop := Claim7.holds Tryz.pinned (.plain (OpenSpec.ofChange algebraBalanceSpec)) algebraBalanceCard

/-- THE TIED CARD OF 'annalistlaw9.AlgebraGroups'. -/
def algebraGroupsCard : Claim7 := { stood := { row := algebraGroupsRow, standIns := [], harness := (true, "b4ebeb7a3d63efefbdb92e5342c7a1a6f7d345f0b4cac0aaf43c9a3ce7f59c12"), looks := true }, kinds := [], alts := [], laidByText := true, laidKinds := [.data, .data, .data], laidTests := true, laidLooks := .later }
def AlgebraGroupsCardSaid : Prop := Claim7.holds Tryz.pinned (.plain (OpenSpec.ofChange algebraGroupsSpec)) algebraGroupsCard

/-- THE TIED CARD OF 'annalistlaw9.AlgebraPushdown'. -/
def algebraPushdownCard : Claim7 := { stood := { row := algebraPushdownRow, standIns := [], harness := (true, "b4ebeb7a3d63efefbdb92e5342c7a1a6f7d345f0b4cac0aaf43c9a3ce7f59c12"), looks := true }, kinds := [], alts := [], laidByText := true, laidKinds := [.data, .data, .data], laidTests := true, laidLooks := .later }
def AlgebraPushdownCardSaid : Prop := Claim7.holds Tryz.pinned (.plain (OpenSpec.ofChange algebraPushdownSpec)) algebraPushdownCard

/-- THE TIED CARD OF 'annalistlaw9.AlgebraLeftJoin'. -/
def algebraLeftJoinCard : Claim7 := { stood := { row := algebraLeftJoinRow, standIns := [], harness := (true, "b4ebeb7a3d63efefbdb92e5342c7a1a6f7d345f0b4cac0aaf43c9a3ce7f59c12"), looks := true }, kinds := [], alts := [], laidByText := true, laidKinds := [.data, .data, .data], laidTests := true, laidLooks := .later }
def AlgebraLeftJoinCardSaid : Prop := Claim7.holds Tryz.pinned (.plain (OpenSpec.ofChange algebraLeftJoinSpec)) algebraLeftJoinCard

/-- THE TIED CARD OF 'annalistlaw16.GroupSlices'. -/
def groupSlicesCard : Claim7 := { stood := { row := groupSlicesRow, standIns := [], harness := (true, "b4ebeb7a3d63efefbdb92e5342c7a1a6f7d345f0b4cac0aaf43c9a3ce7f59c12"), looks := true }, kinds := [], alts := [], laidByText := true, laidKinds := [.data, .data, .data, .data], laidTests := true, laidLooks := .later }
def GroupSlicesCardSaid : Prop := Claim7.holds Tryz.pinned (.plain (OpenSpec.ofChange groupSlicesSpec)) groupSlicesCard

/-- THE TIED CARD OF 'annalistlaw14.JoinSlices'. -/
def joinSlicesCard : Claim7 := { stood := { row := joinSlicesRow, standIns := [], harness := (true, "b4ebeb7a3d63efefbdb92e5342c7a1a6f7d345f0b4cac0aaf43c9a3ce7f59c12"), looks := true }, kinds := [], alts := [], laidByText := true, laidKinds := [.data, .data, .data], laidTests := true, laidLooks := .later }
def JoinSlicesCardSaid : Prop := Claim7.holds Tryz.pinned (.plain (OpenSpec.ofChange joinSlicesSpec)) joinSlicesCard

/-- THE SECOND FORM's CARD OF 'annalistlaw9.AlgebraCheck'. -/
def algebraCheckUptoCard : Claim7 := { stood := { row := algebraCheckUptoRow, standIns := [], harness := (true, "b4ebeb7a3d63efefbdb92e5342c7a1a6f7d345f0b4cac0aaf43c9a3ce7f59c12"), looks := true }, kinds := [], alts := [], laidByText := true, laidKinds := [.data, .data, .data], laidTests := true, laidLooks := .later }
def AlgebraCheckUptoCardSaid : Prop := Claim7.holds Tryz.pinned (.plain (OpenSpec.upto algebraCheckSpec)) algebraCheckUptoCard

/-- THE SECOND FORM's CARD OF 'annalistlaw9.AlgebraEval'. -/
def algebraEvalUptoCard : Claim7 := { stood := { row := algebraEvalUptoRow, standIns := [], harness := (true, "b4ebeb7a3d63efefbdb92e5342c7a1a6f7d345f0b4cac0aaf43c9a3ce7f59c12"), looks := true }, kinds := [], alts := [], laidByText := true, laidKinds := [.data, .data, .data], laidTests := true, laidLooks := .later }
def AlgebraEvalUptoCardSaid : Prop := Claim7.holds Tryz.pinned (.plain (OpenSpec.upto algebraEvalSpec)) algebraEvalUptoCard

/-- THE SECOND FORM's CARD OF 'annalistlaw9.AlgebraQueries'. -/
def algebraQueriesUptoCard : Claim7 := { stood := { row := algebraQueriesUptoRow, standIns := [], harness := (true, "b4ebeb7a3d63efefbdb92e5342c7a1a6f7d345f0b4cac0aaf43c9a3ce7f59c12"), looks := true }, kinds := [], alts := [], laidByText := true, laidKinds := [.data, .data, .data], laidTests := true, laidLooks := .later }
def AlgebraQueriesUptoCardSaid : Prop := Claim7.holds Tryz.pinned (.plain (OpenSpec.upto algebraQueriesSpec)) algebraQueriesUptoCard

/-- THE SECOND FORM's CARD OF 'annalistlaw9.AlgebraOrder'. -/
def algebraOrderUptoCard : Claim7 := { stood := { row := algebraOrderUptoRow, standIns := [], harness := (true, "b4ebeb7a3d63efefbdb92e5342c7a1a6f7d345f0b4cac0aaf43c9a3ce7f59c12"), looks := true }, kinds := [], alts := [], laidByText := true, laidKinds := [.data, .data, .data], laidTests := true, laidLooks := .later }
def AlgebraOrderUptoCardSaid : Prop := Claim7.holds Tryz.pinned (.plain (OpenSpec.upto algebraOrderSpec)) algebraOrderUptoCard

/-- THE SECOND FORM's CARD OF 'annalistlaw9.AlgebraLineage'. -/
def algebraLineageUptoCard : Claim7 := { stood := { row := algebraLineageUptoRow, standIns := [], harness := (true, "b4ebeb7a3d63efefbdb92e5342c7a1a6f7d345f0b4cac0aaf43c9a3ce7f59c12"), looks := true }, kinds := [], alts := [], laidByText := true, laidKinds := [.data, .data, .data], laidTests := true, laidLooks := .later }
def AlgebraLineageUptoCardSaid : Prop := Claim7.holds Tryz.pinned (.plain (OpenSpec.upto algebraLineageSpec)) algebraLineageUptoCard

/-- THE SECOND FORM's CARD OF 'annalistlaw9.AlgebraFull'. -/
def algebraFullUptoCard : Claim7 := { stood := { row := algebraFullUptoRow, standIns := [], harness := (true, "b4ebeb7a3d63efefbdb92e5342c7a1a6f7d345f0b4cac0aaf43c9a3ce7f59c12"), looks := true }, kinds := [], alts := [], laidByText := true, laidKinds := [.data, .data, .data], laidTests := true, laidLooks := .later }
def AlgebraFullUptoCardSaid : Prop := Claim7.holds Tryz.pinned (.plain (OpenSpec.upto algebraFullSpec)) algebraFullUptoCard

/-- THE SECOND FORM's CARD OF 'annalistlaw9.AlgebraBalance'. -/
def algebraBalanceUptoCard : Claim7 := { stood := { row := algebraBalanceUptoRow, standIns := [], harness := (true, "b4ebeb7a3d63efefbdb92e5342c7a1a6f7d345f0b4cac0aaf43c9a3ce7f59c12"), looks := true }, kinds := [], alts := [], laidByText := true, laidKinds := [.data, .data, .data], laidTests := true, laidLooks := .later }
def AlgebraBalanceUptoCardSaid : Prop := Claim7.holds Tryz.pinned (.plain (OpenSpec.upto algebraBalanceSpec)) algebraBalanceUptoCard

/-- THE SECOND FORM's CARD OF 'annalistlaw9.AlgebraGroups'. -/
def algebraGroupsUptoCard : Claim7 := { stood := { row := algebraGroupsUptoRow, standIns := [], harness := (true, "b4ebeb7a3d63efefbdb92e5342c7a1a6f7d345f0b4cac0aaf43c9a3ce7f59c12"), looks := true }, kinds := [], alts := [], laidByText := true, laidKinds := [.data, .data, .data], laidTests := true, laidLooks := .later }
def AlgebraGroupsUptoCardSaid : Prop := Claim7.holds Tryz.pinned (.plain (OpenSpec.upto algebraGroupsSpec)) algebraGroupsUptoCard

/-- THE SECOND FORM's CARD OF 'annalistlaw9.AlgebraPushdown'. -/
def algebraPushdownUptoCard : Claim7 := { stood := { row := algebraPushdownUptoRow, standIns := [], harness := (true, "b4ebeb7a3d63efefbdb92e5342c7a1a6f7d345f0b4cac0aaf43c9a3ce7f59c12"), looks := true }, kinds := [], alts := [], laidByText := true, laidKinds := [.data, .data, .data], laidTests := true, laidLooks := .later }
def AlgebraPushdownUptoCardSaid : Prop := Claim7.holds Tryz.pinned (.plain (OpenSpec.upto algebraPushdownSpec)) algebraPushdownUptoCard

/-- THE SECOND FORM's CARD OF 'annalistlaw9.AlgebraLeftJoin'. -/
def algebraLeftJoinUptoCard : Claim7 := { stood := { row := algebraLeftJoinUptoRow, standIns := [], harness := (true, "b4ebeb7a3d63efefbdb92e5342c7a1a6f7d345f0b4cac0aaf43c9a3ce7f59c12"), looks := true }, kinds := [], alts := [], laidByText := true, laidKinds := [.data, .data, .data], laidTests := true, laidLooks := .later }
def AlgebraLeftJoinUptoCardSaid : Prop := Claim7.holds Tryz.pinned (.plain (OpenSpec.upto algebraLeftJoinSpec)) algebraLeftJoinUptoCard

/-- THE SECOND FORM's CARD OF 'annalistlaw16.GroupSlices'. -/
def groupSlicesUptoCard : Claim7 := { stood := { row := groupSlicesUptoRow, standIns := [], harness := (true, "b4ebeb7a3d63efefbdb92e5342c7a1a6f7d345f0b4cac0aaf43c9a3ce7f59c12"), looks := true }, kinds := [], alts := [], laidByText := true, laidKinds := [.data, .data, .data, .data], laidTests := true, laidLooks := .later }
def GroupSlicesUptoCardSaid : Prop := Claim7.holds Tryz.pinned (.plain (OpenSpec.upto groupSlicesSpec)) groupSlicesUptoCard

/-- THE SECOND FORM's CARD OF 'annalistlaw14.JoinSlices'. -/
def joinSlicesUptoCard : Claim7 := { stood := { row := joinSlicesUptoRow, standIns := [], harness := (true, "b4ebeb7a3d63efefbdb92e5342c7a1a6f7d345f0b4cac0aaf43c9a3ce7f59c12"), looks := true }, kinds := [], alts := [], laidByText := true, laidKinds := [.data, .data, .data], laidTests := true, laidLooks := .later }
def JoinSlicesUptoCardSaid : Prop := Claim7.holds Tryz.pinned (.plain (OpenSpec.upto joinSlicesSpec)) joinSlicesUptoCard
end Rows
end Go.Proofs.YtombmdaohcjokaaGreatDoor
