/-
  DERIVED. GIVEN WITH THE SEED: THE CARDS: each row of YtdgpbpbjlnlijaaGreatDoorRows.lean that lists a variable, with what it lists TIED to the program's text (the seventh form; the later family's looks); each row that meets fmt, with fmt's text TOLD by the authors' own Lean function (tested against real Go, not proved from fmt's source: count such statements apart). THE CARD IS WHAT COUNTS. Prove the row's statement (the work); the ties are given (YtdgpbpbjlnlijaaGreatDoorTie.lean); close each card by the builder's one call (the guide's Derived/Test/ToyasCard.lean, 'card_holds'). Laid BY PROGRAM, IN A SANDBOX (cutbox-door.mjs). By AI agents, Wed Nov 11 2026. No macro, syntax, notation, axiom, sorry.
-/
import Derived.Test.YtdgpbpbjlnlijaaGreatDoorRows
import GoSem.ClaimSeven
namespace Go.Proofs.YtdgpbpbjlnlijaaGreatDoor
namespace Rows

/-- THE TIED CARD OF 'annalistlaw16.GroupDefinition'. -/
def groupDefinitionCard : Claim7 := { stood := { row := groupDefinitionRow, standIns := [], harness := (true, "da67917dc3390ac4928885d9dacd793de78cba66cbdc79684ea22558d74eee34"), looks := true }, kinds := [], alts := [], laidByText := true, laidKinds := [.data, .data, .data, .data], laidTests := true, laidLooks := .later }
def GroupDefinitionCardSaid : Prop := Claim7.holds Tryz.pinned (.plain (OpenSpec.ofChange groupDefinitionSpec)) groupDefinitionCard

/-- THE TIED CARD OF 'annalistlaw16.GroupAlways'. -/
def groupAlwaysCard : Claim7 := { stood := { row := groupAlwaysRow, standIns := [], harness := (true, "da67917dc3390ac4928885d9dacd793de78cba66cbdc79684ea22558d74eee34"), looks := true }, kinds := [], alts := [], laidByText := true, laidKinds := [.data, .data, .data, .data], laidTests := true, laidLooks := .later }
def GroupAlwaysCardSaid : Prop := Claim7.holds Tryz.pinned (.plain (OpenSpec.ofChange groupAlwaysSpec)) groupAlwaysCard

/-- THE TIED CARD OF 'annalistlaw16.GroupBounds'. -/
def groupBoundsCard : Claim7 := { stood := { row := groupBoundsRow, standIns := [], harness := (true, "da67917dc3390ac4928885d9dacd793de78cba66cbdc79684ea22558d74eee34"), looks := true }, kinds := [], alts := [], laidByText := true, laidKinds := [.data, .data, .data, .data], laidTests := true, laidLooks := .later }
def GroupBoundsCardSaid : Prop := Claim7.holds Tryz.pinned (.plain (OpenSpec.ofChange groupBoundsSpec)) groupBoundsCard

/-- THE TIED CARD OF 'annalistlaw16.GroupCounts'. -/
def groupCountsCard : Claim7 := { stood := { row := groupCountsRow, standIns := [], harness := (true, "da67917dc3390ac4928885d9dacd793de78cba66cbdc79684ea22558d74eee34"), looks := true }, kinds := [], alts := [], laidByText := true, laidKinds := [.data, .data, .data, .data], laidTests := true, laidLooks := .later }
def GroupCountsCardSaid : Prop := Claim7.holds Tryz.pinned (.plain (OpenSpec.ofChange groupCountsSpec)) groupCountsCard

/-- THE TIED CARD OF 'annalistlaw16.GroupSplits'. -/
def groupSplitsCard : Claim7 := { stood := { row := groupSplitsRow, standIns := [], harness := (true, "da67917dc3390ac4928885d9dacd793de78cba66cbdc79684ea22558d74eee34"), looks := true }, kinds := [], alts := [], laidByText := true, laidKinds := [.data, .data, .data, .data], laidTests := true, laidLooks := .later }
def GroupSplitsCardSaid : Prop := Claim7.holds Tryz.pinned (.plain (OpenSpec.ofChange groupSplitsSpec)) groupSplitsCard

/-- THE TIED CARD OF 'annalistlaw14.JoinInner'. -/
def joinInnerCard : Claim7 := { stood := { row := joinInnerRow, standIns := [], harness := (true, "da67917dc3390ac4928885d9dacd793de78cba66cbdc79684ea22558d74eee34"), looks := true }, kinds := [], alts := [], laidByText := true, laidKinds := [.data, .data, .data], laidTests := true, laidLooks := .later }
def JoinInnerCardSaid : Prop := Claim7.holds Tryz.pinned (.plain (OpenSpec.ofChange joinInnerSpec)) joinInnerCard

/-- THE TIED CARD OF 'annalistlaw14.JoinLeftOuter'. -/
def joinLeftOuterCard : Claim7 := { stood := { row := joinLeftOuterRow, standIns := [], harness := (true, "da67917dc3390ac4928885d9dacd793de78cba66cbdc79684ea22558d74eee34"), looks := true }, kinds := [], alts := [], laidByText := true, laidKinds := [.data, .data, .data], laidTests := true, laidLooks := .later }
def JoinLeftOuterCardSaid : Prop := Claim7.holds Tryz.pinned (.plain (OpenSpec.ofChange joinLeftOuterSpec)) joinLeftOuterCard

/-- THE TIED CARD OF 'annalistlaw14.JoinSplits'. -/
def joinSplitsCard : Claim7 := { stood := { row := joinSplitsRow, standIns := [], harness := (true, "da67917dc3390ac4928885d9dacd793de78cba66cbdc79684ea22558d74eee34"), looks := true }, kinds := [], alts := [], laidByText := true, laidKinds := [.data, .data, .data], laidTests := true, laidLooks := .later }
def JoinSplitsCardSaid : Prop := Claim7.holds Tryz.pinned (.plain (OpenSpec.ofChange joinSplitsSpec)) joinSplitsCard

/-- THE TIED CARD OF 'annalistlaw14.JoinNormal'. -/
def joinNormalCard : Claim7 := { stood := { row := joinNormalRow, standIns := [], harness := (true, "da67917dc3390ac4928885d9dacd793de78cba66cbdc79684ea22558d74eee34"), looks := true }, kinds := [], alts := [], laidByText := true, laidKinds := [.data, .data, .data], laidTests := true, laidLooks := .later }
def JoinNormalCardSaid : Prop := Claim7.holds Tryz.pinned (.plain (OpenSpec.ofChange joinNormalSpec)) joinNormalCard

/-- THE TIED CARD OF 'annalistlaw14.JoinContains'. -/
def joinContainsCard : Claim7 := { stood := { row := joinContainsRow, standIns := [], harness := (true, "da67917dc3390ac4928885d9dacd793de78cba66cbdc79684ea22558d74eee34"), looks := true }, kinds := [], alts := [], laidByText := true, laidKinds := [.data, .data, .data], laidTests := true, laidLooks := .later }
def JoinContainsCardSaid : Prop := Claim7.holds Tryz.pinned (.plain (OpenSpec.ofChange joinContainsSpec)) joinContainsCard

/-- THE TIED CARD OF 'annalistlaw14.JoinRenumber'. -/
def joinRenumberCard : Claim7 := { stood := { row := joinRenumberRow, standIns := [], harness := (true, "da67917dc3390ac4928885d9dacd793de78cba66cbdc79684ea22558d74eee34"), looks := true }, kinds := [], alts := [], laidByText := true, laidKinds := [.data, .data, .data], laidTests := true, laidLooks := .later }
def JoinRenumberCardSaid : Prop := Claim7.holds Tryz.pinned (.plain (OpenSpec.ofChange joinRenumberSpec)) joinRenumberCard

/-- THE SECOND FORM's CARD OF 'annalistlaw16.GroupDefinition'. -/
def groupDefinitionUptoCard : Claim7 := { stood := { row := groupDefinitionUptoRow, standIns := [], harness := (true, "da67917dc3390ac4928885d9dacd793de78cba66cbdc79684ea22558d74eee34"), looks := true }, kinds := [], alts := [], laidByText := true, laidKinds := [.data, .data, .data, .data], laidTests := true, laidLooks := .later }
def GroupDefinitionUptoCardSaid : Prop := Claim7.holds Tryz.pinned (.plain (OpenSpec.upto groupDefinitionSpec)) groupDefinitionUptoCard

/-- THE SECOND FORM's CARD OF 'annalistlaw16.GroupAlways'. -/
def groupAlwaysUptoCard : Claim7 := { stood := { row := groupAlwaysUptoRow, standIns := [], harness := (true, "da67917dc3390ac4928885d9dacd793de78cba66cbdc79684ea22558d74eee34"), looks := true }, kinds := [], alts := [], laidByText := true, laidKinds := [.data, .data, .data, .data], laidTests := true, laidLooks := .later }
def GroupAlwaysUptoCardSaid : Prop := Claim7.holds Tryz.pinned (.plain (OpenSpec.upto groupAlwaysSpec)) groupAlwaysUptoCard

/-- THE SECOND FORM's CARD OF 'annalistlaw16.GroupBounds'. -/
def groupBoundsUptoCard : Claim7 := { stood := { row := groupBoundsUptoRow, standIns := [], harness := (true, "da67917dc3390ac4928885d9dacd793de78cba66cbdc79684ea22558d74eee34"), looks := true }, kinds := [], alts := [], laidByText := true, laidKinds := [.data, .data, .data, .data], laidTests := true, laidLooks := .later }
def GroupBoundsUptoCardSaid : Prop := Claim7.holds Tryz.pinned (.plain (OpenSpec.upto groupBoundsSpec)) groupBoundsUptoCard

/-- THE SECOND FORM's CARD OF 'annalistlaw16.GroupCounts'. -/
def groupCountsUptoCard : Claim7 := { stood := { row := groupCountsUptoRow, standIns := [], harness := (true, "da67917dc3390ac4928885d9dacd793de78cba66cbdc79684ea22558d74eee34"), looks := true }, kinds := [], alts := [], laidByText := true, laidKinds := [.data, .data, .data, .data], laidTests := true, laidLooks := .later }
def GroupCountsUptoCardSaid : Prop := Claim7.holds Tryz.pinned (.plain (OpenSpec.upto groupCountsSpec)) groupCountsUptoCard

/-- THE SECOND FORM's CARD OF 'annalistlaw16.GroupSplits'. -/
def groupSplitsUptoCard : Claim7 := { stood := { row := groupSplitsUptoRow, standIns := [], harness := (true, "da67917dc3390ac4928885d9dacd793de78cba66cbdc79684ea22558d74eee34"), looks := true }, kinds := [], alts := [], laidByText := true, laidKinds := [.data, .data, .data, .data], laidTests := true, laidLooks := .later }
def GroupSplitsUptoCardSaid : Prop := Claim7.holds Tryz.pinned (.plain (OpenSpec.upto groupSplitsSpec)) groupSplitsUptoCard

/-- THE SECOND FORM's CARD OF 'annalistlaw14.JoinInner'. -/
def joinInnerUptoCard : Claim7 := { stood := { row := joinInnerUptoRow, standIns := [], harness := (true, "da67917dc3390ac4928885d9dacd793de78cba66cbdc79684ea22558d74eee34"), looks := true }, kinds := [], alts := [], laidByText := true, laidKinds := [.data, .data, .data], laidTests := true, laidLooks := .later }
def JoinInnerUptoCardSaid : Prop := Claim7.holds Tryz.pinned (.plain (OpenSpec.upto joinInnerSpec)) joinInnerUptoCard

/-- THE SECOND FORM's CARD OF 'annalistlaw14.JoinLeftOuter'. -/
def joinLeftOuterUptoCard : Claim7 := { stood := { row := joinLeftOuterUptoRow, standIns := [], harness := (true, "da67917dc3390ac4928885d9dacd793de78cba66cbdc79684ea22558d74eee34"), looks := true }, kinds := [], alts := [], laidByText := true, laidKinds := [.data, .data, .data], laidTests := true, laidLooks := .later }
def JoinLeftOuterUptoCardSaid : Prop := Claim7.holds Tryz.pinned (.plain (OpenSpec.upto joinLeftOuterSpec)) joinLeftOuterUptoCard

/-- THE SECOND FORM's CARD OF 'annalistlaw14.JoinSplits'. -/
def joinSplitsUptoCard : Claim7 := { stood := { row := joinSplitsUptoRow, standIns := [], harness := (true, "da67917dc3390ac4928885d9dacd793de78cba66cbdc79684ea22558d74eee34"), looks := true }, kinds := [], alts := [], laidByText := true, laidKinds := [.data, .data, .data], laidTests := true, laidLooks := .later }
def JoinSplitsUptoCardSaid : Prop := Claim7.holds Tryz.pinned (.plain (OpenSpec.upto joinSplitsSpec)) joinSplitsUptoCard

/-- THE SECOND FORM's CARD OF 'annalistlaw14.JoinNormal'. -/
def joinNormalUptoCard : Claim7 := { stood := { row := joinNormalUptoRow, standIns := [], harness := (true, "da67917dc3390ac4928885d9dacd793de78cba66cbdc79684ea22558d74eee34"), looks := true }, kinds := [], alts := [], laidByText := true, laidKinds := [.data, .data, .data], laidTests := true, laidLooks := .later }
def JoinNormalUptoCardSaid : Prop := Claim7.holds Tryz.pinned (.plain (OpenSpec.upto joinNormalSpec)) joinNormalUptoCard

/-- THE SECOND FORM's CARD OF 'annalistlaw14.JoinContains'. -/
def joinContainsUptoCard : Claim7 := { stood := { row := joinContainsUptoRow, standIns := [], harness := (true, "da67917dc3390ac4928885d9dacd793de78cba66cbdc79684ea22558d74eee34"), looks := true }, kinds := [], alts := [], laidByText := true, laidKinds := [.data, .data, .data], laidTests := true, laidLooks := .later }
def JoinContainsUptoCardSaid : Prop := Claim7.holds Tryz.pinned (.plain (OpenSpec.upto joinContainsSpec)) joinContainsUptoCard

/-- THE SECOND FORM's CARD OF 'annalistlaw14.JoinRenumber'. -/
def joinRenumberUptoCard : Claim7 := { stood := { row := joinRenumberUptoRow, standIns := [], harness := (true, "da67917dc3390ac4928885d9dacd793de78cba66cbdc79684ea22558d74eee34"), looks := true }, kinds := [], alts := [], laidByText := true, laidKinds := [.data, .data, .data], laidTests := true, laidLooks := .later }
def JoinRenumberUptoCardSaid : Prop := Claim7.holds Tryz.pinned (.plain (OpenSpec.upto joinRenumberSpec)) joinRenumberUptoCard
end Rows
end Go.Proofs.YtdgpbpbjlnlijaaGreatDoor
