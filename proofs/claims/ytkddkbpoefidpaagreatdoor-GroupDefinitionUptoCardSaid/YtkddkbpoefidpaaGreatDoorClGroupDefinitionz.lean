/- the closed facts of the row groupDefinitionUpto, the heavy ones each for itself: in one theorem they do not fit the memory -/
import Derived.Test.YtkddkbpoefidpaaGreatDoorRows
import Derived.ProofKit
import Derived.OpenShut
import Derived.Lib.SmallJoins
import Derived.JoinedCond
namespace Go.Proofs.YtkddkbpoefidpaaGreatDoor.groupDefinition
open Go.Joins

set_option maxRecDepth 100000 in
theorem closed1 : (Rows.groupDefinitionUptoRow.inPlace == Tryz.prog.inPlace 3) = true := by kernel_rfl
set_option maxRecDepth 100000 in
theorem closed2 : (Rows.groupDefinitionUptoRow.unfollowed == Tryz.prog.unfollowed 3) = true := by kernel_rfl
set_option maxRecDepth 100000 in
theorem closed3 : (Rows.groupDefinitionUptoRow.recurses == Tryz.prog.recurses 3) = true := by kernel_rfl
set_option maxRecDepth 100000 in
theorem closed4 : (Rows.groupDefinitionUptoRow.named == Tryz.prog.varsNamed 3) = true := by kernel_rfl
set_option maxRecDepth 100000 in
theorem closed : joinedFacts Tryz.prog 3 Tryz.f3 (Rows.OpenSpec.upto Rows.groupDefinitionSpec).bare Rows.groupDefinitionUptoRow = true := by
  unfold joinedFacts
  rw [closed1, closed2, closed3, closed4]
  kernel_rfl
end Go.Proofs.YtkddkbpoefidpaaGreatDoor.groupDefinition
