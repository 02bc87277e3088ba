/- the closed facts of the row algebraGroups, the heavy ones each for itself: in one theorem they do not fit the memory -/
import Derived.Test.YtombmdaohcjokaaGreatDoorRows
import Derived.ProofKit
import Derived.OpenShut
import Derived.Lib.SmallJoins
namespace Go.Proofs.YtombmdaohcjokaaGreatDoor.algebraGroups
open Go.Joins

set_option maxRecDepth 100000 in
theorem closed1 : (Rows.algebraGroupsRow.inPlace == Tryz.prog.inPlace 10) = true := by kernel_rfl
set_option maxRecDepth 100000 in
theorem closed2 : (Rows.algebraGroupsRow.unfollowed == Tryz.prog.unfollowed 10) = true := by kernel_rfl
set_option maxRecDepth 100000 in
theorem closed3 : (Rows.algebraGroupsRow.recurses == Tryz.prog.recurses 10) = true := by kernel_rfl
set_option maxRecDepth 100000 in
theorem closed4 : (Rows.algebraGroupsRow.named == Tryz.prog.varsNamed 10) = true := by kernel_rfl
set_option maxRecDepth 100000 in
theorem closed : joinedFacts Tryz.prog 10 Tryz.f10 Rows.algebraGroupsSpec Rows.algebraGroupsRow = true := by
  unfold joinedFacts
  rw [closed1, closed2, closed3, closed4]
  kernel_rfl
end Go.Proofs.YtombmdaohcjokaaGreatDoor.algebraGroups
