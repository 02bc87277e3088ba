/- the closed facts of the row algebraPushdown, the heavy ones each for itself: in one theorem they do not fit the memory -/
import Derived.Test.YtombmdaohcjokaaGreatDoorRows
import Derived.ProofKit
import Derived.OpenShut
import Derived.Lib.SmallJoins
namespace Go.Proofs.YtombmdaohcjokaaGreatDoor.algebraPushdown
open Go.Joins

set_option maxRecDepth 100000 in
theorem closed1 : (Rows.algebraPushdownRow.inPlace == Tryz.prog.inPlace 11) = true := by kernel_rfl
set_option maxRecDepth 100000 in
theorem closed2 : (Rows.algebraPushdownRow.unfollowed == Tryz.prog.unfollowed 11) = true := by kernel_rfl
set_option maxRecDepth 100000 in
theorem closed3 : (Rows.algebraPushdownRow.recurses == Tryz.prog.recurses 11) = true := by kernel_rfl
set_option maxRecDepth 100000 in
theorem closed4 : (Rows.algebraPushdownRow.named == Tryz.prog.varsNamed 11) = true := by kernel_rfl
set_option maxRecDepth 100000 in
theorem closed : joinedFacts Tryz.prog 11 Tryz.f11 Rows.algebraPushdownSpec Rows.algebraPushdownRow = true := by
  unfold joinedFacts
  rw [closed1, closed2, closed3, closed4]
  kernel_rfl
end Go.Proofs.YtombmdaohcjokaaGreatDoor.algebraPushdown
