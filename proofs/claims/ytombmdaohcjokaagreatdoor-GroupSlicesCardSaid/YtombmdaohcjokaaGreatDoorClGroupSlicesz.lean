/- the closed facts of the row groupSlices, the heavy ones each for itself: in one theorem they do not fit the memory -/
import Derived.Test.YtombmdaohcjokaaGreatDoorRows
import Derived.ProofKit
import Derived.OpenShut
import Derived.Lib.SmallJoins
namespace Go.Proofs.YtombmdaohcjokaaGreatDoor.groupSlices
open Go.Joins

set_option maxRecDepth 100000 in
theorem closed1 : (Rows.groupSlicesRow.inPlace == Tryz.prog.inPlace 13) = true := by kernel_rfl
set_option maxRecDepth 100000 in
theorem closed2 : (Rows.groupSlicesRow.unfollowed == Tryz.prog.unfollowed 13) = true := by kernel_rfl
set_option maxRecDepth 100000 in
theorem closed3 : (Rows.groupSlicesRow.recurses == Tryz.prog.recurses 13) = true := by kernel_rfl
set_option maxRecDepth 100000 in
theorem closed4 : (Rows.groupSlicesRow.named == Tryz.prog.varsNamed 13) = true := by kernel_rfl
set_option maxRecDepth 100000 in
theorem closed : joinedFacts Tryz.prog 13 Tryz.f13 Rows.groupSlicesSpec Rows.groupSlicesRow = true := by
  unfold joinedFacts
  rw [closed1, closed2, closed3, closed4]
  kernel_rfl
end Go.Proofs.YtombmdaohcjokaaGreatDoor.groupSlices
