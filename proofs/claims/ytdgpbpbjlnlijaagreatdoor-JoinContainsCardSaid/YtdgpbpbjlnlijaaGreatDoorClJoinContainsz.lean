/- the closed facts of the row joinContains, the heavy ones each for itself: in one theorem they do not fit the memory -/
import Derived.Test.YtdgpbpbjlnlijaaGreatDoorRows
import Derived.ProofKit
import Derived.OpenShut
import Derived.Lib.SmallJoins
namespace Go.Proofs.YtdgpbpbjlnlijaaGreatDoor.joinContains
open Go.Joins

set_option maxRecDepth 100000 in
theorem closed1 : (Rows.joinContainsRow.inPlace == Tryz.prog.inPlace 12) = true := by kernel_rfl
set_option maxRecDepth 100000 in
theorem closed2 : (Rows.joinContainsRow.unfollowed == Tryz.prog.unfollowed 12) = true := by kernel_rfl
set_option maxRecDepth 100000 in
theorem closed3 : (Rows.joinContainsRow.recurses == Tryz.prog.recurses 12) = true := by kernel_rfl
set_option maxRecDepth 100000 in
theorem closed4 : (Rows.joinContainsRow.named == Tryz.prog.varsNamed 12) = true := by kernel_rfl
set_option maxRecDepth 100000 in
theorem closed : joinedFacts Tryz.prog 12 Tryz.f12 Rows.joinContainsSpec Rows.joinContainsRow = true := by
  unfold joinedFacts
  rw [closed1, closed2, closed3, closed4]
  kernel_rfl
end Go.Proofs.YtdgpbpbjlnlijaaGreatDoor.joinContains
