/- the closed facts of the row joinSplits, the heavy ones each for itself: in one theorem they do not fit the memory -/
import Derived.Test.YtdgpbpbjlnlijaaGreatDoorRows
import Derived.ProofKit
import Derived.OpenShut
import Derived.Lib.SmallJoins
namespace Go.Proofs.YtdgpbpbjlnlijaaGreatDoor.joinSplits
open Go.Joins

set_option maxRecDepth 100000 in
theorem closed1 : (Rows.joinSplitsRow.inPlace == Tryz.prog.inPlace 10) = true := by kernel_rfl
set_option maxRecDepth 100000 in
theorem closed2 : (Rows.joinSplitsRow.unfollowed == Tryz.prog.unfollowed 10) = true := by kernel_rfl
set_option maxRecDepth 100000 in
theorem closed3 : (Rows.joinSplitsRow.recurses == Tryz.prog.recurses 10) = true := by kernel_rfl
set_option maxRecDepth 100000 in
theorem closed4 : (Rows.joinSplitsRow.named == Tryz.prog.varsNamed 10) = true := by kernel_rfl
set_option maxRecDepth 100000 in
theorem closed : joinedFacts Tryz.prog 10 Tryz.f10 Rows.joinSplitsSpec Rows.joinSplitsRow = true := by
  unfold joinedFacts
  rw [closed1, closed2, closed3, closed4]
  kernel_rfl
end Go.Proofs.YtdgpbpbjlnlijaaGreatDoor.joinSplits
