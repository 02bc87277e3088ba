/- the closed facts of the row joinNormal, the heavy ones each for itself: in one theorem they do not fit the memory -/
import Derived.Test.YtdgpbpbjlnlijaaGreatDoorRows
import Derived.ProofKit
import Derived.OpenShut
import Derived.Lib.SmallJoins
namespace Go.Proofs.YtdgpbpbjlnlijaaGreatDoor.joinNormal
open Go.Joins

set_option maxRecDepth 100000 in
theorem closed1 : (Rows.joinNormalRow.inPlace == Tryz.prog.inPlace 11) = true := by kernel_rfl
set_option maxRecDepth 100000 in
theorem closed2 : (Rows.joinNormalRow.unfollowed == Tryz.prog.unfollowed 11) = true := by kernel_rfl
set_option maxRecDepth 100000 in
theorem closed3 : (Rows.joinNormalRow.recurses == Tryz.prog.recurses 11) = true := by kernel_rfl
set_option maxRecDepth 100000 in
theorem closed4 : (Rows.joinNormalRow.named == Tryz.prog.varsNamed 11) = true := by kernel_rfl
set_option maxRecDepth 100000 in
theorem closed : joinedFacts Tryz.prog 11 Tryz.f11 Rows.joinNormalSpec Rows.joinNormalRow = true := by
  unfold joinedFacts
  rw [closed1, closed2, closed3, closed4]
  kernel_rfl
end Go.Proofs.YtdgpbpbjlnlijaaGreatDoor.joinNormal
