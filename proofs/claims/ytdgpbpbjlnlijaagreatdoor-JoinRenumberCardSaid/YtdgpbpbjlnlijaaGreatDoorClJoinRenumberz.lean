/- the closed facts of the row joinRenumber, the heavy ones each for itself: in one theorem they do not fit the memory -/
import Derived.Test.YtdgpbpbjlnlijaaGreatDoorRows
import Derived.ProofKit
import Derived.OpenShut
import Derived.Lib.SmallJoins
namespace Go.Proofs.YtdgpbpbjlnlijaaGreatDoor.joinRenumber
open Go.Joins

set_option maxRecDepth 100000 in
theorem closed1 : (Rows.joinRenumberRow.inPlace == Tryz.prog.inPlace 13) = true := by kernel_rfl
set_option maxRecDepth 100000 in
theorem closed2 : (Rows.joinRenumberRow.unfollowed == Tryz.prog.unfollowed 13) = true := by kernel_rfl
set_option maxRecDepth 100000 in
theorem closed3 : (Rows.joinRenumberRow.recurses == Tryz.prog.recurses 13) = true := by kernel_rfl
set_option maxRecDepth 100000 in
theorem closed4 : (Rows.joinRenumberRow.named == Tryz.prog.varsNamed 13) = true := by kernel_rfl
set_option maxRecDepth 100000 in
theorem closed : joinedFacts Tryz.prog 13 Tryz.f13 Rows.joinRenumberSpec Rows.joinRenumberRow = true := by
  unfold joinedFacts
  rw [closed1, closed2, closed3, closed4]
  kernel_rfl
end Go.Proofs.YtdgpbpbjlnlijaaGreatDoor.joinRenumber
