/- the closed facts of the row algebraBalance, the heavy ones each for itself: in one theorem they do not fit the memory -/
import Derived.Test.YtombmdaohcjokaaGreatDoorRows
import Derived.ProofKit
import Derived.OpenShut
import Derived.Lib.SmallJoins
namespace Go.Proofs.YtombmdaohcjokaaGreatDoor.algebraBalance
open Go.Joins

set_option maxRecDepth 100000 in
theorem closed1 : (Rows.algebraBalanceRow.inPlace == Tryz.prog.inPlace 9) = true := by kernel_rfl
set_option maxRecDepth 100000 in
theorem closed2 : (Rows.algebraBalanceRow.unfollowed == Tryz.prog.unfollowed 9) = true := by kernel_rfl
set_option maxRecDepth 100000 in
theorem closed3 : (Rows.algebraBalanceRow.recurses == Tryz.prog.recurses 9) = true := by kernel_rfl
set_option maxRecDepth 100000 in
theorem closed4 : (Rows.algebraBalanceRow.named == Tryz.prog.varsNamed 9) = true := by kernel_rfl
set_option maxRecDepth 100000 in
theorem closed : joinedFacts Tryz.prog 9 Tryz.f9 Rows.algebraBalanceSpec Rows.algebraBalanceRow = true := by
  unfold joinedFacts
  rw [closed1, closed2, closed3, closed4]
  kernel_rfl
end Go.Proofs.YtombmdaohcjokaaGreatDoor.algebraBalance
