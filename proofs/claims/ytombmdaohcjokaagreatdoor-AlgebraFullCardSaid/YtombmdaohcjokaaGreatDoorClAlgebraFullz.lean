/- the closed facts of the row algebraFull, the heavy ones each for itself: in one theorem they do not fit the memory -/
import Derived.Test.YtombmdaohcjokaaGreatDoorRows
import Derived.ProofKit
import Derived.OpenShut
import Derived.Lib.SmallJoins
namespace Go.Proofs.YtombmdaohcjokaaGreatDoor.algebraFull
open Go.Joins

set_option maxRecDepth 100000 in
theorem closed1 : (Rows.algebraFullRow.inPlace == Tryz.prog.inPlace 8) = true := by kernel_rfl
set_option maxRecDepth 100000 in
theorem closed2 : (Rows.algebraFullRow.unfollowed == Tryz.prog.unfollowed 8) = true := by kernel_rfl
set_option maxRecDepth 100000 in
theorem closed3 : (Rows.algebraFullRow.recurses == Tryz.prog.recurses 8) = true := by kernel_rfl
set_option maxRecDepth 100000 in
theorem closed4 : (Rows.algebraFullRow.named == Tryz.prog.varsNamed 8) = true := by kernel_rfl
set_option maxRecDepth 100000 in
theorem closed : joinedFacts Tryz.prog 8 Tryz.f8 Rows.algebraFullSpec Rows.algebraFullRow = true := by
  unfold joinedFacts
  rw [closed1, closed2, closed3, closed4]
  kernel_rfl
end Go.Proofs.YtombmdaohcjokaaGreatDoor.algebraFull
