/- the closed facts of the row joinInnerUpto, the heavy ones each for itself: in one theorem they do not fit the memory -/
import Derived.Test.YtkddkbpoefidpaaGreatDoorRows
import Derived.ProofKit
import Derived.OpenShut
import Derived.Lib.SmallJoins
import Derived.JoinedCond
namespace Go.Proofs.YtkddkbpoefidpaaGreatDoor.joinInner
open Go.Joins

set_option maxRecDepth 100000 in
theorem closed1 : (Rows.joinInnerUptoRow.inPlace == Tryz.prog.inPlace 4) = true := by kernel_rfl
set_option maxRecDepth 100000 in
theorem closed2 : (Rows.joinInnerUptoRow.unfollowed == Tryz.prog.unfollowed 4) = true := by kernel_rfl
set_option maxRecDepth 100000 in
theorem closed3 : (Rows.joinInnerUptoRow.recurses == Tryz.prog.recurses 4) = true := by kernel_rfl
set_option maxRecDepth 100000 in
theorem closed4 : (Rows.joinInnerUptoRow.named == Tryz.prog.varsNamed 4) = true := by kernel_rfl
set_option maxRecDepth 100000 in
theorem closed : joinedFacts Tryz.prog 4 Tryz.f4 (Rows.OpenSpec.upto Rows.joinInnerSpec).bare Rows.joinInnerUptoRow = true := by
  unfold joinedFacts
  rw [closed1, closed2, closed3, closed4]
  kernel_rfl
end Go.Proofs.YtkddkbpoefidpaaGreatDoor.joinInner
