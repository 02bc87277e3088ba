/- the closed facts of the row joinLeftOuterUpto, the heavy ones each for itself: in one theorem they do not fit the memory -/
import Derived.Test.YtkddkbpoefidpaaGreatDoorRows
import Derived.ProofKit
import Derived.OpenShut
import Derived.Lib.SmallJoins
import Derived.JoinedCond
namespace Go.Proofs.YtkddkbpoefidpaaGreatDoor.joinLeftOuter
open Go.Joins

set_option maxRecDepth 100000 in
theorem closed1 : (Rows.joinLeftOuterUptoRow.inPlace == Tryz.prog.inPlace 5) = true := by kernel_rfl
set_option maxRecDepth 100000 in
theorem closed2 : (Rows.joinLeftOuterUptoRow.unfollowed == Tryz.prog.unfollowed 5) = true := by kernel_rfl
set_option maxRecDepth 100000 in
theorem closed3 : (Rows.joinLeftOuterUptoRow.recurses == Tryz.prog.recurses 5) = true := by kernel_rfl
set_option maxRecDepth 100000 in
theorem closed4 : (Rows.joinLeftOuterUptoRow.named == Tryz.prog.varsNamed 5) = true := by kernel_rfl
set_option maxRecDepth 100000 in
theorem closed : joinedFacts Tryz.prog 5 Tryz.f5 (Rows.OpenSpec.upto Rows.joinLeftOuterSpec).bare Rows.joinLeftOuterUptoRow = true := by
  unfold joinedFacts
  rw [closed1, closed2, closed3, closed4]
  kernel_rfl
end Go.Proofs.YtkddkbpoefidpaaGreatDoor.joinLeftOuter
