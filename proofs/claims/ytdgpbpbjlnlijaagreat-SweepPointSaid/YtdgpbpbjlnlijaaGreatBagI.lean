/- the reference's comparisons of rows -/
import Derived.Test.YtdgpbpbjlnlijaaGreatBagH
namespace Go.Proofs.YtdgpbpbjlnlijaaGreat
open Go.RowKit

theorem eqB_row (a b : Row) : eqB a b = ((cmpVals a.vals b.vals == 0) && (cmpInts a.lin b.lin == 0)) := by
  rw [← cmpRow_zero]
  unfold cmpRow orI orI orI
  by_cases h1 : cmpVals a.vals b.vals = 0 <;> by_cases h2 : cmpInts a.lin b.lin = 0 <;> simp [h1, h2]
/-- the canonical order, strictly -/
theorem lt_row (a b : Row) : decide (cmpRow a b < 0) = (decide (cmpVals a.vals b.vals < 0) || ((cmpVals a.vals b.vals == 0) && decide (cmpInts a.lin b.lin < 0))) := by
  unfold cmpRow orI orI orI
  by_cases h1 : cmpVals a.vals b.vals = 0 <;> by_cases h2 : cmpInts a.lin b.lin = 0 <;> simp [h1, h2]

end Go.Proofs.YtdgpbpbjlnlijaaGreat
