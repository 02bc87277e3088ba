/- plain: the rows of a timeslice; no program in sight -/
import Derived.Test.YtdgpbpbjlnlijaaGreatPlainD
namespace Go.Proofs.YtdgpbpbjlnlijaaGreat
open Go.RowKit

def tupRow (t : Tup) : Row := ⟨t.vals, t.lin⟩
def sliceRows (l : List Tup) (x : Int) : List Row := (l.filter (holdsAt x)).map tupRow
theorem slice_step (l : List Tup) (x : Int) (k : Nat) (h : k < l.length) : sliceRows (l.take (k + 1)) x = sliceRows (l.take k) x ++ if (validB l[k].from_ l[k].to_ && decide (l[k].from_ ≤ x) && decide (x < l[k].to_)) = true then [tupRow l[k]] else [] := by
  rw [List.take_succ_eq_append_getElem h]
  unfold sliceRows
  rw [List.filter_append, List.map_append]
  congr 1
  rw [List.filter_cons, List.filter_nil]
  show List.map tupRow (if holdsAt x l[k] = true then [l[k]] else []) = _
  rw [show holdsAt x l[k] = (validB l[k].from_ l[k].to_ && decide (l[k].from_ ≤ x) && decide (x < l[k].to_)) from rfl]
  split <;> rfl
theorem sliceRows_len (l : List Tup) (x : Int) : (sliceRows l x).length = cntAt l x := by unfold sliceRows cntAt; rw [List.length_map]

end Go.Proofs.YtdgpbpbjlnlijaaGreat
