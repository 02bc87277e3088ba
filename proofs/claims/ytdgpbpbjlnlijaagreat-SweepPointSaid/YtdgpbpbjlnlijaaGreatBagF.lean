/- bag.Equal, bag.Multiplicity. -/
import Derived.Test.YtdgpbpbjlnlijaaGreatBagE
namespace Go.Proofs.YtdgpbpbjlnlijaaGreat
open Go.RowKit

/-- equality as a Bool -/
noncomputable def eqB {α : Type} (x y : α) : Bool := @decide (x = y) (Classical.propDecidable _)
theorem eqB_iff {α : Type} {x y : α} : eqB x y = true ↔ x = y := by simp [eqB]
theorem eqB_of {α β : Type} {x y : α} {u v : β} (h : x = y ↔ u = v) : eqB x y = eqB u v := by
  rw [Bool.eq_iff_iff, eqB_iff, eqB_iff, h]
theorem eqB_drop {α : Type} (l l' : List α) (k : Nat) (h : k < l.length) (h' : k < l'.length) : eqB (l.drop k) (l'.drop k) = (eqB l[k] l'[k] && eqB (l.drop (k + 1)) (l'.drop (k + 1))) := by
  rw [List.drop_eq_getElem_cons h, List.drop_eq_getElem_cons h', Bool.eq_iff_iff, Bool.and_eq_true, eqB_iff, eqB_iff, eqB_iff]
  exact Iff.of_eq (List.cons.injEq _ _ _ _)
theorem eqB_end {α : Type} (l l' : List α) (h : l.length = l'.length) : eqB (l.drop l.length) (l'.drop l.length) = true := by
  rw [eqB_iff, List.drop_length, List.drop_eq_nil_of_le (by omega)]
theorem eqB_len {α : Type} (l l' : List α) (h : l.length ≠ l'.length) : eqB l l' = false := by
  rw [Bool.eq_false_iff, Ne, eqB_iff]
  intro e
  rw [e] at h
  exact h rfl
theorem cmpRow_zero (a b : Row) : (cmpRow a b == 0) = eqB a b := by
  rw [Bool.eq_iff_iff, eqB_iff, beq_iff_eq, ord_row.eq]

/-- how often the values occur -/
def mult (vs : List Val) (l : List Row) : Nat := l.countP fun r => cmpVals r.vals vs == 0
theorem mult_take (vs : List Val) (l : List Row) (k : Nat) (h : k < l.length) : mult vs (l.take (k + 1)) = mult vs (l.take k) + if cmpVals l[k].vals vs = 0 then 1 else 0 := by
  unfold mult
  rw [List.take_succ_eq_append_getElem h, List.countP_append, List.countP_cons, List.countP_nil]
  simp

end Go.Proofs.YtdgpbpbjlnlijaaGreat
