/- plain: what the surplus rows weigh; no program in sight -/
import Derived.Test.YtmjfbfigdkolaaaBagN
namespace Go.Proofs.Ytmjfbfigdkolaaa
open Go.RowKit

theorem mult_nil (v : List Val) : mult v [] = 0 := rfl
theorem mult_cons (v : List Val) (r : Row) (l : List Row) : mult v (r :: l) = mult v [r] + mult v l := by
  rw [← mult_append]
  rfl
theorem mult_other {vs : List Val} {r : Row} (h : r.vals ≠ vs) : mult vs [r] = 0 := mult_zero (by simpa using h)
theorem surpA_mult (v : List Val) (b pre l : List Row) : mult v (surpA b pre l) = mult v pre + mult v l - max (mult v b) (mult v pre) := by
  induction l generalizing pre with
  | nil =>
    have h0 := mult_nil v
    simp only [surpA, h0]
    omega
  | cons r l ih =>
    have h1 := ih (pre ++ [r])
    rw [mult_append] at h1
    rw [mult_cons v r l]
    simp only [surpA]
    by_cases hv : r.vals = v
    · have h2 := mult_one hv
      rw [h2] at h1 ⊢
      rw [hv]
      split
      · rw [mult_cons, h2]
        omega
      · omega
    · have h2 := mult_other hv
      rw [h2] at h1 ⊢
      split
      · rw [mult_cons, h2]
        omega
      · omega
theorem mult_perm (v : List Val) {l l' : List Row} (h : l.Perm l') : mult v l = mult v l' := h.countP_eq _
theorem surp_mult (v : List Val) (a b : List Row) : mult v (surpA b [] (sortBy cmpRow a)) = mult v a - mult v b := by
  rw [surpA_mult, mult_perm v (sortBy_perm cmpRow a), mult_nil]
  omega
theorem mult_len (v : List Val) (l : List Row) : mult v l ≤ l.length := List.countP_le_length

/-- a row without its lineage -/
def plainRow (r : Row) : Row := ⟨r.vals, []⟩
theorem surp_nil (a b : List Row) : surpA b [] (sortBy cmpRow a) = [] ↔ ∀ v, mult v a ≤ mult v b := by
  constructor
  · intro h v
    have h1 := surp_mult v a b
    rw [h, mult_nil] at h1
    omega
  · intro h
    cases hl : surpA b [] (sortBy cmpRow a) with
    | nil => rfl
    | cons r l =>
      have h1 := surp_mult r.vals a b
      rw [hl, mult_cons, mult_one rfl] at h1
      have h2 := h r.vals
      omega
theorem plain_perm (a b : List Row) : (a.map plainRow).Perm (b.map plainRow) ↔ ∀ v, mult v a = mult v b := by
  letI : DecidableEq Row := fun a b => Classical.propDecidable (a = b)
  have hc : ∀ (l : List Row) (r : Row), (l.map plainRow).count r = if r.lin = [] then mult r.vals l else 0 := by
    intro l r
    obtain ⟨rv, rl⟩ := r
    rw [List.count, List.countP_map]
    by_cases hr : rl = []
    · rw [if_pos hr]
      subst hr
      unfold mult
      congr 1
      funext p
      rw [Bool.eq_iff_iff]
      simp only [Function.comp, plainRow, beq_iff_eq, Row.mk.injEq, and_true, ord_vals.eq]
    · rw [if_neg hr, List.countP_eq_zero]
      intro p _
      simp only [Function.comp, plainRow, beq_iff_eq, Row.mk.injEq]
      exact fun h => hr h.2.symm
  rw [List.perm_iff_count]
  constructor
  · intro h v
    have h1 := h ⟨v, []⟩
    rw [hc, hc, if_pos rfl, if_pos rfl] at h1
    exact h1
  · intro h r
    rw [hc, hc, h r.vals]
theorem sort_eq_iff (p q : List Row) : sortBy cmpRow p = sortBy cmpRow q ↔ p.Perm q :=
  ⟨fun h => (sortBy_perm cmpRow p).symm.trans (h ▸ sortBy_perm cmpRow q), fun h => sortBy_unique ord_row ((sortBy_perm _ p).trans h) (sortBy_pair ord_row p)⟩
theorem diff_empty (a b : List Row) : (surpA b [] (sortBy cmpRow a)).length + (surpA a [] (sortBy cmpRow b)).length = 0 ↔ sortBy cmpRow (a.map plainRow) = sortBy cmpRow (b.map plainRow) := by
  rw [sort_eq_iff, plain_perm]
  constructor
  · intro h v
    have h1 := (surp_nil a b).1 (List.eq_nil_of_length_eq_zero (by omega)) v
    have h2 := (surp_nil b a).1 (List.eq_nil_of_length_eq_zero (by omega)) v
    omega
  · intro h
    rw [(surp_nil a b).2 fun v => Nat.le_of_eq (h v), (surp_nil b a).2 fun v => Nat.le_of_eq (h v).symm]
    rfl

end Go.Proofs.Ytmjfbfigdkolaaa
