/- the reference's MergeLineage: plain part -/
import Derived.Test.YtdgpbpbjlnlijaaGreatBagL
namespace Go.Proofs.YtdgpbpbjlnlijaaGreat

/-- l is ascending and holds what xs hold -/
def AscOf (l xs : List Int) : Prop := l.Pairwise (· < ·) ∧ (∀ x, x ∈ l ↔ x ∈ xs) ∧ l.length ≤ xs.length
theorem AscOf.nil : AscOf [] [] := ⟨List.Pairwise.nil, by simp, by simp⟩
theorem AscOf.eq {l l' : List Int} {xs : List Int} (h : AscOf l xs) (h' : AscOf l' xs) : l = l' := asc_unique h.1 h'.1 fun x => by rw [h.2.1, h'.2.1]
theorem AscOf.merge {l a b : List Int} (h : AscOf l (a ++ b)) : l = mergeL a b :=
  asc_unique h.1 (mergeL_law a b).1 fun x => by rw [h.2.1, (mergeL_law a b).2, List.mem_append]
theorem AscOf.ins {l xs : List Int} (h : AscOf l xs) (x : Int) (k : Nat) (hk : k ≤ l.length) (h1 : ∀ (j : Nat) (hj : j < l.length), j < k → l[j] < x) (h2 : ∀ (hj : k < l.length), x < l[k]) :
    AscOf (l.take k ++ [x] ++ l.drop k) (xs ++ [x]) := by
  obtain ⟨hs, hm, hl⟩ := h
  have hlo : ∀ y ∈ l.take k, y < x := by
    intro y hy
    obtain ⟨j, hj, rfl⟩ := List.mem_iff_getElem.1 hy
    rw [List.getElem_take]
    simp at hj
    exact h1 j (by omega) (by omega)
  have hhi : ∀ y ∈ l.drop k, x < y := by
    intro y hy
    obtain ⟨j, hj, rfl⟩ := List.mem_iff_getElem.1 hy
    rw [List.getElem_drop]
    simp at hj
    have hk' : k < l.length := by omega
    have h3 := h2 hk'
    by_cases h0 : j = 0
    · subst h0; exact h3
    · have := List.pairwise_iff_getElem.1 hs k (k + j) hk' (by omega) (by omega)
      omega
  refine ⟨?_, fun y => ?_, by simp; omega⟩
  · rw [List.pairwise_append, List.pairwise_append]
    refine ⟨⟨hs.take, List.pairwise_singleton _ _, fun y hy z hz => ?_⟩, hs.drop, fun y hy z hz => ?_⟩
    · rw [List.mem_singleton.1 hz]; exact hlo y hy
    · rcases List.mem_append.1 hy with hy | hy
      · exact Int.lt_trans (hlo y hy) (hhi z hz)
      · rw [List.mem_singleton.1 hy]; exact hhi z hz
  · have : y ∈ l ↔ y ∈ l.take k ∨ y ∈ l.drop k := by rw [← List.mem_append, List.take_append_drop]
    rw [List.mem_append, List.mem_append, List.mem_append, ← hm y, this, List.mem_singleton]
    constructor
    · rintro ((h | h) | h)
      · exact .inl (.inl h)
      · exact .inr h
      · exact .inl (.inr h)
    · rintro ((h | h) | h)
      · exact .inl (.inl h)
      · exact .inr h
      · exact .inl (.inr h)
theorem AscOf.old {l xs : List Int} (h : AscOf l xs) (x : Int) (k : Nat) (hk : k < l.length) (hx : l[k] = x) : AscOf l (xs ++ [x]) := by
  obtain ⟨hs, hm, hl⟩ := h
  refine ⟨hs, fun y => ?_, by simp; omega⟩
  rw [List.mem_append, ← hm y, List.mem_singleton]
  constructor
  · exact fun h => .inl h
  · rintro (h | h)
    · exact h
    · rw [h, ← hx]; exact List.getElem_mem _

end Go.Proofs.YtdgpbpbjlnlijaaGreat
