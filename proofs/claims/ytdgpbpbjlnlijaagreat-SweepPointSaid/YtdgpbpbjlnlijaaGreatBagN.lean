/- bag.Diff -/
import Derived.Test.YtdgpbpbjlnlijaaGreatBagM
namespace Go.Proofs.YtdgpbpbjlnlijaaGreat
open Go.RowKit Go.Deep

/-- the rows that go beyond b's multiplicity, in their order; pre: those that came before -/
def surpA (b : List Row) : List Row → List Row → List Row
  | _, [] => []
  | pre, r :: rest => if mult r.vals b ≤ mult r.vals pre then r :: surpA b (pre ++ [r]) rest else surpA b (pre ++ [r]) rest
theorem surpA_append (b pre x y : List Row) : surpA b pre (x ++ y) = surpA b pre x ++ surpA b (pre ++ x) y := by
  induction x generalizing pre with
  | nil => simp [surpA]
  | cons r x ih =>
    simp only [List.cons_append, surpA]
    split <;> rw [ih] <;> simp
theorem mult_append (vs : List Val) (x y : List Row) : mult vs (x ++ y) = mult vs x + mult vs y := by simp [mult, List.countP_append]
theorem mult_one {vs : List Val} {r : Row} (h : r.vals = vs) : mult vs [r] = 1 := by
  simp [mult, h, (ord_vals.eq vs vs).2 rfl]
theorem mult_zero {vs : List Val} {l : List Row} (h : ∀ p ∈ l, p.vals ≠ vs) : mult vs l = 0 := by
  unfold mult
  rw [List.countP_eq_zero]
  intro p hp
  simpa [ord_vals.eq] using h p hp
theorem surpA_run (b run pre : List Row) (v : List Val) (h : ∀ r ∈ run, r.vals = v) : surpA b pre run = run.drop (mult v b - mult v pre) := by
  induction run generalizing pre with
  | nil => simp [surpA]
  | cons r run ih =>
    have hr := h r (by simp)
    have h1 : mult v (pre ++ [r]) = mult v pre + 1 := by rw [mult_append, mult_one hr]
    simp only [surpA]
    rw [ih (pre ++ [r]) (fun s hs => h s (by simp [hs])), h1, hr]
    split
    · rw [show mult v b - mult v pre = 0 from by omega, show mult v b - (mult v pre + 1) = 0 from by omega]
      rfl
    · rw [show mult v b - mult v pre = (mult v b - (mult v pre + 1)) + 1 from by omega]
      rfl
theorem surpA_len (b pre l : List Row) : (surpA b pre l).length ≤ l.length := by
  induction l generalizing pre with
  | nil => simp [surpA]
  | cons r l ih =>
    have := ih (pre ++ [r])
    simp only [surpA]
    split <;> simp <;> omega
theorem cmpRow_vals {a b : Row} (h : cmpRow a b ≤ 0) : cmpVals a.vals b.vals ≤ 0 := by
  unfold cmpRow orI at h
  split at h
  · omega
  · exact h
/-- in a sorted list the values of a run have not stood before it -/
theorem fresh_run {l pre run rest : List Row} {v : List Val} (hs : l.Pairwise fun a b => cmpRow a b ≤ 0) (hl : l = pre ++ run ++ rest) (hne : run ≠ []) (hv : ∀ r ∈ run, r.vals = v) (hlast : ∀ p, pre.getLast? = some p → p.vals ≠ v) : mult v pre = 0 := by
  refine mult_zero fun p hp hpv => ?_
  obtain ⟨r, hr⟩ := List.exists_mem_of_ne_nil run hne
  cases hq : pre.getLast? with
  | none => rw [List.getLast?_eq_none_iff.1 hq] at hp; simp at hp
  | some q =>
    have hqm := List.mem_of_getLast? hq
    subst hl
    rw [List.pairwise_append] at hs
    obtain ⟨hs, _, _⟩ := hs
    rw [List.pairwise_append] at hs
    obtain ⟨hs1, _, hs2⟩ := hs
    have h1 := cmpRow_vals (hs2 q hqm r hr)
    have h2 : cmpVals p.vals q.vals ≤ 0 := by
      obtain ⟨pre', rfl⟩ : ∃ pre', pre = pre' ++ [q] := by
        refine ⟨pre.dropLast, ?_⟩
        have hn : pre ≠ [] := fun e => by rw [e] at hp; simp at hp
        have := List.dropLast_concat_getLast hn
        rw [List.getLast?_eq_some_getLast hn] at hq
        injection hq with hq
        rw [hq] at this
        exact this.symm
      rw [List.pairwise_append] at hs1
      rcases List.mem_append.1 hp with hp | hp
      · exact cmpRow_vals (hs1.2.2 p hp q (by simp))
      · rw [List.mem_singleton.1 hp, (ord_vals.eq _ _).2 rfl]; exact Int.le_refl _
    rw [hv r hr] at h1
    rw [hpv] at h2
    exact hlast q hq (ord_vals.le_anti _ _ h1 h2)
theorem surp_step {l b : List Row} (hs : l.Pairwise fun a b => cmpRow a b ≤ 0) {rs : List (List Row)} (hr : Runs rs) (hl : rs.flatten = l) (k : Nat) (hk : k < rs.length) :
    ∃ v, rs[k] ≠ [] ∧ (∀ r ∈ rs[k], r.vals = v) ∧ surpA b [] (rs.take (k + 1)).flatten = surpA b [] (rs.take k).flatten ++ rs[k].drop (mult v b) := by
  obtain ⟨v, h1, h2, h3⟩ := hr.at k hk
  refine ⟨v, h1, h2, ?_⟩
  have h4 : mult v (rs.take k).flatten = 0 := by
    refine fresh_run (rest := (rs.drop (k + 1)).flatten) hs ?_ h1 h2 h3
    rw [← hl, ← flatten_take rs k hk, ← List.flatten_append, List.take_append_drop]
  rw [flatten_take rs k hk, surpA_append, List.nil_append, surpA_run b rs[k] _ v h2, h4, Nat.sub_zero]

end Go.Proofs.YtdgpbpbjlnlijaaGreat
