/- the laws' sanity check (annalistlaw8.awake) -/
import Derived.Test.YtdgpbpbjlnlijaaGreatBagO
import Derived.Test.YtdgpbpbjlnlijaaGreatGenA
namespace Go.Proofs.YtdgpbpbjlnlijaaGreat
open Go.RowKit

def r1 : Row := ⟨[nV], [1]⟩
def r2 : Row := ⟨[nV], [2]⟩
theorem merge_awake : mergeL [3, 1] [2, 3] = [1, 2, 3] :=
  asc_unique (mergeL_law _ _).1 (by decide) fun x => by rw [(mergeL_law _ _).2]; simp; omega
theorem cmp_awake : cmpRow r1 r2 = -1 := by decide
theorem cmp_awake2 : cmpRow r1 r1 = 0 := (ord_row.eq _ _).2 rfl
theorem sort_awake : sortBy cmpRow [r2, r1] = [r1, r2] :=
  (sortBy_unique ord_row (List.Perm.swap _ _ _) (by simp [cmp_awake])).symm
theorem mult_nV (l : List Row) (h : ∀ r ∈ l, r.vals = [nV]) : mult [nV] l = l.length := by
  unfold mult
  rw [List.countP_eq_length]
  intro r hr
  rw [h r hr, (ord_vals.eq _ _).2 rfl]
  rfl
theorem lost_awake : surpA [r2] [] (sortBy cmpRow [r2, r1]) = [r2] := by
  rw [sort_awake, surpA_run _ _ _ [nV] (by simp [r1, r2]), mult_nV _ (by simp [r2])]
  rfl
theorem gained_awake : surpA [r2, r1] [] (sortBy cmpRow [r2]) = [] := by
  rw [sortBy_short _ _ (by simp), surpA_run _ _ _ [nV] (by simp [r2]), mult_nV _ (by simp [r1, r2])]
  rfl
theorem equal_awake : eqB (sortBy cmpRow [r2, r1]) (sortBy cmpRow (sortBy cmpRow [r2, r1])) = true := by
  rw [eqB_iff]
  exact sortBy_unique ord_row (List.Perm.refl _) (sortBy_pair ord_row _)
theorem fit_awake : fitRows [r2, r1] := ⟨by simp, by simp [fitR, r1, r2]⟩

/-- data that a literal has just laid -/
theorem ints_lit (w : World) (T : TypeId) (xs : List Int) (hr : inR xs) (hl : xs.length ≤ maxLen) :
    SliceOf Rep.int (w.alloc (.cells (xs.map (Value.int .i64)).toArray T)).cell? (.slice (some ⟨w.heap.size, 0, none⟩) xs.length xs.length) xs :=
  slice_lit Rep.int w _ T _ xs (flat_ints xs) (ints_repAll _ _ hr) hl

theorem val_one (h : View) (b : Nat) (x : Val) (hr : (-9223372036854775808 ≤ x.kind ∧ x.kind ≤ 9223372036854775807) ∧ (-9223372036854775808 ≤ x.n ∧ x.n ≤ 9223372036854775807) ∧ x.s.size ≤ maxLen)
    (h0 : h ⟨b, 0, none⟩ = some (.int .i64 x.kind)) (h1 : h ⟨b, 1, none⟩ = some (.int .i64 x.n)) (h2 : h ⟨b, 2, none⟩ = some (.string x.s)) : SliceOf Rep.val h (.slice (some ⟨b, 0, none⟩) 1 1) [x] :=
  ⟨[[.int .i64 x.kind, .int .i64 x.n, .string x.s]], ⟨⟨rfl, hr⟩, trivial⟩, .inr ⟨_, 1, rfl, Nat.le_refl _, by simp [maxLen], .inr ⟨b, 0, rfl, fun j u hj => by
    match j, hj with
    | 0, hj => simp at hj; rw [← hj]; exact h0
    | 1, hj => simp at hj; rw [← hj]; exact h1
    | 2, hj => simp at hj; rw [← hj]; exact h2⟩⟩⟩
theorem int_one (h : View) (b : Nat) (x : Int) (hr : -9223372036854775808 ≤ x ∧ x ≤ 9223372036854775807) (h0 : h ⟨b, 0, none⟩ = some (.int .i64 x)) : SliceOf Rep.int h (.slice (some ⟨b, 0, none⟩) 1 1) [x] :=
  ⟨[[.int .i64 x]], ⟨⟨rfl, hr⟩, trivial⟩, .inr ⟨_, 1, rfl, Nat.le_refl _, by simp [maxLen], .inr ⟨b, 0, rfl, fun j u hj => by
    match j, hj with
    | 0, hj => simp at hj; rw [← hj]; exact h0⟩⟩⟩
theorem row_two (h : View) (b : Nat) (x y : Row) (u1 u2 v1 v2 : Value) (g1 : SliceOf Rep.val h u1 x.vals) (g2 : SliceOf Rep.int h u2 x.lin) (g3 : SliceOf Rep.val h v1 y.vals) (g4 : SliceOf Rep.int h v2 y.lin)
    (h0 : h ⟨b, 0, none⟩ = some u1) (h1 : h ⟨b, 1, none⟩ = some u2) (h2 : h ⟨b, 2, none⟩ = some v1) (h3 : h ⟨b, 3, none⟩ = some v2) : SliceOf Rep.row h (.slice (some ⟨b, 0, none⟩) 2 2) [x, y] :=
  ⟨[[u1, u2], [v1, v2]], ⟨⟨_, _, rfl, g1, g2⟩, ⟨_, _, rfl, g3, g4⟩, trivial⟩, .inr ⟨_, 2, rfl, Nat.le_refl _, by simp [maxLen], .inr ⟨b, 0, rfl, fun j u hj => by
    match j, hj with
    | 0, hj => simp at hj; rw [← hj]; exact h0
    | 1, hj => simp at hj; rw [← hj]; exact h1
    | 2, hj => simp at hj; rw [← hj]; exact h2
    | 3, hj => simp at hj; rw [← hj]; exact h3⟩⟩⟩

end Go.Proofs.YtdgpbpbjlnlijaaGreat
