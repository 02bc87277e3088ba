/- the pairs as a row of cells; the comparisons of starts and of pairs -/
import Derived.Test.YtdgpbpbjlnlijaaGreatPerS
import Derived.Test.YtdgpbpbjlnlijaaGreatStabX
import Derived.Test.YtdgpbpbjlnlijaaGreatBagB
namespace Go.Proofs.YtdgpbpbjlnlijaaGreat
open Go.RowKit Go.Shelf Go.Sort

instance : Inhabited Pair := ⟨⟨0, 0, 0, 0⟩⟩
def pairEnc (x : Pair) : List Value := [.int .i64 x.a, .int .i64 x.b, .int .i64 x.from_, .int .i64 x.to_]
def okP (x : Pair) : Prop := (x.a ≤ 1048576 ∧ x.b ≤ 1048576) ∧ (-9223372036854775808 ≤ x.from_ ∧ x.from_ ≤ 9223372036854775807) ∧ (-9223372036854775808 ≤ x.to_ ∧ x.to_ ≤ 9223372036854775807)
def Rep.pair : Rep Pair where
  size := 4
  holds _ cs x := cs = pairEnc x ∧ okP x
  len := by rintro w cs x ⟨rfl, _⟩; rfl
  ext := by rintro w w' cs x h _; exact h
  one := by rintro w cs x ⟨rfl, _⟩; simp [pairEnc, Value.oneCell']
theorem flat_pair : Rep.pair.flat := fun _ _ _ _ h => h

set_option maxHeartbeats 1000000 in
theorem cmpEv_any (x y : Ev) (w : World) : Calls Tryz.prog 13 #[.agg (evEnc x).toArray, .agg (evEnc y).toArray] w fun e w' => e = .returned (.int .i64 (cmpEv x y)) ∧ Gro w w' := by
  unfold evEnc cmpEv
  generalize sideI x.side = s1
  generalize sideI y.side = s2
  obtain ⟨_, i1, f1, _⟩ := x
  obtain ⟨_, i2, f2, _⟩ := y
  dsimp only
  go_enter Tryz.func13, Tryz.ntmps13
  go_wp2_with fail
  refine (compare_int _ _ _).mono ?_
  rintro e w1 ⟨rfl, rfl⟩
  go_wp2_with fail
  go_ret
  exact ⟨rfl, ((Gro.refl w).alloc _).alloc _⟩

set_option maxHeartbeats 4000000 in
theorem comparePairs_any (x y : Pair) (w : World) : Calls Tryz.prog 19 #[.agg (pairEnc x).toArray, .agg (pairEnc y).toArray] w fun e w' => e = .returned (.int .i64 (cmpPair x y)) ∧ Gro w w' := by
  obtain ⟨a1, b1, f1, t1⟩ := x
  obtain ⟨a2, b2, f2, t2⟩ := y
  have hor : cmpPair ⟨a1, b1, f1, t1⟩ ⟨a2, b2, f2, t2⟩ = orI [cmpI f1 f2, cmpI a1 a2, cmpI b1 b2] := by
    simp only [cmpPair, orI]
    (repeat' split) <;> simp_all
  have HO := Lib.hid hor
  clear hor
  unfold pairEnc
  dsimp only
  go_enter Tryz.func19, Tryz.ntmps19
  go_wp2_with fail
  have c1 : ((w.alloc (.cells #[.int .i64 a1, .int .i64 b1, .int .i64 f1, .int .i64 t1] 31)).alloc (.cells #[.int .i64 a2, .int .i64 b2, .int .i64 f2, .int .i64 t2] 31)).cell? ⟨w.heap.size, 0, none⟩ = some (.int .i64 a1) := by go_simp
  have c2 : ((w.alloc (.cells #[.int .i64 a1, .int .i64 b1, .int .i64 f1, .int .i64 t1] 31)).alloc (.cells #[.int .i64 a2, .int .i64 b2, .int .i64 f2, .int .i64 t2] 31)).cell? ⟨w.heap.size, 1, none⟩ = some (.int .i64 b1) := by go_simp
  have c3 : ((w.alloc (.cells #[.int .i64 a1, .int .i64 b1, .int .i64 f1, .int .i64 t1] 31)).alloc (.cells #[.int .i64 a2, .int .i64 b2, .int .i64 f2, .int .i64 t2] 31)).cell? ⟨w.heap.size, 2, none⟩ = some (.int .i64 f1) := by go_simp
  have c4 : ((w.alloc (.cells #[.int .i64 a1, .int .i64 b1, .int .i64 f1, .int .i64 t1] 31)).alloc (.cells #[.int .i64 a2, .int .i64 b2, .int .i64 f2, .int .i64 t2] 31)).cell? ⟨w.heap.size + 1, 0, none⟩ = some (.int .i64 a2) := by go_simp
  have c5 : ((w.alloc (.cells #[.int .i64 a1, .int .i64 b1, .int .i64 f1, .int .i64 t1] 31)).alloc (.cells #[.int .i64 a2, .int .i64 b2, .int .i64 f2, .int .i64 t2] 31)).cell? ⟨w.heap.size + 1, 1, none⟩ = some (.int .i64 b2) := by go_simp
  have c6 : ((w.alloc (.cells #[.int .i64 a1, .int .i64 b1, .int .i64 f1, .int .i64 t1] 31)).alloc (.cells #[.int .i64 a2, .int .i64 b2, .int .i64 f2, .int .i64 t2] 31)).cell? ⟨w.heap.size + 1, 2, none⟩ = some (.int .i64 f2) := by go_simp
  have hxx := ((Gro.refl w).alloc (.cells #[.int .i64 a1, .int .i64 b1, .int .i64 f1, .int .i64 t1] 31)).alloc (.cells #[.int .i64 a2, .int .i64 b2, .int .i64 f2, .int .i64 t2] 31)
  generalize ((w.alloc (.cells #[.int .i64 a1, .int .i64 b1, .int .i64 f1, .int .i64 t1] 31)).alloc (.cells #[.int .i64 a2, .int .i64 b2, .int .i64 f2, .int .i64 t2] 31)) = w1 at c1 c2 c3 c4 c5 c6 hxx ⊢
  go_region_held3 (fun w' => Gro w w' ∧ w'.cell? ⟨w.heap.size, 0, none⟩ = some (.int .i64 a1) ∧ w'.cell? ⟨w.heap.size, 1, none⟩ = some (.int .i64 b1) ∧ w'.cell? ⟨w.heap.size, 2, none⟩ = some (.int .i64 f1) ∧ w'.cell? ⟨w.heap.size + 1, 0, none⟩ = some (.int .i64 a2) ∧ w'.cell? ⟨w.heap.size + 1, 1, none⟩ = some (.int .i64 b2) ∧ w'.cell? ⟨w.heap.size + 1, 2, none⟩ = some (.int .i64 f2))
    (first | exact ⟨hxx.drew, c1, c2, c3, c4, c5, c6⟩ | assumption | exact keepG6 (by assumption) ((Gro.refl _).alloc _))
    (first | (go_at_call 14; refine (compare_int _ _ _).mono ?_; rintro e w2 ⟨rfl, rfl⟩) | (go_at_call 37; refine (or_any w1.heap.size 0 3 [cmpI f1 f2, cmpI a1 a2, cmpI b1 b2] _ (by simp [maxLen]) (by exact fun k hk => or_new w1 [cmpI f1 f2, cmpI a1 a2, cmpI b1 b2] 3 k hk)).mono ?_; rintro e w2 ⟨rfl, rfl⟩))
  all_goals (obtain ⟨hfin, _⟩ := ‹Gro w _ ∧ _›)
  all_goals go_wp2_with fail
  all_goals go_ret
  all_goals rw [HO.out]
  all_goals exact ⟨rfl, hfin⟩

end Go.Proofs.YtdgpbpbjlnlijaaGreat
