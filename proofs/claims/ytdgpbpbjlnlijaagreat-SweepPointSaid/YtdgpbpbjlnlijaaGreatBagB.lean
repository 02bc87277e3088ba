/- Contracts of value.Compare, value.CompareRows, slices.Compare at ints, bag.Compare. -/
import Derived.Test.YtdgpbpbjlnlijaaGreatBagA
import Derived.Test.YtdgpbpbjlnlijaaGreatKeep
import Derived.Test.YtdgpbpbjlnlijaaGreatShelf
namespace Go.Proofs.YtdgpbpbjlnlijaaGreat
open Go.RowKit

@[reducible] def valV (x : Val) : Value := .agg #[.int .i64 x.kind, .int .i64 x.n, .string x.s]
def cmpS (a b : ByteArray) : Int := Lib.compareBytes a.data.toList b.data.toList
def cmpVal (a b : Val) : Int := orI [cmpI a.kind b.kind, cmpI a.n b.n, cmpS a.s b.s]

theorem or_new (W : World) (l : List Int) (T : TypeId) : ∀ k (h : k < l.length), (W.alloc (.cells (l.map (Value.int .i64)).toArray T)).cell? ⟨W.heap.size, 0 + k, none⟩ = some (.int .i64 l[k]) := by
  intro k h
  rw [Nat.zero_add, World.cell?_alloc_at _ _ _ _ rfl]
  simp [h]

set_option maxHeartbeats 1000000 in
theorem compare_val (a b : Val) (w : World) : Calls Tryz.prog 91 #[valV a, valV b] w fun e w' => e = .returned (.int .i64 (cmpVal a b)) ∧ Gro w w' := by
  obtain ⟨ak, an, sa⟩ := a
  obtain ⟨bk, bn, sb⟩ := b
  unfold cmpVal
  dsimp only
  go_enter Tryz.func91, Tryz.ntmps91
  go_wp2_with fail
  have c1 : ((w.alloc (.cells #[.int .i64 ak, .int .i64 an, .string sa] 35)).alloc (.cells #[.int .i64 bk, .int .i64 bn, .string sb] 35)).cell? ⟨w.heap.size, 0, none⟩ = some (.int .i64 ak) := by go_simp
  have c2 : ((w.alloc (.cells #[.int .i64 ak, .int .i64 an, .string sa] 35)).alloc (.cells #[.int .i64 bk, .int .i64 bn, .string sb] 35)).cell? ⟨w.heap.size, 1, none⟩ = some (.int .i64 an) := by go_simp
  have c3 : ((w.alloc (.cells #[.int .i64 ak, .int .i64 an, .string sa] 35)).alloc (.cells #[.int .i64 bk, .int .i64 bn, .string sb] 35)).cell? ⟨w.heap.size, 2, none⟩ = some (.string sa) := by go_simp
  have c4 : ((w.alloc (.cells #[.int .i64 ak, .int .i64 an, .string sa] 35)).alloc (.cells #[.int .i64 bk, .int .i64 bn, .string sb] 35)).cell? ⟨w.heap.size + 1, 0, none⟩ = some (.int .i64 bk) := by go_simp
  have c5 : ((w.alloc (.cells #[.int .i64 ak, .int .i64 an, .string sa] 35)).alloc (.cells #[.int .i64 bk, .int .i64 bn, .string sb] 35)).cell? ⟨w.heap.size + 1, 1, none⟩ = some (.int .i64 bn) := by go_simp
  have c6 : ((w.alloc (.cells #[.int .i64 ak, .int .i64 an, .string sa] 35)).alloc (.cells #[.int .i64 bk, .int .i64 bn, .string sb] 35)).cell? ⟨w.heap.size + 1, 2, none⟩ = some (.string sb) := by go_simp
  have hxx := ((Gro.refl w).alloc (.cells #[.int .i64 ak, .int .i64 an, .string sa] 35)).alloc (.cells #[.int .i64 bk, .int .i64 bn, .string sb] 35)
  generalize ((w.alloc (.cells #[.int .i64 ak, .int .i64 an, .string sa] 35)).alloc (.cells #[.int .i64 bk, .int .i64 bn, .string sb] 35)) = w1 at c1 c2 c3 c4 c5 c6 hxx ⊢
  go_region_held3 (fun w' => Gro w w' ∧ w'.cell? ⟨w.heap.size, 0, none⟩ = some (.int .i64 ak) ∧ w'.cell? ⟨w.heap.size, 1, none⟩ = some (.int .i64 an) ∧ w'.cell? ⟨w.heap.size, 2, none⟩ = some (.string sa) ∧ w'.cell? ⟨w.heap.size + 1, 0, none⟩ = some (.int .i64 bk) ∧ w'.cell? ⟨w.heap.size + 1, 1, none⟩ = some (.int .i64 bn) ∧ w'.cell? ⟨w.heap.size + 1, 2, none⟩ = some (.string sb))
    (first | exact ⟨hxx.drew, c1, c2, c3, c4, c5, c6⟩ | assumption | exact keepG6 (by assumption) ((Gro.refl _).alloc _))
    (first | (go_at_call 14; refine (compare_int _ _ _).mono ?_; rintro e w2 ⟨rfl, rfl⟩) | (go_at_call 99; refine (compare_int64 _ _ _).mono ?_; rintro e w2 ⟨rfl, rfl⟩) | (go_at_call 100; refine (Tryz.strings_Compare _ _ _).mono ?_; rintro e w2 ⟨rfl, rfl⟩) | (go_at_call 37; refine (or_any w1.heap.size 0 3 [cmpI ak bk, cmpI an bn, cmpS sa sb] _ (by simp [maxLen]) (by exact fun k hk => or_new w1 [cmpI ak bk, cmpI an bn, cmpS sa sb] 3 k hk)).mono ?_; rintro e w2 ⟨rfl, rfl⟩))
  all_goals (obtain ⟨hfin, _⟩ := ‹Gro w _ ∧ _›)
  all_goals go_wp2_with fail
  all_goals go_ret
  all_goals exact ⟨rfl, hfin⟩

end Go.Proofs.YtdgpbpbjlnlijaaGreat
