/- The sanity check of the laws of period: it returns true. -/
import Derived.Test.YtjhbndbfgbkccaaPerC
import Derived.Test.YtjhbndbfgbkccaaPerD
import Derived.Test.YtjhbndbfgbkccaaPerG
namespace Go.Proofs.Ytjhbndbfgbkccaa
open Go.RowKit

theorem compL_22 : compL 2 2 = [1] := by decide +kernel
theorem one_own {w : World} {base : Nat} {e : TypeId} {v : Value} {l : List Int} {x : Int} (h : w.ownsRow base e 1 v l.length (l.map (Value.int .i64))) (hl : l = [x]) :
    ∃ g cap, v = .slice (some ⟨g, 0, none⟩) 1 cap ∧ 1 ≤ cap ∧ cap ≤ maxLen ∧ w.cell? ⟨g, 0, none⟩ = some (.int .i64 x) := by
  subst hl
  obtain ⟨g, cap, h1, _, _, h4, h5, h6⟩ := own_cells h (by simp)
  exact ⟨g, cap, h1, h4, h5, h6 0 _ rfl⟩

set_option maxHeartbeats 1000000 in
theorem awake_any (w : World) : Calls Try.prog 12 #[] w fun e w' => e = .returned (.bool true) ∧ Ext w w' := by
  go_enter Try.func12, Try.ntmps12
  go_wp2_with fail
  refine (intersect_any 0 5 3 9 _).mono ?_
  rintro e w1 ⟨rfl, hx1⟩
  rw [interV_yes (x := 3) (y := 5) (by decide) (by decide) (by decide)]
  have hz1 := hx1.size
  simp at hz1
  have c1 : w1.cell? ⟨w.heap.size, 0, none⟩ = some (.int .i64 0) := hx1.at (by go_simp)
  have c2 : w1.cell? ⟨w.heap.size, 1, none⟩ = some (.int .i64 5) := hx1.at (by go_simp)
  have c3 : w1.cell? ⟨w.heap.size + 1, 0, none⟩ = some (.int .i64 3) := hx1.at (by go_simp)
  have c4 : w1.cell? ⟨w.heap.size + 1, 1, none⟩ = some (.int .i64 9) := hx1.at (by go_simp)
  have hxx := ((Ext.refl w).alloc _ |>.alloc _).trans hx1
  clear hx1
  go_wp2_with fail
  refine (compose_any 2 2 _).mono ?_
  rintro e w2 ⟨v, rfl, hown, hx2⟩
  obtain ⟨g, cap, rfl, hc1, hc2, hg⟩ := one_own hown compL_22
  unfold maxLen at hc2
  replace c1 := hx2.at (cell_alloc c1 _)
  replace c2 := hx2.at (cell_alloc c2 _)
  replace c3 := hx2.at (cell_alloc c3 _)
  replace c4 := hx2.at (cell_alloc c4 _)
  have c5 : w2.cell? ⟨w1.heap.size, 0, none⟩ = some (.int .i64 3) := hx2.at (by go_simp)
  have c6 : w2.cell? ⟨w1.heap.size, 1, none⟩ = some (.int .i64 5) := hx2.at (by go_simp)
  replace hxx := (hxx.alloc _).trans hx2
  clear hx2 hown
  go_wp2_with fail
  refine (relation_any 0 5 3 9 _ (by decide) (by decide)).mono ?_
  rintro e w3 ⟨rfl, hx3⟩
  rw [show relI 0 5 3 9 = 3 from by decide]
  replace c1 := hx3.at c1
  replace c2 := hx3.at c2
  replace c3 := hx3.at c3
  replace c4 := hx3.at c4
  replace c5 := hx3.at c5
  replace c6 := hx3.at c6
  replace hg := hx3.at hg
  replace hxx := hxx.trans hx3
  clear hx3
  go_wp2_with fail
  refine (inverse_any 3 _).mono ?_
  rintro e w4 ⟨rfl, rfl⟩
  rw [show invI 3 = 11 from by decide]
  go_wp2_with fail
  refine (vdays_any 0 5 _).mono ?_
  rintro e w5 ⟨rfl, hx5⟩
  rw [show vdaysB 0 5 = true from by decide]
  replace c1 := hx5.at c1
  replace c2 := hx5.at c2
  replace hxx := hxx.trans hx5
  clear hx5
  go_wp2_with fail
  refine (valid_any 0 5 _).mono ?_
  rintro e w6 ⟨rfl, hx6⟩
  rw [show validB 0 5 = true from by decide]
  replace hxx := hxx.trans hx6
  clear hx6
  go_wp2_with fail
  go_ret
  exact ⟨rfl, hxx⟩

end Go.Proofs.Ytjhbndbfgbkccaa
