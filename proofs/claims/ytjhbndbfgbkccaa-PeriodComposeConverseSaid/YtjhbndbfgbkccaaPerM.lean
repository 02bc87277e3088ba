/- The walk of PeriodOperations. -/
import Derived.Test.YtjhbndbfgbkccaaPerK
namespace Go.Proofs.Ytjhbndbfgbkccaa
open Go.RowKit

theorem keep8 {W wa wb : World} {p1 p2 p3 p4 p5 p6 p7 p8 : Addr} {v1 v2 v3 v4 v5 v6 v7 v8 : Value} (h : Ext W wa ∧ wa.cell? p1 = some v1 ∧ wa.cell? p2 = some v2 ∧ wa.cell? p3 = some v3 ∧ wa.cell? p4 = some v4 ∧ wa.cell? p5 = some v5 ∧ wa.cell? p6 = some v6 ∧ wa.cell? p7 = some v7 ∧ wa.cell? p8 = some v8) (hx : Ext wa wb) :
    Ext W wb ∧ wb.cell? p1 = some v1 ∧ wb.cell? p2 = some v2 ∧ wb.cell? p3 = some v3 ∧ wb.cell? p4 = some v4 ∧ wb.cell? p5 = some v5 ∧ wb.cell? p6 = some v6 ∧ wb.cell? p7 = some v7 ∧ wb.cell? p8 = some v8 :=
  ⟨h.1.trans hx, hx.at h.2.1, hx.at h.2.2.1, hx.at h.2.2.2.1, hx.at h.2.2.2.2.1, hx.at h.2.2.2.2.2.1, hx.at h.2.2.2.2.2.2.1, hx.at h.2.2.2.2.2.2.2.1, hx.at h.2.2.2.2.2.2.2.2⟩
theorem interV_form (a b c d : Int) : ∃ x y o, interV a b c d = .tuple #[perV x y, .bool o] := by
  unfold interV
  split
  · exact ⟨_, _, _, rfl⟩
  · exact ⟨_, _, _, rfl⟩

set_option maxHeartbeats 2000000 in
theorem PeriodOperations_walk (a b c d : Int) (_ : (Lit.int .i64 a).wf = true) (_ : (Lit.int .i64 b).wf = true) (_ : (Lit.int .i64 c).wf = true) (_ : (Lit.int .i64 d).wf = true) (w : World) :
    Calls Try.prog 8 #[perV a b, perV c d] w fun e w' => e = .returned (.bool true) ∧ Ext w w' := by
  obtain ⟨x, y, o, hv⟩ := interV_form a b c d
  have HV := Lib.hid hv
  clear hv
  go_enter Try.func8, Try.ntmps8
  go_wp2_with fail
  refine (intersect_any _ _ _ _ _).mono ?_
  rintro e w1 ⟨rfl, hx1⟩
  rw [HV.out]
  have c1 : w1.cell? ⟨w.heap.size, 0, none⟩ = some (.int .i64 a) := hx1.at (by go_simp)
  have c2 : w1.cell? ⟨w.heap.size, 1, none⟩ = some (.int .i64 b) := hx1.at (by go_simp)
  have c3 : w1.cell? ⟨w.heap.size + 1, 0, none⟩ = some (.int .i64 c) := hx1.at (by go_simp)
  have c4 : w1.cell? ⟨w.heap.size + 1, 1, none⟩ = some (.int .i64 d) := hx1.at (by go_simp)
  have hz1 : w.heap.size < w1.heap.size := cell_lt c1
  have hz2 : w.heap.size + 1 < w1.heap.size := cell_lt c3
  have hxx := ((Ext.refl w).alloc _ |>.alloc _).trans hx1
  clear hx1
  go_wp2_with fail
  refine (rintersect_any _ _ _ _ _).mono ?_
  rintro e w2 ⟨rfl, hx2⟩
  rw [HV.out]
  replace c1 := hx2.at (cell_alloc c1 _)
  replace c2 := hx2.at (cell_alloc c2 _)
  replace c3 := hx2.at (cell_alloc c3 _)
  replace c4 := hx2.at (cell_alloc c4 _)
  have c5 : w2.cell? ⟨w1.heap.size, 0, none⟩ = some (.int .i64 x) := hx2.at (by go_simp)
  have c6 : w2.cell? ⟨w1.heap.size, 1, none⟩ = some (.int .i64 y) := hx2.at (by go_simp)
  replace hxx := (hxx.alloc _).trans hx2
  clear hx2 hz1 hz2
  go_wp2_with fail
  replace c1 := cell_alloc c1 (.cells #[.int .i64 x, .int .i64 y] 23)
  replace c2 := cell_alloc c2 (.cells #[.int .i64 x, .int .i64 y] 23)
  replace c3 := cell_alloc c3 (.cells #[.int .i64 x, .int .i64 y] 23)
  replace c4 := cell_alloc c4 (.cells #[.int .i64 x, .int .i64 y] 23)
  replace c5 := cell_alloc c5 (.cells #[.int .i64 x, .int .i64 y] 23)
  replace c6 := cell_alloc c6 (.cells #[.int .i64 x, .int .i64 y] 23)
  have c7 : (w2.alloc (.cells #[.int .i64 x, .int .i64 y] 23)).cell? ⟨w2.heap.size, 0, none⟩ = some (.int .i64 x) := by go_simp
  have c8 : (w2.alloc (.cells #[.int .i64 x, .int .i64 y] 23)).cell? ⟨w2.heap.size, 1, none⟩ = some (.int .i64 y) := by go_simp
  replace hxx := hxx.alloc (.cells #[.int .i64 x, .int .i64 y] 23)
  generalize w2.alloc (.cells #[.int .i64 x, .int .i64 y] 23) = w3 at c1 c2 c3 c4 c5 c6 c7 c8 hxx ⊢
  go_region_held3 (fun w' => Ext w w' ∧ w'.cell? ⟨w.heap.size, 0, none⟩ = some (.int .i64 a) ∧ w'.cell? ⟨w.heap.size, 1, none⟩ = some (.int .i64 b) ∧ w'.cell? ⟨w.heap.size + 1, 0, none⟩ = some (.int .i64 c) ∧ w'.cell? ⟨w.heap.size + 1, 1, none⟩ = some (.int .i64 d) ∧ w'.cell? ⟨w1.heap.size, 0, none⟩ = some (.int .i64 x) ∧ w'.cell? ⟨w1.heap.size, 1, none⟩ = some (.int .i64 y) ∧ w'.cell? ⟨w2.heap.size, 0, none⟩ = some (.int .i64 x) ∧ w'.cell? ⟨w2.heap.size, 1, none⟩ = some (.int .i64 y))
    (first | exact ⟨hxx.drew, c1, c2, c3, c4, c5, c6, c7, c8⟩ | exact keep8 (by assumption) hxd | exact keep8 (by assumption) hxc | exact keep8 (by assumption) hxb | exact keep8 (by assumption) hxa)
    (first | (go_at_call 12; refine (awake_any _).mono ?_; rintro e wa ⟨rfl, hxa⟩) | (go_at_call 27; refine (subtract_any _ _ _ _ _).mono ?_; rintro e wb ⟨vb, rfl, hsb, hxb⟩) | (go_at_call 28; refine (rsubtract_any _ _ _ _ _).mono ?_; rintro e wc ⟨vc, rfl, hsc, hxc⟩) | (go_at_call 26; refine (samePeriods_any _ _ _ _ _ (SliceAt.ext hsb hxc) hsc).mono ?_; rintro e wd ⟨rfl, hxd⟩; rw [decide_eq_true (Eq.refl _)]))
  all_goals (obtain ⟨hfin, _⟩ := ‹Ext w _ ∧ _›)
  all_goals go_wp2_with fail
  all_goals go_ret
  all_goals exact ⟨rfl, hfin⟩

end Go.Proofs.Ytjhbndbfgbkccaa
