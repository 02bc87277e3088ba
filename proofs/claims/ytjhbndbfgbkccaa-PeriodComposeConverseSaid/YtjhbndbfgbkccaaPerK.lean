/- The walk of PeriodRelation. -/
import Derived.Test.YtjhbndbfgbkccaaPerH
import Derived.Deep.RegionHeld3
namespace Go.Proofs.Ytjhbndbfgbkccaa
open Go.RowKit

theorem keep4 {W wa wb : World} {p1 p2 p3 p4 : Addr} {v1 v2 v3 v4 : Value} (h : Ext W wa ∧ wa.cell? p1 = some v1 ∧ wa.cell? p2 = some v2 ∧ wa.cell? p3 = some v3 ∧ wa.cell? p4 = some v4) (hx : Ext wa wb) :
    Ext W wb ∧ wb.cell? p1 = some v1 ∧ wb.cell? p2 = some v2 ∧ wb.cell? p3 = some v3 ∧ wb.cell? p4 = some v4 := ⟨h.1.trans hx, hx.at h.2.1, hx.at h.2.2.1, hx.at h.2.2.2.1, hx.at h.2.2.2.2⟩

set_option maxHeartbeats 2000000 in
theorem PeriodRelation_walk (a b c d t r : Int) (_ : (Lit.int .i64 a).wf = true) (_ : (Lit.int .i64 b).wf = true) (_ : (Lit.int .i64 c).wf = true) (_ : (Lit.int .i64 d).wf = true) (_ : (Lit.int .i64 t).wf = true) (_ : (Lit.int .i64 r).wf = true) (w : World) :
    Calls Try.prog 7 #[perV a b, perV c d, .int .i64 t, .int .i64 r] w fun e w' => e = .returned (.bool true) ∧ Ext w w' := by
  go_enter Try.func7, Try.ntmps7
  go_wp2_with fail
  have c1 : ((w.alloc (.cells #[.int .i64 a, .int .i64 b] 23)).alloc (.cells #[.int .i64 c, .int .i64 d] 23)).cell? ⟨w.heap.size, 0, none⟩ = some (.int .i64 a) := by go_simp
  have c2 : ((w.alloc (.cells #[.int .i64 a, .int .i64 b] 23)).alloc (.cells #[.int .i64 c, .int .i64 d] 23)).cell? ⟨w.heap.size, 1, none⟩ = some (.int .i64 b) := by go_simp
  have c3 : ((w.alloc (.cells #[.int .i64 a, .int .i64 b] 23)).alloc (.cells #[.int .i64 c, .int .i64 d] 23)).cell? ⟨w.heap.size + 1, 0, none⟩ = some (.int .i64 c) := by go_simp
  have c4 : ((w.alloc (.cells #[.int .i64 a, .int .i64 b] 23)).alloc (.cells #[.int .i64 c, .int .i64 d] 23)).cell? ⟨w.heap.size + 1, 1, none⟩ = some (.int .i64 d) := by go_simp
  have hxx := ((Ext.refl w).alloc (.cells #[.int .i64 a, .int .i64 b] 23)).alloc (.cells #[.int .i64 c, .int .i64 d] 23)
  generalize ((w.alloc (.cells #[.int .i64 a, .int .i64 b] 23)).alloc (.cells #[.int .i64 c, .int .i64 d] 23)) = w1 at c1 c2 c3 c4 hxx ⊢
  go_region_held3 (fun w' => Ext w w' ∧ w'.cell? ⟨w.heap.size, 0, none⟩ = some (.int .i64 a) ∧ w'.cell? ⟨w.heap.size, 1, none⟩ = some (.int .i64 b) ∧ w'.cell? ⟨w.heap.size + 1, 0, none⟩ = some (.int .i64 c) ∧ w'.cell? ⟨w.heap.size + 1, 1, none⟩ = some (.int .i64 d))
    (first | exact ⟨hxx.drew, c1, c2, c3, c4⟩ | exact keep4 (by assumption) hx | assumption)
    (first | (go_at_call 12; refine (awake_any _).mono ?_; rintro e w2 ⟨rfl, hx⟩) | (go_at_call 17; refine (valid_any _ _ _).mono ?_; rintro e w2 ⟨rfl, hx⟩) | (go_at_call 18; refine (vdays_any _ _ _).mono ?_; rintro e w2 ⟨rfl, hx⟩) | (go_at_call 20; refine (includes_any _ _ _ _).mono ?_; rintro e w2 ⟨rfl, hx⟩) | (go_at_call 10; refine (relation_all _ _ _ _ _).mono ?_; rintro e w2 ⟨rfl, hx⟩) | (go_at_call 11; refine (rvalid_any _ _ _).mono ?_; rintro e w2 ⟨rfl, hx⟩) | (go_at_call 19; refine (rvdays_any _ _ _).mono ?_; rintro e w2 ⟨rfl, hx⟩) | (go_at_call 21; refine (rincludes_any _ _ _ _).mono ?_; rintro e w2 ⟨rfl, hx⟩) | (go_at_call 22; refine (rrelation_all _ _ _ _ _).mono ?_; rintro e w2 ⟨rfl, hx⟩) | (go_at_call 13; refine (inverse_any _ _).mono ?_; rintro e w2 ⟨rfl, rfl⟩) | (go_at_call 23; refine (rinverse_any _ _).mono ?_; rintro e w2 ⟨rfl, rfl⟩))
  all_goals (obtain ⟨hfin, _⟩ := ‹Ext w _ ∧ _›)
  all_goals go_wp2_with fail
  all_goals go_ret
  all_goals exact ⟨rfl, hfin⟩

end Go.Proofs.Ytjhbndbfgbkccaa
