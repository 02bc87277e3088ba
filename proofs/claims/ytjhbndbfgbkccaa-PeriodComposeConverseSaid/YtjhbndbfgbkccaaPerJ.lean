/- The walk of PeriodConverse. -/
import Derived.Test.YtjhbndbfgbkccaaPerH
namespace Go.Proofs.Ytjhbndbfgbkccaa
open Go.RowKit

theorem relI_bd (a b c d : Int) : 1 ≤ relI a b c d ∧ relI a b c d ≤ 13 := by unfold relI; (repeat' split) <;> omega
theorem invI_invI (r : Int) (h : 1 ≤ r ∧ r ≤ 13) : invI (invI r) = r := by
  have e : invI r = 14 - r := by unfold invI; rw [if_pos h]
  rw [e]; unfold invI; rw [if_pos (by omega)]; omega
theorem relI_inv (a b c d : Int) (h1 : a < b) (h2 : c < d) : relI c d a b = invI (relI a b c d) := by
  have e : invI (relI a b c d) = 14 - relI a b c d := by unfold invI; rw [if_pos (relI_bd a b c d)]
  rw [e]; unfold relI; (repeat' split) <;> omega
theorem relI_seven (a b c d : Int) (h1 : a < b) (h2 : c < d) : relI a b c d = 7 ↔ (a = c ∧ b = d) := by
  unfold relI; (repeat' split) <;> (simp; try omega)
theorem and_false {p q : Bool} (h : ¬ (p = true ∧ q = true)) : (p && q) = false := by cases p <;> cases q <;> simp_all

set_option maxHeartbeats 1000000 in
theorem PeriodConverse_no (a b c d : Int) (w : World) (hv : (validB a b && validB c d) = false) :
    Calls Try.prog 3 #[perV a b, perV c d] w fun e w' => e = .returned (.bool true) ∧ Ext w w' := by
  have hr : relA a b c d = 0 := by unfold relA; rw [hv]; rfl
  have HR := Lib.hid hr
  clear hr
  cases h1 : validB a b with
  | false =>
    have H1 := Lib.hid h1
    clear h1 hv
    go_enter Try.func3, Try.ntmps3
    go_wp2_with fail
    refine (relation_all _ _ _ _ _).mono ?_
    rintro e w1 ⟨rfl, hx1⟩
    rw [HR.out]
    have c1 : w1.cell? ⟨w.heap.size, 0, none⟩ = some (.int .i64 a) := hx1.at (by go_simp)
    have c2 : w1.cell? ⟨w.heap.size, 1, none⟩ = some (.int .i64 b) := hx1.at (by go_simp)
    have hxx := ((Ext.refl w).alloc _ |>.alloc _).trans hx1
    clear hx1
    go_wp2_with fail
    refine (rvalid_any _ _ _).mono ?_
    rintro e w2 ⟨rfl, hx2⟩
    rw [H1.out]
    replace hxx := hxx.trans hx2
    clear hx2
    go_wp2_with fail
    refine (awake_any _).mono ?_
    rintro e w3 ⟨rfl, hx3⟩
    replace hxx := hxx.trans hx3
    clear hx3
    go_wp2_with fail
    go_ret
    exact ⟨rfl, hxx⟩
  | true =>
    have h2 : validB c d = false := by simpa [h1] using hv
    have H1 := Lib.hid h1
    have H2 := Lib.hid h2
    clear h1 hv h2
    go_enter Try.func3, Try.ntmps3
    go_wp2_with fail
    refine (relation_all _ _ _ _ _).mono ?_
    rintro e w1 ⟨rfl, hx1⟩
    rw [HR.out]
    have c1 : w1.cell? ⟨w.heap.size, 0, none⟩ = some (.int .i64 a) := hx1.at (by go_simp)
    have c2 : w1.cell? ⟨w.heap.size, 1, none⟩ = some (.int .i64 b) := hx1.at (by go_simp)
    have c3 : w1.cell? ⟨w.heap.size + 1, 0, none⟩ = some (.int .i64 c) := hx1.at (by go_simp)
    have c4 : w1.cell? ⟨w.heap.size + 1, 1, none⟩ = some (.int .i64 d) := hx1.at (by go_simp)
    have hxx := ((Ext.refl w).alloc _ |>.alloc _).trans hx1
    clear hx1
    go_wp2_with fail
    refine (rvalid_any _ _ _).mono ?_
    rintro e w2 ⟨rfl, hx2⟩
    rw [H1.out]
    replace hxx := hxx.trans hx2
    replace c3 := hx2.at c3
    replace c4 := hx2.at c4
    clear hx2 c1 c2
    go_wp2_with fail
    refine (rvalid_any _ _ _).mono ?_
    rintro e w3 ⟨rfl, hx3⟩
    rw [H2.out]
    replace hxx := hxx.trans hx3
    clear hx3
    go_wp2_with fail
    refine (awake_any _).mono ?_
    rintro e w4 ⟨rfl, hx4⟩
    replace hxx := hxx.trans hx4
    clear hx4
    go_wp2_with fail
    go_ret
    exact ⟨rfl, hxx⟩

set_option maxHeartbeats 1000000 in
theorem PeriodConverse_yes (a b c d : Int) (w : World) (h1 : validB a b = true) (h2 : validB c d = true) :
    Calls Try.prog 3 #[perV a b, perV c d] w fun e w' => e = .returned (.bool true) ∧ Ext w w' := by
  have hlt1 := (validB_lt h1).2.1
  have hlt2 := (validB_lt h2).2.1
  have hr : relA a b c d = relI a b c d := by unfold relA; rw [h1, h2]; rfl
  have hr' : relA c d a b = invI (relI a b c d) := by rw [← relI_inv a b c d hlt1 hlt2]; unfold relA; rw [h1, h2]; rfl
  have hbd := relI_bd a b c d
  have hii := invI_invI _ hbd
  have h7 := relI_seven a b c d hlt1 hlt2
  generalize relI a b c d = q at hr hr' hbd hii h7
  obtain ⟨hq1, hq2⟩ := hbd
  have HR := Lib.hid hr
  have HR' := Lib.hid hr'
  have HI := Lib.hid hii
  have H1 := Lib.hid h1
  have H2 := Lib.hid h2
  clear hr hr' hii h1 h2 hlt1 hlt2
  have hor : ((q == 7) = true ∧ (a == c) = true ∧ (b == d) = true) ∨ ((q == 7) = false ∧ (a == c) = false) ∨ ((q == 7) = false ∧ (a == c) = true ∧ (b == d) = false) := by
    by_cases e1 : a = c
    · by_cases e2 : b = d
      · exact .inl ⟨by simp [h7.2 ⟨e1, e2⟩], by simp [e1], by simp [e2]⟩
      · exact .inr (.inr ⟨by simp; exact fun h => e2 (h7.1 h).2, by simp [e1], by simp [e2]⟩)
    · exact .inr (.inl ⟨by simp; exact fun h => e1 (h7.1 h).1, by simp [e1]⟩)
  clear h7
  rcases hor with ⟨g1, g2, g3⟩ | ⟨g1, g2⟩ | ⟨g1, g2, g3⟩
  all_goals
    go_enter Try.func3, Try.ntmps3
    go_wp2_with fail
    refine (relation_all _ _ _ _ _).mono ?_
    rintro e w1 ⟨rfl, hx1⟩
    rw [HR.out]
    have c1 : w1.cell? ⟨w.heap.size, 0, none⟩ = some (.int .i64 a) := hx1.at (by go_simp)
    have c2 : w1.cell? ⟨w.heap.size, 1, none⟩ = some (.int .i64 b) := hx1.at (by go_simp)
    have c3 : w1.cell? ⟨w.heap.size + 1, 0, none⟩ = some (.int .i64 c) := hx1.at (by go_simp)
    have c4 : w1.cell? ⟨w.heap.size + 1, 1, none⟩ = some (.int .i64 d) := hx1.at (by go_simp)
    have hxx := ((Ext.refl w).alloc _ |>.alloc _).trans hx1
    clear hx1
    go_wp2_with fail
    refine (rvalid_any _ _ _).mono ?_
    rintro e w2 ⟨rfl, hx2⟩
    rw [H1.out]
    replace hxx := hxx.trans hx2
    replace c1 := hx2.at c1
    replace c2 := hx2.at c2
    replace c3 := hx2.at c3
    replace c4 := hx2.at c4
    clear hx2
    go_wp2_with fail
    refine (rvalid_any _ _ _).mono ?_
    rintro e w3 ⟨rfl, hx3⟩
    rw [H2.out]
    replace hxx := hxx.trans hx3
    replace c1 := hx3.at c1
    replace c2 := hx3.at c2
    replace c3 := hx3.at c3
    replace c4 := hx3.at c4
    clear hx3
    go_wp2_with fail
    refine (awake_any _).mono ?_
    rintro e w4 ⟨rfl, hx4⟩
    replace hxx := hxx.trans hx4
    replace c1 := hx4.at c1
    replace c2 := hx4.at c2
    replace c3 := hx4.at c3
    replace c4 := hx4.at c4
    clear hx4
    go_wp2_with fail
    refine (relation_all _ _ _ _ _).mono ?_
    rintro e w5 ⟨rfl, hx5⟩
    rw [HR'.out]
    replace hxx := hxx.trans hx5
    replace c1 := hx5.at c1
    replace c2 := hx5.at c2
    replace c3 := hx5.at c3
    replace c4 := hx5.at c4
    clear hx5
    go_wp2_with fail
    refine (inverse_any _ _).mono ?_
    rintro e w6 ⟨rfl, rfl⟩
    go_wp2_with fail
    refine (inverse_any _ _).mono ?_
    rintro e w7 ⟨rfl, rfl⟩
    go_wp2_with fail
    refine (inverse_any _ _).mono ?_
    rintro e w8 ⟨rfl, rfl⟩
    rw [HI.out]
    go_wp2_with fail
    go_ret
    exact ⟨rfl, hxx⟩

theorem PeriodConverse_walk (a b c d : Int) (_ : (Lit.int .i64 a).wf = true) (_ : (Lit.int .i64 b).wf = true) (_ : (Lit.int .i64 c).wf = true) (_ : (Lit.int .i64 d).wf = true) (w : World) :
    Calls Try.prog 3 #[perV a b, perV c d] w fun e w' => e = .returned (.bool true) ∧ Ext w w' := by
  cases h : (validB a b && validB c d) with
  | false => exact PeriodConverse_no a b c d w h
  | true =>
    rw [Bool.and_eq_true] at h
    exact PeriodConverse_yes a b c d w h.1 h.2

end Go.Proofs.Ytjhbndbfgbkccaa
