/- Contracts of the relations of the reference, of Inverse, ValidDays and Includes, each walked once. -/
import Derived.Test.YtjhbndbfgbkccaaPerA
namespace Go.Proofs.Ytjhbndbfgbkccaa
open Go.RowKit

theorem validB_lt {a b : Int} (h : validB a b = true) : 0 ≤ a ∧ a < b ∧ b ≤ 1099511627776 := by simpa [validB, and_assoc] using h

set_option maxHeartbeats 1000000 in
theorem rrelation_any (a b c d : Int) (w : World) (h1 : validB a b = true) (h2 : validB c d = true) :
    Calls Try.prog 22 #[perV a b, perV c d] w fun e w' => e = .returned (.int .i64 (relI a b c d)) ∧ Ext w w' := by
  have g1 := validB_lt h1
  have g2 := validB_lt h2
  go_enter Try.func22, Try.ntmps22
  go_wp2_with fail
  refine (rvalid_any _ _ _).mono ?_
  rintro e w1 ⟨rfl, hb1⟩
  have hz1 := hb1.size
  simp at hz1
  obtain ⟨hc, hf⟩ := bcell (hb1.mono (B' := w.heap.size + 2) (by simp))
  go_wp2_with fail
  refine (rvalid_any _ _ _).mono ?_
  rintro e w2 ⟨rfl, hb2⟩
  have hz2 := hb2.size
  obtain ⟨hc2, hf2⟩ := bcell (hb2.mono (B' := w.heap.size + 2) (by omega))
  have hbb := (((Below.refl w.heap.size w).alloc (Nat.le_refl _) (.cells #[.int .i64 a, .int .i64 b] 23)).alloc (by simp) (.cells #[.int .i64 c, .int .i64 d] 23)).trans ((hb1.mono (by simp; omega)).trans (hb2.mono (by omega)))
  clear hb1 hb2 hz1 hz2
  go_wp2_with fail
  all_goals
    go_ret
    refine ⟨ret_int ?_, hbb⟩
    try simp only [beq_iff_eq, beq_eq_false_iff_ne, ne_eq] at *
    unfold relI
    repeat (first | rw [if_pos (by omega)] | rw [if_neg (by omega)])

/-- where one of the two is not valid: 0 -/
theorem relation_zero (a b c d : Int) (w : World) (h : (validB a b && validB c d) = false) :
    Calls Try.prog 10 #[perV a b, perV c d] w fun e w' => e = .returned (.int .i64 0) ∧ Ext w w' := by
  cases h1 : validB a b with
  | false =>
    clear h
    have H1 := Lib.hid h1
    clear h1
    go_enter Try.func10, Try.ntmps10
    go_wp2_with fail
    refine (valid_any _ _ _).mono ?_
    rintro e w1 ⟨rfl, hb1⟩
    rw [H1.out]
    go_wp2_with fail
    go_ret
    exact ⟨rfl, (((Below.refl w.heap.size w).alloc (Nat.le_refl _) _).alloc (by simp) _).trans (hb1.mono (by simp; omega))⟩
  | true =>
    have h2 : validB c d = false := by simpa [h1] using h
    clear h
    have H1 := Lib.hid h1
    have H2 := Lib.hid h2
    clear h1 h2
    go_enter Try.func10, Try.ntmps10
    go_wp2_with fail
    refine (valid_any _ _ _).mono ?_
    rintro e w1 ⟨rfl, hb1⟩
    rw [H1.out]
    have hz1 := hb1.size
    simp at hz1
    obtain ⟨hc, hf⟩ := bcell (hb1.mono (B' := w.heap.size + 2) (by simp))
    go_wp2_with fail
    refine (valid_any _ _ _).mono ?_
    rintro e w2 ⟨rfl, hb2⟩
    rw [H2.out]
    go_wp2_with fail
    go_ret
    exact ⟨rfl, ((((Below.refl w.heap.size w).alloc (Nat.le_refl _) _).alloc (by simp) _).trans (hb1.mono (by simp; omega))).trans (hb2.mono (by omega))⟩

theorem rrelation_zero (a b c d : Int) (w : World) (h : (validB a b && validB c d) = false) :
    Calls Try.prog 22 #[perV a b, perV c d] w fun e w' => e = .returned (.int .i64 0) ∧ Ext w w' := by
  cases h1 : validB a b with
  | false =>
    clear h
    have H1 := Lib.hid h1
    clear h1
    go_enter Try.func22, Try.ntmps22
    go_wp2_with fail
    refine (rvalid_any _ _ _).mono ?_
    rintro e w1 ⟨rfl, hb1⟩
    rw [H1.out]
    go_wp2_with fail
    go_ret
    exact ⟨rfl, (((Below.refl w.heap.size w).alloc (Nat.le_refl _) _).alloc (by simp) _).trans (hb1.mono (by simp; omega))⟩
  | true =>
    have h2 : validB c d = false := by simpa [h1] using h
    clear h
    have H1 := Lib.hid h1
    have H2 := Lib.hid h2
    clear h1 h2
    go_enter Try.func22, Try.ntmps22
    go_wp2_with fail
    refine (rvalid_any _ _ _).mono ?_
    rintro e w1 ⟨rfl, hb1⟩
    rw [H1.out]
    have hz1 := hb1.size
    simp at hz1
    obtain ⟨hc, hf⟩ := bcell (hb1.mono (B' := w.heap.size + 2) (by simp))
    go_wp2_with fail
    refine (rvalid_any _ _ _).mono ?_
    rintro e w2 ⟨rfl, hb2⟩
    rw [H2.out]
    go_wp2_with fail
    go_ret
    exact ⟨rfl, ((((Below.refl w.heap.size w).alloc (Nat.le_refl _) _).alloc (by simp) _).trans (hb1.mono (by simp; omega))).trans (hb2.mono (by omega))⟩

/-- the relation of any two periods -/
def relA (a b c d : Int) : Int := if (validB a b && validB c d) = true then relI a b c d else 0
theorem relation_all (a b c d : Int) (w : World) :
    Calls Try.prog 10 #[perV a b, perV c d] w fun e w' => e = .returned (.int .i64 (relA a b c d)) ∧ Ext w w' := by
  unfold relA
  cases h : (validB a b && validB c d) with
  | false => simpa using relation_zero a b c d w h
  | true =>
    rw [Bool.and_eq_true] at h
    simpa using relation_any a b c d w h.1 h.2
theorem rrelation_all (a b c d : Int) (w : World) :
    Calls Try.prog 22 #[perV a b, perV c d] w fun e w' => e = .returned (.int .i64 (relA a b c d)) ∧ Ext w w' := by
  unfold relA
  cases h : (validB a b && validB c d) with
  | false => simpa using rrelation_zero a b c d w h
  | true =>
    rw [Bool.and_eq_true] at h
    simpa using rrelation_any a b c d w h.1 h.2

/-- the converse of a relation -/
def invI (r : Int) : Int := if 1 ≤ r ∧ r ≤ 13 then 14 - r else 0
theorem inverse_any (r : Int) (w : World) :
    Calls Try.prog 13 #[.int .i64 r] w fun e w' => e = .returned (.int .i64 (invI r)) ∧ w' = w := by
  go_enter Try.func13, Try.ntmps13
  go_wp2
  all_goals
    go_ret
    refine ⟨ret_int ?_, rfl⟩
    unfold invI
    first | rw [if_pos (by omega)] | rw [if_neg (by omega)]
theorem rinverse_any (r : Int) (w : World) :
    Calls Try.prog 23 #[.int .i64 r] w fun e w' => e = .returned (.int .i64 (invI r)) ∧ w' = w := by
  go_enter Try.func23, Try.ntmps23
  go_wp2
  all_goals
    go_ret
    refine ⟨ret_int ?_, rfl⟩
    unfold invI
    first | rw [if_pos (by omega)] | rw [if_neg (by omega)]

def vdaysB (a b : Int) : Bool := validB a b && decide (b ≤ 1000000)
def incB (a b t : Int) : Bool := validB a b && decide (a ≤ t) && decide (t < b)

theorem vdays_any (a b : Int) (w : World) :
    Calls Try.prog 18 #[perV a b] w fun e w' => e = .returned (.bool (vdaysB a b)) ∧ Ext w w' := by
  unfold vdaysB
  cases h1 : validB a b
  all_goals
    have H1 := Lib.hid h1
    clear h1
    go_enter Try.func18, Try.ntmps18
    go_wp2_with fail
    refine (valid_any _ _ _).mono ?_
    rintro e w1 ⟨rfl, hb1⟩
    rw [H1.out]
    obtain ⟨hc, hf⟩ := bcell (hb1.mono (B' := w.heap.size + 1) (by simp))
    go_wp2_with fail
    all_goals
      go_ret
      exact ⟨ret_bool (by simp), ((Below.refl w.heap.size w).alloc (Nat.le_refl _) _).trans (hb1.mono (by simp))⟩
theorem includes_any (a b t : Int) (w : World) :
    Calls Try.prog 20 #[perV a b, .int .i64 t] w fun e w' => e = .returned (.bool (incB a b t)) ∧ Ext w w' := by
  unfold incB
  cases h1 : validB a b
  all_goals
    have H1 := Lib.hid h1
    clear h1
    go_enter Try.func20, Try.ntmps20
    go_wp2_with fail
    refine (valid_any _ _ _).mono ?_
    rintro e w1 ⟨rfl, hb1⟩
    rw [H1.out]
    obtain ⟨hc, hf⟩ := bcell (hb1.mono (B' := w.heap.size + 1) (by simp))
    go_wp2_with fail
    all_goals
      go_ret
      exact ⟨ret_bool (by simp; try omega), ((Below.refl w.heap.size w).alloc (Nat.le_refl _) _).trans (hb1.mono (by simp))⟩

theorem rvdays_any (a b : Int) (w : World) :
    Calls Try.prog 19 #[perV a b] w fun e w' => e = .returned (.bool (vdaysB a b)) ∧ Ext w w' := by
  unfold vdaysB
  cases h1 : validB a b
  all_goals
    have H1 := Lib.hid h1
    clear h1
    go_enter Try.func19, Try.ntmps19
    go_wp2_with fail
    refine (rvalid_any _ _ _).mono ?_
    rintro e w1 ⟨rfl, hb1⟩
    rw [H1.out]
    obtain ⟨hc, hf⟩ := bcell (hb1.mono (B' := w.heap.size + 1) (by simp))
    go_wp2_with fail
    all_goals
      go_ret
      exact ⟨ret_bool (by simp), ((Below.refl w.heap.size w).alloc (Nat.le_refl _) _).trans (hb1.mono (by simp))⟩
theorem rincludes_any (a b t : Int) (w : World) :
    Calls Try.prog 21 #[perV a b, .int .i64 t] w fun e w' => e = .returned (.bool (incB a b t)) ∧ Ext w w' := by
  unfold incB
  cases h1 : validB a b
  all_goals
    have H1 := Lib.hid h1
    clear h1
    go_enter Try.func21, Try.ntmps21
    go_wp2_with fail
    refine (rvalid_any _ _ _).mono ?_
    rintro e w1 ⟨rfl, hb1⟩
    rw [H1.out]
    obtain ⟨hc, hf⟩ := bcell (hb1.mono (B' := w.heap.size + 1) (by simp))
    go_wp2_with fail
    all_goals
      go_ret
      exact ⟨ret_bool (by simp; try omega), ((Below.refl w.heap.size w).alloc (Nat.le_refl _) _).trans (hb1.mono (by simp))⟩

end Go.Proofs.Ytjhbndbfgbkccaa
