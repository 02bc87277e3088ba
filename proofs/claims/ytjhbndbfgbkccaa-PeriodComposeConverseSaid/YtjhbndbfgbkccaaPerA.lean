/- Contracts of the small functions of package period and of its reference, each walked once. -/
import Derived.Test.YtjhbndbfgbkccaaRows
import Derived.Test.YtjhbndbfgbkccaaKit
import Derived.Deep.QuietTactic
import Derived.BigQuiet
import Derived.Deep.RegionWith
namespace Go.Proofs.Ytjhbndbfgbkccaa
open Go.RowKit

/-- a period as a value -/
@[reducible] def perV (a b : Int) : Value := .agg #[.int .i64 a, .int .i64 b]
def validB (a b : Int) : Bool := decide (0 ≤ a) && decide (a < b) && decide (b ≤ 1099511627776)

set_option maxHeartbeats 400000 in
theorem valid_any (a b : Int) (w : World) :
    Calls Try.prog 17 #[perV a b] w fun e w' => e = .returned (.bool (validB a b)) ∧ Ext w w' := by
  go_enter Try.func17, Try.ntmps17
  go_wp2
  all_goals
    go_ret
    refine ⟨ret_bool ?_, (Below.refl _ _).alloc (Nat.le_refl _) _⟩
    simp [validB, *]
    try omega

set_option maxHeartbeats 400000 in
theorem rvalid_any (a b : Int) (w : World) :
    Calls Try.prog 11 #[perV a b] w fun e w' => e = .returned (.bool (validB a b)) ∧ Ext w w' := by
  go_enter Try.func11, Try.ntmps11
  go_wp2
  all_goals
    go_ret
    refine ⟨ret_bool ?_, (Below.refl _ _).alloc (Nat.le_refl _) _⟩
    simp [validB, *]
    try omega

set_option maxHeartbeats 400000 in
theorem order_lt (a b : Int) (w : World) (h : a < b) :
    Calls Try.prog 29 #[.int .i64 a, .int .i64 b] w fun e w' => e = .returned (.int .i64 (-1)) ∧ w' = w := by
  go_enter Try.func29, Try.ntmps29
  go_wp2
  go_ret
  exact ⟨rfl, rfl⟩
set_option maxHeartbeats 400000 in
theorem order_gt (a b : Int) (w : World) (h : b < a) :
    Calls Try.prog 29 #[.int .i64 a, .int .i64 b] w fun e w' => e = .returned (.int .i64 1) ∧ w' = w := by
  go_enter Try.func29, Try.ntmps29
  go_wp2
  go_ret
  exact ⟨rfl, rfl⟩
set_option maxHeartbeats 400000 in
theorem order_eq (a : Int) (w : World) :
    Calls Try.prog 29 #[.int .i64 a, .int .i64 a] w fun e w' => e = .returned (.int .i64 0) ∧ w' = w := by
  go_enter Try.func29, Try.ntmps29
  go_wp2
  all_goals first | omega | (go_ret; exact ⟨rfl, rfl⟩)

/-- the relation of two valid periods -/
def relI (a b c d : Int) : Int :=
  if b < c then 1 else if b = c then 2 else if d < a then 13 else if d = a then 12
  else if a < c then (if b < d then 3 else if d < b then 5 else 4)
  else if c < a then (if b < d then 9 else if d < b then 11 else 10)
  else (if b < d then 6 else if d < b then 8 else 7)

set_option maxHeartbeats 1000000 in
theorem relation_any (a b c d : Int) (w : World) (h1 : validB a b = true) (h2 : validB c d = true) :
    Calls Try.prog 10 #[perV a b, perV c d] w fun e w' => e = .returned (.int .i64 (relI a b c d)) ∧ Ext w w' := by
  go_enter Try.func10, Try.ntmps10
  go_wp2_with fail
  refine (valid_any _ _ _).mono ?_
  rintro e w1 ⟨rfl, hb1⟩
  have hz1 := hb1.size
  simp at hz1
  obtain ⟨hc, hf⟩ := bcell (hb1.mono (B' := w.heap.size + 2) (by simp))
  go_wp2_with fail
  refine (valid_any _ _ _).mono ?_
  rintro e w2 ⟨rfl, hb2⟩
  have hz2 := hb2.size
  obtain ⟨hc2, hf2⟩ := bcell (hb2.mono (B' := w.heap.size + 2) (by omega))
  have hbb := (((Below.refl w.heap.size w).alloc (Nat.le_refl _) (.cells #[.int .i64 a, .int .i64 b] 23)).alloc (by simp) (.cells #[.int .i64 c, .int .i64 d] 23)).trans ((hb1.mono (by simp; omega)).trans (hb2.mono (by omega)))
  have hz3 : w.heap.size < w2.heap.size := by omega
  have hz4 : w.heap.size + 1 < w2.heap.size := by omega
  clear hb1 hb2 hz1 hz2
  go_wp2_with fail
  · go_ret
    exact ⟨ret_int (by unfold relI; rw [if_pos (by assumption)]), hbb⟩
  · go_ret
    exact ⟨ret_int (by unfold relI; rw [if_neg (by omega), if_pos (by simpa using ‹(b == c) = true›)]), hbb⟩
  · have hne : ¬ b = c := by simpa using ‹(b == c) = false›
    go_ret
    exact ⟨ret_int (by unfold relI; rw [if_neg (by omega), if_neg hne, if_pos (by omega)]), hbb⟩
  · have hne : ¬ b = c := by simpa using ‹(b == c) = false›
    have heq : d = a := by simpa using ‹(d == a) = true›
    go_ret
    exact ⟨ret_int (by unfold relI; rw [if_neg (by omega), if_neg hne, if_neg (by omega), if_pos heq]), hbb⟩
  · have hne : ¬ b = c := by simpa using ‹(b == c) = false›
    have hne2 : ¬ d = a := by simpa using ‹(d == a) = false›
    have hcb : c ≤ b := by omega
    have had : a ≤ d := by omega
    have ho1 : a < c ∨ c < a ∨ a = c := by omega
    have ho2 : b < d ∨ d < b ∨ b = d := by omega
    rcases ho1 with l1 | l1 | l1 <;> rcases ho2 with l2 | l2 | l2 <;> (try subst l1) <;> (try subst l2)
    all_goals
      go_quiet ((go_at_call 29; first | (refine Calls.quiet_of_same (order_lt _ _ _ ?_); omega) | (refine Calls.quiet_of_same (order_gt _ _ _ ?_); omega) | exact Calls.quiet_of_same (order_eq _ _)))
      go_wp2_with fail
      go_ret
      refine ⟨ret_int ?_, below_drewN (hbb.alloc (by omega) _) _⟩
      unfold relI
      repeat (first | rw [if_pos (by omega)] | rw [if_neg (by omega)])

end Go.Proofs.Ytjhbndbfgbkccaa
