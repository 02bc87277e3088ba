/- The walks of the laws of period that compare with the reference. -/
import Derived.Test.YtjhbndbfgbkccaaPerH
namespace Go.Proofs.Ytjhbndbfgbkccaa
open Go.RowKit

set_option maxHeartbeats 1000000 in
theorem PeriodCompose_walk (r s : Int) (_ : (Lit.int .i64 r).wf = true) (_ : (Lit.int .i64 s).wf = true) (w : World) :
    Calls Try.prog 4 #[.int .i64 r, .int .i64 s] w fun e w' => e = .returned (.bool true) ∧ Ext w w' := by
  go_enter Try.func4, Try.ntmps4
  go_wp2_with fail
  refine (awake_any _).mono ?_
  rintro e w1 ⟨rfl, hx1⟩
  go_wp2_with fail
  refine (compose_any _ _ _).mono ?_
  rintro e w2 ⟨v2, rfl, hown2, hx2⟩
  have ha := SliceAt.own hown2
  clear hown2
  go_wp2_with fail
  refine (rcompose_any _ _ _).mono ?_
  rintro e w3 ⟨v3, rfl, hown3, hx3⟩
  have hb := SliceAt.own hown3
  replace ha := ha.ext hx3
  clear hown3
  go_wp2_with fail
  refine (sameInts_any _ _ _ _ _ ha hb).mono ?_
  rintro e w4 ⟨rfl, hx4⟩
  rw [show decide (compL r s = compL r s) = true from by simp]
  go_wp2_with fail
  go_ret
  exact ⟨rfl, ((hx1.trans hx2).trans hx3).trans hx4⟩

end Go.Proofs.Ytjhbndbfgbkccaa
