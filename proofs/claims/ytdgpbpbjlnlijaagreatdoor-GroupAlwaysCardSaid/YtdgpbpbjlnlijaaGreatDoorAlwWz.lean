/- the walk of GroupAlways -/
import Derived.Test.YtdgpbpbjlnlijaaGreatDoorGrpYz
import Derived.Test.YtdgpbpbjlnlijaaGreatDoorKC14
import Derived.Test.YtdgpbpbjlnlijaaGreatDoorKC19
namespace Go.Proofs.YtdgpbpbjlnlijaaGreatDoor
open Go.RowKit Go.Maps

set_option maxRecDepth 100000 in
set_option maxHeartbeats 8000000 in
theorem GroupAlways_walk (v0 : Value) (x : List Num5) (c day : Int) {w : World} (s0 : SliceOf Rep.num w.cell? v0 x) (hc : (Lit.int .u8 c).wf = true) (_ : (Lit.int .i64 day).wf = true) (hT : TabW w) (hD : DaysW w) :
    Calls Tryz.prog 4 #[v0, .int .u8 c, .int .i64 day] w fun e w' => e = .returned (.bool true) ∧ Ext w w' := by
  have S0 := Lib.hid s0
  obtain ⟨p0, q0, rfl, _⟩ := s0.form
  have hcm : 0 ≤ c ∧ c ≤ 255 := by simpa [Lit.wf, IntKind.min, IntKind.max, IntKind.signed, IntKind.bits] using hc
  have HCM := Lib.hid hcm
  have HT := Lib.hid (And.intro hT hD)
  clear s0 hc hT hD hcm
  go_enter Tryz.func4, Tryz.ntmps4
  go_wp2_with fail
  refine (tuples_gen _ x 10 (by decide) _ S0.out).mono ?_
  rintro e w1 ⟨u1, rfl, t1, x1⟩
  have la := genTups_len x 10
  have fa := genTups_fit2 x 10
  generalize genTups x 10 = a at t1 la fa
  obtain ⟨r1, k1, rfl, _⟩ := t1.form
  have T1 := Lib.hid (t1.ext (on_sub _ _))
  have X1 := Lib.hid x1
  have HL := Lib.hid la
  have HFA := Lib.hid fa
  clear t1 x1 la fa S0
  go_wp2_with fail
  refine (exprs_any _).mono ?_
  rintro e w2 ⟨u2, rfl, t2, x2⟩
  obtain ⟨pe, ce, rfl, _⟩ := t2.form
  have HE := Lib.hid t2
  replace T1 := Lib.hid (T1.out.ext x2.full)
  have X2 := Lib.hid (X1.out.trans x2)
  clear t2 x2 X1
  go_wp2_with fail
  refine (allAggs_any c _ HCM.out.1 HCM.out.2).mono ?_
  rintro e w3 ⟨u3, rfl, t3, x3⟩
  obtain ⟨cc, hcc⟩ : ∃ z, z = c % 2 := ⟨_, rfl⟩
  have hc2 : cc = 0 ∨ cc = 1 := by omega
  rw [← hcc] at t3
  obtain ⟨pk, ck, rfl, _⟩ := t3.form
  have HAG := Lib.hid t3
  have HC2 := Lib.hid hc2
  replace T1 := Lib.hid (T1.out.ext x3.full)
  replace HE := Lib.hid (HE.out.ext x3.full)
  have X3 := Lib.hid (X2.out.trans x3)
  clear t3 x3 X2 hcc hc2
  go_wp2_with fail
  refine (group_any _ a _ exC (.slice none 0 0) [] _ (allV cc) _ T1.out (by have := HL.out; omega) HFA.out HE.out exC_op (by simp [exC]) (SliceOf.nil _ _) (by simp) (by simp) ⟨_, _, _, rfl⟩ (rowLaw_all HC2.out HE.out HAG.out (by simp) (by have := HL.out; omega) HFA.out) (all_fit HFA.out cc) (HT.out.1.ext X3.out) (HT.out.2.ext X3.out)).mono ?_
  rintro e w5 ⟨u5, rfl, t5, x5⟩
  have ht0 : decide (([] : List Int).length = 0) = true := rfl
  rw [ht0] at t5
  have hal := agg_len (projC exC []) (allV cc) true a (by have := HL.out; omega)
  have haf := agg_fit (projC exC []) (allV cc) true a day (by have := HL.out; omega) HFA.out (all_fit HFA.out cc) (fun vs => by rw [proj_len]; simp)
  have hlen := always_len (projC exC []) (allV cc) a day
  generalize aggT (projC exC []) (allV cc) true a = g at t5 hal haf hlen
  obtain ⟨r5, k5, rfl, _⟩ := t5.form
  have T5 := Lib.hid (t5.ext (on_sub _ _))
  have X5 := Lib.hid (X3.out.trans x5)
  have HAL := Lib.hid (And.intro hal haf)
  have HLEN := Lib.hid hlen
  clear t5 x5 X3 HE HAG hal haf hlen ht0 T1
  go_wp2_with fail
  refine (timeslice_gen _ g day _ T5.out HAL.out.1 HAL.out.2).mono ?_
  rintro e w6 ⟨u6, rfl, t6, x6⟩
  have hl6 : (sortBy cmpRow (sliceRows g day)).length = if 0 ≤ day ∧ day < 1000000 then 1 else 0 := by rw [sortBy_length, HLEN.out]
  obtain ⟨r6, k6, rfl, _⟩ := t6.form
  rw [hl6]
  have X6 := Lib.hid (X5.out.trans x6)
  clear t6 x6 X5 hl6 T5 HAL HLEN
  by_cases h0 : 0 ≤ day
  · have b0 : decide (0 ≤ day) = true := decide_eq_true h0
    by_cases h1 : day < 1000000
    · have b1 : decide (day < 1000000) = true := decide_eq_true h1
      rw [if_pos ⟨h0, h1⟩]
      clear h0 h1
      go_wp2_with fail
      refine (awake_group _ (HT.out.1.ext X6.out) (HT.out.2.ext X6.out)).mono ?_
      rintro e w9 ⟨rfl, x9⟩
      have X9 := Lib.hid (X6.out.trans x9)
      clear x9 X6
      go_wp2_with fail
      go_ret
      exact ⟨by simp, X9.out⟩
    · have b1 : decide (day < 1000000) = false := decide_eq_false h1
      rw [if_neg (fun h => h1 h.2)]
      clear h0 h1
      go_wp2_with fail
      refine (awake_group _ (HT.out.1.ext X6.out) (HT.out.2.ext X6.out)).mono ?_
      rintro e w9 ⟨rfl, x9⟩
      have X9 := Lib.hid (X6.out.trans x9)
      clear x9 X6
      go_wp2_with fail
      go_ret
      exact ⟨by simp, X9.out⟩
  · have b0 : decide (0 ≤ day) = false := decide_eq_false h0
    rw [if_neg (fun h => h0 h.1)]
    clear h0
    go_wp2_with fail
    refine (awake_group _ (HT.out.1.ext X6.out) (HT.out.2.ext X6.out)).mono ?_
    rintro e w9 ⟨rfl, x9⟩
    have X9 := Lib.hid (X6.out.trans x9)
    clear x9 X6
    go_wp2_with fail
    go_ret
    exact ⟨by simp, X9.out⟩

end Go.Proofs.YtdgpbpbjlnlijaaGreatDoor
