/- the reference's Equal; BagSort: the walk -/
import Derived.Test.YtmjfbfigdkolaaaBagQ
import Derived.Test.YtmjfbfigdkolaaaBagK
namespace Go.Proofs.Ytmjfbfigdkolaaa
open Go.RowKit

set_option maxHeartbeats 1000000 in
theorem ref_equal (va vb : Value) (l l' : List Row) (w : World) (ha : SliceOf Rep.row w.cell? va l) (hb : SliceOf Rep.row w.cell? vb l') (hf : fitRows l) (hf' : fitRows l') :
    Calls Try.prog 19 #[va, vb] w fun e w' => e = .returned (.bool (eqB (sortBy cmpRow l) (sortBy cmpRow l'))) ∧ Ext w w' := by
  have HA := Lib.hid ha
  have HB := Lib.hid hb
  have HF := Lib.hid hf
  have HF' := Lib.hid hf'
  obtain ⟨pa, ca, rfl, _⟩ := ha.form
  obtain ⟨pb, cb, rfl, _⟩ := hb.form
  clear ha hb hf hf'
  go_enter Try.func19, Try.ntmps19
  go_wp2_with fail
  refine (ref_sort l.length l (Nat.le_refl _) _ _ HF.out.1 HA.out).mono ?_
  rintro e w1 ⟨v1, rfl, s1, hx1⟩
  have S1 := Lib.hid s1
  obtain ⟨p1, q1, rfl, _⟩ := s1.form
  clear s1
  go_wp2_with fail
  refine (ref_sort l'.length l' (Nat.le_refl _) _ _ HF'.out.1 (HB.out.ext hx1.full)).mono ?_
  rintro e w2 ⟨v2, rfl, s2, hx2⟩
  have S2 := Lib.hid s2
  obtain ⟨p2, q2, rfl, _⟩ := s2.form
  clear s2
  go_wp2_with fail
  refine (ref_sameRows _ _ _ _ _ (S1.out.ext hx2.full) S2.out).mono ?_
  rintro e w3 ⟨rfl, hx3⟩
  go_wp2_with fail
  go_ret
  exact ⟨rfl, (hx1.trans hx2).trans hx3.ext⟩

set_option maxRecDepth 100000 in
set_option maxHeartbeats 4000000 in
theorem BagSort_walk (v0 : Value) (a : List Row) (v1 : Value) (b : List Row) {w : World} (s0 : SliceOf Rep.row w.cell? v0 a) (s1 : SliceOf Rep.row w.cell? v1 b) :
    Calls Try.prog 3 #[v0, v1] w fun e w' => e = .returned (.bool true) ∧ Ext w w' := by
  have S0 := Lib.hid s0
  have S1 := Lib.hid s1
  obtain ⟨p0, q0, rfl, _⟩ := s0.form
  obtain ⟨p1, q1, rfl, _⟩ := s1.form
  clear s0 s1
  go_enter Try.func3, Try.ntmps3
  go_wp2_with fail
  refine (fewRows_any _ 40 (by decide) a _ S0.out).mono ?_
  rintro e w' ⟨ba, rfl, hba, rfl⟩
  have HBA := Lib.hid hba
  clear hba
  cases ba
  · go_wp2_with fail
    refine (awake_true _).mono ?_
    rintro e w2 ⟨rfl, x2⟩
    go_wp2_with fail
    go_ret
    exact ⟨rfl, x2⟩
  · have FA := Lib.hid (few_fit (HBA.out rfl) (by decide))
    clear HBA
    go_wp2_with fail
    refine (fewRows_any _ 40 (by decide) b _ S1.out).mono ?_
    rintro e w' ⟨bb, rfl, hbb, rfl⟩
    have HBB := Lib.hid hbb
    clear hbb
    cases bb
    · go_wp2_with fail
      refine (awake_true _).mono ?_
      rintro e w2 ⟨rfl, x2⟩
      go_wp2_with fail
      go_ret
      exact ⟨rfl, x2⟩
    · have FB := Lib.hid (few_fit (HBB.out rfl) (by decide))
      clear HBB
      go_wp2_with fail
      refine (awake_true _).mono ?_
      rintro e w2 ⟨rfl, x2⟩
      go_wp2_with fail
      refine (sort_rows _ a _ (S0.out.ext x2.full) FA.out).mono ?_
      rintro e w3 ⟨u3, rfl, t3, x3⟩
      have T3 := Lib.hid (t3.ext (on_sub _ _))
      obtain ⟨p3, q3, rfl, _⟩ := t3.form
      clear t3
      replace x3 := x2.trans x3
      clear x2
      go_wp2_with fail
      refine (ref_sort a.length a (Nat.le_refl _) _ _ FA.out.1 (S0.out.ext x3.full)).mono ?_
      rintro e w4 ⟨u4, rfl, t4, x4⟩
      have T4 := Lib.hid t4
      obtain ⟨p4, q4, rfl, _⟩ := t4.form
      clear t4
      go_wp2_with fail
      refine (ref_sameRows _ _ _ _ _ (T3.out.ext x4.full) T4.out).mono ?_
      rintro e w5 ⟨rfl, x5⟩
      rw [eqB_iff.2 rfl]
      replace x5 := (x3.trans x4).trans x5.ext
      clear x3 x4 T3 T4
      go_wp2_with fail
      refine (equal_rows _ _ a b _ (S0.out.ext x5.full) (S1.out.ext x5.full) FA.out FB.out).mono ?_
      rintro e w6 ⟨rfl, x6⟩
      replace x6 := x5.trans x6
      clear x5
      generalize hq : eqB (sortBy cmpRow a) (sortBy cmpRow b) = q
      have HQ := Lib.hid hq
      clear hq
      go_wp2_with fail
      refine (ref_equal _ _ a b _ (S0.out.ext x6.full) (S1.out.ext x6.full) FA.out FB.out).mono ?_
      rintro e w7 ⟨rfl, x7⟩
      rw [HQ.out]
      go_wp2_with fail
      go_ret
      exact ⟨by simp, x6.trans x7⟩

end Go.Proofs.Ytmjfbfigdkolaaa
