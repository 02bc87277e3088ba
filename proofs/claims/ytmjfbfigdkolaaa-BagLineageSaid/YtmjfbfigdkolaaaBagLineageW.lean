/- BagLineage: the walk -/
import Derived.Test.YtmjfbfigdkolaaaBagQ
namespace Go.Proofs.Ytmjfbfigdkolaaa
open Go.RowKit

theorem mergeL_len (l l' : List Int) : (mergeL l l').length ≤ l.length + l'.length := by
  have h := Lib.compact_length_le ((l ++ l').mergeSort fun x y => decide (x ≤ y))
  rw [(List.mergeSort_perm _ _).length_eq, List.length_append] at h
  exact h
theorem mergeL_comm (l l' : List Int) : eqB (mergeL l l') (mergeL l' l) = true :=
  eqB_iff.2 (asc_unique (mergeL_law _ _).1 (mergeL_law _ _).1 fun x => by rw [(mergeL_law _ _).2, (mergeL_law _ _).2]; exact or_comm)
theorem mergeL_assoc (l l' l'' : List Int) : eqB (mergeL (mergeL l l') l'') (mergeL l (mergeL l' l'')) = true :=
  eqB_iff.2 (asc_unique (mergeL_law _ _).1 (mergeL_law _ _).1 fun x => by rw [(mergeL_law _ _).2, (mergeL_law _ _).2, (mergeL_law _ _).2, (mergeL_law _ _).2]; exact or_assoc)
theorem mergeL_idem (l l' : List Int) : eqB (mergeL (mergeL l l') (mergeL l l')) (mergeL l l') = true :=
  eqB_iff.2 (asc_unique (mergeL_law _ _).1 (mergeL_law _ _).1 fun x => by rw [(mergeL_law _ _).2]; exact or_self_iff)

set_option maxRecDepth 100000 in
set_option maxHeartbeats 4000000 in
theorem BagLineage_walk (v0 : Value) (a : List Int) (v1 : Value) (b : List Int) (v2 : Value) (c : List Int) {w : World} (s0 : SliceOf Rep.int w.cell? v0 a) (s1 : SliceOf Rep.int w.cell? v1 b) (s2 : SliceOf Rep.int w.cell? v2 c) :
    Calls Try.prog 6 #[v0, v1, v2] w fun e w' => e = .returned (.bool true) ∧ Ext w w' := by
  have S0 := Lib.hid s0
  have S1 := Lib.hid s1
  have S2 := Lib.hid s2
  obtain ⟨p0, q0, rfl, h0, h0', _⟩ := s0.form
  obtain ⟨p1, q1, rfl, h1, h1', _⟩ := s1.form
  obtain ⟨p2, q2, rfl, h2, h2', _⟩ := s2.form
  unfold maxLen at h0' h1' h2'
  clear s0 s1 s2
  by_cases hs : a.length ≤ 40 ∧ b.length ≤ 40 ∧ c.length ≤ 40
  · obtain ⟨ha, hb, hc⟩ := hs
    have d0 : decide ((a.length : Int) > 40) = false := by simp; omega
    have d1 : decide ((b.length : Int) > 40) = false := by simp; omega
    have d2 : decide ((c.length : Int) > 40) = false := by simp; omega
    have l1 := mergeL_len a b
    have l2 := mergeL_len b c
    go_enter Try.func6, Try.ntmps6
    go_wp2_with fail
    refine (merge_lineage _ _ a b _ S0.out S1.out (by omega) (by omega)).mono ?_
    rintro e w1 ⟨u1, rfl, t1, x1⟩
    have T1 := Lib.hid (t1.ext (on_sub _ _))
    obtain ⟨p3, q3, rfl, _⟩ := t1.form
    clear t1
    go_wp2_with fail
    refine (awake_true _).mono ?_
    rintro e w2 ⟨rfl, x2⟩
    go_wp2_with fail
    refine (merge_lineage _ _ b a _ (S1.out.ext (x1.trans x2).full) (S0.out.ext (x1.trans x2).full) (by omega) (by omega)).mono ?_
    rintro e w3 ⟨u3, rfl, t3, x3⟩
    have T3 := Lib.hid (t3.ext (on_sub _ _))
    obtain ⟨p4, q4, rfl, _⟩ := t3.form
    clear t3
    go_wp2_with fail
    refine (same_ints _ _ _ _ _ (T1.out.ext (x2.trans x3).full) T3.out).mono ?_
    rintro e w4 ⟨rfl, x4⟩
    rw [mergeL_comm]
    have y4 := (x2.trans x3).trans x4.ext
    clear x2 x3 x4 T3
    go_wp2_with fail
    refine (merge_lineage _ _ _ c _ (T1.out.ext y4.full) (S2.out.ext (x1.trans y4).full) (by omega) (by omega)).mono ?_
    rintro e w5 ⟨u5, rfl, t5, x5⟩
    have T5 := Lib.hid (t5.ext (on_sub _ _))
    obtain ⟨p5, q5, rfl, _⟩ := t5.form
    clear t5
    go_wp2_with fail
    have y5 := (x1.trans y4).trans x5
    refine (merge_lineage _ _ b c _ (S1.out.ext y5.full) (S2.out.ext y5.full) (by omega) (by omega)).mono ?_
    rintro e w6 ⟨u6, rfl, t6, x6⟩
    have T6 := Lib.hid (t6.ext (on_sub _ _))
    obtain ⟨p6, q6, rfl, _⟩ := t6.form
    clear t6
    go_wp2_with fail
    refine (merge_lineage _ _ a _ _ (S0.out.ext (y5.trans x6).full) T6.out (by omega) (by omega)).mono ?_
    rintro e w7 ⟨u7, rfl, t7, x7⟩
    have T7 := Lib.hid (t7.ext (on_sub _ _))
    obtain ⟨p7, q7, rfl, _⟩ := t7.form
    clear t7
    go_wp2_with fail
    refine (same_ints _ _ _ _ _ (T5.out.ext (x6.trans x7).full) T7.out).mono ?_
    rintro e w8 ⟨rfl, x8⟩
    rw [mergeL_assoc]
    have y8 := ((y4.trans x5).trans (x6.trans x7)).trans x8.ext
    clear x5 x6 x7 x8 y4 y5 T5 T6 T7
    go_wp2_with fail
    refine (merge_lineage _ _ _ _ _ (T1.out.ext y8.full) (T1.out.ext y8.full) (by omega) (by omega)).mono ?_
    rintro e w9 ⟨u9, rfl, t9, x9⟩
    have T9 := Lib.hid (t9.ext (on_sub _ _))
    obtain ⟨p9, q9, rfl, _⟩ := t9.form
    clear t9
    go_wp2_with fail
    refine (same_ints _ _ _ _ _ T9.out (T1.out.ext (y8.trans x9).full)).mono ?_
    rintro e w10 ⟨rfl, x10⟩
    rw [mergeL_idem]
    go_wp2_with fail
    go_ret
    exact ⟨rfl, ((x1.trans y8).trans x9).trans x10.ext⟩
  · have hor : 40 < a.length ∨ 40 < b.length ∨ 40 < c.length := by omega
    have HOR := Lib.hid hor
    clear hor hs
    go_enter Try.func6, Try.ntmps6
    go_wp2_with (go_at_call 14; refine (awake_true _).mono ?_; rintro e w2 ⟨rfl, x2⟩)
    all_goals first
      | (go_ret; exact ⟨rfl, x2⟩)
      | (exfalso; have := HOR.out; omega)
      | skip

end Go.Proofs.Ytmjfbfigdkolaaa
