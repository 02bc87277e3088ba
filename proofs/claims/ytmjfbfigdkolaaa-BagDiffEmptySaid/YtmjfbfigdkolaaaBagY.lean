/- BagDiffEmpty: the walk -/
import Derived.Test.YtmjfbfigdkolaaaBagX
namespace Go.Proofs.Ytmjfbfigdkolaaa
open Go.RowKit

theorem plain_fit {l : List Row} (h : fitRows l) : fitRows (l.map plainRow) := by
  refine ⟨by simpa using h.1, fun r hr => ?_⟩
  obtain ⟨t, ht, rfl⟩ := List.mem_map.1 hr
  exact ⟨(h.2 t ht).1, by simp [plainRow]⟩
theorem surp_len (a b : List Row) : (surpA b [] (sortBy cmpRow a)).length ≤ a.length := by
  have := surpA_len b [] (sortBy cmpRow a)
  rwa [sortBy_length] at this

set_option maxRecDepth 100000 in
set_option maxHeartbeats 4000000 in
theorem BagDiffEmpty_walk (v0 : Value) (x : List Num5) (v1 : Value) (y : List Num5) {w : World} (s0 : SliceOf Rep.num w.cell? v0 x) (s1 : SliceOf Rep.num w.cell? v1 y) :
    Calls Try.prog 8 #[v0, v1] w fun e w' => e = .returned (.bool true) ∧ Ext w w' := by
  obtain ⟨i0, hi, hz0, hz1, hz2⟩ := info_parts infoRow
  have S0 := Lib.hid s0
  have S1 := Lib.hid s1
  obtain ⟨p0, q0, rfl, _⟩ := s0.form
  obtain ⟨p1, q1, rfl, _⟩ := s1.form
  clear s0 s1
  go_enter Try.func8, Try.ntmps8
  go_wp2_with fail
  refine (rows_gen _ x 30 (by decide) _ S0.out).mono ?_
  rintro e w1 ⟨u1, rfl, t1, x1⟩
  have la := genRows_len x 30
  have fa := genRows_fit x 30 (by decide)
  generalize genRows x 30 = a at t1 la fa
  obtain ⟨r1, k1, rfl, ha1, ha2, ha3⟩ := t1.form
  have T1 := Lib.hid t1
  have FA := Lib.hid fa
  clear t1 fa
  go_wp2_with fail
  refine (rows_gen _ y 30 (by decide) _ (S1.out.ext x1.full)).mono ?_
  rintro e w2 ⟨u2, rfl, t2, x2⟩
  have lb := genRows_len y 30
  have fb := genRows_fit y 30 (by decide)
  generalize genRows y 30 = b at t2 lb fb
  obtain ⟨r2, k2, rfl, hb1, hb2, hb3⟩ := t2.form
  have T2 := Lib.hid t2
  have FB := Lib.hid fb
  replace T1 := Lib.hid (T1.out.ext x2.full)
  have y2 := x1.trans x2
  clear t2 fb x1 x2
  go_wp2_with fail
  refine (diff_rows _ _ a b _ T1.out T2.out FA.out FB.out).mono ?_
  rintro e w3 ⟨u3, u4, rfl, t3, t4, x3⟩
  obtain ⟨r3, k3, rfl, _⟩ := t3.form
  obtain ⟨r4, k4, rfl, _⟩ := t4.form
  have T3 := Lib.hid t3
  have T4 := Lib.hid t4
  replace T1 := Lib.hid (T1.out.ext x3.full)
  replace T2 := Lib.hid (T2.out.ext x3.full)
  have y3 := y2.trans x3
  clear t3 t4 y2 x3
  go_wp2_with fail
  refine (diff_rows _ _ b a _ T2.out T1.out FB.out FA.out).mono ?_
  rintro e w4 ⟨u5, u6, rfl, t5, t6, x4⟩
  obtain ⟨r5, k5, rfl, _⟩ := t5.form
  obtain ⟨r6, k6, rfl, _⟩ := t6.form
  have T5 := Lib.hid t5
  have T6 := Lib.hid t6
  replace T1 := Lib.hid (T1.out.ext x4.full)
  replace T2 := Lib.hid (T2.out.ext x4.full)
  replace T3 := Lib.hid (T3.out.ext x4.full)
  replace T4 := Lib.hid (T4.out.ext x4.full)
  have y4 := y3.trans x4
  have l3 := surp_len a b
  have l4 := surp_len b a
  have HE := Lib.hid (diff_empty a b)
  clear t5 t6 y3 x4
  generalize surpA b [] (sortBy cmpRow a) = lost at T3 T6 l3 HE ⊢
  generalize surpA a [] (sortBy cmpRow b) = gained at T4 T5 l4 HE ⊢
  unfold maxLen at ha2 hb2
  have A0 := Lib.hid (T1.out.ext (full_on w4 (fun k => k < w4.heap.size) fun k hk => hk))
  go_wp2_with fail
  go_loopg [11, 35] a.length (fun gk out i wr => ∃ k : Nat, k ≤ a.length ∧ gk = a.length - k ∧ i = .int .i64 k ∧ OwnOf Rep.row wr (fun k => k < w4.heap.size) w4.heap.size 32 out ((a.take k).map plainRow) ∧ Below w4.heap.size w4 wr)
  case atStart => exact ⟨0, by omega, rfl, rfl, OwnOf.nil _ _ _ _ _, Below.refl _ _⟩
  case round =>
    obtain ⟨k, hk, rfl, rfl, hown, hbw⟩ := hrel
    by_cases hlt : k < a.length
    · obtain ⟨ba, oa, rfl⟩ := ha3 (by decide) (by omega)
      obtain ⟨u, v, c1, c2, s1, s2⟩ := row_at A0.out k hlt
      have htk : (a.take (k + 1)).map plainRow = (a.take k).map plainRow ++ [plainRow a[k]] := by rw [List.take_succ_eq_append_getElem hlt, List.map_append]; rfl
      have hlen : ((a.take k).map plainRow).length = k := by simp; omega
      replace c1 := (on_some.1 (below_sub hbw (fun _ h => h) _ _ c1)).2
      replace c2 := (on_some.1 (below_sub hbw (fun _ h => h) _ _ c2)).2
      generalize a[k] = t at c1 c2 s1 s2 htk
      obtain ⟨pu, cu, rfl, _⟩ := s1.form
      obtain ⟨pv, cv, rfl, _⟩ := s2.form
      have S1 := Lib.hid s1
      have HT := Lib.hid htk
      have HO := Lib.hid hown
      have HLEN := Lib.hid hlen
      have hd : decide ((k : Int) < (a.length : Int)) = true := by simp; omega
      have hbs := hbw.size
      clear s1 s2 htk hown hlen ha3 hb3
      go_wp2_with (at_builtin; refine wpList_append_one Rep.row (fun k => k < w4.heap.size) rfl _ _ 22 rfl w4.heap.size 32 i0 _ 48 Try.underlying22 hi hz0 hz1 hz2 rfl (by decide) _ ((a.take k).map plainRow) rfl ((HO.out.ext ((Ext.refl _).alloc _)).ext ((Ext.refl _).alloc _)) ⟨_, 0, none⟩ 1 (plainRow t) [.slice pu t.vals.length cu, .slice none 0 0] rfl ?c1 ?c2 ?c3 ?c4 ?c5 ?_)
      case c1 =>
        have hs := old_avoid (Below.trans hbw (((((Ext.refl wr).alloc (.cells #[.slice pu t.vals.length cu, .slice pv t.lin.length cv] 32)).alloc (.cells #[.slice pu t.vals.length cu, .slice none 0 0] 32))).mono hbw.size)) ((HO.out.ext ((Ext.refl _).alloc _)).ext ((Ext.refl _).alloc _))
        exact ⟨_, _, rfl, S1.out.ext hs, SliceOf.nil _ _⟩
      case c2 => first | exact cells_new _ [.slice pu t.vals.length cu, .slice none 0 0] _ | simpa using cells_new (wr.alloc (.cells #[.slice pu t.vals.length cu, .slice pv t.lin.length cv] 32)) [.slice pu t.vals.length cu, .slice none 0 0] 32
      case c3 => rw [HLEN.out]; unfold maxLen; omega
      case c4 => rw [HLEN.out]; omega
      case c5 => simp; omega
      intro g cap w5 hown5 hgr _
      go_wp2_with fail
      go_roundg (a.length - (k + 1))
      case measure => omega
      case rel =>
        refine ⟨k + 1, by omega, rfl, by go_num, by rw [HT.out, List.map_take]; exact hown5, ?_⟩
        exact Below.grown (Below.trans hbw ((((Ext.refl wr).alloc _).alloc _).mono hbw.size)) hgr (by simp; omega) (fun j hj => (HO.out.lt j hj).1)
    · have : k = a.length := by omega
      subst this
      obtain ⟨wA, hwA⟩ : ∃ u, u = wr := ⟨_, rfl⟩
      subst hwA
      rw [List.take_of_length_le (Nat.le_refl _)] at hown
      have hs := hown.slice
      have z5 : Ext w4 wA := hbw
      have fpl := plain_fit FA.out
      generalize a.map plainRow = pl at hs fpl HE
      have FPL := Lib.hid fpl
      obtain ⟨p7, q7, rfl, _⟩ := hs.form
      have P7 := Lib.hid hs
      have A2 := Lib.hid ((T2.out.ext z5.full).ext (full_on wA (fun k => k < wA.heap.size) fun k hk => hk))
      have y5 := y4.trans z5
      clear hown hs ha3 A0 hbw fpl
      go_wp2_with fail
      go_loopg [12, 48] b.length (fun gk out i wr => ∃ k : Nat, k ≤ b.length ∧ gk = b.length - k ∧ i = .int .i64 k ∧ OwnOf Rep.row wr (fun k => k < wA.heap.size) wA.heap.size 32 out ((b.take k).map plainRow) ∧ Below wA.heap.size wA wr)
      case atStart => exact ⟨0, by omega, rfl, rfl, OwnOf.nil _ _ _ _ _, Below.refl _ _⟩
      case round =>
        obtain ⟨k, hk, rfl, rfl, hown, hbw⟩ := hrel
        by_cases hlt : k < b.length
        · obtain ⟨ba, oa, rfl⟩ := hb3 (by decide) (by omega)
          obtain ⟨u, v, c1, c2, s1, s2⟩ := row_at A2.out k hlt
          have htk : (b.take (k + 1)).map plainRow = (b.take k).map plainRow ++ [plainRow b[k]] := by rw [List.take_succ_eq_append_getElem hlt, List.map_append]; rfl
          have hlen : ((b.take k).map plainRow).length = k := by simp; omega
          replace c1 := (on_some.1 (below_sub hbw (fun _ h => h) _ _ c1)).2
          replace c2 := (on_some.1 (below_sub hbw (fun _ h => h) _ _ c2)).2
          generalize b[k] = t at c1 c2 s1 s2 htk
          obtain ⟨pu, cu, rfl, _⟩ := s1.form
          obtain ⟨pv, cv, rfl, _⟩ := s2.form
          have S1 := Lib.hid s1
          have HT := Lib.hid htk
          have HO := Lib.hid hown
          have HLEN := Lib.hid hlen
          have hd : decide ((k : Int) < (b.length : Int)) = true := by simp; omega
          have hbs := hbw.size
          clear s1 s2 htk hown hlen hb3
          go_wp2_with (at_builtin; refine wpList_append_one Rep.row (fun k => k < wA.heap.size) rfl _ _ 22 rfl wA.heap.size 32 i0 _ 48 Try.underlying22 hi hz0 hz1 hz2 rfl (by decide) _ ((b.take k).map plainRow) rfl ((HO.out.ext ((Ext.refl _).alloc _)).ext ((Ext.refl _).alloc _)) ⟨_, 0, none⟩ 1 (plainRow t) [.slice pu t.vals.length cu, .slice none 0 0] rfl ?c1 ?c2 ?c3 ?c4 ?c5 ?_)
          case c1 =>
            have hs := old_avoid (Below.trans hbw (((((Ext.refl wr).alloc (.cells #[.slice pu t.vals.length cu, .slice pv t.lin.length cv] 32)).alloc (.cells #[.slice pu t.vals.length cu, .slice none 0 0] 32))).mono hbw.size)) ((HO.out.ext ((Ext.refl _).alloc _)).ext ((Ext.refl _).alloc _))
            exact ⟨_, _, rfl, S1.out.ext hs, SliceOf.nil _ _⟩
          case c2 => first | exact cells_new _ [.slice pu t.vals.length cu, .slice none 0 0] _ | simpa using cells_new (wr.alloc (.cells #[.slice pu t.vals.length cu, .slice pv t.lin.length cv] 32)) [.slice pu t.vals.length cu, .slice none 0 0] 32
          case c3 => rw [HLEN.out]; unfold maxLen; omega
          case c4 => rw [HLEN.out]; omega
          case c5 => simp; omega
          intro g cap w5 hown5 hgr _
          go_wp2_with fail
          go_roundg (b.length - (k + 1))
          case measure => omega
          case rel =>
            refine ⟨k + 1, by omega, rfl, by go_num, by rw [HT.out, List.map_take]; exact hown5, ?_⟩
            exact Below.grown (Below.trans hbw ((((Ext.refl wr).alloc _).alloc _).mono hbw.size)) hgr (by simp; omega) (fun j hj => (HO.out.lt j hj).1)
        · have : k = b.length := by omega
          subst this
          rw [List.take_of_length_le (Nat.le_refl _)] at hown
          have hs := hown.slice
          have z6 : Ext wA wr := hbw
          have fql := plain_fit FB.out
          generalize b.map plainRow = ql at hs fql HE
          have FQL := Lib.hid fql
          obtain ⟨p8, q8, rfl, _⟩ := hs.form
          have P8 := Lib.hid hs
          have hBB := eqB_of HE.out
          have HBB := Lib.hid hBB
          clear hown hs hb3 A2 hbw hBB fql
          go_wp2_with fail
          refine (awake_true _).mono ?_
          rintro e w6 ⟨rfl, x6⟩
          have z7 := z6.trans x6
          go_wp2_with fail
          refine (equal_rows _ _ pl ql _ (P7.out.ext z7.full) (P8.out.ext x6.full) FPL.out FQL.out).mono ?_
          rintro e w7 ⟨rfl, x7⟩
          rw [← HBB.out]
          have hE : (((lost.length : Int) + (gained.length : Int)) == 0) = eqB (lost.length + gained.length) 0 := by
            rw [Bool.eq_iff_iff, eqB_iff, beq_iff_eq]
            omega
          rw [← hE]
          have z8 := (z5.trans z7).trans x7
          clear z6 x6 z7 x7 hE
          generalize (((lost.length : Int) + (gained.length : Int)) == 0) = bb
          have hbb : (bb == bb) = true := by simp
          go_wp2_with fail
          refine (ref_sameRows _ _ _ _ _ (T3.out.ext z8.full) (T6.out.ext z8.full)).mono ?_
          rintro e w8 ⟨rfl, x8⟩
          rw [eqB_iff.2 rfl]
          have z9 := z8.trans x8.ext
          clear z8 x8
          go_wp2_with fail
          refine (ref_sameRows _ _ _ _ _ (T4.out.ext z9.full) (T5.out.ext z9.full)).mono ?_
          rintro e w9 ⟨rfl, x9⟩
          rw [eqB_iff.2 rfl]
          go_wp2_with fail
          go_ret
          exact ⟨rfl, (y4.trans z9).trans x9.ext⟩

end Go.Proofs.Ytmjfbfigdkolaaa
