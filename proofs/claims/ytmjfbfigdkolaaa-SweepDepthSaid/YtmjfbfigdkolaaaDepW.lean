/- the reference's Normalize, Coverage; the walk of SweepDepth -/
import Derived.Test.YtmjfbfigdkolaaaCovR
import Derived.Test.YtmjfbfigdkolaaaDepT
import Derived.Test.YtmjfbfigdkolaaaDepU
import Derived.Test.YtmjfbfigdkolaaaRefO
namespace Go.Proofs.Ytmjfbfigdkolaaa
open Go.RowKit Go.Shelf Go.Sort

theorem refNorm_step (l : List Per) (k : Nat) (h : k < l.length) : refNorm (l.take (k + 1)) = if validB l[k].from_ l[k].to_ = true then insPer (refNorm (l.take k)) l[k] else refNorm (l.take k) := by
  rw [List.take_succ_eq_append_getElem h, refNorm_snoc]

set_option maxRecDepth 100000 in
set_option maxHeartbeats 4000000 in
theorem refNormalize_any (v : Value) (l : List Per) (w : World) (hv : SliceOf Rep.per w.cell? v l) (hl : l.length ≤ 50) :
    Calls Try.prog 72 #[v] w fun e w' => ∃ v', e = .returned v' ∧ SliceOf Rep.per w'.cell? v' (refNorm l) ∧ Ext w w' := by
  have mixed := mixedOrd
  obtain ⟨p, cap, rfl, hc1, hc2, hp⟩ := hv.form
  obtain ⟨N, hN⟩ : ∃ N, N = l.length := ⟨_, rfl⟩
  have HV := Lib.hid hv
  rw [← hN]
  have HN := Lib.hid hN
  have HP := Lib.hid hp
  have hNl : N ≤ 50 := by omega
  clear hv hN hp hc1 hc2
  go_enter Try.func72, Try.ntmps72
  go_wp2_with fail
  go_loopg [3, 4] N (fun gk vo vi wr => ∃ (k : Nat) (u : Value) (o : List Per), k ≤ N ∧ gk = N - k ∧ vi = .int .i64 k ∧ u = vo ∧ Hid (SliceOf Rep.per wr.cell? u o) ∧ Hid (o = refNorm (l.take k)) ∧ Hid (Ext w wr))
  case atStart => exact ⟨0, _, [], by omega, rfl, rfl, rfl, SliceOf.nil _ _, rfl, Ext.refl w⟩
  case round =>
    obtain ⟨k, u, o, hk, rfl, rfl, rfl, OW, HO, X⟩ := hrel
    by_cases hlt : k < N
    · have hkl : k < l.length := by have := HN.out; omega
      obtain ⟨b, o', rfl⟩ := HP.out (by decide) (by omega)
      have hv := HV.out
      rw [← HN.out] at hv
      obtain ⟨c0, c1, r1, r2⟩ := per_at hv k hkl
      replace c0 := X.out.at c0
      replace c1 := X.out.at c1
      have hst := refNorm_step l k hkl
      rw [← HO.out] at hst
      have hol : o.length ≤ 1000 := by
        rw [HO.out]
        have h1 := refNorm_len (l.take k)
        have h2 := List.length_take_le k l
        omega
      generalize l[k] = q at c0 c1 r1 r2 hst
      obtain ⟨f, t⟩ := q
      dsimp only at c0 c1 r1 r2 hst
      have HST := Lib.hid hst
      have HR := Lib.hid (show okI f ∧ okI t from ⟨r1, r2⟩)
      have HOL := Lib.hid hol
      have hd : decide ((k : Int) < (N : Int)) = true := by simp; omega
      have hd1 : (k : Int) < (N : Int) := by omega
      have e0 := cell_lt c0
      obtain ⟨pu, cu, hu, _⟩ := OW.out.form
      subst hu
      clear hst r1 r2 hv hol
      go_wp2_with fail
      refine (rvalid_any f t _).mono ?_
      rintro e w1 ⟨rfl, x1⟩
      replace c0 := x1.at c0
      replace c1 := x1.at c1
      have X1 := Lib.hid x1
      have e1 := cell_lt c0
      clear x1 e0
      cases hvb : validB f t with
      | true =>
        have HVB := Lib.hid hvb
        clear hvb
        go_wp2_with fail
        refine (insert_any _ o f t _ (OW.out.ext X1.out.full) HR.out HOL.out).mono ?_
        rintro e w2 ⟨v2, rfl, s2, x2⟩
        have S2 := Lib.hid s2
        have X2 := Lib.hid ((X.out.trans X1.out).trans x2)
        clear s2 x2 c0 c1 e1
        go_wp2_with fail
        go_roundg (N - (k + 1))
        case measure => omega
        case rel => exact ⟨k + 1, v2, insPer o ⟨f, t⟩, by omega, rfl, by go_num, rfl, S2.out, by show _ = _; rw [HST.out, if_pos HVB.out], X2.out⟩
      | false =>
        have HVB := Lib.hid hvb
        clear hvb
        go_wp2_with fail
        go_roundg (N - (k + 1))
        case measure => omega
        case rel => exact ⟨k + 1, _, o, by omega, rfl, by go_num, rfl, OW.out.ext X1.out.full, by show _ = _; rw [HST.out, HVB.out, if_neg (by decide)], X.out.trans X1.out⟩
    · have hkN : k = N := by omega
      have hd : ¬ (k : Int) < (N : Int) := by omega
      have HF := Lib.hid (show o = refNorm l from by have h := HO.out; rwa [hkN, HN.out, List.take_length] at h)
      clear hkN
      go_wp2_with fail
      go_ret
      exact ⟨u, rfl, by rw [← HF.out]; exact OW.out, X.out⟩

set_option maxRecDepth 100000 in
set_option maxHeartbeats 4000000 in
theorem refCoverage_any (v : Value) (l : List Tup) (w : World) (hv : SliceOf Rep.tup w.cell? v l) (hl : l.length ≤ 50) :
    Calls Try.prog 38 #[v] w fun e w' => ∃ v', e = .returned v' ∧ SliceOf Rep.per w'.cell? v' (refNorm (l.map perOf)) ∧ Ext w w' := by
  obtain ⟨i0, hi, hz0, hz1, hz2⟩ := info_parts info_per
  obtain ⟨p, cap, rfl, hc1, hc2, hp⟩ := hv.form
  obtain ⟨N, hN⟩ : ∃ N, N = l.length := ⟨_, rfl⟩
  obtain ⟨ps, hps⟩ : ∃ ps, ps = l.map perOf := ⟨_, rfl⟩
  have HV := Lib.hid hv
  rw [← hN, ← hps]
  have HN := Lib.hid (show N = l.length ∧ N = ps.length from ⟨hN, by rw [hps, List.length_map]; exact hN⟩)
  have HPS := Lib.hid hps
  have HP := Lib.hid hp
  have hNl : N ≤ 50 := by omega
  clear hv hN hp hc1 hc2 hps
  go_enter Try.func38, Try.ntmps38
  go_wp2_with fail
  go_loopg [3, 8] N (fun gk vo vi wr => ∃ (k : Nat) (u : Value), k ≤ N ∧ gk = N - k ∧ vi = .int .i64 k ∧ u = vo ∧ Hid (OwnOf Rep.per wr (fun _ => True) w.heap.size 57 u (ps.take k)) ∧ Ext w wr)
  case atStart => exact ⟨0, _, by omega, rfl, rfl, rfl, OwnOf.nil _ _ _ _ _, Ext.refl w⟩
  case round =>
    obtain ⟨k, u, hk, rfl, rfl, rfl, OW, hx⟩ := hrel
    by_cases hlt : k < N
    · have hkl : k < l.length := by have := HN.out; omega
      have hkp : k < ps.length := by have := HN.out; omega
      obtain ⟨b, o, rfl⟩ := HP.out (by decide) (by omega)
      have hv := HV.out
      rw [← HN.out.1] at hv
      obtain ⟨ta, tb, c0, c1, c2, c3, g0, g1, r1, r2⟩ := tup_at hv k hkl
      obtain ⟨pa, ka, ta', _⟩ := g0.form
      obtain ⟨pb, kb, tb', _⟩ := g1.form
      subst ta' tb'
      replace c0 := hx.at c0
      replace c1 := hx.at c1
      replace c2 := hx.at c2
      replace c3 := hx.at c3
      have hst : ps.take (k + 1) = ps.take k ++ [⟨l[k].from_, l[k].to_⟩] := by
        rw [List.take_succ_eq_append_getElem hkp]
        congr 2
        simp only [HPS.out, List.getElem_map, perOf]
      have hlen : (ps.take k).length ≤ 50 := by simp only [List.length_take]; omega
      generalize l[k].from_ = f at c1 hst r1
      generalize l[k].to_ = t at c2 hst r2
      generalize l[k].vals.length = na at c0
      generalize l[k].lin.length = nb at c3
      have HST := Lib.hid hst
      have HR := Lib.hid (show okI f ∧ okI t from ⟨r1, r2⟩)
      have HL := Lib.hid hlen
      have hd : decide ((k : Int) < (N : Int)) = true := by simp; omega
      have e0 := cell_lt c0
      have B1 : (ps.take k).length + [(⟨f, t⟩ : Per)].length ≤ maxLen := by simp only [List.length_singleton, maxLen]; omega
      have B2 : ((ps.take k).length + [(⟨f, t⟩ : Per)].length) * 16 ≤ 140737488355328 := by simp only [List.length_singleton]; omega
      obtain ⟨q, hq⟩ : ∃ q, q = ps.take k := ⟨_, rfl⟩
      rw [← hq] at OW B1 B2 HST
      clear hst g0 g1 r1 r2 hv hlen hq
      go_wp2_with (at_builtin; refine wpList_append_all Rep.per (fun _ => True) rfl _ _ 52 rfl w.heap.size 57 i0 _ 16 Try.underlying52 hi hz0 hz1 hz2 rfl (by decide) u q rfl (by exact OW.out.ext (((Ext.refl wr).alloc _).alloc _)) _ [⟨f, t⟩] rfl (by have h := lone_flat (T := 57) (cs := perEnc ⟨f, t⟩) flat_per ⟨rfl, HR.out⟩ (OW.out.ext ((Ext.refl wr).alloc (.cells #[.slice pa na ka, .int .i64 f, .int .i64 t, .slice pb nb kb] 61))); rw [alloc_size] at h; exact h) B1 B2 (by exact Nat.le_trans hx.size (((Ext.refl wr).alloc _).alloc _).size) ?_)
      intro v' w3 own gr _
      have hxx : Ext w w3 := ((hx.alloc _).alloc _).grownNew gr OW.out.base
      have OW2 := Lib.hid own
      clear own gr
      go_wp2_with fail
      go_roundg (N - (k + 1))
      case measure => omega
      case rel => exact ⟨k + 1, v', by omega, rfl, by go_num, rfl, by show OwnOf _ _ _ _ _ _ _; rw [HST.out]; exact OW2.out, hxx⟩
    · have hkN : k = N := by omega
      have hd : ¬ (k : Int) < (N : Int) := by omega
      have OW2 := Lib.hid (show OwnOf Rep.per wr (fun _ => True) w.heap.size 57 u ps from by have h := OW.out; rwa [hkN, HN.out.2, List.take_length] at h)
      clear hkN OW
      go_wp2_with fail
      refine (refNormalize_any _ ps _ OW2.out.slice (by have := HN.out.2; omega)).mono ?_
      rintro e w4 ⟨v4, rfl, s4, x4⟩
      have S4 := Lib.hid s4
      have X4 := Lib.hid (hx.trans x4)
      clear s4 x4
      go_wp2_with fail
      go_ret
      exact ⟨_, rfl, S4.out, X4.out⟩


set_option maxRecDepth 100000 in
set_option maxHeartbeats 4000000 in
theorem SweepDepth_walk (v0 : Value) (a : List Tup) {w : World} (s0 : SliceOf Rep.tup w.cell? v0 a) :
    Calls Try.prog 10 #[v0] w fun e w' => e = .returned (.bool true) ∧ Ext w w' := by
  have S0 := Lib.hid s0
  obtain ⟨p0, q0, rfl, _⟩ := s0.form
  clear s0
  go_enter Try.func10, Try.ntmps10
  go_wp2_with fail
  refine (fewTuples_any _ 25 (by decide) a _ S0.out).mono ?_
  rintro e w1 ⟨b1, rfl, h1, rfl⟩
  have H1 := Lib.hid h1
  clear h1
  cases b1 with
  | false =>
    go_wp2_with fail
    refine (awake_sweep _).mono ?_
    rintro e w2 ⟨rfl, x2⟩
    have X2 := Lib.hid x2
    clear x2
    go_wp2_with fail
    go_ret
    exact ⟨rfl, X2.out⟩
  | true =>
    have HL := Lib.hid (show a.length ≤ 50 from Nat.le_trans (show a.length ≤ 25 by first | exact H1.out trivial | exact H1.out rfl | exact H1.out) (by omega))
    have hdl : (depthOf a).length ≤ 100000 := by
      rw [depthOf_eq]
      have h1 := stepsOf_len (pts a) (fDep a) ((pts a).length - 1)
      have h2 := pts_len a
      have h3 := HL.out
      omega
    have hcl : (refNorm (a.map perOf)).length ≤ 100000 := by
      have h1 := refNorm_len (a.map perOf)
      rw [List.length_map] at h1
      have h3 := HL.out
      omega
    have HDL := Lib.hid (And.intro hdl hcl)
    clear hdl hcl
    go_wp2_with fail
    refine (awake_sweep _).mono ?_
    rintro e w2 ⟨rfl, x2⟩
    have X2 := Lib.hid x2
    clear x2
    go_wp2_with fail
    refine (depth_any _ a _ (S0.out.ext X2.out.full) HL.out).mono ?_
    rintro e w3 ⟨u3, rfl, t3, x3⟩
    have T3 := Lib.hid (t3.ext (on_sub _ _))
    have X3 := Lib.hid (X2.out.trans x3)
    obtain ⟨r3, k3, rfl, _⟩ := t3.form
    clear t3 x3 X2
    go_wp2_with fail
    refine (ref_depth _ a _ (S0.out.ext X3.out.full) HL.out).mono ?_
    rintro e w4 ⟨u4, rfl, t4, x4⟩
    have T4 := Lib.hid t4
    have T5 := Lib.hid (T3.out.ext x4.full)
    have X4 := Lib.hid (X3.out.trans x4)
    obtain ⟨r4, k4, rfl, _⟩ := t4.form
    clear t4 x4 X3 T3
    go_wp2_with fail
    refine (sameSteps_any _ _ (depthOf a) _ T5.out T4.out HDL.out.1).mono ?_
    rintro e w5 ⟨rfl, x5⟩
    have X5 := Lib.hid (X4.out.trans x5)
    clear x5
    go_wp2_with fail
    refine (coverage_any _ a _ (S0.out.ext X5.out.full) HL.out).mono ?_
    rintro e w6 ⟨u6, rfl, t6, x6⟩
    have T6 := Lib.hid (t6.ext (on_sub _ _))
    have X6 := Lib.hid (X5.out.trans x6)
    obtain ⟨r6, k6, rfl, _⟩ := t6.form
    clear t6 x6 X5
    go_wp2_with fail
    refine (refCoverage_any _ a _ (S0.out.ext X6.out.full) HL.out).mono ?_
    rintro e w7 ⟨u7, rfl, t7, x7⟩
    have T7 := Lib.hid t7
    have T8 := Lib.hid (T6.out.ext x7.full)
    have X7 := Lib.hid (X6.out.trans x7)
    obtain ⟨r7, k7, rfl, _⟩ := t7.form
    clear t7 x7 X6 T6
    go_wp2_with fail
    refine (samePeriods_any _ _ (refNorm (a.map perOf)) _ T8.out T7.out HDL.out.2).mono ?_
    rintro e w8 ⟨rfl, x8⟩
    have X8 := Lib.hid (X7.out.trans x8)
    clear x8
    go_wp2_with fail
    go_ret
    exact ⟨rfl, X8.out⟩

end Go.Proofs.Ytmjfbfigdkolaaa
