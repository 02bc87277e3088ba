/- the walk of GroupCounts -/
import Derived.Test.YtdgpbpbjlnlijaaGreatDoorKC14
import Derived.Test.YtdgpbpbjlnlijaaGreatDoorKC19
namespace Go.Proofs.YtdgpbpbjlnlijaaGreatDoor
open Go.RowKit Go.Maps

set_option maxRecDepth 100000 in
set_option maxHeartbeats 8000000 in
theorem GroupCounts_walk (v0 : Value) (x : List Num5) (k tm : Int) {w : World} (s0 : SliceOf Rep.num w.cell? v0 x) (hk : (Lit.int .u8 k).wf = true) (ht : (Lit.int .u16 tm).wf = true) (hT : TabW w) (hD : DaysW w) :
    Calls Tryz.prog 6 #[v0, .int .u8 k, .int .u16 tm] w fun e w' => e = .returned (.bool true) ∧ Ext w w' := by
  have S0 := Lib.hid s0
  obtain ⟨p0, q0, rfl, _⟩ := s0.form
  have htm : 0 ≤ tm ∧ tm ≤ 65535 := by simpa [Lit.wf, IntKind.min, IntKind.max, IntKind.signed, IntKind.bits] using ht
  have hkm : 0 ≤ k ∧ k ≤ 255 := by simpa [Lit.wf, IntKind.min, IntKind.max, IntKind.signed, IntKind.bits] using hk
  have HKM := Lib.hid hkm
  have HT := Lib.hid (And.intro hT hD)
  clear s0 ht hk hT hD hkm
  obtain ⟨h0, h1⟩ := htm
  go_enter Tryz.func6, Tryz.ntmps6
  go_wp2_with fail
  refine (tuples_gen _ x 12 (by decide) _ S0.out).mono ?_
  rintro e w1 ⟨u1, rfl, t1, x1⟩
  have la := genTups_len x 12
  have fa := genTups_fit2 x 12
  generalize genTups x 12 = a at t1 la fa
  obtain ⟨r1, k1, rfl, _⟩ := t1.form
  have T1 := Lib.hid (t1.ext (on_sub _ _))
  have X1 := Lib.hid x1
  have HL := Lib.hid la
  have HFA := Lib.hid fa
  clear t1 x1 la fa S0
  obtain ⟨at_, hat⟩ : ∃ z, z = tm % 60 := ⟨_, rfl⟩
  have hA0 : 0 ≤ at_ ∧ at_ < 60 := by omega
  have eA : tm % 60 = at_ := hat.symm
  have HAT := Lib.hid hA0
  clear hat hA0
  go_wp2_with fail
  try rw [eA]
  refine (exprs_any _).mono ?_
  rintro e w2 ⟨u2, rfl, t2, x2⟩
  obtain ⟨pe, ce, rfl, _⟩ := t2.form
  have HE := Lib.hid t2
  replace T1 := Lib.hid (T1.out.ext x2.full)
  have X2 := Lib.hid (X1.out.trans x2)
  clear t2 x2 X1
  go_wp2_with fail
  refine (keysOf_any k _ HKM.out.1 HKM.out.2).mono ?_
  rintro e w3 ⟨u3, rfl, t3, x3⟩
  have hkl := keysL_len k
  have hki := keysL_in k
  have hpn := proj_nil k
  generalize keysL k = ks at t3 hkl hki hpn
  obtain ⟨pk, ck, rfl, _⟩ := t3.form
  have HKS := Lib.hid t3
  have HKL := Lib.hid (And.intro hkl hki)
  have HPN := Lib.hid hpn
  replace T1 := Lib.hid (T1.out.ext x3.full)
  replace HE := Lib.hid (HE.out.ext x3.full)
  have X3 := Lib.hid (X2.out.trans x3)
  clear t3 x3 X2 hkl hki hpn
  go_wp2_with fail
  have LA := Lib.hid (show SliceOf Rep.agg (w3.alloc (.cells #[.int .i64 1, .int .i64 0] 48)).cell? (.slice (some ⟨w3.heap.size, 0, none⟩) 1 1) [⟨1, 0⟩] from slice_lit Rep.agg w3 [.int .i64 1, .int .i64 0] 48 [[.int .i64 1, .int .i64 0]] [⟨1, 0⟩] rfl ⟨⟨rfl, by unfold okI; dsimp only; omega, by unfold okI; dsimp only; omega⟩, trivial⟩ (by simp [maxLen]))
  have X34 := Lib.hid ((Ext.refl w3).alloc (.cells #[.int .i64 1, .int .i64 0] 48))
  have X4 := Lib.hid (X3.out.trans X34.out)
  replace T1 := Lib.hid (T1.out.ext X34.out.full)
  refine (group_any _ a _ exC _ ks _ (cntV 1) _ T1.out (by have := HL.out; omega) HFA.out (HE.out.ext X34.out.full) exC_op (by simp [exC]) (HKS.out.ext X34.out.full) HKL.out.2 (by have := HKL.out.1; omega) ⟨_, _, _, rfl⟩ (rowLaw_count ⟨_, _, _, rfl⟩ LA.out (by have := HKL.out.1; omega) (by have := HL.out; omega) HFA.out) (cnt_fit a) (HT.out.1.ext X4.out) (HT.out.2.ext X4.out)).mono ?_
  rintro e w5 ⟨u5, rfl, t5, x5⟩
  have hal := agg_len (projC exC ks) (cntV 1) (decide (ks.length = 0)) a (by have := HL.out; omega)
  have haf := agg_fit (projC exC ks) (cntV 1) (decide (ks.length = 0)) a at_ (by have := HL.out; omega) HFA.out (cnt_fit a) (fun vs => by rw [proj_len]; have := HKL.out.1; omega)
  have hsum := cnt_sum (projC exC ks) (decide (ks.length = 0)) HPN.out a at_ HAT.out.1 (by have := HAT.out; omega)
  have hrows := cnt_rows (projC exC ks) (decide (ks.length = 0)) a at_
  generalize aggT (projC exC ks) (cntV 1) (decide (ks.length = 0)) a = g at t5 hal haf hsum hrows
  obtain ⟨r5, k5, rfl, _⟩ := t5.form
  have T5 := Lib.hid (t5.ext (on_sub _ _))
  replace T1 := Lib.hid (T1.out.ext x5.full)
  have X5 := Lib.hid (X4.out.trans x5)
  have HAL := Lib.hid (And.intro hal haf)
  have HSUM := Lib.hid hsum
  have HROWS := Lib.hid hrows
  clear t5 x5 X3 X34 X4 LA HE HKS HPN hal haf hsum hrows HKL
  go_wp2_with fail
  refine (timeslice_gen _ g at_ _ T5.out HAL.out.1 HAL.out.2).mono ?_
  rintro e w6 ⟨u6, rfl, t6, x6⟩
  obtain ⟨R, hR⟩ : ∃ R, R = sortBy cmpRow (sliceRows g at_) := ⟨_, rfl⟩
  rw [← hR] at t6
  have hsum2 : sumG R = cntAt a at_ := by rw [hR, sumG_perm (sortBy_perm _ _)]; exact HSUM.out
  have hrows2 : ∀ r ∈ R, ∃ (kv : List Val) (c : Nat), r.vals = kv ++ [intVal c] ∧ lastN r = c := fun r hr => HROWS.out r (by rw [hR] at hr; exact (sortBy_perm _ _).mem_iff.1 hr)
  have hlen : R.length ≤ 1048576 := by rw [hR, sortBy_length]; exact HAL.out.2.1
  obtain ⟨r6, k6, rfl, _, _, hp6⟩ := t6.form
  have T6 := Lib.hid (t6.ext (on_sub _ _))
  replace T1 := Lib.hid (T1.out.ext x6.full)
  have X6 := Lib.hid (X5.out.trans x6)
  have HP6 := Lib.hid hp6
  have HS2 := Lib.hid hsum2
  have HR2 := Lib.hid hrows2
  obtain ⟨N, hN⟩ : ∃ N, N = R.length := ⟨_, rfl⟩
  rw [← hN] at hlen
  have HN := Lib.hid hN
  rw [← hN] at T6 HP6 ⊢
  clear t6 x6 hR hsum2 hrows2 hp6 hN X5 T5 HAL HSUM HROWS h0 h1 eA
  go_wp2_with fail
  go_loopg [9, 30] N (fun gk vn vi wr => ∃ (k : Nat) (n : Int), k ≤ N ∧ gk = N - k ∧ vi = .int .i64 k ∧ vn = .int .i64 n ∧ Hid (n = (sumG (R.take k) : Nat)) ∧ Hid (Ext w6 wr))
  case atStart => exact ⟨0, 0, by omega, rfl, rfl, rfl, rfl, Ext.refl w6⟩
  case round =>
    obtain ⟨k, n, hk, rfl, rfl, rfl, HC, X7⟩ := hrel
    by_cases hlt : k < N
    · have hkl : k < R.length := by have := HN.out; omega
      have hd : decide ((k : Int) < (N : Int)) = true := by simp; omega
      obtain ⟨b0, o, rfl⟩ := HP6.out (by decide) (by omega)
      have hv := T6.out
      rw [HN.out] at hv
      obtain ⟨ua, ub, c0, c1, g0, g1⟩ := row_at hv k hkl
      obtain ⟨kv, c, hvs, hlast⟩ := HR2.out R[k] (List.getElem_mem hkl)
      have hst := sumG_take R k hkl
      have hle := sumG_le R (k + 1)
      rw [HS2.out] at hle
      rw [hlast] at hst
      rw [hvs] at g0
      obtain ⟨pa, ka, rfl, _, _, hpa⟩ := g0.form
      obtain ⟨pb, kb, rfl, _⟩ := g1.form
      obtain ⟨b2, o2, rfl⟩ := hpa (by decide) (by simp)
      obtain ⟨m0, m1, m2, _, _⟩ := val_cells g0 kv.length (by simp)
      obtain ⟨q, hq⟩ : ∃ q, q = (kv ++ [intVal c]).length := ⟨_, rfl⟩
      have hq1 : q = kv.length + 1 := by rw [hq]; simp
      have hql : q ≤ maxLen := by rw [hq]; omega
      rw [← hq] at c0
      obtain ⟨m, hm⟩ : ∃ m, m = kv.length := ⟨_, rfl⟩
      have hmv : (kv ++ [intVal c])[kv.length]'(by simp) = intVal c := by simp
      rw [hmv] at m0 m1 m2
      rw [← hm] at m0 m1 m2 hq1
      simp only [intVal] at m0 m1 m2
      replace c0 := X7.out.at c0
      replace c1 := X7.out.at c1
      replace m0 := X7.out.at m0
      replace m1 := X7.out.at m1
      replace m2 := X7.out.at m2
      have hca := cnt_len a at_
      have hn0 : 0 ≤ n ∧ n + c ≤ 12 := by have := HC.out; have := HL.out; omega
      have HNX := Lib.hid (show n + (c : Int) = (sumG (R.take (k + 1)) : Nat) from by rw [hst, HC.out]; push_cast; rfl)
      have e0 := cell_lt c0
      have e1 := cell_lt m1
      have hz : ((q : Int) == 0) = false := by simp; omega
      have hw1 : IntKind.i64.wrap ((q : Int) - 1) = (m : Int) := by rw [IntKind.wrap_i64]; unfold maxLen at hql; omega
      have hmq : m < q := by omega
      have hmq2 : (m : Int) < (q : Int) := by omega
      have hw2 : IntKind.i64.wrap (n + (c : Int)) = n + (c : Int) := by rw [IntKind.wrap_i64]; omega
      clear hst hle hv hvs hlast g0 g1 hpa hq hq1 hql hm hmv hca hn0
      go_wp2_with fail
      go_roundg (N - (k + 1))
      case measure => omega
      case rel => exact ⟨k + 1, n + c, by omega, rfl, by go_num, rfl, HNX.out, X7.out.alloc _⟩
    · have hkN : k = N := by omega
      have hd : ¬ (k : Int) < (N : Int) := by omega
      have HTOT := Lib.hid (show n = (cntAt a at_ : Nat) from by rw [HC.out, hkN, HN.out, List.take_length, HS2.out])
      replace T1 := Lib.hid (T1.out.ext X7.out.full)
      have X8 := Lib.hid (X6.out.trans X7.out)
      clear hkN HC X7 X6
      go_wp2_with fail
      refine (depth_any _ a _ T1.out (by have := HL.out; omega)).mono ?_
      rintro e w8 ⟨u8, rfl, t8, x8⟩
      have X9 := Lib.hid (X8.out.trans x8)
      have T8 := Lib.hid (t8.ext (on_sub _ _))
      obtain ⟨r8, k8, rfl, _, _, hp8⟩ := t8.form
      have HP8 := Lib.hid hp8
      have hdl : (depthOf a).length ≤ 50 := by rw [depthOf_eq]; have h1 := stepsOf_len (pts a) (fDep a) ((pts a).length - 1); have h2 := pts_len a; have h3 := HL.out; omega
      have HDA := Lib.hid (depth_at a at_)
      generalize depthOf a = d at T8 HP8 HDA hdl ⊢
      obtain ⟨M, hM⟩ : ∃ M, M = d.length := ⟨_, rfl⟩
      rw [← hM] at T8 HP8 ⊢
      have hM5 : M ≤ 50 := by omega
      have HM := Lib.hid hM
      clear t8 x8 hp8 X8 hM hdl
      go_wp2_with fail
      go_loopg [10, 53] M (fun gk vd vi wr => ∃ (k : Nat) (z : Int), k ≤ M ∧ gk = M - k ∧ vi = .int .i64 k ∧ vd = .int .i64 z ∧ Hid (z = valAt at_ (d.take k)) ∧ Hid (Ext w8 wr))
      case atStart => exact ⟨0, 0, by omega, rfl, rfl, rfl, rfl, Ext.refl w8⟩
      case round =>
        obtain ⟨k, z, hk, rfl, rfl, rfl, HZ, X7⟩ := hrel
        by_cases hlt2 : k < M
        · have hkl : k < d.length := by have := HM.out; omega
          have hd2 : decide ((k : Int) < (M : Int)) = true := by simp; omega
          obtain ⟨b0, o, rfl⟩ := HP8.out (by decide) (by omega)
          have hv := T8.out
          rw [HM.out] at hv
          obtain ⟨c0, c1, c2, c3, c4⟩ := stepH_at hv k hkl
          replace c0 := X7.out.at c0
          replace c1 := X7.out.at c1
          replace c2 := X7.out.at c2
          replace c3 := X7.out.at c3
          replace c4 := X7.out.at c4
          have hst := valAt_take at_ d k hkl
          rw [← HZ.out] at hst
          generalize d[k].from_ = f at c0 hst
          generalize d[k].to_ = t at c1 hst
          generalize d[k].n = sn at c3 hst
          have HST := Lib.hid hst
          have e0 := cell_lt c0
          clear hst hv
          by_cases g1 : f ≤ at_
          · have b1 : decide (f ≤ at_) = true := decide_eq_true g1
            by_cases g2 : at_ < t
            · have b2 : decide (at_ < t) = true := decide_eq_true g2
              have HNX := Lib.hid (show sn = valAt at_ (d.take (k + 1)) from by rw [HST.out, if_pos ⟨g1, g2⟩])
              clear g1 g2
              go_wp2_with fail
              go_roundg (M - (k + 1))
              case measure => omega
              case rel => exact ⟨k + 1, sn, by omega, rfl, by go_num, rfl, HNX.out, X7.out.alloc _⟩
            · have b2 : decide (at_ < t) = false := decide_eq_false g2
              have HNX := Lib.hid (show z = valAt at_ (d.take (k + 1)) from by rw [HST.out, if_neg fun h => g2 h.2])
              clear g1 g2
              go_wp2_with fail
              go_roundg (M - (k + 1))
              case measure => omega
              case rel => exact ⟨k + 1, z, by omega, rfl, by go_num, rfl, HNX.out, X7.out.alloc _⟩
          · have b1 : decide (f ≤ at_) = false := decide_eq_false g1
            have HNX := Lib.hid (show z = valAt at_ (d.take (k + 1)) from by rw [HST.out, if_neg fun h => g1 h.1])
            clear g1
            go_wp2_with fail
            go_roundg (M - (k + 1))
            case measure => omega
            case rel => exact ⟨k + 1, z, by omega, rfl, by go_num, rfl, HNX.out, X7.out.alloc _⟩
        · have hkM : k = M := by omega
          have hd2 : ¬ (k : Int) < (M : Int) := by omega
          have HDZ := Lib.hid (show z = (cntAt a at_ : Int) from by rw [HZ.out, hkM, HM.out, List.take_length]; exact HDA.out)
          have X10 := Lib.hid (X9.out.trans X7.out)
          clear hkM HZ X7 X9
          go_wp2_with fail
          refine (awake_group _ (HT.out.1.ext X10.out) (HT.out.2.ext X10.out)).mono ?_
          rintro e w9 ⟨rfl, x9⟩
          have X11 := Lib.hid (X10.out.trans x9)
          have bq : (n == z) = true := by rw [HTOT.out, HDZ.out]; simp
          clear x9 X10
          go_wp2_with fail
          go_ret
          exact ⟨by simp, X11.out⟩

end Go.Proofs.YtdgpbpbjlnlijaaGreatDoor
