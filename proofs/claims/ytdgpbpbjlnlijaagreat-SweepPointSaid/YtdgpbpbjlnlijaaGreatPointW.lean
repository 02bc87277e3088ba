/- the walk of SweepPoint -/
import Derived.Test.YtdgpbpbjlnlijaaGreatPointP
import Derived.Test.YtdgpbpbjlnlijaaGreatAwakeS
import Derived.Test.YtdgpbpbjlnlijaaGreatGenC
import Derived.Test.YtdgpbpbjlnlijaaGreatTupT
namespace Go.Proofs.YtdgpbpbjlnlijaaGreat
open Go.RowKit

theorem pairG_at {h : View} {b o n cap : Nat} {xs : List Pair} (k : SliceOf Rep.pair h (.slice (some ⟨b, o, none⟩) n cap) xs) (i : Nat) (hi : i < xs.length) :
    h ⟨b, o + i * 4, none⟩ = some (.int .i64 xs[i].a) ∧ h ⟨b, o + i * 4 + 1, none⟩ = some (.int .i64 xs[i].b) ∧ h ⟨b, o + i * 4 + 2, none⟩ = some (.int .i64 xs[i].from_) ∧ h ⟨b, o + i * 4 + 3, none⟩ = some (.int .i64 xs[i].to_) := by
  obtain ⟨c, ⟨rfl, _⟩, h2⟩ := k.at i hi
  exact ⟨h2 0 _ rfl, h2 1 _ rfl, h2 2 _ rfl, h2 3 _ rfl⟩
theorem stepH_at {h : View} {b o n cap : Nat} {xs : List StepI} (k : SliceOf Rep.step h (.slice (some ⟨b, o, none⟩) n cap) xs) (i : Nat) (hi : i < xs.length) :
    h ⟨b, o + i * 5, none⟩ = some (.int .i64 xs[i].from_) ∧ h ⟨b, o + i * 5 + 1, none⟩ = some (.int .i64 xs[i].to_) ∧ h ⟨b, o + i * 5 + 2, none⟩ = some (.int .i64 1) ∧ h ⟨b, o + i * 5 + 3, none⟩ = some (.int .i64 xs[i].n) ∧ h ⟨b, o + i * 5 + 4, none⟩ = some (.string ByteArray.empty) := by
  obtain ⟨c, ⟨rfl, _⟩, h2⟩ := k.at i hi
  exact ⟨h2 0 _ rfl, h2 1 _ rfl, h2 2 _ rfl, h2 3 _ rfl, h2 4 _ rfl⟩
theorem genTups_fit (x : List Num5) (m : Nat) (hm : m ≤ 1000) : fitTs (genTups x m) := by
  refine ⟨Nat.le_trans (genTups_len x m) (by omega), fun t ht => ?_⟩
  obtain ⟨y, _, rfl⟩ := List.mem_map.1 ht
  exact ⟨by simp [genTup, genVals], by simp [genTup]⟩
theorem pcount_take (p : Pair → Bool) (l : List Pair) (k : Nat) (h : k < l.length) : ((l.take (k + 1)).filter p).length = ((l.take k).filter p).length + if p l[k] = true then 1 else 0 := by
  rw [List.take_succ_eq_append_getElem h, List.filter_append, List.length_append, List.filter_cons, List.filter_nil]
  split <;> rfl
theorem valAt_take (t : Int) (l : List StepI) (k : Nat) (h : k < l.length) : valAt t (l.take (k + 1)) = if l[k].from_ ≤ t ∧ t < l[k].to_ then l[k].n else valAt t (l.take k) := by
  rw [List.take_succ_eq_append_getElem h, valAt_snoc]

set_option maxRecDepth 100000 in
set_option maxHeartbeats 8000000 in
theorem SweepPoint_walk (v0 : Value) (x : List Num5) (v1 : Value) (y : List Num5) (tm : Int) {w : World} (s0 : SliceOf Rep.num w.cell? v0 x) (s1 : SliceOf Rep.num w.cell? v1 y) (ht : (Lit.int .u16 tm).wf = true) :
    Calls Tryz.prog 3 #[v0, v1, .int .u16 tm] w fun e w' => e = .returned (.bool true) ∧ Ext w w' := by
  have S0 := Lib.hid s0
  have S1 := Lib.hid s1
  obtain ⟨p0, q0, rfl, _⟩ := s0.form
  obtain ⟨p1, q1, rfl, _⟩ := s1.form
  have htm : 0 ≤ tm ∧ tm ≤ 65535 := by simpa [Lit.wf, IntKind.min, IntKind.max, IntKind.signed, IntKind.bits] using ht
  clear s0 s1 ht
  obtain ⟨h0, h1⟩ := htm
  go_enter Tryz.func3, Tryz.ntmps3
  go_wp2_with fail
  refine (tuples_gen _ x 20 (by decide) _ S0.out).mono ?_
  rintro e w1 ⟨u1, rfl, t1, x1⟩
  have la := genTups_len x 20
  have fa := genTups_fit x 20 (by decide)
  generalize genTups x 20 = a at t1 la fa
  obtain ⟨r1, k1, rfl, _⟩ := t1.form
  have T1 := Lib.hid (t1.ext (on_sub _ _))
  clear t1
  go_wp2_with fail
  refine (tuples_gen _ y 20 (by decide) _ (S1.out.ext x1.full)).mono ?_
  rintro e w2 ⟨u2, rfl, t2, x2⟩
  have lb := genTups_len y 20
  have fb := genTups_fit y 20 (by decide)
  generalize genTups y 20 = b at t2 lb fb
  obtain ⟨r2, k2, rfl, _⟩ := t2.form
  have T2 := Lib.hid (t2.ext (on_sub _ _))
  replace T1 := Lib.hid (T1.out.ext x2.full)
  have X2 := Lib.hid (x1.trans x2)
  have HL := Lib.hid (And.intro la lb)
  have HFA := Lib.hid fa
  have HFB := Lib.hid fb
  clear t2 x1 x2 la lb S0 S1 fa fb
  obtain ⟨at_, hat⟩ : ∃ z, z = tm % 60 := ⟨_, rfl⟩
  have hA0 : 0 ≤ at_ ∧ at_ < 60 := by omega
  have eA : tm % 60 = at_ := hat.symm
  have HAT := Lib.hid hA0
  clear hat hA0
  go_wp2_with fail
  try rw [eA]
  refine (overlap_any _ _ a b _ T1.out T2.out (by have := HL.out; omega) (by have := HL.out; omega)).mono ?_
  rintro e w3 ⟨u3, rfl, t3, x3⟩
  obtain ⟨r3, k3, rfl, _, _, hp3⟩ := t3.form
  have HP3 := Lib.hid hp3
  have T3 := Lib.hid (t3.ext (on_sub _ _))
  replace T1 := Lib.hid (T1.out.ext x3.full)
  replace T2 := Lib.hid (T2.out.ext x3.full)
  have X3 := Lib.hid (X2.out.trans x3)
  have hbig := pairs_len a b
  have hbig2 : (pairsOf a b).length ≤ 400 := by
    have := HL.out
    exact Nat.le_trans hbig (Nat.le_trans (Nat.mul_le_mul this.1 this.2) (by decide))
  have hpa := pairs_at a b at_
  have HPA := Lib.hid hpa
  clear t3 x3 X2 hp3 hbig hpa
  generalize pairsOf a b = ps at T3 HP3 HPA hbig2 ⊢
  obtain ⟨N, hN⟩ : ∃ N, N = ps.length := ⟨_, rfl⟩
  rw [← hN] at T3 HP3 ⊢
  have hN4 : N ≤ 400 := by omega
  have HN := Lib.hid hN
  clear hN hbig2 eA h0 h1
  go_wp2_with fail
  go_loopg [10, 28] N (fun gk vn vi wr => ∃ (k n : Nat), k ≤ N ∧ gk = N - k ∧ vi = .int .i64 k ∧ vn = .int .i64 n ∧ Hid (n = ((ps.take k).filter (inP at_)).length) ∧ n ≤ k ∧ Hid (Ext w3 wr))
  case atStart => exact ⟨0, 0, by omega, rfl, rfl, rfl, rfl, by omega, Ext.refl w3⟩
  case round =>
    obtain ⟨k, n, hk, rfl, rfl, rfl, HC, hnk, X4⟩ := hrel
    by_cases hlt : k < N
    · have hkl : k < ps.length := by have := HN.out; omega
      have hd : decide ((k : Int) < (N : Int)) = true := by simp; omega
      obtain ⟨b0, o, rfl⟩ := HP3.out (by decide) (by omega)
      have hv := T3.out
      rw [HN.out] at hv
      obtain ⟨c0, c1, c2, c3⟩ := pairG_at hv k hkl
      replace c0 := X4.out.at c0
      replace c1 := X4.out.at c1
      replace c2 := X4.out.at c2
      replace c3 := X4.out.at c3
      have hst := pcount_take (inP at_) ps k hkl
      rw [← HC.out] at hst
      unfold inP at hst
      generalize ps[k].from_ = f at c2 hst
      generalize ps[k].to_ = t at c3 hst
      generalize (ps[k].a : Int) = na at c0
      generalize (ps[k].b : Int) = nb at c1
      have HST := Lib.hid hst
      have e0 := cell_lt c0
      have hw1 : IntKind.i64.wrap ((n : Int) + 1) = (n : Int) + 1 := by rw [IntKind.wrap_i64]; omega
      clear hst hv
      by_cases g1 : f ≤ at_
      · have b1 : decide (f ≤ at_) = true := decide_eq_true g1
        by_cases g2 : at_ < t
        · have b2 : decide (at_ < t) = true := decide_eq_true g2
          have HNX := Lib.hid (show n + 1 = ((ps.take (k + 1)).filter (inP at_)).length from by unfold inP; rw [HST.out, b1, b2]; rfl)
          clear g1 g2
          go_wp2_with fail
          go_roundg (N - (k + 1))
          case measure => omega
          case rel => exact ⟨k + 1, n + 1, by omega, rfl, by go_num, by go_num, HNX.out, by omega, X4.out.alloc _⟩
        · have b2 : decide (at_ < t) = false := decide_eq_false g2
          have HNX := Lib.hid (show n = ((ps.take (k + 1)).filter (inP at_)).length from by unfold inP; rw [HST.out, b1, b2]; rfl)
          clear g1 g2
          go_wp2_with fail
          go_roundg (N - (k + 1))
          case measure => omega
          case rel => exact ⟨k + 1, n, by omega, rfl, by go_num, rfl, HNX.out, by omega, X4.out.alloc _⟩
      · have b1 : decide (f ≤ at_) = false := decide_eq_false g1
        have HNX := Lib.hid (show n = ((ps.take (k + 1)).filter (inP at_)).length from by unfold inP; rw [HST.out, b1]; rfl)
        clear g1
        go_wp2_with fail
        go_roundg (N - (k + 1))
        case measure => omega
        case rel => exact ⟨k + 1, n, by omega, rfl, by go_num, rfl, HNX.out, by omega, X4.out.alloc _⟩
    · have hkN : k = N := by omega
      have hd : ¬ (k : Int) < (N : Int) := by omega
      have HTOT := Lib.hid (show n = cntAt a at_ * cntAt b at_ from by rw [HC.out, hkN, HN.out, List.take_length]; exact HPA.out)
      replace T1 := Lib.hid (T1.out.ext X4.out.full)
      replace T2 := Lib.hid (T2.out.ext X4.out.full)
      have X5 := Lib.hid (X3.out.trans X4.out)
      clear hkN HC X4 X3
      go_wp2_with fail
      refine (depth_any _ a _ T1.out (by have := HL.out; omega)).mono ?_
      rintro e w5 ⟨u5, rfl, t5, x5⟩
      replace T1 := Lib.hid (T1.out.ext x5.full)
      replace T2 := Lib.hid (T2.out.ext x5.full)
      have X6 := Lib.hid (X5.out.trans x5)
      have T5 := Lib.hid (t5.ext (on_sub _ _))
      obtain ⟨r5, k5, rfl, _, _, hp5⟩ := t5.form
      have HP5 := Lib.hid hp5
      have hdl : (depthOf a).length ≤ 50 := by rw [depthOf_eq]; have h1 := stepsOf_len (pts a) (fDep a) ((pts a).length - 1); have h2 := pts_len a; have h3 := HL.out; omega
      have HDA := Lib.hid (depth_at a at_)
      generalize depthOf a = d at T5 HP5 HDA hdl ⊢
      obtain ⟨M, hM⟩ : ∃ M, M = d.length := ⟨_, rfl⟩
      rw [← hM] at T5 HP5 ⊢
      have hM5 : M ≤ 50 := by omega
      have HM := Lib.hid hM
      clear t5 x5 hp5 X5 hM hdl
      go_wp2_with fail
      go_loopg [13, 50] M (fun gk vd vi wr => ∃ (k : Nat) (z : Int), k ≤ M ∧ gk = M - k ∧ vi = .int .i64 k ∧ vd = .int .i64 z ∧ Hid (z = valAt at_ (d.take k)) ∧ Hid (Ext w5 wr))
      case atStart => exact ⟨0, 0, by omega, rfl, rfl, rfl, rfl, Ext.refl w5⟩
      case round =>
        obtain ⟨k, z, hk, rfl, rfl, rfl, HZ, X7⟩ := hrel
        by_cases hlt2 : k < M
        · have hkl : k < d.length := by have := HM.out; omega
          have hd2 : decide ((k : Int) < (M : Int)) = true := by simp; omega
          obtain ⟨b0, o, rfl⟩ := HP5.out (by decide) (by omega)
          have hv := T5.out
          rw [HM.out] at hv
          obtain ⟨c0, c1, c2, c3, c4⟩ := stepH_at hv k hkl
          replace c0 := X7.out.at c0
          replace c1 := X7.out.at c1
          replace c2 := X7.out.at c2
          replace c3 := X7.out.at c3
          replace c4 := X7.out.at c4
          have hst := valAt_take at_ d k hkl
          rw [← HZ.out] at hst
          generalize d[k].from_ = f at c0 hst
          generalize d[k].to_ = t at c1 hst
          generalize d[k].n = sn at c3 hst
          have HST := Lib.hid hst
          have e0 := cell_lt c0
          clear hst hv
          by_cases g1 : f ≤ at_
          · have b1 : decide (f ≤ at_) = true := decide_eq_true g1
            by_cases g2 : at_ < t
            · have b2 : decide (at_ < t) = true := decide_eq_true g2
              have HNX := Lib.hid (show sn = valAt at_ (d.take (k + 1)) from by rw [HST.out, if_pos ⟨g1, g2⟩])
              clear g1 g2
              go_wp2_with fail
              go_roundg (M - (k + 1))
              case measure => omega
              case rel => exact ⟨k + 1, sn, by omega, rfl, by go_num, rfl, HNX.out, X7.out.alloc _⟩
            · have b2 : decide (at_ < t) = false := decide_eq_false g2
              have HNX := Lib.hid (show z = valAt at_ (d.take (k + 1)) from by rw [HST.out, if_neg fun h => g2 h.2])
              clear g1 g2
              go_wp2_with fail
              go_roundg (M - (k + 1))
              case measure => omega
              case rel => exact ⟨k + 1, z, by omega, rfl, by go_num, rfl, HNX.out, X7.out.alloc _⟩
          · have b1 : decide (f ≤ at_) = false := decide_eq_false g1
            have HNX := Lib.hid (show z = valAt at_ (d.take (k + 1)) from by rw [HST.out, if_neg fun h => g1 h.1])
            clear g1
            go_wp2_with fail
            go_roundg (M - (k + 1))
            case measure => omega
            case rel => exact ⟨k + 1, z, by omega, rfl, by go_num, rfl, HNX.out, X7.out.alloc _⟩
        · have hkM : k = M := by omega
          have hd2 : ¬ (k : Int) < (M : Int) := by omega
          have HDZ := Lib.hid (show z = (cntAt a at_ : Int) from by rw [HZ.out, hkM, HM.out, List.take_length]; exact HDA.out)
          replace T1 := Lib.hid (T1.out.ext X7.out.full)
          replace T2 := Lib.hid (T2.out.ext X7.out.full)
          have X8 := Lib.hid (X6.out.trans X7.out)
          clear hkM HZ X7 X6
          go_wp2_with fail
          refine (timeslice_day _ a at_ _ T1.out HFA.out).mono ?_
          rintro e w7 ⟨u7, rfl, t7, x7⟩
          have hl7 : (sortBy cmpRow (sliceRows a at_)).length = cntAt a at_ := by rw [sortBy_length, sliceRows_len]
          obtain ⟨r7, k7, rfl, _⟩ := t7.form
          rw [hl7]
          have X9 := Lib.hid (X8.out.trans x7)
          replace T2 := Lib.hid (T2.out.ext x7.full)
          have hca : cntAt a at_ ≤ 20 := Nat.le_trans (cnt_len a at_) HL.out.1
          clear t7 x7 X8 hl7
          obtain ⟨ca, hCA⟩ : ∃ c, c = cntAt a at_ := ⟨_, rfl⟩
          rw [← hCA] at hca ⊢
          have HCA := Lib.hid hCA
          clear hCA
          go_wp2_with fail
          refine (awake_sweep _).mono ?_
          rintro e w8 ⟨rfl, x8⟩
          have X10 := Lib.hid (X9.out.trans x8)
          replace T2 := Lib.hid (T2.out.ext x8.full)
          clear x8 X9
          go_wp2_with fail
          refine (timeslice_day _ b at_ _ T2.out HFB.out).mono ?_
          rintro e w9 ⟨u9, rfl, t9, x9⟩
          have hl9 : (sortBy cmpRow (sliceRows b at_)).length = cntAt b at_ := by rw [sortBy_length, sliceRows_len]
          obtain ⟨r9, k9, rfl, _⟩ := t9.form
          rw [hl9]
          have X11 := Lib.hid (X10.out.trans x9)
          have hcb : cntAt b at_ ≤ 20 := Nat.le_trans (cnt_len b at_) HL.out.2
          clear t9 x9 X10 hl9
          obtain ⟨cb, hCB⟩ : ∃ c, c = cntAt b at_ := ⟨_, rfl⟩
          rw [← hCB] at hcb ⊢
          have hmul : n = ca * cb := by rw [HTOT.out, HCA.out, hCB]
          have hzz : z = (ca : Int) := by rw [HDZ.out, HCA.out]
          have hm1 : ca * cb ≤ 400 := Nat.le_trans (Nat.mul_le_mul hca hcb) (by decide)
          obtain ⟨pr, hpr⟩ : ∃ p, p = ca * cb := ⟨_, rfl⟩
          have epr : (ca : Int) * (cb : Int) = (pr : Int) := by rw [hpr]; push_cast; rfl
          have hwp : IntKind.i64.wrap (pr : Int) = (pr : Int) := by rw [IntKind.wrap_i64]; omega
          have bq1 : ((n : Int) == (pr : Int)) = true := by rw [hmul, hpr]; simp
          have bq2 : (z == (ca : Int)) = true := by rw [hzz]; simp
          clear hCB hmul hzz hm1 hpr
          go_wp2_with fail
          go_ret
          exact ⟨by simp, X11.out⟩

end Go.Proofs.YtdgpbpbjlnlijaaGreat
