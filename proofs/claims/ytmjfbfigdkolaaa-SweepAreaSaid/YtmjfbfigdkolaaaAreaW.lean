/- the walk of SweepArea -/
import Derived.Test.YtmjfbfigdkolaaaAreaP
import Derived.Test.YtmjfbfigdkolaaaAwakeS
import Derived.Test.YtmjfbfigdkolaaaGenC
namespace Go.Proofs.Ytmjfbfigdkolaaa
open Go.RowKit

theorem stepG_at {h : View} {b o n cap : Nat} {xs : List StepI} (k : SliceOf Rep.step h (.slice (some ⟨b, o, none⟩) n cap) xs) (i : Nat) (hi : i < xs.length) :
    h ⟨b, o + i * 5, none⟩ = some (.int .i64 xs[i].from_) ∧ h ⟨b, o + i * 5 + 1, none⟩ = some (.int .i64 xs[i].to_) ∧ h ⟨b, o + i * 5 + 2, none⟩ = some (.int .i64 1) ∧ h ⟨b, o + i * 5 + 3, none⟩ = some (.int .i64 xs[i].n) ∧ h ⟨b, o + i * 5 + 4, none⟩ = some (.string ByteArray.empty) := by
  obtain ⟨c, ⟨rfl, _⟩, h2⟩ := k.at i hi
  exact ⟨h2 0 _ rfl, h2 1 _ rfl, h2 2 _ rfl, h2 3 _ rfl, h2 4 _ rfl⟩
theorem area_snoc (d : List StepI) (s : StepI) : area (d ++ [s]) = area d + (s.to_ - s.from_) * s.n := by rw [area_append]; simp [area]
theorem cov_snoc (d : List StepI) (s : StepI) : cov (d ++ [s]) = cov d + if 0 < s.n then s.to_ - s.from_ else 0 := by rw [cov_append]; simp [cov]
theorem gen_bounds (x : List Num5) (m : Nat) : ∀ t ∈ genTups x m, 0 ≤ t.from_ ∧ t.from_ < t.to_ ∧ t.to_ ≤ 1000000 := by
  intro t ht
  obtain ⟨y, _, rfl⟩ := List.mem_map.1 ht
  simp only [genTup, genFrom, genTo]
  split <;> omega
theorem bnd_bounds {l : List Tup} (h : ∀ t ∈ l, 0 ≤ t.from_ ∧ t.from_ < t.to_ ∧ t.to_ ≤ 1000000) : ∀ x ∈ bnd l, 0 ≤ x ∧ x ≤ 1000000 := by
  intro x hx
  unfold bnd at hx
  obtain ⟨t, ht, hx⟩ := List.mem_flatMap.1 hx
  have := h t ht
  split at hx
  · simp at hx; omega
  · cases hx
theorem steps_bounds (l : List Tup) (h : ∀ t ∈ l, 0 ≤ t.from_ ∧ t.from_ < t.to_ ∧ t.to_ ≤ 1000000) (hl : l.length ≤ 25) : ∀ s ∈ depthOf l, (0 ≤ s.from_ ∧ s.to_ ≤ 1000000) ∧ 0 ≤ s.n ∧ s.n ≤ 25 := by
  have hb := bnd_bounds h
  have hp : ∀ i, i < (pts l).length → 0 ≤ (pts l)[i]! ∧ (pts l)[i]! ≤ 1000000 := fun i hi => by rw [getElem!_pos (pts l) i hi]; exact hb _ (((pts_law l).2.1 _).1 (List.getElem_mem _))
  have hn : ∀ i, 0 ≤ fDep l i ∧ fDep l i ≤ 25 := fun i => by have := cnt_len l (pts l)[i]!; unfold fDep; omega
  have key : ∀ k, k < (pts l).length → ∀ s ∈ stepsOf (pts l) (fDep l) k, (0 ≤ s.from_ ∧ s.to_ ≤ 1000000) ∧ 0 ≤ s.n ∧ s.n ≤ 25 := by
    intro k
    induction k with
    | zero => intro _ s hs; simp [stepsOf] at hs
    | succ k ih =>
      intro hk s hs
      have ih' := ih (by omega)
      rw [stepsOf] at hs
      unfold addStep at hs
      split at hs
      · rename_i p hp'
        have hpm := List.mem_of_getLast? hp'
        split at hs
        · rcases List.mem_append.1 hs with h | h
          · exact ih' s (List.dropLast_subset _ h)
          · rw [List.mem_singleton] at h
            subst h
            exact ⟨⟨(ih' p hpm).1.1, (hp (k + 1) (by omega)).2⟩, (ih' p hpm).2⟩
        · rcases List.mem_append.1 hs with h | h
          · exact ih' s h
          · rw [List.mem_singleton] at h
            subst h
            exact ⟨⟨(hp k (by omega)).1, (hp (k + 1) (by omega)).2⟩, hn k⟩
      · rw [List.mem_singleton] at hs
        subst hs
        exact ⟨⟨(hp k (by omega)).1, (hp (k + 1) (by omega)).2⟩, hn k⟩
  rw [depthOf_eq]
  rcases Nat.eq_zero_or_pos (pts l).length with h0 | h0
  · rw [h0]; intro s hs; simp [stepsOf] at hs
  · exact key _ (by omega)

set_option maxRecDepth 100000 in
set_option maxHeartbeats 8000000 in
theorem SweepArea_walk (v0 : Value) (x : List Num5) {w : World} (s0 : SliceOf Rep.num w.cell? v0 x) :
    Calls Try.prog 12 #[v0] w fun e w' => e = .returned (.bool true) ∧ Ext w w' := by
  have mixed := mixedOrd
  have S0 := Lib.hid s0
  obtain ⟨p0, q0, rfl, _⟩ := s0.form
  clear s0
  go_enter Try.func12, Try.ntmps12
  go_wp2_with fail
  refine (tuples_gen _ x 25 (by decide) _ S0.out).mono ?_
  rintro e w1 ⟨u1, rfl, t1, x1⟩
  have la := genTups_len x 25
  have hgb := gen_bounds x 25
  generalize genTups x 25 = l at t1 la hgb
  obtain ⟨r1, k1, rfl, _, _, hp1⟩ := t1.form
  have T1 := Lib.hid (t1.ext (on_sub _ _))
  have X1 := Lib.hid x1
  have HGB := Lib.hid hgb
  have HP1 := Lib.hid hp1
  obtain ⟨hA, hC, hR⟩ := area_law l fun t ht => by have := hgb t ht; simp [validT, validB]; omega
  have HA := Lib.hid hA
  have HC := Lib.hid hC
  have HR := Lib.hid hR
  obtain ⟨N, hN⟩ : ∃ N, N = l.length := ⟨_, rfl⟩
  rw [← hN] at T1 ⊢
  have HN := Lib.hid (show N = l.length ∧ N ≤ 25 from ⟨hN, by omega⟩)
  have hN5 : N ≤ 25 := HN.out.2
  clear t1 x1 la hgb hp1 hA hC hR hN S0
  go_wp2_with fail
  go_loopg [4, 20] N (fun gk vc vi wr => ∃ (k : Nat) (c : Int), k ≤ N ∧ gk = N - k ∧ vi = .int .i64 k ∧ vc = .int .i64 c ∧ Hid (c = lens (l.take k)) ∧ 0 ≤ c ∧ c ≤ 1000000 * (k : Int) ∧ Hid (Ext w1 wr))
  case atStart => exact ⟨0, 0, by omega, rfl, rfl, rfl, by show 0 = _; rfl, by omega, by omega, Ext.refl w1⟩
  case round =>
    obtain ⟨k, c, hk, rfl, rfl, rfl, HCC, hc0, hc1, X2⟩ := hrel
    by_cases hlt : k < N
    · have hkl : k < l.length := by have := HN.out; omega
      have hd : decide ((k : Int) < (N : Int)) = true := by simp; omega
      obtain ⟨b, o, rfl⟩ := HP1.out (by decide) (by omega)
      obtain ⟨ta, tb, c0, c1, c2, c3, g0, g1, _, _⟩ := tup_at T1.out k hkl
      obtain ⟨pa, ka, ta', _⟩ := g0.form
      obtain ⟨pb, kb, tb', _⟩ := g1.form
      subst ta' tb'
      replace c0 := X2.out.at c0
      replace c1 := X2.out.at c1
      replace c2 := X2.out.at c2
      replace c3 := X2.out.at c3
      have hst : lens (l.take (k + 1)) = lens (l.take k) + l[k].to_ - l[k].from_ := by rw [List.take_succ_eq_append_getElem hkl, lens_snoc]
      have hbd := HGB.out l[k] (List.getElem_mem hkl)
      rw [← HCC.out] at hst
      generalize l[k].from_ = f at c1 hst hbd
      generalize l[k].to_ = t at c2 hst hbd
      generalize l[k].vals.length = na at c0
      generalize l[k].lin.length = nb at c3
      have HST := Lib.hid hst
      have e0 := cell_lt c0
      have hw1 : IntKind.i64.wrap (c + t) = c + t := by rw [IntKind.wrap_i64]; omega
      have hw2 : IntKind.i64.wrap (c + t - f) = c + t - f := by rw [IntKind.wrap_i64]; omega
      clear hst g0 g1
      go_wp2_with fail
      go_roundg (N - (k + 1))
      case measure => omega
      case rel => exact ⟨k + 1, c + t - f, by omega, rfl, by go_num, rfl, HST.out.symm, by omega, by push_cast; omega, X2.out.alloc _⟩
    · have hkN : k = N := by omega
      have hd : ¬ (k : Int) < (N : Int) := by omega
      have HTOT := Lib.hid (show c = area (depthOf l) from by rw [HCC.out, hkN, HN.out.1, List.take_length]; exact HA.out.symm)
      have T2 := Lib.hid (T1.out.ext X2.out.full)
      have X3 := Lib.hid (X1.out.trans X2.out)
      have hct : 0 ≤ c ∧ c ≤ 25000000 := by omega
      clear hkN HCC hc0 hc1 X1 T1 X2
      go_wp2_with fail
      refine (depth_any _ l _ T2.out (by have := HN.out; omega)).mono ?_
      rintro e w3 ⟨u3, rfl, t3, x3⟩
      have T3 := Lib.hid (t3.ext (on_sub _ _))
      have T4 := Lib.hid (T2.out.ext x3.full)
      have X4 := Lib.hid (X3.out.trans x3)
      have hsb := steps_bounds l HGB.out (by have := HN.out; omega)
      have hdl : (depthOf l).length ≤ 50 := by rw [depthOf_eq]; have h1 := stepsOf_len (pts l) (fDep l) ((pts l).length - 1); have h2 := pts_len l; have h3 := HN.out; omega
      obtain ⟨r3, k3, rfl, _, _, hp3⟩ := t3.form
      have HP3 := Lib.hid hp3
      have HSB := Lib.hid hsb
      generalize depthOf l = d at *
      obtain ⟨M, hM⟩ : ∃ M, M = d.length := ⟨_, rfl⟩
      rw [← hM] at T3 HP3 ⊢
      have HM := Lib.hid (show M = d.length ∧ M ≤ 50 from ⟨hM, by omega⟩)
      have hM5 : M ≤ 50 := HM.out.2
      clear t3 x3 X3 T2 hp3 hM hdl hsb
      go_wp2_with fail
      go_loopg [5, 6, 38] M (fun gk va vc vi wr => ∃ (k : Nat) (ar cv : Int), k ≤ M ∧ gk = M - k ∧ vi = .int .i64 k ∧ va = .int .i64 ar ∧ vc = .int .i64 cv ∧ Hid (ar = area (d.take k)) ∧ Hid (cv = cov (d.take k)) ∧ (0 ≤ ar ∧ ar ≤ 25000000 * (k : Int)) ∧ (0 ≤ cv ∧ cv ≤ 1000000 * (k : Int)) ∧ Hid (Ext w3 wr))
      case atStart => exact ⟨0, 0, 0, by omega, rfl, rfl, rfl, rfl, by show 0 = _; rfl, by show 0 = _; rfl, ⟨by omega, by omega⟩, ⟨by omega, by omega⟩, Ext.refl w3⟩
      case round =>
        obtain ⟨k, ar, cv, hk, rfl, rfl, rfl, rfl, HAR, HCV, ha, hc, X5⟩ := hrel
        by_cases hlt2 : k < M
        · have hkl : k < d.length := by have := HM.out; omega
          have hd2 : decide ((k : Int) < (M : Int)) = true := by simp; omega
          obtain ⟨b, o, rfl⟩ := HP3.out (by decide) (by omega)
          obtain ⟨c0, c1, c2, c3, c4⟩ := stepG_at T3.out k hkl
          replace c0 := X5.out.at c0
          replace c1 := X5.out.at c1
          replace c2 := X5.out.at c2
          replace c3 := X5.out.at c3
          replace c4 := X5.out.at c4
          have hsb := HSB.out d[k] (List.getElem_mem hkl)
          have hlen := HR.out.1 d[k] (List.getElem_mem hkl)
          have hst : area (d.take (k + 1)) = ar + (d[k].to_ - d[k].from_) * d[k].n := by rw [List.take_succ_eq_append_getElem hkl, area_snoc, ← HAR.out]
          have hsc : cov (d.take (k + 1)) = cv + if 0 < d[k].n then d[k].to_ - d[k].from_ else 0 := by rw [List.take_succ_eq_append_getElem hkl, cov_snoc, ← HCV.out]
          have hprev : ∀ (h0 : 0 < k), d[k - 1].to_ = d[k].from_ ∧ d[k - 1].n ≠ d[k].n := fun h0 => by
            have h1 := HR.out.2 (k - 1) (by omega)
            have e : k - 1 + 1 = k := by omega
            simp only [e] at h1
            exact h1
          obtain ⟨sf, hsf⟩ : ∃ z, z = d[k].from_ := ⟨_, rfl⟩
          obtain ⟨st, hs2⟩ : ∃ z, z = d[k].to_ := ⟨_, rfl⟩
          obtain ⟨sn, hs3⟩ : ∃ z, z = d[k].n := ⟨_, rfl⟩
          rw [← hsf, ← hs2, ← hs3] at hst hsc hsb
          rw [← hsf, ← hs2] at hlen
          rw [← hsf] at c0
          rw [← hs2] at c1
          rw [← hs3] at c3
          obtain ⟨nl, hnl⟩ : ∃ z, z = st - sf := ⟨_, rfl⟩
          have en : st - sf = nl := hnl.symm
          obtain ⟨pr, hpr⟩ : ∃ z, z = nl * sn := ⟨_, rfl⟩
          have epr : nl * sn = pr := hpr.symm
          have hnl0 : 0 < nl ∧ nl ≤ 1000000 := by omega
          have hpr0 : 0 ≤ pr ∧ pr ≤ 25000000 := by
            rw [hpr]
            exact ⟨Int.mul_nonneg (by omega) hsb.2.1, Int.le_trans (Int.mul_le_mul hnl0.2 hsb.2.2 hsb.2.1 (by omega)) (by omega)⟩
          rw [en, epr] at hst
          rw [en] at hsc
          have HST := Lib.hid hst
          have HSC := Lib.hid hsc
          have e0 := cell_lt c0
          have hw1 : IntKind.i64.wrap pr = pr := by rw [IntKind.wrap_i64]; omega
          have hw2 : IntKind.i64.wrap (ar + pr) = ar + pr := by rw [IntKind.wrap_i64]; omega
          have hw3 : IntKind.i64.wrap nl = nl := by rw [IntKind.wrap_i64]; omega
          have hn0 : decide (nl ≤ 0) = false := decide_eq_false (by omega)
          have hsn := hsb.2
          by_cases hk0 : k = 0
          · have hz1 : decide ((0 : Int) < (k : Int)) = false := decide_eq_false (by omega)
            have hz2 : decide (0 < k) = false := decide_eq_false (by omega)
            have hz3 : ¬ 0 < k := by omega
            clear hst hsc hsb hlen hprev hsf hs2 hs3 hnl hpr hk0
            by_cases hs : 0 < sn
            · have hb : decide (0 < sn) = true := decide_eq_true hs
              have hcw : IntKind.i64.wrap (cv + nl) = cv + nl := by rw [IntKind.wrap_i64]; omega
              have HCT := Lib.hid (show cv + nl = cov (d.take (k + 1)) from by rw [HSC.out, if_pos hs])
              clear hs
              go_wp2_with fail
              go_big_region_o
              all_goals go_wp2_with fail
              all_goals go_roundg (M - (k + 1))
              all_goals first
                | (case measure => omega)
                | (case rel => exact ⟨k + 1, ar + pr, cv + nl, by omega, rfl, by go_num, rfl, rfl, HST.out.symm, HCT.out, ⟨by omega, by push_cast; omega⟩, ⟨by omega, by push_cast; omega⟩, (X5.out.alloc _).drew⟩)
            · have hb : decide (0 < sn) = false := decide_eq_false hs
              have HCT := Lib.hid (show cv = cov (d.take (k + 1)) from by rw [HSC.out, if_neg hs, Int.add_zero])
              clear hs
              go_wp2_with fail
              go_big_region_o
              all_goals go_wp2_with fail
              all_goals go_roundg (M - (k + 1))
              all_goals first
                | (case measure => omega)
                | (case rel => exact ⟨k + 1, ar + pr, cv, by omega, rfl, by go_num, rfl, rfl, HST.out.symm, HCT.out, ⟨by omega, by push_cast; omega⟩, ⟨by omega, by push_cast; omega⟩, (X5.out.alloc _).drew⟩)
          · have hz1 : decide ((0 : Int) < (k : Int)) = true := decide_eq_true (by omega)
            have hz2 : decide (0 < k) = true := decide_eq_true (by omega)
            have hz3 : 0 < k := by omega
            obtain ⟨m, hm⟩ : ∃ m, m = k - 1 := ⟨_, rfl⟩
            have em : (k : Int) - 1 = (m : Int) := by omega
            have hmk : m < k := by omega
            have hml : m < d.length := by omega
            have hmM : (m : Int) < (M : Int) := by omega
            obtain ⟨g0, g1, g2, g3, g4⟩ := stepG_at T3.out m hml
            have hpp := hprev hz3
            simp only [← hm] at hpp
            rw [← hsf, ← hs3] at hpp
            rw [hpp.1] at g1
            obtain ⟨pn, hpn⟩ : ∃ z, z = d[m].n := ⟨_, rfl⟩
            rw [← hpn] at g3 hpp
            have hne : (pn == sn) = false := by simp [hpp.2]
            have hne2 : ¬ pn = sn := hpp.2
            replace g1 := X5.out.at g1
            replace g2 := X5.out.at g2
            replace g3 := X5.out.at g3
            replace g4 := X5.out.at g4
            clear hst hsc hsb hlen hprev hsf hs2 hs3 hnl hpr hk0 hm hpp hpn g0
            by_cases hs : 0 < sn
            · have hb : decide (0 < sn) = true := decide_eq_true hs
              have hcw : IntKind.i64.wrap (cv + nl) = cv + nl := by rw [IntKind.wrap_i64]; omega
              have HCT := Lib.hid (show cv + nl = cov (d.take (k + 1)) from by rw [HSC.out, if_pos hs])
              clear hs
              go_wp2_with fail
              go_big_region_o
              all_goals go_wp2_with fail
              all_goals go_roundg (M - (k + 1))
              all_goals first
                | (case measure => omega)
                | (case rel => exact ⟨k + 1, ar + pr, cv + nl, by omega, rfl, by go_num, rfl, rfl, HST.out.symm, HCT.out, ⟨by omega, by push_cast; omega⟩, ⟨by omega, by push_cast; omega⟩, (X5.out.alloc _).drew⟩)
            · have hb : decide (0 < sn) = false := decide_eq_false hs
              have HCT := Lib.hid (show cv = cov (d.take (k + 1)) from by rw [HSC.out, if_neg hs, Int.add_zero])
              clear hs
              go_wp2_with fail
              go_big_region_o
              all_goals go_wp2_with fail
              all_goals go_roundg (M - (k + 1))
              all_goals first
                | (case measure => omega)
                | (case rel => exact ⟨k + 1, ar + pr, cv, by omega, rfl, by go_num, rfl, rfl, HST.out.symm, HCT.out, ⟨by omega, by push_cast; omega⟩, ⟨by omega, by push_cast; omega⟩, (X5.out.alloc _).drew⟩)
        · have hkM : k = M := by omega
          have hd2 : ¬ (k : Int) < (M : Int) := by omega
          have HAE := Lib.hid (show ar = area d from by rw [HAR.out, hkM, HM.out.1, List.take_length])
          have HCE := Lib.hid (show cv = cov d from by rw [HCV.out, hkM, HM.out.1, List.take_length])
          clear hkM HAR HCV
          go_wp2_with fail
          refine (coverage_any _ l _ (T4.out.ext X5.out.full) (by have := HN.out; omega)).mono ?_
          rintro e w7 ⟨u7, rfl, t7, x7⟩
          have T7 := Lib.hid (t7.ext (on_sub _ _))
          have X7 := Lib.hid ((X4.out.trans X5.out).trans x7)
          have hpt : l.map perOf = l.map tupPer := rfl
          rw [hpt] at T7 t7
          have hnb : ∀ p ∈ refNorm (l.map tupPer), 0 ≤ p.from_ ∧ p.from_ < p.to_ ∧ p.to_ ≤ 1000000 := fun p hp => by
            have h1 := (refNorm_law (l.map tupPer)).1.2 p hp
            have h2 := refNorm_ends (L := bnd l) (l.map tupPer) (fun q hq hqv => by
              obtain ⟨t, ht, rfl⟩ := List.mem_map.1 hq
              have hv : validT t = true := hqv
              unfold bnd
              refine ⟨List.mem_flatMap.2 ⟨t, ht, ?_⟩, List.mem_flatMap.2 ⟨t, ht, ?_⟩⟩ <;> simp [hv, tupPer]) p hp
            have h3 := bnd_bounds HGB.out _ h2.1
            have h4 := bnd_bounds HGB.out _ h2.2
            omega
          have hsl : (refNorm (l.map tupPer)).length ≤ 25 := by have h1 := refNorm_len (l.map tupPer); rw [List.length_map] at h1; have := HN.out; omega
          have HCS := Lib.hid (show cv = perLen (refNorm (l.map tupPer)) from HCE.out.trans HC.out)
          obtain ⟨r7, k7, rfl, _, _, hp7⟩ := t7.form
          have HP7 := Lib.hid hp7
          have HNB := Lib.hid hnb
          generalize refNorm (l.map tupPer) = s at *
          obtain ⟨K, hK⟩ : ∃ K, K = s.length := ⟨_, rfl⟩
          rw [← hK] at T7 HP7 ⊢
          have HK := Lib.hid (show K = s.length ∧ K ≤ 25 from ⟨hK, by omega⟩)
          have hK5 : K ≤ 25 := HK.out.2
          clear t7 x7 hpt hnb hsl hp7 hK X5 X4
          go_wp2_with fail
          go_loopg [13, 98] K (fun gk vc vi wr => ∃ (k : Nat) (c3 : Int), k ≤ K ∧ gk = K - k ∧ vi = .int .i64 k ∧ vc = .int .i64 c3 ∧ Hid (c3 = perLen (s.take k)) ∧ (0 ≤ c3 ∧ c3 ≤ 1000000 * (k : Int)) ∧ Hid (Ext w7 wr))
          case atStart => exact ⟨0, 0, by omega, rfl, rfl, rfl, by show 0 = _; rfl, ⟨by omega, by omega⟩, Ext.refl w7⟩
          case round =>
            obtain ⟨k, c3, hk, rfl, rfl, rfl, HC3, hcb, X8⟩ := hrel
            by_cases hlt3 : k < K
            · have hkl : k < s.length := by have := HK.out; omega
              have hd3 : decide ((k : Int) < (K : Int)) = true := by simp; omega
              obtain ⟨b, o, rfl⟩ := HP7.out (by decide) (by omega)
              obtain ⟨c0, c1, _, _⟩ := per_at T7.out k hkl
              replace c0 := X8.out.at c0
              replace c1 := X8.out.at c1
              have hst : perLen (s.take (k + 1)) = c3 + s[k].to_ - s[k].from_ := by rw [List.take_succ_eq_append_getElem hkl, perLen_snoc, ← HC3.out]
              have hbd := HNB.out s[k] (List.getElem_mem hkl)
              generalize s[k].from_ = f at c0 hst hbd
              generalize s[k].to_ = t at c1 hst hbd
              have HST := Lib.hid hst
              have e0 := cell_lt c0
              have hw1 : IntKind.i64.wrap (c3 + t) = c3 + t := by rw [IntKind.wrap_i64]; omega
              have hw2 : IntKind.i64.wrap (c3 + t - f) = c3 + t - f := by rw [IntKind.wrap_i64]; omega
              clear hst
              go_wp2_with fail
              go_roundg (K - (k + 1))
              case measure => omega
              case rel => exact ⟨k + 1, c3 + t - f, by omega, rfl, by go_num, rfl, HST.out.symm, ⟨by omega, by push_cast; omega⟩, X8.out.alloc _⟩
            · have hkK : k = K := by omega
              have hd3 : ¬ (k : Int) < (K : Int) := by omega
              have hb1 : (c == ar) = true := by rw [HTOT.out, HAE.out]; simp
              have hb2 : (c3 == cv) = true := by rw [HCS.out, HC3.out, hkK, HK.out.1, List.take_length]; simp
              clear hkK
              go_wp2_with fail
              refine (awake_sweep _).mono ?_
              rintro e w9 ⟨rfl, x9⟩
              have X9 := Lib.hid ((X7.out.trans X8.out).trans x9)
              clear x9
              go_wp2_with fail
              go_ret
              exact ⟨by simp, X9.out⟩

end Go.Proofs.Ytmjfbfigdkolaaa
