/- joined texts of a proof: RnmJ -/
import Derived.Test.YtdgpbpbjlnlijaaGreatDoorKR01

namespace Go.Proofs.YtdgpbpbjlnlijaaGreatDoor
open Go.RowKit

theorem fit_inner_slice {tr : List Val → Bool} {a b : List Tup} (ha : fewT a) (hb : fewT b) (hla : a.length ≤ 8) (hlb : b.length ≤ 8) (dy : Int) : fitRows (sortBy cmpRow (sliceRows (innerT tr a b) dy)) := by
  obtain ⟨h1, h2⟩ := fit_slice (fitN_fitTs (inner_fitN (tr := tr) ha hb hla hlb)) dy
  exact ⟨by rw [sortBy_length]; exact h1, fun r hr => h2 r ((sortBy_perm _ _).mem_iff.1 hr)⟩
theorem keepX2 {W wa wb : World} {b1 o1 o2 : Nat} {v1 v2 : Value} {row : Option Nat}
    (h : Ext W wa ∧ wa.cell? ⟨b1, o1, none⟩ = some v1 ∧ wa.cell? ⟨b1, o2, none⟩ = some v2) (gr : wa.grownBy wb row) (hr : ∀ k, row = some k → W.heap.size ≤ k) (hb : ∀ k, row = some k → k ≠ b1) :
    Ext W wb ∧ wb.cell? ⟨b1, o1, none⟩ = some v1 ∧ wb.cell? ⟨b1, o2, none⟩ = some v2 :=
  ⟨ext_grown h.1 gr hr, cell_grown gr h.2.1 hb, cell_grown gr h.2.2 hb⟩
theorem sort_perm_eq {l m : List Row} (h : l.Perm m) : sortBy cmpRow l = sortBy cmpRow m :=
  sortBy_unique ord_row ((sortBy_perm cmpRow l).trans h) (sortBy_pair ord_row l)
theorem eqCols_slice (w : World) : SliceOf Rep.expr (w.alloc (.cells #[.int .i64 2, .int .i64 0, .int .i64 0, .int .i64 0, .int .i64 0, .int .i64 0, .string ⟨#[]⟩, .int .i64 2, .int .i64 0, .int .i64 0, .int .i64 2, .int .i64 0, .int .i64 0, .string ⟨#[]⟩, .int .i64 6, .int .i64 0, .int .i64 1, .int .i64 0, .int .i64 0, .int .i64 0, .string ⟨#[]⟩] 73)).cell? (.slice (some ⟨w.heap.size, 0, none⟩) 3 3) eqCols :=
  slice_lit Rep.expr w [.int .i64 2, .int .i64 0, .int .i64 0, .int .i64 0, .int .i64 0, .int .i64 0, .string ⟨#[]⟩, .int .i64 2, .int .i64 0, .int .i64 0, .int .i64 2, .int .i64 0, .int .i64 0, .string ⟨#[]⟩, .int .i64 6, .int .i64 0, .int .i64 1, .int .i64 0, .int .i64 0, .int .i64 0, .string ⟨#[]⟩] 73 [[.int .i64 2, .int .i64 0, .int .i64 0, .int .i64 0, .int .i64 0, .int .i64 0, .string ⟨#[]⟩], [.int .i64 2, .int .i64 0, .int .i64 0, .int .i64 2, .int .i64 0, .int .i64 0, .string ⟨#[]⟩], [.int .i64 6, .int .i64 0, .int .i64 1, .int .i64 0, .int .i64 0, .int .i64 0, .string ⟨#[]⟩]] eqCols rfl
    ⟨⟨rfl, by unfold okI; dsimp only; omega, ok_nV⟩, ⟨rfl, by unfold okI; dsimp only; omega, ok_nV⟩, ⟨rfl, by unfold okI; dsimp only; omega, ok_nV⟩, trivial⟩ (by simp [maxLen, eqCols])
theorem holds_turn {w' : World} {u : Value} {ys : List Val} {l : List Int} {v1 v2 : Value} (h1 : SliceOf Rep.val (on w' (avoid (fun _ => True) u)) v1 ys) (h2 : SliceOf Rep.int (on w' (avoid (fun _ => True) u)) v2 l) : Rep.row.holds (on w' (avoid (fun _ => True) u)) [v1, v2] ⟨ys, l⟩ := ⟨_, _, rfl, h1, h2⟩
theorem fit_turn {l : List Row} (h : fitRows l) (h4 : ∀ r ∈ l, r.vals.length = 4) : fitRows (l.map turnR) := by
  refine ⟨by rw [List.length_map]; exact h.1, fun r hr => ?_⟩
  obtain ⟨x, hx, rfl⟩ := List.mem_map.1 hr
  have h1 := h.2 x hx
  have h2 := h4 x hx
  refine ⟨?_, h1.2⟩
  show (x.vals.drop 2 ++ x.vals.take 2).length ≤ _
  rw [List.length_append, List.length_drop, List.length_take]
  omega

set_option maxRecDepth 100000 in
set_option maxHeartbeats 4000000 in
theorem JoinRenumber_walk (v0 : Value) (x : List Num5) (v1 : Value) (y : List Num5) (tm : Int) {w : World} (s0 : SliceOf Rep.num w.cell? v0 x) (s1 : SliceOf Rep.num w.cell? v1 y) (htm : (Lit.int .u16 tm).wf = true) (hT : TabW w) :
    Calls Tryz.prog 13 #[v0, v1, .int .u16 tm] w fun e w' => e = .returned (.bool true) ∧ Ext w w' := by
  obtain ⟨i0, hi, hz0, hz1, hz2⟩ := info_parts infoRow
  obtain ⟨i1, hi1, hz10, hz11, hz12⟩ := info_parts info_valC
  have htm2 : 0 ≤ tm ∧ tm ≤ 65535 := by simpa [Lit.wf, IntKind.min, IntKind.max, IntKind.signed, IntKind.bits] using htm
  have HTM := Lib.hid htm2
  have S0 := Lib.hid s0
  have S1 := Lib.hid s1
  obtain ⟨p0, q0, rfl, _⟩ := s0.form
  obtain ⟨p1, q1, rfl, _⟩ := s1.form
  have HT := Lib.hid hT
  clear htm htm2 s0 s1 hT
  go_enter Tryz.func13, Tryz.ntmps13
  go_wp2_with fail
  refine (tuples_gen _ x 8 (by decide) _ S0.out).mono ?_
  rintro e w1 ⟨u1, rfl, t1, x1⟩
  have la := genTups_len x 8
  have fa := genTups_few x 8
  have wa := genTups_two x 8
  generalize genTups x 8 = a at t1 la fa wa
  obtain ⟨r1, k1, rfl, _⟩ := t1.form
  have TA := Lib.hid (t1.ext (on_sub _ _))
  have X1 := Lib.hid x1
  have HLA := Lib.hid la
  have HFA := Lib.hid (And.intro fa wa)
  obtain ⟨na, hna⟩ : ∃ z, z = a.length := ⟨_, rfl⟩
  rw [← hna] at TA ⊢
  clear t1 x1 la fa wa S0 hna
  go_wp2_with fail
  refine (tuples_gen _ y 8 (by decide) _ (S1.out.ext X1.out.full)).mono ?_
  rintro e w2 ⟨u2, rfl, t2, x2⟩
  have lb := genTups_len y 8
  have fb := genTups_few y 8
  have wb := genTups_two y 8
  generalize genTups y 8 = b at t2 lb fb wb
  obtain ⟨r2, k2, rfl, _⟩ := t2.form
  have TB := Lib.hid (t2.ext (on_sub _ _))
  replace TA := Lib.hid (TA.out.ext x2.full)
  have X2 := Lib.hid (X1.out.trans x2)
  have HLB := Lib.hid lb
  have HFB := Lib.hid (And.intro fb wb)
  obtain ⟨nb, hnb⟩ : ∃ z, z = b.length := ⟨_, rfl⟩
  rw [← hnb] at TB ⊢
  clear t2 x2 lb fb wb S1 X1 hnb
  obtain ⟨dy, hdy⟩ : ∃ z, z = tm % 60 := ⟨_, rfl⟩
  have eD : tm % 60 = dy := hdy.symm
  have hD0 : 0 ≤ dy ∧ dy < 60 := by have := HTM.out; omega
  have hT0 := HTM.out.1
  have hT1 := HTM.out.2
  clear hdy
  go_wp2_with fail
  try rw [eD]
  have HE := Lib.hid (eqCols_slice w2)
  have xe := (Ext.refl w2).alloc (.cells #[.int .i64 2, .int .i64 0, .int .i64 0, .int .i64 0, .int .i64 0, .int .i64 0, .string ⟨#[]⟩, .int .i64 2, .int .i64 0, .int .i64 0, .int .i64 2, .int .i64 0, .int .i64 0, .string ⟨#[]⟩, .int .i64 6, .int .i64 0, .int .i64 1, .int .i64 0, .int .i64 0, .int .i64 0, .string ⟨#[]⟩] 73)
  generalize w2.alloc (.cells #[.int .i64 2, .int .i64 0, .int .i64 0, .int .i64 0, .int .i64 0, .int .i64 0, .string ⟨#[]⟩, .int .i64 2, .int .i64 0, .int .i64 0, .int .i64 2, .int .i64 0, .int .i64 0, .string ⟨#[]⟩, .int .i64 6, .int .i64 0, .int .i64 1, .int .i64 0, .int .i64 0, .int .i64 0, .string ⟨#[]⟩] 73) = w3 at HE xe ⊢
  obtain ⟨be, hbe⟩ : ∃ z, z = w2.heap.size := ⟨_, rfl⟩
  rw [← hbe] at HE ⊢
  replace TA := Lib.hid (TA.out.ext xe.full)
  replace TB := Lib.hid (TB.out.ext xe.full)
  have X3 := Lib.hid (X2.out.trans xe)
  clear xe X2 hbe
  have hel : eqCols.length ≤ 1000 := by decide
  have HEL := Lib.hid hel
  clear hel
  refine (inner_any _ _ a b _ eqCols 2 _ TA.out TB.out (by have := HLA.out; omega) (by have := HLB.out; omega) HE.out HEL.out HFA.out.1 HFB.out.1 (HT.out.ext X3.out)).mono ?_
  rintro e w4 ⟨u4, rfl, t4, x4⟩
  obtain ⟨tr, htr⟩ : ∃ tr, tr = trE eqCols 2 := ⟨_, rfl⟩
  rw [← htr] at t4
  have HTR := Lib.hid htr
  have T4 := Lib.hid (t4.ext (on_sub _ _))
  replace TA := Lib.hid (TA.out.ext x4.full)
  replace TB := Lib.hid (TB.out.ext x4.full)
  replace HE := Lib.hid (HE.out.ext x4.full)
  have X4 := Lib.hid (X3.out.trans x4)
  obtain ⟨nI, hnI⟩ : ∃ z, z = (innerT tr a b).length := ⟨_, rfl⟩
  obtain ⟨r4, k4, rfl, _⟩ := t4.form
  rw [← hnI] at T4 ⊢
  clear t4 x4 X3 htr hnI
  go_wp2_with fail
  refine (timeslice_day _ (innerT tr a b) dy _ T4.out (fitN_fitTs (inner_fitN HFA.out.1 HFB.out.1 HLA.out HLB.out))).mono ?_
  rintro e w5 ⟨u5, rfl, t5, x5⟩
  have T5 := Lib.hid (t5.ext (on_sub _ _))
  replace TA := Lib.hid (TA.out.ext x5.full)
  replace TB := Lib.hid (TB.out.ext x5.full)
  replace HE := Lib.hid (HE.out.ext x5.full)
  have X5 := Lib.hid (X4.out.trans x5)
  obtain ⟨r5, k5, rfl, _⟩ := t5.form
  obtain ⟨L, hL⟩ : ∃ z, z = sortBy cmpRow (sliceRows (innerT tr a b) dy) := ⟨_, rfl⟩
  rw [← hL] at T5 ⊢
  have HL := Lib.hid hL
  obtain ⟨nL, hnL⟩ : ∃ z, z = L.length := ⟨_, rfl⟩
  rw [← hnL] at T5 ⊢
  clear t5 x5 X4 T4 hL hnL
  go_wp2_with fail
  refine (inner_any _ _ b a _ eqCols 2 _ TB.out TA.out (by have := HLB.out; omega) (by have := HLA.out; omega) HE.out HEL.out HFB.out.1 HFA.out.1 (HT.out.ext X5.out)).mono ?_
  rintro e w6 ⟨u6, rfl, t6, x6⟩
  rw [← HTR.out] at t6
  have T6 := Lib.hid (t6.ext (on_sub _ _))
  replace T5 := Lib.hid (T5.out.ext x6.full)
  have X6 := Lib.hid (X5.out.trans x6)
  obtain ⟨nJ, hnJ⟩ : ∃ z, z = (innerT tr b a).length := ⟨_, rfl⟩
  obtain ⟨r6, k6, rfl, _⟩ := t6.form
  rw [← hnJ] at T6 ⊢
  clear t6 x6 X5 hnJ TA TB HE
  go_wp2_with fail
  refine (timeslice_day _ (innerT tr b a) dy _ T6.out (fitN_fitTs (inner_fitN HFB.out.1 HFA.out.1 HLB.out HLA.out))).mono ?_
  rintro e w7 ⟨u7, rfl, t7, x7⟩
  have T7 := Lib.hid (t7.ext (on_sub _ _))
  replace T5 := Lib.hid (T5.out.ext x7.full)
  have X7 := Lib.hid (X6.out.trans x7)
  have hperm : L.Perm ((sortBy cmpRow (sliceRows (innerT tr b a) dy)).map turnR) := by
    rw [HL.out]
    exact turn_inner tr HFA.out.2 HFB.out.2 (by rw [HTR.out]; exact eqCols_turn) dy
  have hfl : fitRows L := by rw [HL.out]; exact fit_inner_slice HFA.out.1 HFB.out.1 HLA.out HLB.out dy
  have hfm : fitRows (sortBy cmpRow (sliceRows (innerT tr b a) dy)) := fit_inner_slice HFB.out.1 HFA.out.1 HLB.out HLA.out dy
  have hm4 := inner_len4 tr HFB.out.2 HFA.out.2 dy
  obtain ⟨r7, k7, rfl, _, _, hp7⟩ := t7.form
  generalize sortBy cmpRow (sliceRows (innerT tr b a) dy) = M at T7 hp7 hperm hfm hm4 ⊢
  obtain ⟨nM, hnM⟩ : ∃ z, z = M.length := ⟨_, rfl⟩
  have hMl : M.length ≤ 1048576 := hfm.1
  rw [← hnM] at T7 hp7 hMl ⊢
  have HNM := Lib.hid hnM
  have HP7 := Lib.hid hp7
  have HPERM := Lib.hid hperm
  have HFL := Lib.hid hfl
  have HFM := Lib.hid hfm
  have HM4 := Lib.hid hm4
  clear t7 x7 X6 T6 hnM hp7 hperm hfl hfm hm4
  go_wp2_with fail
  go_loopg [13, 41] nM (fun gk vo vi wr => ∃ (k : Nat) (u : Value), k ≤ nM ∧ gk = nM - k ∧ vi = .int .i64 k ∧ u = vo ∧ Hid (OwnOf Rep.row wr (fun _ => True) w7.heap.size 42 u ((M.take k).map turnR)) ∧ Hid (Ext w7 wr))
  case atStart => exact ⟨0, _, by omega, rfl, rfl, rfl, OwnOf.nil _ _ _ _ _, Ext.refl w7⟩
  case round =>
    obtain ⟨k, u, hk, rfl, rfl, rfl, OW, X8⟩ := hrel
    by_cases hlt : k < nM
    · have hkl : k < M.length := by have := HNM.out; omega
      have hd : decide ((k : Int) < (nM : Int)) = true := by simp; omega
      obtain ⟨b0, o0, rfl⟩ := HP7.out (by decide) (by omega)
      have hv := T7.out
      rw [HNM.out] at hv
      obtain ⟨ua, ub, c0, c1, g0, g1⟩ := row_at hv k hkl
      obtain ⟨pa, ka, rfl, ha1, _, hpa⟩ := g0.form
      obtain ⟨pb, kb, rfl, _⟩ := g1.form
      have h4 := HM4.out M[k] (List.getElem_mem hkl)
      have hst : (M.take (k + 1)).map turnR = (M.take k).map turnR ++ [⟨M[k].vals.drop 2 ++ M[k].vals.take 2, M[k].lin⟩] := by
        rw [List.take_succ_eq_append_getElem hkl, List.map_append]
        rfl
      obtain ⟨b8, o8, rfl⟩ := hpa (by decide) (by omega)
      replace c0 := X8.out.at c0
      replace c1 := X8.out.at c1
      have s1 := g0.takeV 2 (by omega)
      have s2 := g0.dropV 2 (by omega)
      have G1 := Lib.hid g1
      generalize M[k].vals = us at c0 g0 h4 hst s1 s2 ha1
      generalize M[k].lin = ls at c1 G1 hst
      rw [h4] at c0 s2 ha1
      obtain ⟨nl, hnl⟩ : ∃ z, z = ls.length := ⟨_, rfl⟩
      rw [← hnl] at c1 G1
      obtain ⟨T, hT⟩ : ∃ z, z = (M.take k).map turnR := ⟨_, rfl⟩
      rw [← hT] at OW hst
      have HST := Lib.hid hst
      have htl : T.length ≤ 1048576 := by rw [hT, List.length_map, List.length_take]; omega
      have HS1 := Lib.hid s1
      have HS2 := Lib.hid s2
      have h4u : (us.drop 2).length = 2 ∧ (us.take 2).length = 2 := ⟨by rw [List.length_drop]; omega, by rw [List.length_take]; omega⟩
      have B1 : ([] : List Val).length + (us.drop 2).length ≤ maxLen := by rw [h4u.1]; simp [maxLen]
      have B2 : (([] : List Val).length + (us.drop 2).length) * 32 ≤ 140737488355328 := by rw [h4u.1]; simp
      have B3 : (us.drop 2).length + (us.take 2).length ≤ maxLen := by rw [h4u.1, h4u.2]; simp [maxLen]
      have B4 : ((us.drop 2).length + (us.take 2).length) * 32 ≤ 140737488355328 := by rw [h4u.1, h4u.2]; simp
      have B5 : T.length + 1 ≤ maxLen := by unfold maxLen; omega
      have B6 : (T.length + 1) * 48 ≤ 140737488355328 := by omega
      have HBB := Lib.hid (And.intro (And.intro B1 B2) (And.intro (And.intro B3 B4) (And.intro B5 B6)))
      have h4l : (us.drop 2 ++ us.take 2).length = 4 := by rw [List.length_append, h4u.1, h4u.2]
      have H4L := Lib.hid h4l
      have hca : ¬ ka = 2 := by omega
      have hca2 : 2 ≤ ka := by omega
      have hca3 : (2 : Int) ≤ (ka : Int) := by omega
      have hca4 : (4 : Int) ≤ (ka : Int) := by omega
      obtain ⟨pu, cu, hu, _⟩ := OW.out.slice.form
      subst hu
      obtain ⟨nT, hnT⟩ : ∃ z, z = T.length := ⟨_, rfl⟩
      rw [← hnT] at OW ⊢
      have HNT := Lib.hid hnT
      have e0 := cell_lt c0
      clear hv g0 g1 hst hnl hT s1 s2 h4u B1 B2 B3 B4 B5 B6 h4l hnT htl h4
      go_wp2_with fail
      have xn := (Ext.refl wr).alloc (.cells #[.slice (some ⟨b8, o8, none⟩) 4 ka, .slice pb nl kb] 42)
      have d1 : (wr.alloc (.cells #[.slice (some ⟨b8, o8, none⟩) 4 ka, .slice pb nl kb] 42)).cell? ⟨wr.heap.size, 0, none⟩ = some (.slice (some ⟨b8, o8, none⟩) 4 ka) := by go_simp
      have d2 : (wr.alloc (.cells #[.slice (some ⟨b8, o8, none⟩) 4 ka, .slice pb nl kb] 42)).cell? ⟨wr.heap.size, 1, none⟩ = some (.slice pb nl kb) := by go_simp
      generalize (wr.alloc (.cells #[.slice (some ⟨b8, o8, none⟩) 4 ka, .slice pb nl kb] 42)) = w8 at xn d1 d2 ⊢
      have hS0 : Ext w7 w8.drew ∧ w8.drew.cell? ⟨wr.heap.size, 0, none⟩ = some (.slice (some ⟨b8, o8, none⟩) 4 ka) ∧ w8.drew.cell? ⟨wr.heap.size, 1, none⟩ = some (.slice pb nl kb) := ⟨(X8.out.trans xn).drew, d1, d2⟩
      have XN := Lib.hid xn
      have HZ := Lib.hid (show wr.heap.size < w8.drew.heap.size from cell_lt d1)
      clear c0 c1 e0 xn d1 d2
      go_region_held3 (fun w' => Ext w7 w' ∧ w'.cell? ⟨wr.heap.size, 0, none⟩ = some (.slice (some ⟨b8, o8, none⟩) 4 ka) ∧ w'.cell? ⟨wr.heap.size, 1, none⟩ = some (.slice pb nl kb))
        (first | with_reducible assumption | with_reducible exact keepE2 (by assumption) ((Ext.refl _).alloc _))
        (first
          | ((with_reducible have q10 := O10.out); refine step_append_one Rep.row (fun _ => True) rfl _ _ 35 rfl w7.heap.size 42 i0 _ 48 Tryz.underlying35 hi hz0 hz1 hz2 rfl (by decide) (.slice pu nT cu) T rfl (OW.out.ext (X10.out.alloc _)) ⟨_, 0, none⟩ 1 ⟨ys, ls⟩ [.slice p10 4 q10', .slice pb nl kb] rfl (HNY.out _) (cells_new _ [.slice p10 4 q10', .slice pb nl kb] _) HBB.out.2.2.1 HBB.out.2.2.2 ((X8.out.trans X10.out).alloc _).size ?_; intro g12 c12 w12 own12 gr12 _; have K12 := keepX2 (keepE2 K10 ((Ext.refl _).alloc _)) gr12 (fun kk hkk => (OW.out.lt kk hkk).1) (fun kk hkk => Nat.ne_of_lt (OW.out.lt kk hkk).2); have O12 := Lib.hid own12; clear q10 own12)
          | ((with_reducible have q7 := O7.out); refine step_append_all Rep.val (fun _ => True) rfl _ _ 40 rfl w8.drew.heap.size 44 i1 _ 32 Tryz.underlying40 hi1 hz10 hz11 hz12 rfl (by decide) v7 (us.drop 2) rfl O7.out (.slice (some ⟨b8, o8, none⟩) 2 ka) (us.take 2) rfl (HS1.out.ext (old_all K7.1 (fun kk hkk => Nat.le_trans hS0.1.size (O7.out.base kk hkk)))) HBB.out.2.1.1 HBB.out.2.1.2 X7.out.size ?_; intro v10 w10 own10 gr10 _; obtain ⟨p10, q10', hv10, _⟩ := own10.slice.form; subst hv10; rw [H4L.out] at own10 ⊢; have X7b := Lib.hid (ext_grown X7.out gr10 (fun kk hkk => O7.out.base kk hkk)); have X10 := Lib.hid ((XN.out.drew).trans X7b.out); have K10 := keepX2 K7 gr10 (fun kk hkk => Nat.le_trans hS0.1.size (O7.out.base kk hkk)) (fun kk hkk => by have h1 := O7.out.base kk hkk; have h2 := HZ.out; omega); obtain ⟨ys, hys⟩ : ∃ z, z = us.drop 2 ++ us.take 2 := ⟨_, rfl⟩; rw [← hys] at own10; have HYS := Lib.hid hys; have HNY := Lib.hid (fun o => holds_turn (w' := w10.alloc o) ((own10.fresh flat_valC).ext ((((Ext.refl w10).alloc o).sub _).trans (on_mono _ fun kk _ (hk2 : w8.drew.heap.size ≤ kk) => ⟨fun e => by have h1 := (OW.out.lt kk e.symm).2; have h2 := HZ.out; omega, trivial⟩))) (G1.out.ext (old_all (K10.1.alloc o) (fun kk hkk => (OW.out.lt kk hkk).1)))); have O10 := Lib.hid own10; clear q7 own10 hys)
          | (refine step_append_all Rep.val (fun _ => True) rfl _ _ 40 rfl w8.drew.heap.size 44 i1 _ 32 Tryz.underlying40 hi1 hz10 hz11 hz12 rfl (by decide) (.slice none 0 0) [] rfl (OwnOf.nil _ _ _ _ _) (.slice (some ⟨b8, o8 + 6, none⟩) 2 (ka - 2)) (us.drop 2) rfl (HS2.out.ext (old_all hS0.1 (own_nil _))) HBB.out.1.1 HBB.out.1.2 (Nat.le_refl _) ?_; intro v7 w7' own7 gr7 _; rw [List.nil_append] at own7; have X7 := Lib.hid (ext_grown (Ext.refl w8.drew) gr7 (own_nil _)); have K7 := keepX2 hS0 gr7 (own_nil _) (fun kk hkk => by cases hkk); have O7 := Lib.hid own7; clear own7)
          | fail)
      all_goals
        have X12 := Lib.hid K12.1
        clear hS0
        have hl12 : T.length + 1 = nT + 1 := by rw [HNT.out]
        have O13 := Lib.hid (show OwnOf Rep.row w12 (fun _ => True) w7.heap.size 42 (.slice (some ⟨g12, 0, none⟩) (T.length + 1) c12) ((M.take (k + 1)).map turnR) from by rw [HST.out, ← HYS.out]; exact O12.out)
        go_wp2_with fail
        go_roundg (nM - (k + 1))
        case measure => omega
        case rel => exact ⟨k + 1, _, by omega, rfl, by go_num, rfl, O13.out, X12.out⟩
    · have hkM : k = nM := by omega
      have hd : ¬ (k : Int) < (nM : Int) := by omega
      have hall : (M.take k).map turnR = M.map turnR := by rw [hkM, HNM.out, List.take_length]
      rw [hall] at OW
      have X9 := Lib.hid (X7.out.trans X8.out)
      replace T5 := Lib.hid (T5.out.ext X8.out.full)
      clear hkM hall hlt hk
      go_wp2_with fail
      refine (awake_join _ (HT.out.ext X9.out)).mono ?_
      rintro e w14 ⟨rfl, x14⟩
      have X14 := Lib.hid (X9.out.trans x14)
      replace T5 := Lib.hid (T5.out.ext x14.full)
      have OT := Lib.hid (OW.out.slice.ext x14.full)
      have HEQ := Lib.hid (show eqB (sortBy cmpRow L) (sortBy cmpRow (M.map turnR)) = true from by rw [sort_perm_eq HPERM.out]; unfold eqB; simp)
      have hfm := fit_turn HFM.out HM4.out
      clear x14 OW
      go_wp2_with fail
      refine (ref_equal _ _ L (M.map turnR) _ T5.out OT.out HFL.out hfm).mono ?_
      rintro e w15 ⟨rfl, x15⟩
      rw [HEQ.out]
      have X15 := Lib.hid (X14.out.trans x15)
      clear x15 hfm
      go_wp2_with fail
      go_ret
      exact ⟨by simp, X15.out⟩

end Go.Proofs.YtdgpbpbjlnlijaaGreatDoor
