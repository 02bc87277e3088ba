/- tuple.Row, tuple.Timeslice, period.Includes -/
import Derived.Test.YtdgpbpbjlnlijaaGreatPlainR
import Derived.Test.YtdgpbpbjlnlijaaGreatPerS
import Derived.Test.YtdgpbpbjlnlijaaGreatBagE
import Derived.Test.YtdgpbpbjlnlijaaGreatBagK
import Derived.Test.YtdgpbpbjlnlijaaGreatStep
namespace Go.Proofs.YtdgpbpbjlnlijaaGreat
open Go.RowKit

set_option maxHeartbeats 1000000 in
theorem includes_day (f t x : Int) (w : World) :
    Calls Tryz.prog 22 #[perV f t, .int .i64 x] w fun e w' => e = .returned (.bool (validB f t && decide (f ≤ x) && decide (x < t))) ∧ Ext w w' := by
  go_enter Tryz.func22, Tryz.ntmps22
  go_wp2_with fail
  refine (valid_any f t _).mono ?_
  rintro e w1 ⟨rfl, x1⟩
  have d0 : w1.cell? ⟨w.heap.size, 0, none⟩ = some (.int .i64 f) := x1.at (by go_simp)
  have d1 : w1.cell? ⟨w.heap.size, 1, none⟩ = some (.int .i64 t) := x1.at (by go_simp)
  have X1 := Lib.hid (show Ext w w1 from ((Ext.refl w).alloc _).trans x1)
  have e1 := cell_lt d1
  clear x1
  cases hvb : validB f t with
  | false =>
    go_wp2_with fail
    go_ret
    exact ⟨by rw [hvb]; simp, X1.out⟩
  | true =>
    by_cases h1 : f ≤ x
    · have hd1 : decide (f ≤ x) = true := by simp [h1]
      by_cases h2 : x < t
      · have hd2 : decide (x < t) = true := by simp [h2]
        go_wp2_with fail
        go_ret
        exact ⟨by rw [hvb]; simp [h1, h2], X1.out⟩
      · have hd2 : decide (x < t) = false := by simp [h2]
        go_wp2_with fail
        go_ret
        exact ⟨by rw [hvb]; simp [h1, h2], X1.out⟩
    · have hd1 : decide (f ≤ x) = false := by simp [h1]
      go_wp2_with fail
      go_ret
      exact ⟨by rw [hvb, hd1]; simp, X1.out⟩

set_option maxHeartbeats 1000000 in
theorem tup_row (pa pb : Option Addr) (na ka nb kb : Nat) (f t : Int) (w : World) :
    Calls Tryz.prog 23 #[.agg #[.slice pa na ka, .int .i64 f, .int .i64 t, .slice pb nb kb]] w fun e w' => e = .returned (.agg #[.slice pa na ka, .slice pb nb kb]) ∧ Ext w w' := by
  go_enter Tryz.func23, Tryz.ntmps23
  go_wp2_with fail
  refine bodyPost_ret (v := .agg #[.slice pa na ka, .slice pb nb kb]) (by simp [results, Tryz.results23, go_sem]) rfl ⟨rfl, ((Ext.refl w).alloc _).alloc _⟩

def fitTs (l : List Tup) : Prop := l.length ≤ 1048576 ∧ ∀ t ∈ l, t.vals.length ≤ 1048576 ∧ t.lin.length ≤ 1048576
theorem fit_slice {l : List Tup} (h : fitTs l) (x : Int) : fitRows (sliceRows l x) := by
  refine ⟨?_, fun r hr => ?_⟩
  · rw [sliceRows_len]
    exact Nat.le_trans (List.length_filter_le _ _) h.1
  · unfold sliceRows at hr
    obtain ⟨t, ht, rfl⟩ := List.mem_map.1 hr
    exact h.2 t (List.mem_filter.1 ht).1

set_option maxRecDepth 100000 in
set_option maxHeartbeats 4000000 in
theorem timeslice_day (v : Value) (l : List Tup) (x : Int) (w : World) (hv : SliceOf Rep.tup w.cell? v l) (hf : fitTs l) :
    Calls Tryz.prog 7 #[v, .int .i64 x] w fun e w' => ∃ v', e = .returned v' ∧ SliceOf Rep.row (on w' (since w)) v' (sortBy cmpRow (sliceRows l x)) ∧ Ext w w' := by
  obtain ⟨i0, hi, hz0, hz1, hz2⟩ := info_parts infoRow
  obtain ⟨p, cap, rfl, hc1, hc2, hp⟩ := hv.form
  obtain ⟨N, hN⟩ : ∃ N, N = l.length := ⟨_, rfl⟩
  have HV := Lib.hid hv
  rw [← hN]
  have HN := Lib.hid hN
  have HP := Lib.hid hp
  have HF := Lib.hid hf
  have hNl : N ≤ 1048576 := by rw [hN]; exact hf.1
  clear hv hN hp hc1 hc2 hf
  go_enter Tryz.func7, Tryz.ntmps7
  go_wp2_with fail
  go_loopg [5, 10] N (fun gk vo vi wr => ∃ (k : Nat) (u : Value) (o : List Row), k ≤ N ∧ gk = N - k ∧ vi = .int .i64 k ∧ u = vo ∧ Hid (OwnOf Rep.row wr (fun k => k < w.heap.size) w.heap.size 75 u o) ∧ Hid (o = sliceRows (l.take k) x) ∧ Ext w wr)
  case atStart => exact ⟨0, _, [], by omega, rfl, rfl, rfl, OwnOf.nil _ _ _ _ _, rfl, Ext.refl w⟩
  case round =>
    obtain ⟨k, u, o, hk, rfl, rfl, rfl, OW, AS, hx⟩ := hrel
    by_cases hlt : k < N
    · have hkl : k < l.length := by have := HN.out; omega
      obtain ⟨b, o', rfl⟩ := HP.out (by decide) (by omega)
      have hv := HV.out
      rw [← HN.out] at hv
      obtain ⟨ta, tb, c0, c1, c2, c3, g0, g1, r1, r2⟩ := tup_at hv k hkl
      obtain ⟨pa, ka, ta', _⟩ := g0.form
      obtain ⟨pb, kb, tb', _⟩ := g1.form
      subst ta' tb'
      replace c0 := hx.at c0
      replace c1 := hx.at c1
      replace c2 := hx.at c2
      replace c3 := hx.at c3
      have hst := slice_step l x k hkl
      have hol : o.length ≤ 1048575 := by
        rw [AS.out, sliceRows_len]
        exact Nat.le_trans (List.length_filter_le _ _) (Nat.le_trans (List.length_take_le _ _) (by omega))
      rw [← AS.out] at hst
      unfold tupRow at hst
      generalize l[k] = y at c0 c1 c2 c3 g0 g1 r1 r2 hst
      obtain ⟨vs, f, t, ln⟩ := y
      dsimp only at c0 c1 c2 c3 g0 g1 r1 r2 hst
      have HST := Lib.hid hst
      have G0 := Lib.hid g0
      have G1 := Lib.hid g1
      have HOL := Lib.hid hol
      have hd : decide ((k : Int) < (N : Int)) = true := by simp; omega
      have e0 := cell_lt c0
      clear hst g0 g1 r1 r2 hv hol
      go_wp2_with fail
      refine (includes_day f t x _).mono ?_
      rintro e w1 ⟨rfl, x1⟩
      have d0 : w1.cell? ⟨wr.heap.size, 0, none⟩ = some (.slice pa vs.length ka) := x1.at (by go_simp)
      have d1 : w1.cell? ⟨wr.heap.size, 1, none⟩ = some (.int .i64 f) := x1.at (by go_simp)
      have d2 : w1.cell? ⟨wr.heap.size, 2, none⟩ = some (.int .i64 t) := x1.at (by go_simp)
      have d3 : w1.cell? ⟨wr.heap.size, 3, none⟩ = some (.slice pb ln.length kb) := x1.at (by go_simp)
      have X1 := Lib.hid (show Ext wr w1 from ((Ext.refl wr).alloc _).trans x1)
      have e1 := cell_lt d0
      clear x1 c0 c1 c2 c3 e0
      cases hvb : (validB f t && decide (f ≤ x) && decide (x < t)) with
      | true =>
        have HVB := Lib.hid hvb
        clear hvb
        go_wp2_with fail
        refine (tup_row pa pb vs.length ka ln.length kb f t _).mono ?_
        rintro e w2 ⟨rfl, x2⟩
        have XA := Lib.hid (hx.trans ((X1.out.trans x2).alloc (.cells #[.slice pa vs.length ka, .slice pb ln.length kb] 75)))
        have OA := Lib.hid (OW.out.ext ((X1.out.trans x2).alloc (.cells #[.slice pa vs.length ka, .slice pb ln.length kb] 75)))
        have B1 : o.length + 1 ≤ maxLen := by have := HOL.out; unfold maxLen; omega
        have B2 : (o.length + 1) * 48 ≤ 140737488355328 := by have := HOL.out; omega
        clear x2
        go_wp2_with (at_builtin; refine wpList_append_one Rep.row (fun k => k < w.heap.size) rfl _ _ 38 rfl w.heap.size 75 i0 _ 48 Tryz.underlying38 hi hz0 hz1 hz2 rfl (by decide) u o rfl (by exact OA.out) ⟨w2.heap.size, 0, none⟩ 1 ⟨vs, ln⟩ [.slice pa vs.length ka, .slice pb ln.length kb] rfl (by
            have hs : Sub w.cell? (on (w2.alloc (.cells #[.slice pa vs.length ka, .slice pb ln.length kb] 75)) (avoid (fun k => k < w.heap.size) u)) := (full_on w _ fun _ h => h).trans (old_avoid XA.out OA.out)
            exact ⟨_, _, rfl, G0.out.ext hs, G1.out.ext hs⟩) (by exact cells_new w2 [.slice pa vs.length ka, .slice pb ln.length kb] _) B1 B2 (by exact XA.out.size) ?_)
        intro g cap w3 own gr _
        have hxx : Ext w w3 := XA.out.grownNew gr OW.out.base
        have OW2 := Lib.hid own
        clear own gr d0 d1 d2 d3 e1
        go_wp2_with fail
        go_roundg (N - (k + 1))
        case measure => omega
        case rel => exact ⟨k + 1, _, o ++ [(⟨vs, ln⟩ : Row)], by omega, rfl, by go_num, rfl, OW2.out, by show _ = _; rw [HST.out, if_pos HVB.out], hxx⟩
      | false =>
        have HVB := Lib.hid hvb
        clear hvb
        go_wp2_with fail
        go_roundg (N - (k + 1))
        case measure => omega
        case rel => exact ⟨k + 1, u, o, by omega, rfl, by go_num, rfl, OW.out.ext X1.out, by show _ = _; rw [HST.out, HVB.out, if_neg (by decide), List.append_nil], hx.trans X1.out⟩
    · have hkN : k = N := by omega
      have hd : ¬ (k : Int) < (N : Int) := by omega
      have HFS := Lib.hid (show o = sliceRows l x from by
        have h := AS.out
        rw [hkN, HN.out, List.take_length] at h
        exact h)
      have S5 := Lib.hid (show SliceOf Rep.row wr.cell? u (sliceRows l x) from by rw [← HFS.out]; exact OW.out.slice)
      clear hkN
      go_wp2_with fail
      refine (sort_rows _ (sliceRows l x) _ S5.out (fit_slice HF.out x)).mono ?_
      rintro e w4 ⟨v4, rfl, s4, x4⟩
      have S4 := Lib.hid (s4.ext (on_mono w4 fun k _ hk => Nat.le_trans hx.size hk))
      have X4 := Lib.hid (hx.trans x4)
      clear s4 x4
      go_wp2_with fail
      go_ret
      exact ⟨_, rfl, S4.out, X4.out⟩

end Go.Proofs.YtdgpbpbjlnlijaaGreat
