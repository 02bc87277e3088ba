/- the reference's Boundaries, Includes, Timeslice -/
import Derived.Test.YtmjfbfigdkolaaaDepthX
import Derived.Test.YtmjfbfigdkolaaaNormA
import Derived.Test.YtmjfbfigdkolaaaBagT
import Derived.Test.YtmjfbfigdkolaaaBagK
namespace Go.Proofs.Ytmjfbfigdkolaaa
open Go.RowKit

theorem AscOf.join {o a : List Int} (b : List Int) (h : AscOf o a) : AscOf (mergeL o b) (a ++ b) := by
  obtain ⟨h1, h2⟩ := mergeL_law o b
  have hm : ∀ x, x ∈ mergeL o b ↔ x ∈ a ++ b := fun x => by rw [h2, List.mem_append, h.2.1]
  exact ⟨h1, hm, asc_len h1 fun x hx => (hm x).1 hx⟩
theorem bnd_step (l : List Tup) (k : Nat) (h : k < l.length) : bnd (l.take (k + 1)) = bnd (l.take k) ++ if validB l[k].from_ l[k].to_ = true then [l[k].from_, l[k].to_] else [] := by
  rw [List.take_succ_eq_append_getElem h, bnd_append]
  simp only [bnd, List.flatMap_cons, List.flatMap_nil, List.append_nil]
  rfl
theorem two_ints (w : World) (f t : Int) (T : TypeId) (hf : okI f ∧ okI t) : SliceOf Rep.int (w.alloc (.cells #[.int .i64 f, .int .i64 t] T)).cell? (.slice (some ⟨w.heap.size, 0, none⟩) 2 2) [f, t] :=
  slice_lit Rep.int w [.int .i64 f, .int .i64 t] T [[.int .i64 f], [.int .i64 t]] [f, t] rfl ⟨⟨rfl, hf.1⟩, ⟨rfl, hf.2⟩, trivial⟩ (by simp [maxLen])

set_option maxRecDepth 100000 in
set_option maxHeartbeats 4000000 in
theorem ref_bounds (v : Value) (l : List Tup) (w : World) (hv : SliceOf Rep.tup w.cell? v l) (hl : l.length ≤ 50) :
    Calls Try.prog 68 #[v] w fun e w' => ∃ v', e = .returned v' ∧ SliceOf Rep.int w'.cell? v' (pts l) ∧ Ext w w' := by
  obtain ⟨p, cap, rfl, hc1, hc2, hp⟩ := hv.form
  obtain ⟨N, hN⟩ : ∃ N, N = l.length := ⟨_, rfl⟩
  have HV := Lib.hid hv
  rw [← hN]
  have HN := Lib.hid hN
  have HP := Lib.hid hp
  have hNl : N ≤ 50 := by omega
  clear hv hN hp hc1 hc2
  go_enter Try.func68, Try.ntmps68
  go_wp2_with fail
  go_loopg [3, 8] N (fun gk vo vi wr => ∃ (k : Nat) (u : Value) (o : List Int), k ≤ N ∧ gk = N - k ∧ vi = .int .i64 k ∧ u = vo ∧ Hid (SliceOf Rep.int wr.cell? u o) ∧ Hid (AscOf o (bnd (l.take k))) ∧ Ext w wr)
  case atStart => exact ⟨0, _, [], by omega, rfl, rfl, rfl, SliceOf.nil _ _, AscOf.nil, Ext.refl w⟩
  case round =>
    obtain ⟨k, u, o, hk, rfl, rfl, rfl, OW, AS, hx⟩ := hrel
    by_cases hlt : k < N
    · have hkl : k < l.length := by have := HN.out; omega
      obtain ⟨b, o', rfl⟩ := HP.out (by decide) (by omega)
      have hv := HV.out
      rw [← HN.out] at hv
      obtain ⟨ta, tb, c0, c1, c2, c3, g0, g1, r1, r2⟩ := tup_at hv k hkl
      obtain ⟨pa, ka, ta', _⟩ := g0.form
      obtain ⟨pb, kb, tb', _⟩ := g1.form
      subst ta' tb'
      replace c0 := hx.at c0
      replace c1 := hx.at c1
      replace c2 := hx.at c2
      replace c3 := hx.at c3
      have hst := bnd_step l k hkl
      have hol : o.length ≤ 1000 := by
        have h1 := AS.out.2.2
        have h2 := bnd_len (l.take k)
        have h3 := List.length_take_le k l
        omega
      generalize l[k].from_ = f at c1 hst r1
      generalize l[k].to_ = t at c2 hst r2
      generalize l[k].vals.length = na at c0
      generalize l[k].lin.length = nb at c3
      have HST := Lib.hid hst
      have HR := Lib.hid (show okI f ∧ okI t from ⟨r1, r2⟩)
      have HOL := Lib.hid hol
      have hd : decide ((k : Int) < (N : Int)) = true := by simp; omega
      have e0 := cell_lt c0
      clear hst g0 g1 r1 r2 hv hol
      go_wp2_with fail
      refine (rvalid_any f t _).mono ?_
      rintro e w1 ⟨rfl, x1⟩
      have d1 : w1.cell? ⟨wr.heap.size, 1, none⟩ = some (.int .i64 f) := x1.at (by go_simp)
      have d2 : w1.cell? ⟨wr.heap.size, 2, none⟩ = some (.int .i64 t) := x1.at (by go_simp)
      have X1 := Lib.hid (show Ext wr w1 from ((Ext.refl wr).alloc _).trans x1)
      have e1 := cell_lt d1
      clear x1 c0 c1 c2 c3 e0
      cases hvb : validB f t with
      | true =>
        have HVB := Lib.hid hvb
        clear hvb
        obtain ⟨pu, cu, hu, _⟩ := OW.out.form
        subst hu
        go_wp2_with fail
        refine (ref_mergeLineage _ _ o [f, t] _ (OW.out.ext (X1.out.alloc _).full) (two_ints _ _ _ _ HR.out) (by have := HOL.out; omega) (by simp)).mono ?_
        rintro e w2 ⟨v2, rfl, s2, x2⟩
        have S2 := Lib.hid (s2.ext (on_sub _ _))
        have X2 := Lib.hid ((hx.trans (X1.out.alloc _)).trans x2)
        have AS2 := Lib.hid (AS.out.join [f, t])
        clear s2 x2 d1 d2 e1
        go_wp2_with fail
        go_roundg (N - (k + 1))
        case measure => omega
        case rel => exact ⟨k + 1, v2, mergeL o [f, t], by omega, rfl, by go_num, rfl, S2.out, by show AscOf _ _; rw [HST.out, if_pos HVB.out]; exact AS2.out, X2.out⟩
      | false =>
        have HVB := Lib.hid hvb
        clear hvb
        go_wp2_with fail
        go_roundg (N - (k + 1))
        case measure => omega
        case rel => exact ⟨k + 1, u, o, by omega, rfl, by go_num, rfl, OW.out.ext X1.out.full, by show AscOf _ _; rw [HST.out, HVB.out, if_neg (by decide), List.append_nil]; exact AS.out, hx.trans X1.out⟩
    · have hkN : k = N := by omega
      have hd : ¬ (k : Int) < (N : Int) := by omega
      have HF := Lib.hid (show o = pts l from by
        have h := AS.out
        rw [hkN, HN.out, List.take_length] at h
        exact h.eq (pts_law l))
      clear hkN
      go_wp2_with fail
      go_ret
      exact ⟨u, rfl, by rw [← HF.out]; exact OW.out, hx⟩

set_option maxHeartbeats 1000000 in
theorem includes_any (f t x : Int) (w : World) :
    Calls Try.prog 94 #[perV f t, .int .i64 x] w fun e w' => e = .returned (.bool (validB f t && decide (f ≤ x) && decide (x < t))) ∧ Ext w w' := by
  go_enter Try.func94, Try.ntmps94
  go_wp2_with fail
  refine (rvalid_any f t _).mono ?_
  rintro e w1 ⟨rfl, x1⟩
  have d0 : w1.cell? ⟨w.heap.size, 0, none⟩ = some (.int .i64 f) := x1.at (by go_simp)
  have d1 : w1.cell? ⟨w.heap.size, 1, none⟩ = some (.int .i64 t) := x1.at (by go_simp)
  have X1 := Lib.hid (show Ext w w1 from ((Ext.refl w).alloc _).trans x1)
  have e1 := cell_lt d1
  clear x1
  cases hvb : validB f t with
  | false =>
    go_wp2_with fail
    go_ret
    exact ⟨by rw [hvb]; simp, X1.out⟩
  | true =>
    by_cases h1 : f ≤ x
    · have hd1 : decide (f ≤ x) = true := by simp [h1]
      by_cases h2 : x < t
      · have hd2 : decide (x < t) = true := by simp [h2]
        go_wp2_with fail
        go_ret
        exact ⟨by rw [hvb]; simp [h1, h2], X1.out⟩
      · have hd2 : decide (x < t) = false := by simp [h2]
        go_wp2_with fail
        go_ret
        exact ⟨by rw [hvb]; simp [h1, h2], X1.out⟩
    · have hd1 : decide (f ≤ x) = false := by simp [h1]
      go_wp2_with fail
      go_ret
      exact ⟨by rw [hvb, hd1]; simp, X1.out⟩

def tupRow (t : Tup) : Row := ⟨t.vals, t.lin⟩
def sliceRows (l : List Tup) (x : Int) : List Row := (l.filter (holdsAt x)).map tupRow
theorem slice_step (l : List Tup) (x : Int) (k : Nat) (h : k < l.length) : sliceRows (l.take (k + 1)) x = sliceRows (l.take k) x ++ if (validB l[k].from_ l[k].to_ && decide (l[k].from_ ≤ x) && decide (x < l[k].to_)) = true then [tupRow l[k]] else [] := by
  rw [List.take_succ_eq_append_getElem h]
  unfold sliceRows
  rw [List.filter_append, List.map_append]
  congr 1
  rw [List.filter_cons, List.filter_nil]
  show List.map tupRow (if holdsAt x l[k] = true then [l[k]] else []) = _
  rw [show holdsAt x l[k] = (validB l[k].from_ l[k].to_ && decide (l[k].from_ ≤ x) && decide (x < l[k].to_)) from rfl]
  split <;> rfl
theorem sliceRows_len (l : List Tup) (x : Int) : (sliceRows l x).length = cntAt l x := by unfold sliceRows cntAt; rw [List.length_map]

set_option maxRecDepth 100000 in
set_option maxHeartbeats 4000000 in
theorem ref_timeslice (v : Value) (l : List Tup) (x : Int) (w : World) (hv : SliceOf Rep.tup w.cell? v l) (hl : l.length ≤ 50) :
    Calls Try.prog 69 #[v, .int .i64 x] w fun e w' => ∃ v', e = .returned v' ∧ SliceOf Rep.row w'.cell? v' (sortBy cmpRow (sliceRows l x)) ∧ Ext w w' := by
  obtain ⟨i0, hi, hz0, hz1, hz2⟩ := info_parts infoRow
  obtain ⟨p, cap, rfl, hc1, hc2, hp⟩ := hv.form
  obtain ⟨N, hN⟩ : ∃ N, N = l.length := ⟨_, rfl⟩
  have HV := Lib.hid hv
  rw [← hN]
  have HN := Lib.hid hN
  have HP := Lib.hid hp
  have hNl : N ≤ 50 := by omega
  clear hv hN hp hc1 hc2
  go_enter Try.func69, Try.ntmps69
  go_wp2_with fail
  go_loopg [5, 10] N (fun gk vo vi wr => ∃ (k : Nat) (u : Value) (o : List Row), k ≤ N ∧ gk = N - k ∧ vi = .int .i64 k ∧ u = vo ∧ Hid (OwnOf Rep.row wr (fun k => k < w.heap.size) w.heap.size 32 u o) ∧ Hid (o = sliceRows (l.take k) x) ∧ Ext w wr)
  case atStart => exact ⟨0, _, [], by omega, rfl, rfl, rfl, OwnOf.nil _ _ _ _ _, rfl, Ext.refl w⟩
  case round =>
    obtain ⟨k, u, o, hk, rfl, rfl, rfl, OW, AS, hx⟩ := hrel
    by_cases hlt : k < N
    · have hkl : k < l.length := by have := HN.out; omega
      obtain ⟨b, o', rfl⟩ := HP.out (by decide) (by omega)
      have hv := HV.out
      rw [← HN.out] at hv
      obtain ⟨ta, tb, c0, c1, c2, c3, g0, g1, r1, r2⟩ := tup_at hv k hkl
      obtain ⟨pa, ka, ta', _⟩ := g0.form
      obtain ⟨pb, kb, tb', _⟩ := g1.form
      subst ta' tb'
      replace c0 := hx.at c0
      replace c1 := hx.at c1
      replace c2 := hx.at c2
      replace c3 := hx.at c3
      have hst := slice_step l x k hkl
      have hol : o.length ≤ 50 := by
        rw [AS.out, sliceRows_len]
        exact Nat.le_trans (cnt_len _ _) (Nat.le_trans (List.length_take_le _ _) (by omega))
      rw [← AS.out] at hst
      unfold tupRow at hst
      generalize l[k] = y at c0 c1 c2 c3 g0 g1 r1 r2 hst
      obtain ⟨vs, f, t, ln⟩ := y
      dsimp only at c0 c1 c2 c3 g0 g1 r1 r2 hst
      have HST := Lib.hid hst
      have G0 := Lib.hid g0
      have G1 := Lib.hid g1
      have HOL := Lib.hid hol
      have hd : decide ((k : Int) < (N : Int)) = true := by simp; omega
      have e0 := cell_lt c0
      clear hst g0 g1 r1 r2 hv hol
      go_wp2_with fail
      refine (includes_any f t x _).mono ?_
      rintro e w1 ⟨rfl, x1⟩
      have d0 : w1.cell? ⟨wr.heap.size, 0, none⟩ = some (.slice pa vs.length ka) := x1.at (by go_simp)
      have d3 : w1.cell? ⟨wr.heap.size, 3, none⟩ = some (.slice pb ln.length kb) := x1.at (by go_simp)
      have X1 := Lib.hid (show Ext wr w1 from ((Ext.refl wr).alloc _).trans x1)
      have e1 := cell_lt d0
      clear x1 c0 c1 c2 c3 e0
      cases hvb : (validB f t && decide (f ≤ x) && decide (x < t)) with
      | true =>
        have HVB := Lib.hid hvb
        clear hvb
        have XA := Lib.hid (hx.trans (X1.out.alloc (.cells #[.slice pa vs.length ka, .slice pb ln.length kb] 32)))
        have OA := Lib.hid (OW.out.ext (X1.out.alloc (.cells #[.slice pa vs.length ka, .slice pb ln.length kb] 32)))
        have B1 : o.length + 1 ≤ maxLen := by have := HOL.out; unfold maxLen; omega
        have B2 : (o.length + 1) * 48 ≤ 140737488355328 := by have := HOL.out; omega
        go_wp2_with (at_builtin; refine wpList_append_one Rep.row (fun k => k < w.heap.size) rfl _ _ 22 rfl w.heap.size 32 i0 _ 48 Try.underlying22 hi hz0 hz1 hz2 rfl (by decide) u o rfl (by exact OA.out) ⟨w1.heap.size, 0, none⟩ 1 ⟨vs, ln⟩ [.slice pa vs.length ka, .slice pb ln.length kb] rfl (by
            have hs : Sub w.cell? (on (w1.alloc (.cells #[.slice pa vs.length ka, .slice pb ln.length kb] 32)) (avoid (fun k => k < w.heap.size) u)) := (full_on w _ fun _ h => h).trans (old_avoid XA.out OA.out)
            exact ⟨_, _, rfl, G0.out.ext hs, G1.out.ext hs⟩) (by exact cells_new w1 [.slice pa vs.length ka, .slice pb ln.length kb] _) B1 B2 (by exact XA.out.size) ?_)
        intro g cap w3 own gr _
        have hxx : Ext w w3 := XA.out.grownNew gr OW.out.base
        have OW2 := Lib.hid own
        clear own gr d0 d3 e1
        go_wp2_with fail
        go_roundg (N - (k + 1))
        case measure => omega
        case rel => exact ⟨k + 1, _, o ++ [(⟨vs, ln⟩ : Row)], by omega, rfl, by go_num, rfl, OW2.out, by show _ = _; rw [HST.out, if_pos HVB.out], hxx⟩
      | false =>
        have HVB := Lib.hid hvb
        clear hvb
        go_wp2_with fail
        go_roundg (N - (k + 1))
        case measure => omega
        case rel => exact ⟨k + 1, u, o, by omega, rfl, by go_num, rfl, OW.out.ext X1.out, by show _ = _; rw [HST.out, HVB.out, if_neg (by decide), List.append_nil], hx.trans X1.out⟩
    · have hkN : k = N := by omega
      have hd : ¬ (k : Int) < (N : Int) := by omega
      have HF := Lib.hid (show o = sliceRows l x from by
        have h := AS.out
        rw [hkN, HN.out, List.take_length] at h
        exact h)
      have hol : (sliceRows l x).length ≤ 50 := by
        rw [sliceRows_len]
        exact Nat.le_trans (cnt_len _ _) (by have := HN.out; omega)
      have S5 := Lib.hid (show SliceOf Rep.row wr.cell? u (sliceRows l x) from by rw [← HF.out]; exact OW.out.slice)
      clear hkN
      go_wp2_with fail
      refine (ref_sort 50 (sliceRows l x) hol _ _ (by omega) S5.out).mono ?_
      rintro e w4 ⟨v4, rfl, s4, x4⟩
      have S4 := Lib.hid s4
      have X4 := Lib.hid (hx.trans x4)
      clear s4 x4
      go_wp2_with fail
      go_ret
      exact ⟨_, rfl, S4.out, X4.out⟩

end Go.Proofs.Ytmjfbfigdkolaaa
