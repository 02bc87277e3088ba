/- the reference's comparisons of rows -/
import Derived.Test.YtmjfbfigdkolaaaBagH
namespace Go.Proofs.Ytmjfbfigdkolaaa
open Go.RowKit

set_option maxHeartbeats 2000000 in
theorem ref_compareRows (va vb : Value) (l l' : List Val) (w : World) (ha : SliceOf Rep.val w.cell? va l) (hb : SliceOf Rep.val w.cell? vb l') :
    Calls Try.prog 50 #[va, vb] w
      fun e w' => e = .returned (.int .i64 (cmpVals l l')) ∧ Gro w w' := by
  obtain ⟨pa, ca, rfl, ha1, ha2, ha3⟩ := ha.form
  obtain ⟨pb, cb, rfl, hb1, hb2, hb3⟩ := hb.form
  unfold maxLen at ha2 hb2
  go_enter Try.func50, Try.ntmps50
  go_wp2_with fail
  go_loopg [5] l.length (fun gk i wr => ∃ k : Nat, k ≤ l.length ∧ gk = l.length - k ∧ i = .int .i64 k ∧ (k ≤ l'.length ∧ cmpVals l l' = lexI cmpVal (l.drop k) (l'.drop k)) ∧ Gro w wr)
  case atStart => exact ⟨0, by omega, rfl, rfl, ⟨by omega, rfl⟩, Gro.refl w⟩
  case round =>
    obtain ⟨k, hk, rfl, rfl, ⟨hk2, hc⟩, hx⟩ := hrel
    have HC := Lib.hid hc
    clear hc
    by_cases hlt : k < l.length ∧ k < l'.length
    · obtain ⟨hlt, hlt2⟩ := hlt
      obtain ⟨ba, oa, rfl⟩ := ha3 (by decide) (by omega)
      obtain ⟨c1, c2, c3⟩ := val_at ha k hlt
      replace c1 := hx.at c1
      replace c2 := hx.at c2
      replace c3 := hx.at c3
      have hd : decide ((k : Int) < (l.length : Int)) = true := by simp; omega
      have hd1 : (k : Int) < (l.length : Int) := by omega
      obtain ⟨bb, ob, rfl⟩ := hb3 (by decide) (by omega)
      obtain ⟨d1, d2, d3⟩ := val_at hb k hlt2
      replace d1 := hx.at d1
      replace d2 := hx.at d2
      replace d3 := hx.at d3
      have hdr := lexI_drop cmpVal l l' k hlt hlt2
      have hdb : decide ((k : Int) < (l'.length : Int)) = true := by simp; omega
      have hd2 : (k : Int) < (l'.length : Int) := by omega
      generalize l[k] = x at c1 c2 c3 hdr
      generalize l'[k] = y at d1 d2 d3 hdr
      have HD := Lib.hid hdr
      clear hdr ha hb ha3 hb3
      have hxr := Gro.refl wr
      go_wp2_with fail
      go_region_held3 (fun w' => Gro wr w' ∧ w'.cell? ⟨ba, oa + k * 3, none⟩ = some (.int .i64 x.kind) ∧ w'.cell? ⟨ba, oa + k * 3 + 1, none⟩ = some (.int .i64 x.n) ∧ w'.cell? ⟨ba, oa + k * 3 + 2, none⟩ = some (.string x.s) ∧ w'.cell? ⟨bb, ob + k * 3, none⟩ = some (.int .i64 y.kind) ∧ w'.cell? ⟨bb, ob + k * 3 + 1, none⟩ = some (.int .i64 y.n) ∧ w'.cell? ⟨bb, ob + k * 3 + 2, none⟩ = some (.string y.s))
        (first | exact ⟨hxr.drew, c1, c2, c3, d1, d2, d3⟩ | assumption | exact keepG6 (by assumption) hx2)
        (first | (go_at_call 66; refine (ref_compare x y _).mono ?_; rintro e w2 ⟨rfl, hx2⟩))
      all_goals (obtain ⟨hfin, _⟩ := ‹Gro wr _ ∧ _›)
      all_goals (replace hx := hx.trans hfin)
      all_goals clear c1 c2 c3 d1 d2 d3
      all_goals generalize hq : cmpVal x y = q
      all_goals (have HQ := Lib.hid hq)
      all_goals clear hq
      all_goals by_cases hq0 : q = 0
      all_goals first
        | (have hqb : (q != 0) = false := by simp [hq0]
           have HQ0 := Lib.hid hq0
           clear hq0
           go_wp2_with fail
           go_roundg (l.length - (k + 1))
           case measure => omega
           case rel => exact ⟨k + 1, by omega, rfl, by go_num, ⟨by omega, by rw [HC.out, HD.out, HQ.out, if_pos HQ0.out]⟩, hx⟩)
        | (have hqb : (q != 0) = true := by simp [hq0]
           have HQ0 := Lib.hid hq0
           clear hq0
           go_wp2_with fail
           go_ret
           exact ⟨ret_int (by rw [HC.out, HD.out, HQ.out, if_neg HQ0.out]), hx⟩)
    · have hend := lexI_done cmpVal l l' k hk hk2 hlt
      have HE := Lib.hid hend
      clear hend
      by_cases hk3 : k < l.length
      · have hd : decide ((k : Int) < (l.length : Int)) = true := by simp; omega
        have hdb : decide ((k : Int) < (l'.length : Int)) = false := by simp; omega
        go_wp2_with fail
        all_goals go_ret
        all_goals exact ⟨ret_int (by rw [HC.out, HE.out]; (repeat' split) <;> first | rfl | omega), hx⟩
      · have hd : decide ((k : Int) < (l.length : Int)) = false := by simp; omega
        go_wp2_with fail
        all_goals go_ret
        all_goals exact ⟨ret_int (by rw [HC.out, HE.out]; (repeat' split) <;> first | rfl | omega), hx⟩

theorem eqB_row (a b : Row) : eqB a b = ((cmpVals a.vals b.vals == 0) && (cmpInts a.lin b.lin == 0)) := by
  rw [← cmpRow_zero]
  unfold cmpRow orI orI orI
  by_cases h1 : cmpVals a.vals b.vals = 0 <;> by_cases h2 : cmpInts a.lin b.lin = 0 <;> simp [h1, h2]
/-- the canonical order, strictly -/
theorem lt_row (a b : Row) : decide (cmpRow a b < 0) = (decide (cmpVals a.vals b.vals < 0) || ((cmpVals a.vals b.vals == 0) && decide (cmpInts a.lin b.lin < 0))) := by
  unfold cmpRow orI orI orI
  by_cases h1 : cmpVals a.vals b.vals = 0 <;> by_cases h2 : cmpInts a.lin b.lin = 0 <;> simp [h1, h2]

set_option maxHeartbeats 2000000 in
theorem ref_sameRow (va vb ua ub : Value) (a b : Row) (w : World) (ha : SliceOf Rep.val w.cell? va a.vals) (hb : SliceOf Rep.val w.cell? vb b.vals) (ka : SliceOf Rep.int w.cell? ua a.lin) (kb : SliceOf Rep.int w.cell? ub b.lin) :
    Calls Try.prog 40 #[.agg #[va, ua], .agg #[vb, ub]] w fun e w' => e = .returned (.bool (eqB a b)) ∧ Gro w w' := by
  have HA := Lib.hid ha
  have HB := Lib.hid hb
  have KA := Lib.hid ka
  have KB := Lib.hid kb
  have HE := Lib.hid (eqB_row a b)
  obtain ⟨pa, ca, rfl, _⟩ := ha.form
  obtain ⟨pb, cb, rfl, _⟩ := hb.form
  obtain ⟨qa, da, rfl, _⟩ := ka.form
  obtain ⟨qb, db, rfl, _⟩ := kb.form
  generalize eqB a b = r at HE ⊢
  clear ha hb ka kb
  go_enter Try.func40, Try.ntmps40
  go_wp2_with fail
  have hx := ((Gro.refl w).alloc (.cells #[.slice pa a.vals.length ca, .slice qa a.lin.length da] 32)).alloc (.cells #[.slice pb b.vals.length cb, .slice qb b.lin.length db] 32)
  have c2 : ((w.alloc (.cells #[.slice pa a.vals.length ca, .slice qa a.lin.length da] 32)).alloc (.cells #[.slice pb b.vals.length cb, .slice qb b.lin.length db] 32)).cell? ⟨w.heap.size, 1, none⟩ = some (.slice qa a.lin.length da) := by go_simp
  have c4 : ((w.alloc (.cells #[.slice pa a.vals.length ca, .slice qa a.lin.length da] 32)).alloc (.cells #[.slice pb b.vals.length cb, .slice qb b.lin.length db] 32)).cell? ⟨w.heap.size + 1, 1, none⟩ = some (.slice qb b.lin.length db) := by go_simp
  refine (ref_compareRows _ _ a.vals b.vals _ (HA.out.ext hx.ext.full) (HB.out.ext hx.ext.full)).mono ?_
  rintro e w1 ⟨rfl, hx1⟩
  replace hx := hx.trans hx1
  replace c2 := hx1.at c2
  replace c4 := hx1.at c4
  clear hx1
  generalize cmpVals a.vals b.vals = q at HE ⊢
  by_cases hq : q = 0
  · subst hq
    go_wp2_with fail
    refine (ref_compareInts _ _ a.lin b.lin _ (KA.out.ext hx.ext.full) (KB.out.ext hx.ext.full)).mono ?_
    rintro e w2 ⟨rfl, hx2⟩
    replace hx := hx.trans hx2
    clear hx2 c2 c4
    generalize cmpInts a.lin b.lin = q2 at HE ⊢
    go_wp2_with fail
    all_goals go_ret
    all_goals exact ⟨ret_bool (by rw [HE.out]; simp), hx⟩
  · have hqb : (q == 0) = false := by simp [hq]
    have HQ := Lib.hid hq
    clear hq
    go_wp2_with fail
    all_goals go_ret
    all_goals exact ⟨ret_bool (by rw [HE.out]; simp [HQ.out]), hx⟩

set_option maxHeartbeats 2000000 in
theorem ref_less (va vb ua ub : Value) (a b : Row) (w : World) (ha : SliceOf Rep.val w.cell? va a.vals) (hb : SliceOf Rep.val w.cell? vb b.vals) (ka : SliceOf Rep.int w.cell? ua a.lin) (kb : SliceOf Rep.int w.cell? ub b.lin) :
    Calls Try.prog 44 #[.agg #[va, ua], .agg #[vb, ub]] w fun e w' => e = .returned (.bool (decide (cmpRow a b < 0))) ∧ Gro w w' := by
  have HA := Lib.hid ha
  have HB := Lib.hid hb
  have KA := Lib.hid ka
  have KB := Lib.hid kb
  have HE := Lib.hid (lt_row a b)
  obtain ⟨pa, ca, rfl, _⟩ := ha.form
  obtain ⟨pb, cb, rfl, _⟩ := hb.form
  obtain ⟨qa, da, rfl, _⟩ := ka.form
  obtain ⟨qb, db, rfl, _⟩ := kb.form
  generalize decide (cmpRow a b < 0) = r at HE ⊢
  clear ha hb ka kb
  go_enter Try.func44, Try.ntmps44
  go_wp2_with fail
  have hx := ((Gro.refl w).alloc (.cells #[.slice pa a.vals.length ca, .slice qa a.lin.length da] 32)).alloc (.cells #[.slice pb b.vals.length cb, .slice qb b.lin.length db] 32)
  have c2 : ((w.alloc (.cells #[.slice pa a.vals.length ca, .slice qa a.lin.length da] 32)).alloc (.cells #[.slice pb b.vals.length cb, .slice qb b.lin.length db] 32)).cell? ⟨w.heap.size, 1, none⟩ = some (.slice qa a.lin.length da) := by go_simp
  have c4 : ((w.alloc (.cells #[.slice pa a.vals.length ca, .slice qa a.lin.length da] 32)).alloc (.cells #[.slice pb b.vals.length cb, .slice qb b.lin.length db] 32)).cell? ⟨w.heap.size + 1, 1, none⟩ = some (.slice qb b.lin.length db) := by go_simp
  refine (ref_compareRows _ _ a.vals b.vals _ (HA.out.ext hx.ext.full) (HB.out.ext hx.ext.full)).mono ?_
  rintro e w1 ⟨rfl, hx1⟩
  replace hx := hx.trans hx1
  replace c2 := hx1.at c2
  replace c4 := hx1.at c4
  clear hx1
  generalize cmpVals a.vals b.vals = q at HE ⊢
  rcases Int.lt_trichotomy q 0 with hq | hq | hq
  · have hqb : decide (q < 0) = true := by simp [hq]
    have HQ := Lib.hid hq
    clear hq
    go_wp2_with fail
    all_goals go_ret
    all_goals exact ⟨ret_bool (by rw [HE.out]; simp [HQ.out]), hx⟩
  · subst hq
    go_wp2_with fail
    refine (ref_compareInts _ _ a.lin b.lin _ (KA.out.ext hx.ext.full) (KB.out.ext hx.ext.full)).mono ?_
    rintro e w2 ⟨rfl, hx2⟩
    replace hx := hx.trans hx2
    clear hx2 c2 c4
    generalize cmpInts a.lin b.lin = q2 at HE ⊢
    go_wp2_with fail
    all_goals go_ret
    all_goals exact ⟨ret_bool (by rw [HE.out]; simp), hx⟩
  · have hqb : decide (q < 0) = false := by simp; omega
    have hqc : (q == 0) = false := by simp; omega
    have HQ := Lib.hid hq
    clear hq
    go_wp2_with fail
    all_goals go_ret
    all_goals exact ⟨ret_bool (by rw [HE.out]; have := HQ.out; simp; omega), hx⟩

end Go.Proofs.Ytmjfbfigdkolaaa
