/- bag.Equal, bag.Multiplicity. -/
import Derived.Test.YtmjfbfigdkolaaaBagE
namespace Go.Proofs.Ytmjfbfigdkolaaa
open Go.RowKit

/-- equality as a Bool -/
noncomputable def eqB {α : Type} (x y : α) : Bool := @decide (x = y) (Classical.propDecidable _)
theorem eqB_iff {α : Type} {x y : α} : eqB x y = true ↔ x = y := by simp [eqB]
theorem eqB_of {α β : Type} {x y : α} {u v : β} (h : x = y ↔ u = v) : eqB x y = eqB u v := by
  rw [Bool.eq_iff_iff, eqB_iff, eqB_iff, h]
theorem eqB_drop {α : Type} (l l' : List α) (k : Nat) (h : k < l.length) (h' : k < l'.length) : eqB (l.drop k) (l'.drop k) = (eqB l[k] l'[k] && eqB (l.drop (k + 1)) (l'.drop (k + 1))) := by
  rw [List.drop_eq_getElem_cons h, List.drop_eq_getElem_cons h', Bool.eq_iff_iff, Bool.and_eq_true, eqB_iff, eqB_iff, eqB_iff]
  exact Iff.of_eq (List.cons.injEq _ _ _ _)
theorem eqB_end {α : Type} (l l' : List α) (h : l.length = l'.length) : eqB (l.drop l.length) (l'.drop l.length) = true := by
  rw [eqB_iff, List.drop_length, List.drop_eq_nil_of_le (by omega)]
theorem eqB_len {α : Type} (l l' : List α) (h : l.length ≠ l'.length) : eqB l l' = false := by
  rw [Bool.eq_false_iff, Ne, eqB_iff]
  intro e
  rw [e] at h
  exact h rfl
theorem cmpRow_zero (a b : Row) : (cmpRow a b == 0) = eqB a b := by
  rw [Bool.eq_iff_iff, eqB_iff, beq_iff_eq, ord_row.eq]

set_option maxHeartbeats 1000000 in
theorem equal_fn (va vb ua ub : Value) (a b : Row) (w : World) (ha : SliceOf Rep.val w.cell? va a.vals) (hb : SliceOf Rep.val w.cell? vb b.vals) (ka : SliceOf Rep.int w.cell? ua a.lin) (kb : SliceOf Rep.int w.cell? ub b.lin) :
    Calls Try.prog 46 #[.agg #[va, ua], .agg #[vb, ub]] w fun e w' => e = .returned (.bool (eqB a b)) ∧ Gro w w' := by
  have HA := Lib.hid ha
  have HB := Lib.hid hb
  have KA := Lib.hid ka
  have KB := Lib.hid kb
  obtain ⟨pa, ca, rfl, _⟩ := ha.form
  obtain ⟨pb, cb, rfl, _⟩ := hb.form
  obtain ⟨qa, da, rfl, _⟩ := ka.form
  obtain ⟨qb, db, rfl, _⟩ := kb.form
  clear ha hb ka kb
  go_enter Try.func46, Try.ntmps46
  go_wp2_with fail
  have hx := ((Gro.refl w).alloc (.cells #[.slice pa a.vals.length ca, .slice qa a.lin.length da] 32)).alloc (.cells #[.slice pb b.vals.length cb, .slice qb b.lin.length db] 32)
  refine (compareRow_any _ _ _ _ a b _ (HA.out.ext hx.ext.full) (HB.out.ext hx.ext.full) (KA.out.ext hx.ext.full) (KB.out.ext hx.ext.full)).mono ?_
  rintro e w1 ⟨rfl, hx1⟩
  replace hx := hx.trans hx1
  have hc := cmpRow_zero a b
  generalize cmpRow a b = q at hc ⊢
  have HC := Lib.hid hc
  clear hc hx1
  go_wp2_with fail
  go_ret
  exact ⟨ret_bool HC.out, hx⟩

set_option maxHeartbeats 2000000 in
theorem equalFunc_rows (va vb : Value) (l l' : List Row) (w : World) (ha : SliceOf Rep.row w.cell? va l) (hb : SliceOf Rep.row w.cell? vb l') :
    Calls Try.prog 45 #[va, vb, .func (.func 46) #[] #[]] w
      fun e w' => e = .returned (.bool (eqB l l')) ∧ Gro w w' := by
  obtain ⟨pa, ca, rfl, ha1, ha2, ha3⟩ := ha.form
  obtain ⟨pb, cb, rfl, hb1, hb2, hb3⟩ := hb.form
  unfold maxLen at ha2 hb2
  go_enter Try.func45, Try.ntmps45
  by_cases hlen : l.length = l'.length
  · have hlb : ((l.length : Int) != (l'.length : Int)) = false := by simp [hlen]
    have HLn := Lib.hid hlen
    clear hlen
    go_wp2_with fail
    go_loopg [17] l.length (fun gk i wr => ∃ k : Nat, k ≤ l.length ∧ gk = l.length - k ∧ i = .int .i64 k ∧ eqB l l' = eqB (l.drop k) (l'.drop k) ∧ Gro w wr)
    case atStart => exact ⟨0, by omega, rfl, rfl, rfl, Gro.refl w⟩
    case round =>
      obtain ⟨k, hk, rfl, rfl, hc, hx⟩ := hrel
      have HC := Lib.hid hc
      clear hc
      by_cases hlt : k < l.length
      · have hlt2 : k < l'.length := by have := HLn.out; omega
        obtain ⟨ba, oa, rfl⟩ := ha3 (by decide) (by omega)
        obtain ⟨bb, ob, rfl⟩ := hb3 (by decide) (by omega)
        obtain ⟨u1, u2, c1, c2, s1, s2⟩ := row_at ha k hlt
        obtain ⟨v1, v2, d1, d2, t1, t2⟩ := row_at hb k hlt2
        have hdr := eqB_drop l l' k hlt hlt2
        generalize l[k] = x at s1 s2 hdr
        generalize l'[k] = y at t1 t2 hdr
        replace c1 := hx.at c1
        replace c2 := hx.at c2
        replace d1 := hx.at d1
        replace d2 := hx.at d2
        replace s1 := s1.ext hx.ext.full
        replace s2 := s2.ext hx.ext.full
        replace t1 := t1.ext hx.ext.full
        replace t2 := t2.ext hx.ext.full
        have HD := Lib.hid hdr
        have S1 := Lib.hid s1
        have S2 := Lib.hid s2
        have T1 := Lib.hid t1
        have T2 := Lib.hid t2
        obtain ⟨p1, q1, rfl, _⟩ := s1.form
        obtain ⟨p2, q2, rfl, _⟩ := s2.form
        obtain ⟨p3, q3, rfl, _⟩ := t1.form
        obtain ⟨p4, q4, rfl, _⟩ := t2.form
        have hd : decide ((k : Int) < (l.length : Int)) = true := by simp; omega
        have hd2 : (k : Int) < (l'.length : Int) := by omega
        have e1 := cell_lt c1
        have e2 := cell_lt d1
        clear s1 s2 t1 t2 hdr ha hb ha3 hb3
        go_wp2_with fail
        have hx0 := ((Gro.refl wr).alloc (.cells #[.slice p1 x.vals.length q1, .slice p2 x.lin.length q2] 32)).alloc (.cells #[.slice p3 y.vals.length q3, .slice p4 y.lin.length q4] 32)
        refine (equal_fn _ _ _ _ x y _ (S1.out.ext hx0.ext.full) (T1.out.ext hx0.ext.full) (S2.out.ext hx0.ext.full) (T2.out.ext hx0.ext.full)).mono ?_
        rintro e w1 ⟨rfl, hx1⟩
        replace hx := (hx.trans hx0).trans hx1
        clear hx1 hx0 c1 c2 d1 d2 e1 e2
        generalize hq : eqB x y = q
        have HQ := Lib.hid hq
        clear hq
        cases q
        · go_wp2_with fail
          go_ret
          exact ⟨ret_bool (by rw [HC.out, HD.out, HQ.out, Bool.false_and]), hx⟩
        · go_wp2_with fail
          go_roundg (l.length - (k + 1))
          case measure => omega
          case rel => exact ⟨k + 1, by omega, rfl, by go_num, by rw [HC.out, HD.out, HQ.out, Bool.true_and], hx⟩
      · have : k = l.length := by omega
        subst this
        have hen := eqB_end l l' HLn.out
        have HE := Lib.hid hen
        clear hen
        go_wp2_with fail
        go_ret
        exact ⟨ret_bool (by rw [HC.out, HE.out]), hx⟩
  · have hlb : ((l.length : Int) != (l'.length : Int)) = true := by simp; omega
    have hen := eqB_len l l' hlen
    have HE := Lib.hid hen
    clear hen
    go_wp2_with fail
    go_ret
    exact ⟨ret_bool HE.out.symm, Gro.refl w⟩

set_option maxHeartbeats 1000000 in
theorem equal_rows (va vb : Value) (l l' : List Row) (w : World) (ha : SliceOf Rep.row w.cell? va l) (hb : SliceOf Rep.row w.cell? vb l') (hf : fitRows l) (hf' : fitRows l') :
    Calls Try.prog 18 #[va, vb] w fun e w' => e = .returned (.bool (eqB (sortBy cmpRow l) (sortBy cmpRow l'))) ∧ Ext w w' := by
  have HA := Lib.hid ha
  have HB := Lib.hid hb
  have HF := Lib.hid hf
  have HF' := Lib.hid hf'
  obtain ⟨pa, ca, rfl, _⟩ := ha.form
  obtain ⟨pb, cb, rfl, _⟩ := hb.form
  clear ha hb hf hf'
  go_enter Try.func18, Try.ntmps18
  go_wp2_with fail
  refine (sort_rows _ l _ HA.out HF.out).mono ?_
  rintro e w1 ⟨v1, rfl, s1, hx1⟩
  have S1 := Lib.hid s1
  obtain ⟨p1, q1, rfl, _⟩ := s1.form
  clear s1
  go_wp2_with fail
  refine (sort_rows _ l' _ (HB.out.ext hx1.full) HF'.out).mono ?_
  rintro e w2 ⟨v2, rfl, s2, hx2⟩
  have S2 := Lib.hid s2
  obtain ⟨p2, q2, rfl, _⟩ := s2.form
  clear s2
  go_wp2_with fail
  refine (equalFunc_rows _ _ _ _ _ ((S1.out.ext (on_sub _ _)).ext hx2.full) (S2.out.ext (on_sub _ _))).mono ?_
  rintro e w3 ⟨rfl, hx3⟩
  go_wp2_with fail
  go_ret
  exact ⟨rfl, (hx1.trans hx2).trans hx3.ext⟩

/-- how often the values occur -/
def mult (vs : List Val) (l : List Row) : Nat := l.countP fun r => cmpVals r.vals vs == 0
theorem mult_take (vs : List Val) (l : List Row) (k : Nat) (h : k < l.length) : mult vs (l.take (k + 1)) = mult vs (l.take k) + if cmpVals l[k].vals vs = 0 then 1 else 0 := by
  unfold mult
  rw [List.take_succ_eq_append_getElem h, List.countP_append, List.countP_cons, List.countP_nil]
  simp

set_option maxHeartbeats 2000000 in
theorem multiplicity_rows (va vb : Value) (l : List Row) (vs : List Val) (w : World) (ha : SliceOf Rep.row w.cell? va l) (hb : SliceOf Rep.val w.cell? vb vs) :
    Calls Try.prog 22 #[va, vb] w fun e w' => e = .returned (.int .i64 (mult vs l)) ∧ Ext w w' := by
  have HB := Lib.hid hb
  obtain ⟨pa, ca, rfl, ha1, ha2, ha3⟩ := ha.form
  obtain ⟨pb, cb, rfl, _⟩ := hb.form
  unfold maxLen at ha2
  clear hb
  go_enter Try.func22, Try.ntmps22
  go_wp2_with fail
  go_loopg [5, 10] l.length (fun gk n i wr => ∃ k m : Nat, k ≤ l.length ∧ gk = l.length - k ∧ i = .int .i64 k ∧ n = .int .i64 m ∧ (m ≤ k ∧ mult vs (l.take k) = m) ∧ Ext w wr)
  case atStart => exact ⟨0, 0, by omega, rfl, rfl, rfl, ⟨by omega, rfl⟩, Ext.refl w⟩
  case round =>
    obtain ⟨k, m, hk, rfl, rfl, rfl, ⟨hmk, hm⟩, hx⟩ := hrel
    have HM := Lib.hid hm
    clear hm
    by_cases hlt : k < l.length
    · obtain ⟨ba, oa, rfl⟩ := ha3 (by decide) (by omega)
      obtain ⟨u1, u2, c1, c2, s1, s2⟩ := row_at ha k hlt
      have hdr := mult_take vs l k hlt
      generalize l[k] = x at s1 s2 hdr
      replace c1 := hx.at c1
      replace c2 := hx.at c2
      replace s1 := s1.ext hx.full
      have HD := Lib.hid hdr
      have S1 := Lib.hid s1
      obtain ⟨p1, q1, rfl, _⟩ := s1.form
      obtain ⟨p2, q2, rfl, _⟩ := s2.form
      have hd : decide ((k : Int) < (l.length : Int)) = true := by simp; omega
      have e1 := cell_lt c1
      clear s1 s2 hdr ha ha3
      go_wp2_with fail
      have hx0 := (Ext.refl wr).alloc (.cells #[.slice p1 x.vals.length q1, .slice p2 x.lin.length q2] 32)
      refine (compareRows_any _ _ x.vals vs _ (S1.out.ext hx0.full) ((HB.out.ext hx.full).ext hx0.full)).mono ?_
      rintro e w1 ⟨rfl, hx1⟩
      replace hx := (hx.trans hx0).trans hx1.ext
      clear hx1 hx0 c1 c2 e1
      generalize hq : cmpVals x.vals vs = q
      have HQ := Lib.hid hq
      clear hq
      by_cases hq0 : q = 0
      · subst hq0
        go_wp2_with fail
        go_roundg (l.length - (k + 1))
        case measure => omega
        case rel => exact ⟨k + 1, m + 1, by omega, rfl, by go_num, by go_num, ⟨by omega, by rw [HD.out, HQ.out, HM.out, if_pos rfl]⟩, hx⟩
      · have hqb : (q == 0) = false := by simp [hq0]
        have HQ0 := Lib.hid hq0
        clear hq0
        go_wp2_with fail
        go_roundg (l.length - (k + 1))
        case measure => omega
        case rel => exact ⟨k + 1, m, by omega, rfl, by go_num, rfl, ⟨by omega, by rw [HD.out, HQ.out, HM.out, if_neg HQ0.out, Nat.add_zero]⟩, hx⟩
    · have : k = l.length := by omega
      subst this
      go_wp2_with fail
      go_ret
      exact ⟨ret_int (by rw [← HM.out, List.take_length]), hx⟩

end Go.Proofs.Ytmjfbfigdkolaaa
