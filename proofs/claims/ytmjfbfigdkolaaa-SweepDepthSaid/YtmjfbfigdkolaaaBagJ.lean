/- the reference's SameRows, Multiplicity; annalistlaw0.FewRows -/
import Derived.Test.YtmjfbfigdkolaaaBagI
namespace Go.Proofs.Ytmjfbfigdkolaaa
open Go.RowKit

set_option maxHeartbeats 2000000 in
theorem ref_sameRows (va vb : Value) (l l' : List Row) (w : World) (ha : SliceOf Rep.row w.cell? va l) (hb : SliceOf Rep.row w.cell? vb l') :
    Calls Try.prog 15 #[va, vb] w fun e w' => e = .returned (.bool (eqB l l')) ∧ Gro w w' := by
  obtain ⟨pa, ca, rfl, ha1, ha2, ha3⟩ := ha.form
  obtain ⟨pb, cb, rfl, hb1, hb2, hb3⟩ := hb.form
  unfold maxLen at ha2 hb2
  go_enter Try.func15, Try.ntmps15
  by_cases hlen : l.length = l'.length
  · have hlb : ((l.length : Int) != (l'.length : Int)) = false := by simp [hlen]
    have HLn := Lib.hid hlen
    clear hlen
    go_wp2_with fail
    go_loopg [5] l.length (fun gk i wr => ∃ k : Nat, k ≤ l.length ∧ gk = l.length - k ∧ i = .int .i64 k ∧ eqB l l' = eqB (l.drop k) (l'.drop k) ∧ Gro w wr)
    case atStart => exact ⟨0, by omega, rfl, rfl, rfl, Gro.refl w⟩
    case round =>
      obtain ⟨k, hk, rfl, rfl, hc, hx⟩ := hrel
      have HC := Lib.hid hc
      clear hc
      by_cases hlt : k < l.length
      · have hlt2 : k < l'.length := by have := HLn.out; omega
        obtain ⟨ba, oa, rfl⟩ := ha3 (by decide) (by omega)
        obtain ⟨bb, ob, rfl⟩ := hb3 (by decide) (by omega)
        obtain ⟨u1, u2, c1, c2, s1, s2⟩ := row_at ha k hlt
        obtain ⟨v1, v2, d1, d2, t1, t2⟩ := row_at hb k hlt2
        have hdr := eqB_drop l l' k hlt hlt2
        generalize l[k] = x at s1 s2 hdr
        generalize l'[k] = y at t1 t2 hdr
        replace c1 := hx.at c1
        replace c2 := hx.at c2
        replace d1 := hx.at d1
        replace d2 := hx.at d2
        replace s1 := s1.ext hx.ext.full
        replace s2 := s2.ext hx.ext.full
        replace t1 := t1.ext hx.ext.full
        replace t2 := t2.ext hx.ext.full
        have HD := Lib.hid hdr
        have S1 := Lib.hid s1
        have S2 := Lib.hid s2
        have T1 := Lib.hid t1
        have T2 := Lib.hid t2
        obtain ⟨p1, q1, rfl, _⟩ := s1.form
        obtain ⟨p2, q2, rfl, _⟩ := s2.form
        obtain ⟨p3, q3, rfl, _⟩ := t1.form
        obtain ⟨p4, q4, rfl, _⟩ := t2.form
        have hd : decide ((k : Int) < (l.length : Int)) = true := by simp; omega
        have hd1 : (k : Int) < (l.length : Int) := by omega
        have hd2 : (k : Int) < (l'.length : Int) := by omega
        clear s1 s2 t1 t2 hdr ha hb ha3 hb3
        have hxr := Gro.refl wr
        go_wp2_with fail
        go_region_held3 (fun w' => Gro wr w' ∧ w'.cell? ⟨ba, oa + k * 2, none⟩ = some (.slice p1 x.vals.length q1) ∧ w'.cell? ⟨ba, oa + k * 2 + 1, none⟩ = some (.slice p2 x.lin.length q2) ∧ w'.cell? ⟨bb, ob + k * 2, none⟩ = some (.slice p3 y.vals.length q3) ∧ w'.cell? ⟨bb, ob + k * 2 + 1, none⟩ = some (.slice p4 y.lin.length q4))
          (first | exact ⟨hxr.drew, c1, c2, d1, d2⟩ | assumption | exact keepG4 (by assumption) hx2)
          (first | (go_at_call 40; refine (ref_sameRow _ _ _ _ x y _ (by exact S1.out.ext (And.left ‹Gro wr _ ∧ _›).ext.full) (by exact T1.out.ext (And.left ‹Gro wr _ ∧ _›).ext.full) (by exact S2.out.ext (And.left ‹Gro wr _ ∧ _›).ext.full) (by exact T2.out.ext (And.left ‹Gro wr _ ∧ _›).ext.full)).mono ?_; rintro e w2 ⟨rfl, hx2⟩))
        all_goals (obtain ⟨hfin, _⟩ := ‹Gro wr _ ∧ _›)
        all_goals (replace hx := hx.trans hfin)
        all_goals clear c1 c2 d1 d2
        all_goals generalize hq : eqB x y = q
        all_goals (have HQ := Lib.hid hq)
        all_goals clear hq
        all_goals cases q
        all_goals first
          | (go_wp2_with fail
             go_roundg (l.length - (k + 1))
             case measure => omega
             case rel => exact ⟨k + 1, by omega, rfl, by go_num, by rw [HC.out, HD.out, HQ.out, Bool.true_and], hx⟩)
          | (go_wp2_with fail
             go_ret
             exact ⟨ret_bool (by rw [HC.out, HD.out, HQ.out, Bool.false_and]), hx⟩)
      · have : k = l.length := by omega
        subst this
        have hen := eqB_end l l' HLn.out
        have HE := Lib.hid hen
        clear hen
        go_wp2_with fail
        go_ret
        exact ⟨ret_bool (by rw [HC.out, HE.out]), hx⟩
  · have hlb : ((l.length : Int) != (l'.length : Int)) = true := by simp; omega
    have hen := eqB_len l l' hlen
    have HE := Lib.hid hen
    clear hen
    go_wp2_with fail
    go_ret
    exact ⟨ret_bool HE.out.symm, Gro.refl w⟩

set_option maxHeartbeats 2000000 in
theorem ref_multiplicity (va vb : Value) (l : List Row) (vs : List Val) (w : World) (ha : SliceOf Rep.row w.cell? va l) (hb : SliceOf Rep.val w.cell? vb vs) :
    Calls Try.prog 23 #[va, vb] w fun e w' => e = .returned (.int .i64 (mult vs l)) ∧ Ext w w' := by
  have HB := Lib.hid hb
  obtain ⟨pa, ca, rfl, ha1, ha2, ha3⟩ := ha.form
  obtain ⟨pb, cb, rfl, _⟩ := hb.form
  unfold maxLen at ha2
  clear hb
  go_enter Try.func23, Try.ntmps23
  go_wp2_with fail
  go_loopg [5, 6] l.length (fun gk n i wr => ∃ k m : Nat, k ≤ l.length ∧ gk = l.length - k ∧ i = .int .i64 k ∧ n = .int .i64 m ∧ (m ≤ k ∧ mult vs (l.take k) = m) ∧ Ext w wr)
  case atStart => exact ⟨0, 0, by omega, rfl, rfl, rfl, ⟨by omega, rfl⟩, Ext.refl w⟩
  case round =>
    obtain ⟨k, m, hk, rfl, rfl, rfl, ⟨hmk, hm⟩, hx⟩ := hrel
    have HM := Lib.hid hm
    clear hm
    by_cases hlt : k < l.length
    · obtain ⟨ba, oa, rfl⟩ := ha3 (by decide) (by omega)
      obtain ⟨u1, u2, c1, c2, s1, s2⟩ := row_at ha k hlt
      have hdr := mult_take vs l k hlt
      generalize l[k] = x at s1 s2 hdr
      replace c1 := hx.at c1
      replace s1 := s1.ext hx.full
      have HD := Lib.hid hdr
      have S1 := Lib.hid s1
      obtain ⟨p1, q1, rfl, _⟩ := s1.form
      have hd : decide ((k : Int) < (l.length : Int)) = true := by simp; omega
      have hd1 : (k : Int) < (l.length : Int) := by omega
      clear s1 s2 c2 hdr ha ha3
      go_wp2_with fail
      refine (ref_compareRows _ _ x.vals vs _ S1.out (HB.out.ext hx.full)).mono ?_
      rintro e w1 ⟨rfl, hx1⟩
      replace hx := hx.trans hx1.ext
      clear hx1 c1
      generalize hq : cmpVals x.vals vs = q
      have HQ := Lib.hid hq
      clear hq
      by_cases hq0 : q = 0
      · subst hq0
        go_wp2_with fail
        go_roundg (l.length - (k + 1))
        case measure => omega
        case rel => exact ⟨k + 1, m + 1, by omega, rfl, by go_num, by go_num, ⟨by omega, by rw [HD.out, HQ.out, HM.out, if_pos rfl]⟩, hx⟩
      · have hqb : (q == 0) = false := by simp [hq0]
        have HQ0 := Lib.hid hq0
        clear hq0
        go_wp2_with fail
        go_roundg (l.length - (k + 1))
        case measure => omega
        case rel => exact ⟨k + 1, m, by omega, rfl, by go_num, rfl, ⟨by omega, by rw [HD.out, HQ.out, HM.out, if_neg HQ0.out, Nat.add_zero]⟩, hx⟩
    · have : k = l.length := by omega
      subst this
      go_wp2_with fail
      go_ret
      exact ⟨ret_int (by rw [← HM.out, List.take_length]), hx⟩

/-- rows that a law takes -/
def few (n : Nat) (l : List Row) : Prop := l.length ≤ n ∧ ∀ r ∈ l, r.vals.length ≤ 6 ∧ r.lin.length ≤ 6
theorem few_fit {n : Nat} {l : List Row} (h : few n l) (hn : n ≤ 1048576) : fitRows l :=
  ⟨Nat.le_trans h.1 hn, fun r hr => ⟨by have := (h.2 r hr).1; omega, by have := (h.2 r hr).2; omega⟩⟩

set_option maxHeartbeats 2000000 in
theorem fewRows_any (va : Value) (n : Nat) (hn : n ≤ 1000) (l : List Row) (w : World) (ha : SliceOf Rep.row w.cell? va l) :
    Calls Try.prog 13 #[va, .int .i64 n] w fun e w' => ∃ b, e = .returned (.bool b) ∧ (b = true → few n l) ∧ w = w' := by
  obtain ⟨pa, ca, rfl, ha1, ha2, ha3⟩ := ha.form
  unfold maxLen at ha2
  go_enter Try.func13, Try.ntmps13
  go_wp2_with fail
  go_loopg [5] l.length (fun gk i wr => ∃ k : Nat, k ≤ l.length ∧ gk = l.length - k ∧ i = .int .i64 k ∧ (k ≤ n + 1 ∧ ∀ r ∈ l.take k, r.vals.length ≤ 6 ∧ r.lin.length ≤ 6) ∧ w = wr)
  case atStart => exact ⟨0, by omega, rfl, rfl, ⟨by omega, by simp⟩, rfl⟩
  case round =>
    obtain ⟨k, hk, rfl, rfl, ⟨hkn, hm⟩, rfl⟩ := hrel
    have HM := Lib.hid hm
    clear hm
    by_cases hlt : k < l.length ∧ k ≤ n
    · obtain ⟨hlt, hlt2⟩ := hlt
      obtain ⟨ba, oa, rfl⟩ := ha3 (by decide) (by omega)
      obtain ⟨u1, u2, c1, c2, s1, s2⟩ := row_at ha k hlt
      have htk := List.take_succ_eq_append_getElem hlt
      generalize l[k] = x at s1 s2 htk
      have HT := Lib.hid htk
      obtain ⟨p1, q1, rfl, hp1, hp2, _⟩ := s1.form
      obtain ⟨p2, q2, rfl, hp3, hp4, _⟩ := s2.form
      unfold maxLen at hp2 hp4
      have hd : decide ((k : Int) < (l.length : Int)) = true := by simp; omega
      have hdb : decide ((k : Int) ≤ (n : Int)) = true := by simp; omega
      have hd1 : (k : Int) < (l.length : Int) := by omega
      clear s1 s2 htk ha ha3
      by_cases hsh : x.vals.length ≤ 6 ∧ x.lin.length ≤ 6
      · have hb1 : decide ((x.vals.length : Int) > 6) = false := by simp; omega
        have hb2 : decide ((x.lin.length : Int) > 6) = false := by simp; omega
        have hb3 : decide ((6 : Int) < (x.vals.length : Int)) = false := by simp; omega
        have hb4 : decide ((6 : Int) < (x.lin.length : Int)) = false := by simp; omega
        have HS := Lib.hid hsh
        clear hsh
        go_wp2_with fail
        go_roundg (l.length - (k + 1))
        case measure => omega
        case rel => exact ⟨k + 1, by omega, rfl, by go_num, ⟨by omega, by rw [HT.out]; intro r hr; rcases List.mem_append.1 hr with hr | hr; exact HM.out r hr; rw [List.mem_singleton.1 hr]; exact HS.out⟩, rfl⟩
      · by_cases hv6 : x.vals.length ≤ 6
        · have hb1 : decide ((x.vals.length : Int) > 6) = false := by simp; omega
          have hb2 : decide ((x.lin.length : Int) > 6) = true := by simp; omega
          have hb3 : decide ((6 : Int) < (x.vals.length : Int)) = false := by simp; omega
          have hb4 : decide ((6 : Int) < (x.lin.length : Int)) = true := by simp; omega
          clear hsh hv6
          go_wp2_with fail
          go_ret
          exact ⟨_, rfl, by simp, rfl⟩
        · have hb1 : decide ((x.vals.length : Int) > 6) = true := by simp; omega
          have hb3 : decide ((6 : Int) < (x.vals.length : Int)) = true := by simp; omega
          clear hsh hv6
          go_wp2_with fail
          go_ret
          exact ⟨_, rfl, by simp, rfl⟩
    · by_cases hk3 : k < l.length
      · have hd : decide ((k : Int) < (l.length : Int)) = true := by simp; omega
        have hdb : decide ((k : Int) ≤ (n : Int)) = false := by simp; omega
        go_wp2_with fail
        go_ret
        exact ⟨_, rfl, fun h => by simp at h; omega, rfl⟩
      · have hd : decide ((k : Int) < (l.length : Int)) = false := by simp; omega
        have : k = l.length := by omega
        subst this
        go_wp2_with fail
        go_ret
        exact ⟨_, rfl, fun h => ⟨by simpa using h, by have := HM.out; rwa [List.take_length] at this⟩, rfl⟩

end Go.Proofs.Ytmjfbfigdkolaaa
