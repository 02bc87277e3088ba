/- the reference's SameSteps, SamePeriods -/
import Derived.Test.YtmjfbfigdkolaaaDepS
namespace Go.Proofs.Ytmjfbfigdkolaaa
open Go.RowKit

theorem stepO_at {h : View} {g o n cap : Nat} {xs : List StepI} (k : SliceOf Rep.step h (.slice (some ⟨g, o, none⟩) n cap) xs) (i : Nat) (hi : i < xs.length) :
    h ⟨g, o + i * 5, none⟩ = some (.int .i64 xs[i].from_) ∧ h ⟨g, o + i * 5 + 1, none⟩ = some (.int .i64 xs[i].to_) ∧ h ⟨g, o + i * 5 + 2, none⟩ = some (.int .i64 1) ∧ h ⟨g, o + i * 5 + 3, none⟩ = some (.int .i64 xs[i].n) ∧ h ⟨g, o + i * 5 + 4, none⟩ = some (.string ByteArray.empty) := by
  obtain ⟨c, ⟨rfl, _⟩, h2⟩ := k.at i hi
  exact ⟨h2 0 _ rfl, h2 1 _ rfl, h2 2 _ rfl, h2 3 _ rfl, h2 4 _ rfl⟩

set_option maxRecDepth 100000 in
set_option maxHeartbeats 4000000 in
theorem sameSteps_any (va vb : Value) (l : List StepI) (w : World) (ha : SliceOf Rep.step w.cell? va l) (hb : SliceOf Rep.step w.cell? vb l) (hl : l.length ≤ 100000) :
    Calls Try.prog 33 #[va, vb] w fun e w' => e = .returned (.bool true) ∧ Ext w w' := by
  obtain ⟨pa, ca, rfl, _, _, ha3⟩ := ha.form
  obtain ⟨pb, cb, rfl, _, _, hb3⟩ := hb.form
  have HA := Lib.hid ha
  have HB := Lib.hid hb
  have HA3 := Lib.hid ha3
  have HB3 := Lib.hid hb3
  have mixed := mixedOrd
  obtain ⟨n, hn⟩ : ∃ n, n = l.length := ⟨_, rfl⟩
  rw [← hn]
  have HN := Lib.hid hn
  have hn5 : n ≤ 100000 := by omega
  clear ha hb ha3 hb3 hn hl
  go_enter Try.func33, Try.ntmps33
  go_wp2_with fail
  go_loopg [5] n (fun gk vi wr => ∃ k : Nat, k ≤ n ∧ gk = n - k ∧ vi = .int .i64 k ∧ Hid (Ext w wr))
  case atStart => exact ⟨0, by omega, rfl, rfl, Ext.refl w⟩
  case round =>
    obtain ⟨k, hk, rfl, rfl, X⟩ := hrel
    by_cases hlt : k < n
    · have hkl : k < l.length := by have := HN.out; omega
      have hd : decide ((k : Int) < (n : Int)) = true := by simp; omega
      have hd1 : (k : Int) < (n : Int) := by omega
      obtain ⟨ba, oa, rfl⟩ := HA3.out (by decide) (by omega)
      obtain ⟨bb, ob, rfl⟩ := HB3.out (by decide) (by omega)
      obtain ⟨c0, c1, c2, c3, c4⟩ := stepO_at HA.out k hkl
      obtain ⟨d0, d1, d2, d3, d4⟩ := stepO_at HB.out k hkl
      replace c0 := X.out.at c0
      replace c1 := X.out.at c1
      replace c2 := X.out.at c2
      replace c3 := X.out.at c3
      replace c4 := X.out.at c4
      replace d0 := X.out.at d0
      replace d1 := X.out.at d1
      replace d2 := X.out.at d2
      replace d3 := X.out.at d3
      replace d4 := X.out.at d4
      generalize l[k] = s at c0 c1 c2 c3 c4 d0 d1 d2 d3 d4
      obtain ⟨sf, st, sn⟩ := s
      dsimp only at c0 c1 c2 c3 c4 d0 d1 d2 d3 d4
      have hz := (cmp_ints sn sn).2 rfl
      have HZ := Lib.hid hz
      clear hz
      go_wp2_with fail
      go_region_held3 (fun w' => Ext wr w' ∧ w'.cell? ⟨ba, oa + k * 5, none⟩ = some (.int .i64 sf) ∧ w'.cell? ⟨ba, oa + k * 5 + 1, none⟩ = some (.int .i64 st) ∧ w'.cell? ⟨ba, oa + k * 5 + 2, none⟩ = some (.int .i64 1) ∧ w'.cell? ⟨ba, oa + k * 5 + 3, none⟩ = some (.int .i64 sn) ∧ w'.cell? ⟨ba, oa + k * 5 + 4, none⟩ = some (.string ByteArray.empty) ∧ w'.cell? ⟨bb, ob + k * 5, none⟩ = some (.int .i64 sf) ∧ w'.cell? ⟨bb, ob + k * 5 + 1, none⟩ = some (.int .i64 st) ∧ w'.cell? ⟨bb, ob + k * 5 + 2, none⟩ = some (.int .i64 1) ∧ w'.cell? ⟨bb, ob + k * 5 + 3, none⟩ = some (.int .i64 sn) ∧ w'.cell? ⟨bb, ob + k * 5 + 4, none⟩ = some (.string ByteArray.empty))
        (first | exact ⟨(Ext.refl wr).drew, c0, c1, c2, c3, c4, d0, d1, d2, d3, d4⟩ | assumption | exact keepE10 (by assumption) hx2)
        (first | (go_at_call 66; refine (ref_compare ⟨1, sn, ByteArray.empty⟩ ⟨1, sn, ByteArray.empty⟩ _).mono ?_; rintro e w2 ⟨rfl, gx2⟩; have hx2 := gx2.ext; rw [HZ.out]))
      all_goals (obtain ⟨hfin, _⟩ := ‹Ext wr _ ∧ _›)
      all_goals (replace X := Lib.hid (X.out.trans hfin))
      all_goals clear c0 c1 c2 c3 c4 d0 d1 d2 d3 d4
      all_goals go_wp2_with fail
      all_goals go_roundg (n - (k + 1))
      all_goals first
        | (case measure => omega)
        | (case rel => exact ⟨k + 1, by omega, rfl, by go_num, X.out⟩)
    · have hd : ¬ (k : Int) < (n : Int) := by omega
      go_wp2_with fail
      go_ret
      exact ⟨rfl, X.out⟩

set_option maxRecDepth 100000 in
set_option maxHeartbeats 2000000 in
theorem samePeriods_any (va vb : Value) (l : List Per) (w : World) (ha : SliceOf Rep.per w.cell? va l) (hb : SliceOf Rep.per w.cell? vb l) (hl : l.length ≤ 100000) :
    Calls Try.prog 36 #[va, vb] w fun e w' => e = .returned (.bool true) ∧ Ext w w' := by
  obtain ⟨pa, ca, rfl, _, _, ha3⟩ := ha.form
  obtain ⟨pb, cb, rfl, _, _, hb3⟩ := hb.form
  have HA := Lib.hid ha
  have HB := Lib.hid hb
  have HA3 := Lib.hid ha3
  have HB3 := Lib.hid hb3
  have mixed := mixedOrd
  obtain ⟨n, hn⟩ : ∃ n, n = l.length := ⟨_, rfl⟩
  rw [← hn]
  have HN := Lib.hid hn
  have hn5 : n ≤ 100000 := by omega
  clear ha hb ha3 hb3 hn hl
  go_enter Try.func36, Try.ntmps36
  go_wp2_with fail
  go_loopg [5] n (fun gk vi wr => ∃ k : Nat, k ≤ n ∧ gk = n - k ∧ vi = .int .i64 k ∧ Hid (Ext w wr))
  case atStart => exact ⟨0, by omega, rfl, rfl, Ext.refl w⟩
  case round =>
    obtain ⟨k, hk, rfl, rfl, X⟩ := hrel
    by_cases hlt : k < n
    · have hkl : k < l.length := by have := HN.out; omega
      have hd : decide ((k : Int) < (n : Int)) = true := by simp; omega
      have hd1 : (k : Int) < (n : Int) := by omega
      obtain ⟨ba, oa, rfl⟩ := HA3.out (by decide) (by omega)
      obtain ⟨bb, ob, rfl⟩ := HB3.out (by decide) (by omega)
      obtain ⟨c0, c1, _, _⟩ := per_at HA.out k hkl
      obtain ⟨d0, d1, _, _⟩ := per_at HB.out k hkl
      replace c0 := X.out.at c0
      replace c1 := X.out.at c1
      replace d0 := X.out.at d0
      replace d1 := X.out.at d1
      generalize l[k] = s at c0 c1 d0 d1
      obtain ⟨sf, st⟩ := s
      dsimp only at c0 c1 d0 d1
      go_wp2_with fail
      go_big_region_o
      all_goals go_wp2_with fail
      all_goals go_roundg (n - (k + 1))
      all_goals first
        | (case measure => omega)
        | (case rel => exact ⟨k + 1, by omega, rfl, by go_num, X.out.drew⟩)
    · have hd : ¬ (k : Int) < (n : Int) := by omega
      go_wp2_with fail
      go_ret
      exact ⟨rfl, X.out⟩

end Go.Proofs.Ytmjfbfigdkolaaa
