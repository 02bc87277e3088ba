/- the reference's AppendStep -/
import Derived.Test.YtmjfbfigdkolaaaDepthX
import Derived.Test.YtmjfbfigdkolaaaNormA
import Derived.Test.YtmjfbfigdkolaaaBagH
namespace Go.Proofs.Ytmjfbfigdkolaaa
open Go.RowKit

theorem cmp_ints (a b : Int) : cmpVal ⟨1, a, ByteArray.empty⟩ ⟨1, b, ByteArray.empty⟩ = 0 ↔ a = b := by
  rw [ord_val.eq]
  exact ⟨fun h => by injection h, fun h => by rw [h]⟩
theorem OwnOf.unfrozen {α : Type} {R : Rep α} {w : World} {S : Nat → Prop} {base : Nat} {e : TypeId} {g n cap : Nat} {xs : List α} (h : OwnOf R w S base e (.slice (some ⟨g, 0, none⟩) n cap) xs) (hn : n = xs.length) (j : Nat) : w.frozen? ⟨g, j, none⟩ = false := by
  subst hn
  obtain ⟨css, _, q2⟩ := h
  exact q2.frozenAt j

set_option maxRecDepth 100000 in
set_option maxHeartbeats 8000000 in
theorem appendStep_any (u : Value) (out : List StepI) (s : StepI) (base : Nat) (w : World) (own : OwnOf Rep.step w (fun _ => True) base 65 u out) (hb : base ≤ w.heap.size) (hs : okI s.from_ ∧ okI s.to_ ∧ okI s.n) (hl : out.length ≤ 1000) :
    Calls Try.prog 70 #[u, .agg (stepEnc s).toArray] w fun e w' => ∃ v', e = .returned v' ∧ OwnOf Rep.step w' (fun _ => True) base 65 v' (addStep out s) ∧ Chg (fun k => u.ownBlock = some k) w w' := by
  obtain ⟨i9, hi9, hz90, hz91, hz92⟩ := info_parts info_step
  have mixed := mixedOrd
  have OO := Lib.hid own
  have HB := Lib.hid hb
  obtain ⟨x, y2, dn⟩ := s
  obtain ⟨hxr, hyr, hdok⟩ := hs
  dsimp only at hxr hyr hdok
  have HOK := Lib.hid (show okI x ∧ okI y2 ∧ okI dn from ⟨hxr, hyr, hdok⟩)
  obtain ⟨po, co, rfl, hpo⟩ := own.shapeLen
  have HPO := Lib.hid hpo
  obtain ⟨n, hn⟩ : ∃ n, n = out.length := ⟨_, rfl⟩
  have HNN := Lib.hid hn
  have hn100 : n ≤ 1000 := by omega
  have B1 : out.length + [(⟨x, y2, dn⟩ : StepI)].length ≤ maxLen := by simp only [List.length_singleton, maxLen]; omega
  have B3 : (out.length + [(⟨x, y2, dn⟩ : StepI)].length) * 48 ≤ 140737488355328 := by simp only [List.length_singleton]; omega
  rw [← hn] at OO ⊢
  unfold stepEnc
  dsimp only
  clear own hb hn hpo hl hxr hyr hdok
  go_enter Try.func70, Try.ntmps70
  by_cases hn0 : n = 0
  · subst hn0
    have HE := Lib.hid (show out = [] from List.eq_nil_of_length_eq_zero HNN.out.symm)
    go_wp2_with fail
    have X6 := Lib.hid ((Ext.refl w).alloc (.cells #[.int .i64 x, .int .i64 y2, .int .i64 1, .int .i64 dn, .string ByteArray.empty] 65))
    have m0 : (w.alloc (.cells #[.int .i64 x, .int .i64 y2, .int .i64 1, .int .i64 dn, .string ByteArray.empty] 65)).cell? ⟨w.heap.size, 0, none⟩ = some (.int .i64 x) := by simp
    have m1 : (w.alloc (.cells #[.int .i64 x, .int .i64 y2, .int .i64 1, .int .i64 dn, .string ByteArray.empty] 65)).cell? ⟨w.heap.size, 1, none⟩ = some (.int .i64 y2) := by simp
    have m2 : (w.alloc (.cells #[.int .i64 x, .int .i64 y2, .int .i64 1, .int .i64 dn, .string ByteArray.empty] 65)).cell? ⟨w.heap.size, 2, none⟩ = some (.int .i64 1) := by simp
    have m3 : (w.alloc (.cells #[.int .i64 x, .int .i64 y2, .int .i64 1, .int .i64 dn, .string ByteArray.empty] 65)).cell? ⟨w.heap.size, 3, none⟩ = some (.int .i64 dn) := by simp
    have m4 : (w.alloc (.cells #[.int .i64 x, .int .i64 y2, .int .i64 1, .int .i64 dn, .string ByteArray.empty] 65)).cell? ⟨w.heap.size, 4, none⟩ = some (.string ByteArray.empty) := by simp
    generalize w.alloc (.cells #[.int .i64 x, .int .i64 y2, .int .i64 1, .int .i64 dn, .string ByteArray.empty] 65) = W5 at m0 m1 m2 m3 m4 X6 ⊢
    go_big_region_o
    go_wp2_with (at_builtin; refine wpList_append_all Rep.step (fun _ => True) rfl _ _ 49 rfl base 65 i9 _ 48 Try.underlying49 hi9 hz90 hz91 hz92 rfl (by decide) (.slice po 0 co) out rfl (by exact OO.out.ext (X6.out.alloc (.cells (stepEnc ⟨x, y2, dn⟩).toArray 65)).drew) _ [⟨x, y2, dn⟩] rfl (by exact lone_flat (T := 65) (cs := stepEnc ⟨x, y2, dn⟩) flat_step ⟨rfl, HOK.out⟩ (OO.out.ext X6.out)) B1 B3 (by exact Nat.le_trans HB.out (X6.out.alloc (.cells (stepEnc ⟨x, y2, dn⟩).toArray 65)).drew.size) ?_)
    intro v' w6 own gr _
    have OW := Lib.hid own
    have CH := Lib.hid (((X6.out.alloc (.cells (stepEnc ⟨x, y2, dn⟩).toArray 65)).drew.chg (fun k => (Value.slice po 0 co).ownBlock = some k)).trans (chg_grown gr))
    clear own gr
    go_wp2_with fail
    go_ret
    exact ⟨_, rfl, by have h := OW.out; rw [HE.out] at h ⊢; exact h, CH.out⟩
  · obtain ⟨go, rfl, hgo⟩ := HPO.out (by rw [← HNN.out]; omega)
    obtain ⟨m, hm⟩ : ∃ m, m = n - 1 := ⟨_, rfl⟩
    have em : (n : Int) - 1 = (m : Int) := by omega
    have hmo : m < out.length := by rw [← HNN.out]; omega
    obtain ⟨s0, s1, s2, s3, s4⟩ := step_at OO.out.slice m hmo
    have hmn : (m : Int) < (n : Int) := by omega
    have hmn2 : m < n := by omega
    have hm0 : decide ((0 : Int) ≤ (m : Int)) = true := by simp
    have HMO := Lib.hid hmo
    have HEM := Lib.hid (show m = out.length - 1 from by have := HNN.out; omega)
    obtain ⟨ln, hln⟩ : ∃ z, z = (out[m]'hmo).n := ⟨_, rfl⟩
    rw [← hln] at s3
    have HLN := Lib.hid hln
    have HGO := Lib.hid hgo
    have e2 := cell_lt s2
    clear hn0 hm s0 s1 hln hgo
    go_wp2_with fail
    have X6 := Lib.hid ((Ext.refl w).alloc (.cells #[.int .i64 x, .int .i64 y2, .int .i64 1, .int .i64 dn, .string ByteArray.empty] 65))
    have m0 : (w.alloc (.cells #[.int .i64 x, .int .i64 y2, .int .i64 1, .int .i64 dn, .string ByteArray.empty] 65)).cell? ⟨w.heap.size, 0, none⟩ = some (.int .i64 x) := by simp
    have m1 : (w.alloc (.cells #[.int .i64 x, .int .i64 y2, .int .i64 1, .int .i64 dn, .string ByteArray.empty] 65)).cell? ⟨w.heap.size, 1, none⟩ = some (.int .i64 y2) := by simp
    have m2 : (w.alloc (.cells #[.int .i64 x, .int .i64 y2, .int .i64 1, .int .i64 dn, .string ByteArray.empty] 65)).cell? ⟨w.heap.size, 2, none⟩ = some (.int .i64 1) := by simp
    have m3 : (w.alloc (.cells #[.int .i64 x, .int .i64 y2, .int .i64 1, .int .i64 dn, .string ByteArray.empty] 65)).cell? ⟨w.heap.size, 3, none⟩ = some (.int .i64 dn) := by simp
    have m4 : (w.alloc (.cells #[.int .i64 x, .int .i64 y2, .int .i64 1, .int .i64 dn, .string ByteArray.empty] 65)).cell? ⟨w.heap.size, 4, none⟩ = some (.string ByteArray.empty) := by simp
    replace s2 := X6.out.at s2
    replace s3 := X6.out.at s3
    replace s4 := X6.out.at s4
    clear e2
    generalize w.alloc (.cells #[.int .i64 x, .int .i64 y2, .int .i64 1, .int .i64 dn, .string ByteArray.empty] 65) = W5 at m0 m1 m2 m3 m4 s2 s3 s4 X6 ⊢
    generalize w.heap.size = E at m0 m1 m2 m3 m4 ⊢
    go_region_held3 (fun w' => Gro W5 w' ∧ w'.cell? ⟨go, m * 5 + 2, none⟩ = some (.int .i64 1) ∧ w'.cell? ⟨go, m * 5 + 3, none⟩ = some (.int .i64 ln) ∧ w'.cell? ⟨go, m * 5 + 4, none⟩ = some (.string ByteArray.empty) ∧ w'.cell? ⟨E, 2, none⟩ = some (.int .i64 1) ∧ w'.cell? ⟨E, 3, none⟩ = some (.int .i64 dn) ∧ w'.cell? ⟨E, 4, none⟩ = some (.string ByteArray.empty))
      (first | exact ⟨(Gro.refl W5).drew, s2, s3, s4, m2, m3, m4⟩ | assumption | exact keepG6 (by assumption) hx2)
      (first | (go_at_call 66; refine (ref_compare ⟨1, ln, ByteArray.empty⟩ ⟨1, dn, ByteArray.empty⟩ _).mono ?_; rintro e w2 ⟨rfl, hx2⟩))
    all_goals (obtain ⟨hfin, _⟩ := ‹Gro W5 _ ∧ _›)
    all_goals
      replace m0 := hfin.at m0
      replace m1 := hfin.at m1
      replace m2 := hfin.at m2
      replace m3 := hfin.at m3
      replace m4 := hfin.at m4
      replace s2 := hfin.at s2
      have X7 := Lib.hid (X6.out.trans hfin.ext)
      have O7 := Lib.hid (OO.out.ext X7.out)
      have e2 := cell_lt s2
      have e3 := cell_lt m0
      generalize hq : cmpVal ⟨1, ln, ByteArray.empty⟩ ⟨1, dn, ByteArray.empty⟩ = q
      have HQ := Lib.hid hq
      clear hq hfin s2 s3 s4 OO X6
    all_goals by_cases hq0 : q = 0
    · have hqb : (q == 0) = true := by simp [hq0]
      have HLD := Lib.hid (show ln = dn from (cmp_ints _ _).1 (by rw [HQ.out]; exact hq0))
      clear hq0
      obtain ⟨xf, hxf⟩ : ∃ z, z = (out[m]'HMO.out).from_ := ⟨_, rfl⟩
      have HXF := Lib.hid hxf
      clear hxf
      have hst := OwnOf.store flat_step (by have h := O7.out; rw [HNN.out] at h; exact h) m 1 HMO.out (by decide) (.int .i64 y2) ⟨xf, y2, dn⟩ (fun cs hcs => by
        obtain ⟨rfl, h1, h2, h3⟩ := hcs
        exact ⟨by simp [stepEnc, ← HLN.out, HLD.out, HXF.out], by rw [HXF.out]; exact h1, HOK.out.2.1, HOK.out.2.2⟩)
      rw [show Rep.step.size = 5 from rfl] at hst
      have hf1 := OwnOf.unfrozen O7.out HNN.out (m * 5 + 1)
      obtain ⟨s0, s1, _, _, _⟩ := step_at O7.out.slice m HMO.out
      have CH := Lib.hid ((X7.out.chg (fun k => (Value.slice (some ⟨go, 0, none⟩) n co).ownBlock = some k)).trans (chg_grown hst.2))
      have OW := Lib.hid hst.1
      rw [← HNN.out] at OW
      clear hst s0
      go_wp2_with fail
      go_ret
      exact ⟨_, rfl, by
        have h := OW.out
        rw [addStep_old (by have := HMO.out; omega) (by simp only [← HEM.out]; rw [← HLN.out]; exact HLD.out)]
        simp only [← HEM.out]
        rw [← HXF.out]
        exact h, CH.out⟩
    · have hqb : (q == 0) = false := by simp [hq0]
      have HLD := Lib.hid (show ¬ ln = dn from fun e => hq0 (by rw [← HQ.out]; exact (cmp_ints _ _).2 e))
      clear hq0
      go_wp2_with (at_builtin; refine wpList_append_all Rep.step (fun _ => True) rfl _ _ 49 rfl base 65 i9 _ 48 Try.underlying49 hi9 hz90 hz91 hz92 rfl (by decide) (.slice (some ⟨go, 0, none⟩) n co) out rfl (by exact O7.out.ext ((Ext.refl _).alloc _)) _ [⟨x, y2, dn⟩] rfl (by exact lone_flat (T := 65) (cs := stepEnc ⟨x, y2, dn⟩) flat_step ⟨rfl, HOK.out⟩ O7.out) B1 B3 (by exact Nat.le_trans HB.out (X7.out.alloc _).size) ?_)
      intro v' w6 own gr _
      have OW := Lib.hid own
      have CH := Lib.hid (((X7.out.alloc (.cells (stepEnc ⟨x, y2, dn⟩).toArray 65)).chg (fun k => (Value.slice (some ⟨go, 0, none⟩) n co).ownBlock = some k)).trans (chg_grown gr))
      clear own gr
      go_wp2_with fail
      go_ret
      exact ⟨_, rfl, by
        rw [addStep_new (fun hn => by simp only [← HEM.out]; rw [← HLN.out]; exact HLD.out)]
        exact OW.out, CH.out⟩

end Go.Proofs.Ytmjfbfigdkolaaa
