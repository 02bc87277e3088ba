/- the reference's Depth -/
import Derived.Test.YtmjfbfigdkolaaaDepR
import Derived.Test.YtmjfbfigdkolaaaDepS
namespace Go.Proofs.Ytmjfbfigdkolaaa
open Go.RowKit

set_option maxRecDepth 100000 in
set_option maxHeartbeats 8000000 in
theorem ref_depth (v : Value) (l : List Tup) (w : World) (hv : SliceOf Rep.tup w.cell? v l) (hl : l.length ≤ 50) :
    Calls Try.prog 35 #[v] w fun e w' => ∃ v', e = .returned v' ∧ SliceOf Rep.step w'.cell? v' (depthOf l) ∧ Ext w w' := by
  have mixed := mixedOrd
  have HV := Lib.hid hv
  have HL := Lib.hid hl
  obtain ⟨p, cap, rfl, _⟩ := hv.form
  clear hv hl
  go_enter Try.func35, Try.ntmps35
  go_wp2_with fail
  refine (ref_bounds _ l _ HV.out HL.out).mono ?_
  rintro e w1 ⟨v1, rfl, s1, x1⟩
  have hrng := pts_rng l
  have hpl := pts_len l
  obtain ⟨P, hP⟩ : ∃ P, P = pts l := ⟨_, rfl⟩
  rw [← hP] at s1 hrng hpl
  have HPP := Lib.hid hP
  have HRNG := Lib.hid hrng
  obtain ⟨pp, cp, rfl, _, _, hpp⟩ := s1.form
  have HPF := Lib.hid hpp
  have S1 := Lib.hid s1
  have X1 := Lib.hid x1
  obtain ⟨M, hM⟩ : ∃ M, M = P.length := ⟨_, rfl⟩
  rw [← hM] at S1 HPF ⊢
  have HM := Lib.hid hM
  have hM5 : M ≤ 100 := by have := HL.out; omega
  clear s1 x1 hrng hpl hP hM hpp
  go_wp2_with fail
  go_loopg [4, 5] M (fun gk vo vi wr => ∃ (k : Nat) (uo : Value) (out : List StepI), k ≤ M - 1 ∧ gk = M - k ∧ vi = .int .i64 k ∧ uo = vo ∧ Hid (out = stepsOf P (fDep l) k) ∧ Hid (OwnOf Rep.step wr (fun _ => True) w1.heap.size 65 uo out) ∧ Hid (Ext w1 wr))
  case atStart => exact ⟨0, _, [], by omega, rfl, rfl, rfl, rfl, OwnOf.nil _ _ _ _ _, Ext.refl w1⟩
  case round =>
    obtain ⟨k, uo, out, hk, rfl, rfl, rfl, HOUT, OO, X2⟩ := hrel
    by_cases hlt : k + 1 < M
    · have hd : decide ((k : Int) + 1 < (M : Int)) = true := by simp; omega
      have hkl : k < P.length := by have := HM.out; omega
      have hkl1 : k + 1 < P.length := by have := HM.out; omega
      obtain ⟨bp, op, rfl⟩ := HPF.out (by decide) (by omega)
      obtain ⟨c0, r0⟩ := int_at (by have h := S1.out; exact h) k hkl
      obtain ⟨c1, r1⟩ := int_at (by have h := S1.out; exact h) (k + 1) hkl1
      replace c0 := X2.out.at c0
      replace c1 := X2.out.at c1
      obtain ⟨x, hx⟩ : ∃ x, x = P[k] := ⟨_, rfl⟩
      obtain ⟨y, hy⟩ : ∃ y, y = P[k + 1] := ⟨_, rfl⟩
      rw [← hx] at c0 r0
      rw [← hy] at c1 r1
      have hol : out.length ≤ 1000 := by rw [HOUT.out]; have := stepsOf_len P (fDep l) k; omega
      obtain ⟨c, hc⟩ : ∃ c, c = cntAt l x := ⟨_, rfl⟩
      have hc5 : c ≤ 50 := by have := cnt_len l x; have := HL.out; omega
      have HC := Lib.hid hc
      have HSN := Lib.hid (show stepsOf P (fDep l) (k + 1) = addStep out ⟨x, y, c⟩ from by
        rw [stepsOf, ← HOUT.out, getElem!_pos P k hkl, getElem!_pos P (k + 1) hkl1, ← hx, ← hy]
        unfold fDep
        rw [← HPP.out, getElem!_pos P k hkl, ← hx, ← hc])
      have hok : okI x ∧ okI y ∧ okI (c : Int) := ⟨r0, r1, by unfold okI; omega⟩
      have HOK := Lib.hid hok
      have HOL := Lib.hid hol
      have e0 := cell_lt c0
      clear hx hy hc r0 r1 hol hok
      go_wp2_with fail
      refine (ref_timeslice _ l x _ (HV.out.ext (X1.out.trans X2.out).full) HL.out).mono ?_
      rintro e w3 ⟨v3, rfl, s3, x3⟩
      obtain ⟨p3, c3, rfl, _⟩ := s3.form
      rw [sortBy_length, sliceRows_len, ← HC.out]
      have X3 := Lib.hid x3
      replace c0 := x3.at c0
      replace c1 := x3.at c1
      have e1 := cell_lt c0
      clear s3 x3 e0
      go_wp2_with fail
      have c0 := ((Ext.refl w3).alloc (.cells #[.int .i64 1, .int .i64 c, .string ⟨#[]⟩] 63)).at c0
      have c1 := ((Ext.refl w3).alloc (.cells #[.int .i64 1, .int .i64 c, .string ⟨#[]⟩] 63)).at c1
      have m0 : (w3.alloc (.cells #[.int .i64 1, .int .i64 c, .string ⟨#[]⟩] 63)).cell? ⟨w3.heap.size, 0, none⟩ = some (.int .i64 1) := by simp
      have m1 : (w3.alloc (.cells #[.int .i64 1, .int .i64 c, .string ⟨#[]⟩] 63)).cell? ⟨w3.heap.size, 1, none⟩ = some (.int .i64 c) := by simp
      have m2 : (w3.alloc (.cells #[.int .i64 1, .int .i64 c, .string ⟨#[]⟩] 63)).cell? ⟨w3.heap.size, 2, none⟩ = some (.string ByteArray.empty) := by simp; rfl
      have X6 := Lib.hid (X3.out.alloc (.cells #[.int .i64 1, .int .i64 c, .string ⟨#[]⟩] 63))
      have hbE : w1.heap.size ≤ w3.heap.size := Nat.le_trans X2.out.size X3.out.size
      have NE := Lib.hid (show uo.ownBlock ≠ some w3.heap.size from fun e => by have h1 := (OO.out.lt _ e).2; have h2 := X3.out.size; omega)
      have NP := Lib.hid (show uo.ownBlock ≠ some bp from fun e => by
        have h1 := (OO.out.lt _ e).1
        obtain ⟨q0, _⟩ := int_at (by have h := S1.out; exact h) k hkl
        have h2 := cell_lt q0
        omega)
      clear e1
      generalize w3.alloc (.cells #[.int .i64 1, .int .i64 c, .string ⟨#[]⟩] 63) = W6 at m0 m1 m2 c0 c1 X6 ⊢
      generalize w3.heap.size = E at m0 m1 m2 NE hbE ⊢
      have O6 := Lib.hid (OO.out.ext X6.out.drew)
      have HB6 := Lib.hid (show w1.heap.size ≤ W6.drew.heap.size from (X2.out.trans X6.out.drew).size)
      have hcall := appendStep_any uo out ⟨x, y, c⟩ w1.heap.size W6.drew O6.out HB6.out HOK.out HOL.out
      unfold stepEnc at hcall
      have hi1 : (k : Int) < (M : Int) := by omega
      have hi2 : (k : Int) + 1 < (M : Int) := by omega
      have hi3 : k < M := by omega
      have hi4 : (0 : Int) ≤ (k : Int) + 1 := by omega
      have hi5 : k + 1 < M := by omega
      have hw1 : IntKind.i64.wrap ((k : Int) + 1) = (k : Int) + 1 := by rw [IntKind.wrap_i64]; omega
      have hS0 : W6.drew.cell? ⟨bp, op + k, none⟩ = some (.int .i64 x) ∧ W6.drew.cell? ⟨bp, op + (k + 1), none⟩ = some (.int .i64 y) ∧ W6.drew.cell? ⟨E, 0, none⟩ = some (.int .i64 1) ∧ W6.drew.cell? ⟨E, 1, none⟩ = some (.int .i64 c) ∧ W6.drew.cell? ⟨E, 2, none⟩ = some (.string ByteArray.empty) := ⟨c0, c1, m0, m1, m2⟩
      clear c0 c1 m0 m1 m2 hkl hkl1
      go_region_held3 (fun w' => w'.cell? ⟨bp, op + k, none⟩ = some (.int .i64 x) ∧ w'.cell? ⟨bp, op + (k + 1), none⟩ = some (.int .i64 y) ∧ w'.cell? ⟨E, 0, none⟩ = some (.int .i64 1) ∧ w'.cell? ⟨E, 1, none⟩ = some (.int .i64 c) ∧ w'.cell? ⟨E, 2, none⟩ = some (.string ByteArray.empty))
        (first | with_reducible assumption | exact y9)
        (first | (go_at_call 70; refine hcall.mono ?_; rintro e w11 ⟨v', rfl, own', ch'⟩; have y9 : w11.cell? ⟨bp, op + k, none⟩ = some (.int .i64 x) ∧ w11.cell? ⟨bp, op + (k + 1), none⟩ = some (.int .i64 y) ∧ w11.cell? ⟨E, 0, none⟩ = some (.int .i64 1) ∧ w11.cell? ⟨E, 1, none⟩ = some (.int .i64 c) ∧ w11.cell? ⟨E, 2, none⟩ = some (.string ByteArray.empty) := ⟨ch'.at hS0.1 NP.out, ch'.at hS0.2.1 NP.out, ch'.at hS0.2.2.1 NE.out, ch'.at hS0.2.2.2.1 NE.out, ch'.at hS0.2.2.2.2 NE.out⟩))
      all_goals
        have OW := Lib.hid own'
        have X9 := Lib.hid (Chg.below ch' (X2.out.trans X6.out.drew) fun b hb => (OO.out.lt b hb).1)
        clear own' ch' y9 hS0 hcall
        go_wp2_with fail
        go_roundg (M - (k + 1))
        case measure => omega
        case rel => exact ⟨k + 1, v', addStep out ⟨x, y, c⟩, by omega, rfl, by go_num, rfl, HSN.out.symm, OW.out, X9.out⟩
    · have hd : ¬ (k : Int) + 1 < (M : Int) := by omega
      have HF := Lib.hid (show out = depthOf l from by
        rw [HOUT.out, depthOf_eq, ← HPP.out, ← HM.out, show k = M - 1 by omega])
      go_wp2_with fail
      go_ret
      exact ⟨uo, rfl, by rw [← HF.out]; exact OO.out.slice, X1.out.trans X2.out⟩

end Go.Proofs.Ytmjfbfigdkolaaa
