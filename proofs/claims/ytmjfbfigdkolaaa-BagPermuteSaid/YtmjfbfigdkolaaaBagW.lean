/- BagPermute: the walk -/
import Derived.Test.YtmjfbfigdkolaaaBagR
import Derived.Test.YtmjfbfigdkolaaaStep
namespace Go.Proofs.Ytmjfbfigdkolaaa
open Go.RowKit

theorem perm_turn (a : List Row) (i : Nat) : (a.drop i ++ a.take i).Perm a := by
  have h := List.perm_append_comm (l₁ := a.drop i) (l₂ := a.take i)
  rwa [List.take_append_drop] at h
theorem sort_turn (a : List Row) (i : Nat) : sortBy cmpRow (a.drop i ++ a.take i) = sortBy cmpRow a :=
  sortBy_unique ord_row ((sortBy_perm _ _).trans (perm_turn a i)) (sortBy_pair ord_row _)
theorem sort_less (a : List Row) (i : Nat) (h : 0 < a.length) : eqB (sortBy cmpRow a) (sortBy cmpRow ((a.drop i ++ a.take i).drop 1)) = false := by
  refine eqB_len _ _ ?_
  rw [sortBy_length, sortBy_length, List.length_drop, (perm_turn a i).length_eq]
  omega

set_option maxRecDepth 100000 in
set_option maxHeartbeats 4000000 in
theorem BagPermute_walk (v0 : Value) (a : List Row) (k : Int) {w : World} (s0 : SliceOf Rep.row w.cell? v0 a) (hkw : (Lit.int .u8 k).wf = true) :
    Calls Try.prog 5 #[v0, .int .u8 k] w fun e w' => e = .returned (.bool true) ∧ Ext w w' := by
  obtain ⟨i0, hi, hz0, hz1, hz2⟩ := info_parts infoRow
  obtain ⟨hk0, hk1⟩ : 0 ≤ k ∧ k ≤ 255 := by simpa [Lit.wf, IntKind.min, IntKind.max, IntKind.signed, IntKind.bits] using hkw
  have S0 := Lib.hid s0
  obtain ⟨p0, q0, rfl, hc1, hc2, h3⟩ := s0.form
  unfold maxLen at hc2
  clear s0
  go_enter Try.func5, Try.ntmps5
  go_wp2_with fail
  refine (fewRows_any _ 40 (by decide) a _ S0.out).mono ?_
  rintro e w' ⟨ba, rfl, hba, rfl⟩
  have HBA := Lib.hid hba
  clear hba
  cases ba
  · go_wp2_with fail
    refine (awake_true _).mono ?_
    rintro e w2 ⟨rfl, x2⟩
    go_wp2_with fail
    go_ret
    exact ⟨rfl, x2⟩
  · have hfew := (HBA.out rfl).1
    have FA := Lib.hid (few_fit (HBA.out rfl) (by decide))
    clear HBA
    by_cases hn : 0 < a.length
    · obtain ⟨b0, o0, rfl⟩ := h3 (by decide) hn
      have hne : ((a.length : Int) == 0) = false := by simp; intro e; rw [e] at hn; simp at hn
      obtain ⟨kn, rfl⟩ := Int.eq_ofNat_of_zero_le hk0
      go_wp2_with fail
      rw [← Int.natCast_emod kn a.length]
      have hil := Nat.mod_lt kn hn
      generalize kn % a.length = i at hil ⊢
      have hil1 : (i : Int) < (a.length : Int) := by omega
      have hil2 : (i : Int) ≤ (a.length : Int) := by omega
      have hic : ¬ q0 = i := by omega
      have hic2 : i ≤ q0 := by omega
      have A0 := Lib.hid (S0.out.ext (full_on w (fun k => k < w.heap.size) fun k hk => hk))
      have l1 := A0.out.dropV i (by omega)
      rw [show Rep.row.size = 2 from rfl] at l1
      have L1 := Lib.hid l1
      have L2 := Lib.hid (A0.out.takeV i (by omega))
      have B1 : ([] : List Row).length + (a.drop i).length ≤ maxLen := by simp [maxLen]; omega
      have B2 : (([] : List Row).length + (a.drop i).length) * 48 ≤ 140737488355328 := by simp; omega
      have B3 : ([] ++ a.drop i).length + (a.take i).length ≤ maxLen := by simp [maxLen]; omega
      have B4 : (([] ++ a.drop i).length + (a.take i).length) * 48 ≤ 140737488355328 := by simp; omega
      have hbw : Below w.heap.size w w.drew := (Ext.refl w).drew
      clear l1
      go_region_law (first
        | ((with_reducible refine key_op 24 ?_); (try simp only [Act.put, List.getElem_toArray, List.getElem_cons_zero, List.getElem_cons_succ, List.setIfInBounds_toArray, List.set_cons_zero, List.set_cons_succ]); refine step_append_all Rep.row (fun k => k < w.heap.size) rfl _ _ 22 rfl w.heap.size 32 i0 _ 48 Try.underlying22 hi hz0 hz1 hz2 rfl (by decide) (.slice none 0 0) ([] : List Row) rfl (OwnOf.nil _ _ _ _ _) (.slice (some ⟨b0, o0 + i * 2, none⟩) (a.length - i) (q0 - i)) (a.drop i) rfl (by exact L1.out.ext (old_avoid hbw (OwnOf.nil Rep.row w.drew (fun k => k < w.heap.size) w.heap.size 32))) B1 B2 hbw.size ?_; intro v1 w1 own1 gr1 at1; have x1 : Ext w w1 := Ext.grownNew hbw gr1 (own_nil _))
        | ((with_reducible refine key_op 28 ?_); (try simp only [Act.put, List.setIfInBounds_toArray, List.set_cons_zero, List.set_cons_succ]); refine step_append_all Rep.row (fun k => k < w.heap.size) rfl _ _ 22 rfl w.heap.size 32 i0 _ 48 Try.underlying22 hi hz0 hz1 hz2 rfl (by decide) v1 ([] ++ a.drop i) rfl own1 (.slice (some ⟨b0, o0, none⟩) i q0) (a.take i) rfl (by exact L2.out.ext (old_avoid x1 own1)) B3 B4 x1.size ?_; intro v2 w2 own2 gr2 at2; have x2 : Ext w w2 := Ext.grownNew x1 gr2 own1.base))
      all_goals
        rw [List.nil_append] at own2
        have hft : fitRows (a.drop i ++ a.take i) := ⟨by rw [(perm_turn a i).length_eq]; exact FA.out.1, fun r hr => FA.out.2 r ((perm_turn a i).mem_iff.1 hr)⟩
        have hft1 : fitRows ((a.drop i ++ a.take i).drop 1) := ⟨by rw [List.length_drop]; have := hft.1; omega, fun r hr => hft.2 r (List.mem_of_mem_drop hr)⟩
        have hlen : (a.drop i ++ a.take i).length = a.length := (perm_turn a i).length_eq
        have hst := sort_turn a i
        have hsl := sort_less a i hn
        have FT := Lib.hid hft
        have FT1 := Lib.hid hft1
        have HST := Lib.hid hst
        have HSL := Lib.hid hsl
        have HLEN := Lib.hid hlen
        have hts := own2.slice
        generalize ht : a.drop i ++ a.take i = t at *
        have HT := Lib.hid ht
        clear own1 own2 gr1 gr2 at1 at2 hft hft1 hst hsl hlen L1 L2 B1 B2 B3 B4 x1 hbw A0 ht hic hic2 hil1 hil2
        have T0 := Lib.hid hts
        obtain ⟨pt, qt, rfl, hq1, hq2, hq3⟩ := hts.form
        have htn : 0 < t.length := by rw [HLEN.out]; exact hn
        obtain ⟨bt, ot, rfl⟩ := hq3 (by decide) htn
        unfold maxLen at hq2
        clear hts hq3 h3
        go_wp2_with fail
        refine (awake_true _).mono ?_
        rintro e w3 ⟨rfl, x3⟩
        go_wp2_with fail
        refine (equal_rows _ _ a t _ (S0.out.ext (x2.trans x3).full) (T0.out.ext x3.full) FA.out FT.out).mono ?_
        rintro e w4 ⟨rfl, x4⟩
        rw [HST.out, eqB_iff.2 rfl]
        have y4 := x3.trans x4
        clear x3 x4
        go_wp2_with fail
        refine (sort_rows _ a _ (S0.out.ext (x2.trans y4).full) FA.out).mono ?_
        rintro e w5 ⟨u5, rfl, t5, x5⟩
        have T5 := Lib.hid (t5.ext (on_sub _ _))
        obtain ⟨p5, q5, rfl, _⟩ := t5.form
        have y5 := y4.trans x5
        clear t5 y4 x5
        go_wp2_with fail
        refine (sort_rows _ t _ (T0.out.ext y5.full) FT.out).mono ?_
        rintro e w6 ⟨u6, rfl, t6, x6⟩
        rw [HST.out] at t6
        have T6 := Lib.hid (t6.ext (on_sub _ _))
        obtain ⟨p6, q6, rfl, _⟩ := t6.form
        clear t6
        go_wp2_with fail
        refine (ref_sameRows _ _ _ _ _ (T5.out.ext x6.full) T6.out).mono ?_
        rintro e w7 ⟨rfl, x7⟩
        rw [eqB_iff.2 rfl]
        have y7 := (y5.trans x6).trans x7.ext
        clear y5 x6 x7 T5 T6
        have h1n : (1 : Int) ≤ (t.length : Int) := by omega
        have h1m : 1 ≤ t.length := by omega
        have h1q : 1 ≤ qt := by omega
        by_cases hqt : qt = 1
        · subst hqt
          have htl : t.length = 1 := by omega
          have hs9 : SliceOf Rep.row w2.cell? (.slice (some ⟨bt, ot, none⟩) 0 0) (t.drop 1) := by
            rw [List.drop_eq_nil_of_le (by omega)]
            exact ⟨[], trivial, .inr ⟨_, 0, rfl, Nat.le_refl _, by simp [maxLen], .inl rfl⟩⟩
          have T9 := Lib.hid hs9
          clear hs9 htl
          go_wp2_with fail
          refine (equal_rows _ _ a (t.drop 1) _ (S0.out.ext (x2.trans y7).full) (T9.out.ext y7.full) FA.out FT1.out).mono ?_
          rintro e w8 ⟨rfl, x8⟩
          rw [HSL.out]
          go_wp2_with fail
          go_ret
          exact ⟨rfl, (x2.trans y7).trans x8⟩
        · have T9 := Lib.hid (T0.out.dropV 1 (by omega))
          go_wp2_with fail
          refine (equal_rows _ _ a (t.drop 1) _ (S0.out.ext (x2.trans y7).full) (T9.out.ext y7.full) FA.out FT1.out).mono ?_
          rintro e w8 ⟨rfl, x8⟩
          rw [HSL.out]
          go_wp2_with fail
          go_ret
          exact ⟨rfl, (x2.trans y7).trans x8⟩
    · have hne : ((a.length : Int) == 0) = true := by simp; exact List.eq_nil_of_length_eq_zero (by omega)
      go_wp2_with fail
      refine (awake_true _).mono ?_
      rintro e w2 ⟨rfl, x2⟩
      go_wp2_with fail
      go_ret
      exact ⟨rfl, x2⟩

end Go.Proofs.Ytmjfbfigdkolaaa
