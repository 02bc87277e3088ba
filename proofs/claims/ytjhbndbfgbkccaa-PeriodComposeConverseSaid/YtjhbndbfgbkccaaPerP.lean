/- Composing the converses in the opposite order; the walk of PeriodComposeConverse. -/
import Derived.Test.YtjhbndbfgbkccaaPerO
namespace Go.Proofs.Ytjhbndbfgbkccaa
open Go.RowKit

theorem perAt_lt (k : Nat) (hk : k < 15) : (perAt k).1 < (perAt k).2 := (validB_lt (perAt_valid k hk)).2.1
theorem invI_nat (t : Nat) (h1 : 1 ≤ t) (h2 : t ≤ 13) : invI (t : Int) = ((14 - t : Nat) : Int) := by unfold invI; rw [if_pos (by omega)]; omega
theorem invI_range {r : Int} (h : 1 ≤ r ∧ r ≤ 13) : 1 ≤ invI r ∧ invI r ≤ 13 := by unfold invI; rw [if_pos h]; omega
theorem compOk_inv1 {r s : Int} {t : Nat} (h : compOk r s t = true) (h1 : 1 ≤ t) (h2 : t ≤ 13) : compOk (invI s) (invI r) (14 - t) = true := by
  rw [compOk_iffR] at h ⊢
  obtain ⟨x, hx, y, hy, z, hz, e1, e2, e3⟩ := h
  refine ⟨z, hz, y, hy, x, hx, ?_, ?_, ?_⟩
  · unfold relP at e2 ⊢; rw [relI_inv _ _ _ _ (perAt_lt y hy) (perAt_lt z hz), e2]
  · unfold relP at e1 ⊢; rw [relI_inv _ _ _ _ (perAt_lt x hx) (perAt_lt y hy), e1]
  · unfold relP at e3 ⊢; rw [relI_inv _ _ _ _ (perAt_lt x hx) (perAt_lt z hz), e3, invI_nat t h1 h2]
theorem compOk_inv {r s : Int} (hr : 1 ≤ r ∧ r ≤ 13) (hs : 1 ≤ s ∧ s ≤ 13) (t : Nat) (h1 : 1 ≤ t) (h2 : t ≤ 13) : compOk (invI s) (invI r) t = compOk r s (14 - t) := by
  rw [Bool.eq_iff_iff]
  constructor
  · intro h
    have := compOk_inv1 h h1 h2
    rwa [invI_invI r hr, invI_invI s hs] at this
  · intro h
    have := compOk_inv1 h (by omega) (by omega)
    rwa [show 14 - (14 - t) = t from by omega] at this
theorem range_rev (n : Nat) : (List.range (n + 1)).reverse = (List.range (n + 1)).map (fun j => n - j) := by
  apply List.ext_getElem
  · simp
  · intro i h1 h2
    simp [List.getElem_reverse]
theorem filter_congr_map {α : Type} (l : List Nat) (p q : Nat → Bool) (f g : Nat → α) (hpq : ∀ j ∈ l, p j = q j) (hfg : ∀ j ∈ l, f j = g j) : (l.filter p).map f = (l.filter q).map g := by
  rw [List.filter_congr hpq]
  exact List.map_congr_left fun j hj => hfg j (List.mem_filter.1 hj).1
theorem compL_conv {r s : Int} (hr : 1 ≤ r ∧ r ≤ 13) (hs : 1 ≤ s ∧ s ≤ 13) : compL (invI s) (invI r) = (compL r s).reverse.map invI := by
  unfold compL compUp
  rw [← List.map_reverse, ← List.filter_reverse, range_rev 12, List.filter_map, List.map_map, List.map_map]
  refine filter_congr_map _ _ _ _ _ (fun j hj => ?_) (fun j hj => ?_)
  · have := List.mem_range.1 hj
    simp only [Function.comp]
    rw [compOk_inv hr hs (1 + j) (by omega) (by omega), show 14 - (1 + j) = 1 + (12 - j) from by omega]
  · have := List.mem_range.1 hj
    simp only [Function.comp]
    rw [invI_nat _ (by omega) (by omega), show 14 - (1 + (12 - j)) = 1 + j from by omega]
theorem someRel (x : Int) (h : 1 ≤ x ∧ x ≤ 13) : ∃ a b : Int, a < b ∧ relI a b 2 5 = x := by
  have hx : x = 1 ∨ x = 2 ∨ x = 3 ∨ x = 4 ∨ x = 5 ∨ x = 6 ∨ x = 7 ∨ x = 8 ∨ x = 9 ∨ x = 10 ∨ x = 11 ∨ x = 12 ∨ x = 13 := by omega
  rcases hx with rfl | rfl | rfl | rfl | rfl | rfl | rfl | rfl | rfl | rfl | rfl | rfl | rfl
  · exact ⟨0, 1, by omega, by decide⟩
  · exact ⟨0, 2, by omega, by decide⟩
  · exact ⟨1, 3, by omega, by decide⟩
  · exact ⟨1, 5, by omega, by decide⟩
  · exact ⟨1, 6, by omega, by decide⟩
  · exact ⟨2, 3, by omega, by decide⟩
  · exact ⟨2, 5, by omega, by decide⟩
  · exact ⟨2, 6, by omega, by decide⟩
  · exact ⟨3, 4, by omega, by decide⟩
  · exact ⟨3, 5, by omega, by decide⟩
  · exact ⟨3, 6, by omega, by decide⟩
  · exact ⟨5, 6, by omega, by decide⟩
  · exact ⟨6, 7, by omega, by decide⟩
theorem compL_ne {r s : Int} (hr : 1 ≤ r ∧ r ≤ 13) (hs : 1 ≤ s ∧ s ≤ 13) : 0 < (compL r s).length := by
  obtain ⟨a, b, hab, h1⟩ := someRel r hr
  obtain ⟨c, d, hcd, h2⟩ := someRel (invI s) (invI_range hs)
  have h3 : relI 2 5 c d = s := by rw [relI_inv c d 2 5 hcd (by omega), h2, invI_invI s hs]
  have := compL_sound a b 2 5 c d hab (by omega) hcd
  rw [h1, h3] at this
  exact List.length_pos_of_mem this
theorem compL_len (r s : Int) : (compL r s).length ≤ 13 := compUp_le r s 13

set_option maxHeartbeats 2000000 in
theorem PeriodComposeConverse_walk (r s : Int) (hr : (Lit.int .u8 r).wf = true) (hs : (Lit.int .u8 s).wf = true) (w : World) :
    Calls Try.prog 6 #[.int .u8 r, .int .u8 s] w fun e w' => e = .returned (.bool true) ∧ Ext w w' := by
  have hr' : 0 ≤ r ∧ r ≤ 255 := by simpa [Lit.wf, IntKind.min, IntKind.max, IntKind.signed, IntKind.bits] using hr
  have hs' : 0 ≤ s ∧ s ≤ 255 := by simpa [Lit.wf, IntKind.min, IntKind.max, IntKind.signed, IntKind.bits] using hs
  clear hr hs
  obtain ⟨hr1, hr2⟩ := hr'
  obtain ⟨hs1, hs2⟩ := hs'
  go_enter Try.func6, Try.ntmps6
  go_wp2_with fail
  have hx1 : 1 ≤ 1 + r % 13 ∧ 1 + r % 13 ≤ 13 := by omega
  have hy1 : 1 ≤ 1 + s % 13 ∧ 1 + s % 13 ≤ 13 := by omega
  generalize 1 + r % 13 = x at hx1 ⊢
  generalize 1 + s % 13 = y at hy1 ⊢
  have hcv := compL_conv hx1 hy1
  have hne := compL_ne hx1 hy1
  have hle := compL_len x y
  generalize hl : compL x y = l at hcv hne hle
  have HL := Lib.hid hl
  have HC := Lib.hid hcv
  clear hl hcv hx1 hy1
  refine (compose_any _ _ _).mono ?_
  rintro e w1 ⟨v1, rfl, hown1, hx1⟩
  rw [HL.out] at hown1
  have hs1 := SliceAt.own hown1
  clear hown1
  go_wp2_with fail
  refine (inverse_any _ _).mono ?_
  rintro e w2 ⟨rfl, rfl⟩
  go_wp2_with fail
  refine (inverse_any _ _).mono ?_
  rintro e w3 ⟨rfl, rfl⟩
  go_wp2_with fail
  refine (compose_any _ _ _).mono ?_
  rintro e w4 ⟨v4, rfl, hown4, hx4⟩
  rw [HC.out] at hown4
  have hs4 := SliceAt.own hown4
  replace hs1 := hs1.ext hx4
  replace hx1 := hx1.trans hx4
  clear hown4 hx4
  rw [List.length_map, List.length_reverse] at hs4
  obtain ⟨pa, ca, rfl, hca1, hca2, hs1⟩ := hs1
  obtain ⟨pb, cb, rfl, hcb1, hcb2, hs4⟩ := hs4
  unfold maxLen at hca2 hcb2
  have h0 : ((l.length : Int) == 0) = false := by simp; intro h; rw [h] at hne; simp at hne
  have h00 : (0 : Int) < (l.length : Int) := by omega
  go_wp2_with fail
  go_loopg [38] l.length (fun gk i wr => ∃ k : Nat, k ≤ l.length ∧ gk = l.length - k ∧ i = .int .i64 k ∧ Ext w4 wr)
  case atStart => exact ⟨0, by omega, by omega, rfl, Ext.refl _⟩
  case round =>
    obtain ⟨k, hk, rfl, rfl, hx⟩ := hrel
    by_cases hlt : k < l.length
    · obtain ⟨ba, oa, rfl, hs5⟩ := or_pos hs1 (i := k) (by simpa using hlt)
      obtain ⟨bb, ob, rfl, hs6⟩ := or_pos hs4 (i := k) (by simpa using hlt)
      have d1 := hx.at (hs5 k (.int .i64 (l[k]'hlt)) (by simp [hlt]))
      have d2 := hx.at (hs6 (l.length - 1 - k) (.int .i64 (invI (l[k]'hlt))) (by
        rw [List.getElem?_map, List.getElem?_map, List.getElem?_reverse (by omega), show l.length - 1 - (l.length - 1 - k) = k from by omega, List.getElem?_eq_getElem hlt]; rfl))
      generalize l[k]'hlt = p at d1 d2
      have hd : decide ((k : Int) < (l.length : Int)) = true := by simp; omega
      have hd2 : (k : Int) < (l.length : Int) := by omega
      have hd3 : (0 : Int) ≤ (l.length : Int) - 1 - (k : Int) := by omega
      have hd4 : (l.length : Int) - 1 - (k : Int) < (l.length : Int) := by omega
      have hd5 : ((l.length : Int) - 1 - (k : Int)).toNat = l.length - 1 - k := by omega
      clear hs1 hs4 hs5 hs6
      go_wp2_with fail
      go_quiet ((go_at_call 13; exact Calls.quiet_of_same (inverse_any _ _)))
      go_wp2_with fail
      go_roundg (l.length - (k + 1))
      case measure => omega
      case rel => exact ⟨k + 1, by omega, rfl, by go_num, hx.drewN _⟩
    · have : k = l.length := by omega
      subst this
      go_wp2_with fail
      refine (awake_any _).mono ?_
      rintro e w5 ⟨rfl, hx5⟩
      go_wp2_with fail
      go_ret
      exact ⟨rfl, (hx1.trans hx).trans hx5⟩

end Go.Proofs.Ytjhbndbfgbkccaa
