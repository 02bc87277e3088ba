/- BagMerge: the walk -/
import Derived.Test.YtmjfbfigdkolaaaBagR
import Derived.Test.YtmjfbfigdkolaaaBagT
import Derived.Test.YtmjfbfigdkolaaaBagU
namespace Go.Proofs.Ytmjfbfigdkolaaa
open Go.RowKit

set_option maxRecDepth 100000 in
set_option maxHeartbeats 4000000 in
theorem BagMerge_walk (v0 : Value) (x : List Int) (v1 : Value) (y : List Int) (v2 : Value) (a : List Row) (v3 : Value) (b : List Row) {w : World} (s0 : SliceOf Rep.int w.cell? v0 x) (s1 : SliceOf Rep.int w.cell? v1 y) (s2 : SliceOf Rep.row w.cell? v2 a) (s3 : SliceOf Rep.row w.cell? v3 b) :
    Calls Try.prog 4 #[v0, v1, v2, v3] w fun e w' => e = .returned (.bool true) ∧ Ext w w' := by
  have S0 := Lib.hid s0
  have S1 := Lib.hid s1
  have S2 := Lib.hid s2
  have S3 := Lib.hid s3
  obtain ⟨p0, q0, rfl, _, m0, _⟩ := s0.form
  obtain ⟨p1, q1, rfl, _, m1, _⟩ := s1.form
  obtain ⟨p2, q2, rfl, _, m2, h2⟩ := s2.form
  obtain ⟨p3, q3, rfl, _⟩ := s3.form
  unfold maxLen at m0 m1 m2
  clear s0 s1 s2 s3
  by_cases hx60 : 60 < x.length
  · have d0 : decide ((x.length : Int) > 60) = true := by simp; omega
    go_enter Try.func4, Try.ntmps4
    go_wp2_with fail
    refine (awake_true _).mono ?_
    rintro e w2 ⟨rfl, x2⟩
    go_wp2_with fail
    go_ret
    exact ⟨rfl, x2⟩
  · have d0 : decide ((x.length : Int) > 60) = false := by simp; omega
    by_cases hy60 : 60 < y.length
    · have d1 : decide ((y.length : Int) > 60) = true := by simp; omega
      go_enter Try.func4, Try.ntmps4
      go_wp2_with fail
      refine (awake_true _).mono ?_
      rintro e w2 ⟨rfl, x2⟩
      go_wp2_with fail
      go_ret
      exact ⟨rfl, x2⟩
    · have d1 : decide ((y.length : Int) > 60) = false := by simp; omega
      go_enter Try.func4, Try.ntmps4
      go_wp2_with fail
      refine (fewRows_any _ 30 (by decide) a _ S2.out).mono ?_
      rintro e w' ⟨ba, rfl, hba, rfl⟩
      have HBA := Lib.hid hba
      clear hba
      cases ba
      · go_wp2_with fail
        refine (awake_true _).mono ?_
        rintro e w2 ⟨rfl, x2⟩
        go_wp2_with fail
        go_ret
        exact ⟨rfl, x2⟩
      · have FA := Lib.hid (few_fit (HBA.out rfl) (by decide))
        clear HBA
        go_wp2_with fail
        refine (fewRows_any _ 30 (by decide) b _ S3.out).mono ?_
        rintro e w' ⟨bb, rfl, hbb, rfl⟩
        have HBB := Lib.hid hbb
        clear hbb
        cases bb
        · go_wp2_with fail
          refine (awake_true _).mono ?_
          rintro e w2 ⟨rfl, x2⟩
          go_wp2_with fail
          go_ret
          exact ⟨rfl, x2⟩
        · have FB := Lib.hid (few_fit (HBB.out rfl) (by decide))
          clear HBB
          go_wp2_with fail
          refine (diff_rows _ _ a b _ S2.out S3.out FA.out FB.out).mono ?_
          rintro e w1 ⟨u1, u2, rfl, t1, t2, x1⟩
          obtain ⟨r1, k1, rfl, _⟩ := t1.form
          obtain ⟨r2, k2, rfl, _⟩ := t2.form
          have T1 := Lib.hid t1
          have T2 := Lib.hid t2
          clear t1 t2
          go_wp2_with fail
          refine (ref_diff _ _ a b _ (S2.out.ext x1.full) (S3.out.ext x1.full) FA.out FB.out).mono ?_
          rintro e w2 ⟨u3, u4, rfl, t3, t4, x2⟩
          obtain ⟨r3, k3, rfl, _⟩ := t3.form
          obtain ⟨r4, k4, rfl, _⟩ := t4.form
          have T3 := Lib.hid t3
          have T4 := Lib.hid t4
          replace T1 := Lib.hid (T1.out.ext x2.full)
          replace T2 := Lib.hid (T2.out.ext x2.full)
          have x12 := x1.trans x2
          clear t3 t4 x1 x2
          go_wp2_with fail
          go_loopg [13, 49] a.length (fun gk n i wr => ∃ k : Nat, k ≤ a.length ∧ gk = a.length - k ∧ i = .int .i64 k ∧ n = .bool true ∧ Ext w2 wr)
          case atStart => exact ⟨0, by omega, rfl, rfl, rfl, Ext.refl _⟩
          case round =>
            obtain ⟨k, hk, rfl, rfl, rfl, xr⟩ := hrel
            by_cases hlt : k < a.length
            · obtain ⟨ba, oa, rfl⟩ := h2 (by decide) (by omega)
              obtain ⟨g1, g2, c1, c2, z1, z2⟩ := row_at (S2.out.ext (x12.trans xr).full) k hlt
              generalize a[k] = r at c1 c2 z1 z2
              obtain ⟨pz1, qz1, rfl, _⟩ := z1.form
              obtain ⟨pz2, qz2, rfl, _⟩ := z2.form
              have Z1 := Lib.hid z1
              have hd : decide ((k : Int) < (a.length : Int)) = true := by simp; omega
              clear z1 z2
              go_wp2_with fail
              have xn := (Ext.refl wr).alloc (.cells #[.slice pz1 r.vals.length qz1, .slice pz2 r.lin.length qz2] 32)
              have d1 : (wr.alloc (.cells #[.slice pz1 r.vals.length qz1, .slice pz2 r.lin.length qz2] 32)).cell? ⟨wr.heap.size, 0, none⟩ = some (.slice pz1 r.vals.length qz1) := by go_simp
              generalize (wr.alloc (.cells #[.slice pz1 r.vals.length qz1, .slice pz2 r.lin.length qz2] 32)) = w5 at xn d1 ⊢
              go_region_held3 (fun w' => Ext wr w' ∧ w'.cell? ⟨wr.heap.size, 0, none⟩ = some (.slice pz1 r.vals.length qz1))
                (first | exact ⟨xn.drew, d1⟩ | assumption | exact keepE1 (by assumption) hx3 | exact keepE1 (by assumption) hx2)
                (first | (go_at_call 22; refine (multiplicity_rows _ _ b r.vals _ (by exact S3.out.ext ((x12.trans xr).trans (And.left ‹Ext wr _ ∧ _›)).full) (by exact Z1.out.ext (And.left ‹Ext wr _ ∧ _›).full)).mono ?_; rintro e w2 ⟨rfl, hx2⟩) | (go_at_call 23; refine (ref_multiplicity _ _ b r.vals _ (by exact S3.out.ext ((x12.trans xr).trans (And.left ‹Ext wr _ ∧ _›)).full) (by exact Z1.out.ext (And.left ‹Ext wr _ ∧ _›).full)).mono ?_; rintro e w3 ⟨rfl, hx3⟩))
              all_goals (obtain ⟨hfin, _⟩ := ‹Ext wr _ ∧ _›)
              all_goals (replace xr := xr.trans hfin)
              all_goals clear c1 c2 d1
              all_goals go_wp2_with fail
              all_goals go_roundg (a.length - (k + 1))
              case measure => omega
              case rel => exact ⟨k + 1, by omega, rfl, by go_num, rfl, xr⟩
            · have : k = a.length := by omega
              subst this
              go_wp2_with fail
              refine (awake_true _).mono ?_
              rintro e w3 ⟨rfl, x3⟩
              have y3 := xr.trans x3
              clear xr x3
              go_wp2_with fail
              refine (merge_lineage _ _ x y _ (S0.out.ext (x12.trans y3).full) (S1.out.ext (x12.trans y3).full) (by omega) (by omega)).mono ?_
              rintro e w4 ⟨u5, rfl, t5, x4⟩
              have T5 := Lib.hid (t5.ext (on_sub _ _))
              obtain ⟨r5, k5, rfl, _⟩ := t5.form
              clear t5
              have y4 := y3.trans x4
              clear y3 x4
              go_wp2_with fail
              refine (ref_mergeLineage _ _ x y _ (S0.out.ext (x12.trans y4).full) (S1.out.ext (x12.trans y4).full) (by omega) (by omega)).mono ?_
              rintro e w5 ⟨u6, rfl, t6, x5⟩
              have T6 := Lib.hid (t6.ext (on_sub _ _))
              obtain ⟨r6, k6, rfl, _⟩ := t6.form
              clear t6
              go_wp2_with fail
              refine (same_ints _ _ _ _ _ (T5.out.ext x5.full) T6.out).mono ?_
              rintro e w6 ⟨rfl, x6⟩
              rw [eqB_iff.2 rfl]
              have y6 := (y4.trans x5).trans x6.ext
              clear y4 x5 x6 T5 T6
              go_wp2_with fail
              refine (ref_sameRows _ _ _ _ _ (T1.out.ext y6.full) (T3.out.ext y6.full)).mono ?_
              rintro e w7 ⟨rfl, x7⟩
              rw [eqB_iff.2 rfl]
              have y7 := y6.trans x7.ext
              clear y6 x7
              go_wp2_with fail
              refine (ref_sameRows _ _ _ _ _ (T2.out.ext y7.full) (T4.out.ext y7.full)).mono ?_
              rintro e w8 ⟨rfl, x8⟩
              rw [eqB_iff.2 rfl]
              go_wp2_with fail
              go_ret
              exact ⟨rfl, (x12.trans y7).trans x8.ext⟩

end Go.Proofs.Ytmjfbfigdkolaaa
