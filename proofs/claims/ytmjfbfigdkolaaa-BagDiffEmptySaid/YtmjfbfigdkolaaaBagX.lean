/- BagBalance: the walk -/
import Derived.Test.YtmjfbfigdkolaaaBagR
import Derived.Test.YtmjfbfigdkolaaaPlainU
import Derived.Test.YtmjfbfigdkolaaaGenC
namespace Go.Proofs.Ytmjfbfigdkolaaa
open Go.RowKit

theorem genRows_fit (l : List Num5) (most : Nat) (h : most ≤ 1000) : fitRows (genRows l most) := by
  refine ⟨by have := genRows_len l most; omega, fun r hr => ?_⟩
  obtain ⟨t, ht, rfl⟩ := List.mem_map.1 hr
  obtain ⟨x, _, rfl⟩ := List.mem_map.1 ht
  exact ⟨by simp [rowOf, genTup, genVals], by simp [rowOf, genTup]⟩

set_option maxRecDepth 100000 in
set_option maxHeartbeats 4000000 in
theorem BagBalance_walk (v0 : Value) (x : List Num5) (v1 : Value) (y : List Num5) {w : World} (s0 : SliceOf Rep.num w.cell? v0 x) (s1 : SliceOf Rep.num w.cell? v1 y) :
    Calls Try.prog 7 #[v0, v1] w fun e w' => e = .returned (.bool true) ∧ Ext w w' := by
  obtain ⟨i0, hi, hz0, hz1, hz2⟩ := info_parts infoRow
  have S0 := Lib.hid s0
  have S1 := Lib.hid s1
  obtain ⟨p0, q0, rfl, _⟩ := s0.form
  obtain ⟨p1, q1, rfl, _⟩ := s1.form
  clear s0 s1
  go_enter Try.func7, Try.ntmps7
  go_wp2_with fail
  refine (rows_gen _ x 30 (by decide) _ S0.out).mono ?_
  rintro e w1 ⟨u1, rfl, t1, x1⟩
  have la := genRows_len x 30
  have fa := genRows_fit x 30 (by decide)
  generalize genRows x 30 = a at t1 la fa
  obtain ⟨r1, k1, rfl, _⟩ := t1.form
  have T1 := Lib.hid t1
  have FA := Lib.hid fa
  clear t1 fa
  go_wp2_with fail
  refine (rows_gen _ y 30 (by decide) _ (S1.out.ext x1.full)).mono ?_
  rintro e w2 ⟨u2, rfl, t2, x2⟩
  have lb := genRows_len y 30
  have fb := genRows_fit y 30 (by decide)
  generalize genRows y 30 = b at t2 lb fb
  obtain ⟨r2, k2, rfl, _⟩ := t2.form
  have T2 := Lib.hid t2
  have FB := Lib.hid fb
  replace T1 := Lib.hid (T1.out.ext x2.full)
  have y2 := x1.trans x2
  clear t2 fb x1 x2
  go_wp2_with fail
  refine (diff_rows _ _ a b _ T1.out T2.out FA.out FB.out).mono ?_
  rintro e w3 ⟨u3, u4, rfl, t3, t4, x3⟩
  have y3 := y2.trans x3
  have M3 := Lib.hid fun v => surp_mult v a b
  have M4 := Lib.hid fun v => surp_mult v b a
  generalize surpA b [] (sortBy cmpRow a) = lost at t3 M3
  generalize surpA a [] (sortBy cmpRow b) = gained at t4 M4
  obtain ⟨r3, k3, rfl, _⟩ := t3.form
  obtain ⟨r4, k4, rfl, _⟩ := t4.form
  have T3 := Lib.hid t3
  have T4 := Lib.hid t4
  replace T1 := Lib.hid (T1.out.ext x3.full)
  replace T2 := Lib.hid (T2.out.ext x3.full)
  clear t3 t4 y2 x3
  have A0 := Lib.hid (T1.out.ext (full_on w3 (fun k => k < w3.heap.size) fun k hk => hk))
  have B0 := Lib.hid (T2.out.ext (full_on w3 (fun k => k < w3.heap.size) fun k hk => hk))
  go_wp2_with (at_builtin; refine wpList_append_all Rep.row (fun k => k < w3.heap.size) rfl _ _ 22 rfl w3.heap.size 32 i0 _ 48 Try.underlying22 hi hz0 hz1 hz2 rfl (by decide) _ ([] : List Row) rfl (OwnOf.nil _ _ _ _ _) _ a rfl (A0.out.ext (old_avoid (Below.refl _ _) (OwnOf.nil Rep.row w3 (fun k => k < w3.heap.size) w3.heap.size 32))) ?c1 ?c2 ?c3 ?_)
  case c1 => simp [maxLen]; omega
  case c2 => simp; omega
  case c3 => exact Nat.le_refl _
  intro v5 w5 own5 gr5 _
  have z5 : Below w3.heap.size w3 w5 := Below.grown (Below.refl _ _) gr5 (Nat.le_refl _) (fun j hj => by cases hj)
  have O5 := Lib.hid own5
  clear own5 gr5
  go_wp2_with (at_builtin; refine wpList_append_all Rep.row (fun k => k < w3.heap.size) rfl _ _ 22 rfl w3.heap.size 32 i0 _ 48 Try.underlying22 hi hz0 hz1 hz2 rfl (by decide) v5 a rfl O5.out _ b rfl (B0.out.ext (old_avoid z5 O5.out)) ?c1 ?c2 ?c3 ?_)
  case c1 => unfold maxLen; omega
  case c2 => omega
  case c3 => exact z5.size
  intro v6 w6 own6 gr6 _
  have z6 : Ext w3 w6 := Below.grown z5 gr6 z5.size O5.out.base
  have hc := own6.slice
  have lc : (a ++ b).length ≤ 60 := by simp; omega
  generalize a ++ b = c at hc lc
  obtain ⟨pc, qc, rfl, hq1, hq2, hq3⟩ := hc.form
  have C := Lib.hid hc
  unfold maxLen at hq2
  replace T1 := Lib.hid (T1.out.ext z6.full)
  replace T2 := Lib.hid (T2.out.ext z6.full)
  replace T3 := Lib.hid (T3.out.ext z6.full)
  replace T4 := Lib.hid (T4.out.ext z6.full)
  have y6 := y3.trans z6
  clear own6 gr6 hc z5 z6 y3 O5 A0 B0
  go_wp2_with fail
  go_loopg [28] c.length (fun gk i wr => ∃ k : Nat, k ≤ c.length ∧ gk = c.length - k ∧ i = .int .i64 k ∧ Ext w6 wr)
  case atStart => exact ⟨0, by omega, rfl, rfl, Ext.refl _⟩
  case round =>
    obtain ⟨k, hk, rfl, rfl, xr⟩ := hrel
    by_cases hlt : k < c.length
    · obtain ⟨bc, oc, rfl⟩ := hq3 (by decide) (by omega)
      obtain ⟨g1, g2, c1, c2, n1, n2⟩ := row_at (C.out.ext xr.full) k hlt
      generalize c[k] = r at c1 c2 n1 n2
      obtain ⟨pz1, qz1, rfl, _⟩ := n1.form
      obtain ⟨pz2, qz2, rfl, _⟩ := n2.form
      have Z1 := Lib.hid n1
      have hd : decide ((k : Int) < (c.length : Int)) = true := by simp; omega
      clear n1 n2
      go_wp2_with fail
      have xn := (Ext.refl wr).alloc (.cells #[.slice pz1 r.vals.length qz1, .slice pz2 r.lin.length qz2] 32)
      have d1 : (wr.alloc (.cells #[.slice pz1 r.vals.length qz1, .slice pz2 r.lin.length qz2] 32)).cell? ⟨wr.heap.size, 0, none⟩ = some (.slice pz1 r.vals.length qz1) := by go_simp
      generalize (wr.alloc (.cells #[.slice pz1 r.vals.length qz1, .slice pz2 r.lin.length qz2] 32)) = w7 at xn d1 ⊢
      have hS0 : Ext wr w7.drew ∧ w7.drew.cell? ⟨wr.heap.size, 0, none⟩ = some (.slice pz1 r.vals.length qz1) := ⟨xn.drew, d1⟩
      go_region_held3 (fun w' => Ext wr w' ∧ w'.cell? ⟨wr.heap.size, 0, none⟩ = some (.slice pz1 r.vals.length qz1))
        (first | with_reducible assumption | with_reducible exact keepE1 (by assumption) hx3 | with_reducible exact keepE1 (by assumption) hx2)
        (first | (go_at_call 22; with_reducible refine (multiplicity_rows (.slice r1 a.length k1) _ a r.vals _ (by exact T1.out.ext (xr.trans (And.left ‹Ext wr _ ∧ _›)).full) (by exact Z1.out.ext (And.left ‹Ext wr _ ∧ _›).full)).mono ?_; rintro e w2 ⟨rfl, hx2⟩) | (go_at_call 22; with_reducible refine (multiplicity_rows (.slice r2 b.length k2) _ b r.vals _ (by exact T2.out.ext (xr.trans (And.left ‹Ext wr _ ∧ _›)).full) (by exact Z1.out.ext (And.left ‹Ext wr _ ∧ _›).full)).mono ?_; rintro e w3 ⟨rfl, hx3⟩))
      all_goals
        clear hS0
        obtain ⟨hfin, d2⟩ := ‹Ext wr _ ∧ _›
        have g3 := M3.out r.vals
        have g4 := M4.out r.vals
        have hm := mult_len r.vals a
        have hn := mult_len r.vals b
        generalize mult r.vals a = m at g3 g4 hm ⊢
        generalize mult r.vals b = n at g3 g4 hn ⊢
        have G3 := Lib.hid g3
        have G4 := Lib.hid g4
        have hm2 : m ≤ 30 := by omega
        have hn2 : n ≤ 30 := by omega
        have hq : (((m - n : Nat) : Int) != max 0 ((m : Int) - (n : Int))) = false := by simp; omega
        have hq' : (((n - m : Nat) : Int) != max 0 ((n : Int) - (m : Int))) = false := by simp; omega
        clear g3 g4 c1 c2 d1 hm hn
        have yr := xr.trans hfin
        go_wp2_with fail
        refine (multiplicity_rows _ _ lost r.vals _ (T3.out.ext yr.full) (Z1.out.ext hfin.full)).mono ?_
        rintro e w8 ⟨rfl, x8⟩
        rw [G3.out]
        have d8 := x8.at d2
        clear d2
        go_wp2_with fail
        refine (multiplicity_rows _ _ gained r.vals _ (T4.out.ext (yr.trans x8).full) (Z1.out.ext (hfin.trans x8).full)).mono ?_
        rintro e w9 ⟨rfl, x9⟩
        rw [G4.out]
        have y9 := (yr.trans x8).trans x9
        clear d8 yr x8 x9
        go_wp2_with fail
        go_roundg (c.length - (k + 1))
      case measure => omega
      case rel => exact ⟨k + 1, by omega, rfl, by go_num, y9⟩
    · have : k = c.length := by omega
      subst this
      go_wp2_with fail
      refine (awake_true _).mono ?_
      rintro e w8 ⟨rfl, x8⟩
      go_wp2_with fail
      go_ret
      exact ⟨rfl, (y6.trans xr).trans x8⟩

end Go.Proofs.Ytmjfbfigdkolaaa
