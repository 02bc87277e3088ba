/- the laws' sanity check (annalistlaw8.awake) -/
import Derived.Test.YtmjfbfigdkolaaaBagO
import Derived.Test.YtmjfbfigdkolaaaGenA
namespace Go.Proofs.Ytmjfbfigdkolaaa
open Go.RowKit

def r1 : Row := ⟨[nV], [1]⟩
def r2 : Row := ⟨[nV], [2]⟩
theorem merge_awake : mergeL [3, 1] [2, 3] = [1, 2, 3] :=
  asc_unique (mergeL_law _ _).1 (by decide) fun x => by rw [(mergeL_law _ _).2]; simp; omega
theorem cmp_awake : cmpRow r1 r2 = -1 := by decide
theorem cmp_awake2 : cmpRow r1 r1 = 0 := (ord_row.eq _ _).2 rfl
theorem sort_awake : sortBy cmpRow [r2, r1] = [r1, r2] :=
  (sortBy_unique ord_row (List.Perm.swap _ _ _) (by simp [cmp_awake])).symm
theorem mult_nV (l : List Row) (h : ∀ r ∈ l, r.vals = [nV]) : mult [nV] l = l.length := by
  unfold mult
  rw [List.countP_eq_length]
  intro r hr
  rw [h r hr, (ord_vals.eq _ _).2 rfl]
  rfl
theorem lost_awake : surpA [r2] [] (sortBy cmpRow [r2, r1]) = [r2] := by
  rw [sort_awake, surpA_run _ _ _ [nV] (by simp [r1, r2]), mult_nV _ (by simp [r2])]
  rfl
theorem gained_awake : surpA [r2, r1] [] (sortBy cmpRow [r2]) = [] := by
  rw [sortBy_short _ _ (by simp), surpA_run _ _ _ [nV] (by simp [r2]), mult_nV _ (by simp [r1, r2])]
  rfl
theorem equal_awake : eqB (sortBy cmpRow [r2, r1]) (sortBy cmpRow (sortBy cmpRow [r2, r1])) = true := by
  rw [eqB_iff]
  exact sortBy_unique ord_row (List.Perm.refl _) (sortBy_pair ord_row _)
theorem fit_awake : fitRows [r2, r1] := ⟨by simp, by simp [fitR, r1, r2]⟩

/-- data that a literal has just laid -/
theorem ints_lit (w : World) (T : TypeId) (xs : List Int) (hr : inR xs) (hl : xs.length ≤ maxLen) :
    SliceOf Rep.int (w.alloc (.cells (xs.map (Value.int .i64)).toArray T)).cell? (.slice (some ⟨w.heap.size, 0, none⟩) xs.length xs.length) xs :=
  slice_lit Rep.int w _ T _ xs (flat_ints xs) (ints_repAll _ _ hr) hl

theorem val_one (h : View) (b : Nat) (x : Val) (hr : (-9223372036854775808 ≤ x.kind ∧ x.kind ≤ 9223372036854775807) ∧ (-9223372036854775808 ≤ x.n ∧ x.n ≤ 9223372036854775807) ∧ x.s.size ≤ maxLen)
    (h0 : h ⟨b, 0, none⟩ = some (.int .i64 x.kind)) (h1 : h ⟨b, 1, none⟩ = some (.int .i64 x.n)) (h2 : h ⟨b, 2, none⟩ = some (.string x.s)) : SliceOf Rep.val h (.slice (some ⟨b, 0, none⟩) 1 1) [x] :=
  ⟨[[.int .i64 x.kind, .int .i64 x.n, .string x.s]], ⟨⟨rfl, hr⟩, trivial⟩, .inr ⟨_, 1, rfl, Nat.le_refl _, by simp [maxLen], .inr ⟨b, 0, rfl, fun j u hj => by
    match j, hj with
    | 0, hj => simp at hj; rw [← hj]; exact h0
    | 1, hj => simp at hj; rw [← hj]; exact h1
    | 2, hj => simp at hj; rw [← hj]; exact h2⟩⟩⟩
theorem int_one (h : View) (b : Nat) (x : Int) (hr : -9223372036854775808 ≤ x ∧ x ≤ 9223372036854775807) (h0 : h ⟨b, 0, none⟩ = some (.int .i64 x)) : SliceOf Rep.int h (.slice (some ⟨b, 0, none⟩) 1 1) [x] :=
  ⟨[[.int .i64 x]], ⟨⟨rfl, hr⟩, trivial⟩, .inr ⟨_, 1, rfl, Nat.le_refl _, by simp [maxLen], .inr ⟨b, 0, rfl, fun j u hj => by
    match j, hj with
    | 0, hj => simp at hj; rw [← hj]; exact h0⟩⟩⟩
theorem row_two (h : View) (b : Nat) (x y : Row) (u1 u2 v1 v2 : Value) (g1 : SliceOf Rep.val h u1 x.vals) (g2 : SliceOf Rep.int h u2 x.lin) (g3 : SliceOf Rep.val h v1 y.vals) (g4 : SliceOf Rep.int h v2 y.lin)
    (h0 : h ⟨b, 0, none⟩ = some u1) (h1 : h ⟨b, 1, none⟩ = some u2) (h2 : h ⟨b, 2, none⟩ = some v1) (h3 : h ⟨b, 3, none⟩ = some v2) : SliceOf Rep.row h (.slice (some ⟨b, 0, none⟩) 2 2) [x, y] :=
  ⟨[[u1, u2], [v1, v2]], ⟨⟨_, _, rfl, g1, g2⟩, ⟨_, _, rfl, g3, g4⟩, trivial⟩, .inr ⟨_, 2, rfl, Nat.le_refl _, by simp [maxLen], .inr ⟨b, 0, rfl, fun j u hj => by
    match j, hj with
    | 0, hj => simp at hj; rw [← hj]; exact h0
    | 1, hj => simp at hj; rw [← hj]; exact h1
    | 2, hj => simp at hj; rw [← hj]; exact h2
    | 3, hj => simp at hj; rw [← hj]; exact h3⟩⟩⟩

set_option maxRecDepth 100000 in
set_option maxHeartbeats 400000 in
theorem awake_true (w : World) : Calls Try.prog 14 #[] w fun e w' => e = .returned (.bool true) ∧ Ext w w' := by
  go_enter Try.func14, Try.ntmps14
  go_wp2_with fail
  have k1 : SliceOf Rep.int (w.alloc (.cells #[.int .i64 3, .int .i64 1] 3)).cell? (.slice (some ⟨w.heap.size, 0, none⟩) 2 2) [3, 1] := ints_lit w 3 [3, 1] (by intro x hx; simp at hx; omega) (by simp [maxLen])
  have k2 : SliceOf Rep.int ((w.alloc (.cells #[.int .i64 3, .int .i64 1] 3)).alloc (.cells #[.int .i64 2, .int .i64 3] 3)).cell? (.slice (some ⟨w.heap.size + 1, 0, none⟩) 2 2) [2, 3] := by
    rw [show w.heap.size + 1 = (w.alloc (.cells #[.int .i64 3, .int .i64 1] 3)).heap.size from by simp]
    exact ints_lit (w.alloc (.cells #[.int .i64 3, .int .i64 1] 3)) 3 [2, 3] (by intro x hx; simp at hx; omega) (by simp [maxLen])
  have hx := ((Ext.refl w).alloc (.cells #[.int .i64 3, .int .i64 1] 3)).alloc (.cells #[.int .i64 2, .int .i64 3] 3)
  refine (merge_lineage _ _ [3, 1] [2, 3] _ (k1.ext ((Ext.refl _).alloc _).full) k2 (by simp) (by simp)).mono ?_
  rintro e w1 ⟨v1, rfl, s1, hx1⟩
  rw [merge_awake] at s1
  replace hx := hx.trans hx1
  clear k1 k2 hx1
  obtain ⟨p1, q1, rfl, _⟩ := s1.form
  have S1 := Lib.hid (s1.ext (on_sub _ _))
  clear s1
  go_wp2_with fail
  have c0 : (((((w1.alloc (.cells #[.int .i64 0, .int .i64 0, .string { data := #[] }] 63)).alloc (.cells #[.int .i64 2] 3)).alloc (.cells #[.int .i64 0, .int .i64 0, .string { data := #[] }] 63)).alloc (.cells #[.int .i64 1] 3)).alloc (.cells #[.slice (some ⟨w1.heap.size, 0, none⟩) 1 1, .slice (some ⟨w1.heap.size + 1, 0, none⟩) 1 1, .slice (some ⟨w1.heap.size + 1 + 1, 0, none⟩) 1 1, .slice (some ⟨w1.heap.size + 1 + 1 + 1, 0, none⟩) 1 1] 32)).cell? ⟨w1.heap.size, 0, none⟩ = some (.int .i64 0) := by go_simp
  have c1 : (((((w1.alloc (.cells #[.int .i64 0, .int .i64 0, .string { data := #[] }] 63)).alloc (.cells #[.int .i64 2] 3)).alloc (.cells #[.int .i64 0, .int .i64 0, .string { data := #[] }] 63)).alloc (.cells #[.int .i64 1] 3)).alloc (.cells #[.slice (some ⟨w1.heap.size, 0, none⟩) 1 1, .slice (some ⟨w1.heap.size + 1, 0, none⟩) 1 1, .slice (some ⟨w1.heap.size + 1 + 1, 0, none⟩) 1 1, .slice (some ⟨w1.heap.size + 1 + 1 + 1, 0, none⟩) 1 1] 32)).cell? ⟨w1.heap.size, 1, none⟩ = some (.int .i64 0) := by go_simp
  have c2 : (((((w1.alloc (.cells #[.int .i64 0, .int .i64 0, .string { data := #[] }] 63)).alloc (.cells #[.int .i64 2] 3)).alloc (.cells #[.int .i64 0, .int .i64 0, .string { data := #[] }] 63)).alloc (.cells #[.int .i64 1] 3)).alloc (.cells #[.slice (some ⟨w1.heap.size, 0, none⟩) 1 1, .slice (some ⟨w1.heap.size + 1, 0, none⟩) 1 1, .slice (some ⟨w1.heap.size + 1 + 1, 0, none⟩) 1 1, .slice (some ⟨w1.heap.size + 1 + 1 + 1, 0, none⟩) 1 1] 32)).cell? ⟨w1.heap.size, 2, none⟩ = some (.string { data := #[] }) := by go_simp
  have c3 : (((((w1.alloc (.cells #[.int .i64 0, .int .i64 0, .string { data := #[] }] 63)).alloc (.cells #[.int .i64 2] 3)).alloc (.cells #[.int .i64 0, .int .i64 0, .string { data := #[] }] 63)).alloc (.cells #[.int .i64 1] 3)).alloc (.cells #[.slice (some ⟨w1.heap.size, 0, none⟩) 1 1, .slice (some ⟨w1.heap.size + 1, 0, none⟩) 1 1, .slice (some ⟨w1.heap.size + 1 + 1, 0, none⟩) 1 1, .slice (some ⟨w1.heap.size + 1 + 1 + 1, 0, none⟩) 1 1] 32)).cell? ⟨w1.heap.size + 1, 0, none⟩ = some (.int .i64 2) := by go_simp
  have c4 : (((((w1.alloc (.cells #[.int .i64 0, .int .i64 0, .string { data := #[] }] 63)).alloc (.cells #[.int .i64 2] 3)).alloc (.cells #[.int .i64 0, .int .i64 0, .string { data := #[] }] 63)).alloc (.cells #[.int .i64 1] 3)).alloc (.cells #[.slice (some ⟨w1.heap.size, 0, none⟩) 1 1, .slice (some ⟨w1.heap.size + 1, 0, none⟩) 1 1, .slice (some ⟨w1.heap.size + 1 + 1, 0, none⟩) 1 1, .slice (some ⟨w1.heap.size + 1 + 1 + 1, 0, none⟩) 1 1] 32)).cell? ⟨w1.heap.size + 1 + 1, 0, none⟩ = some (.int .i64 0) := by go_simp
  have c5 : (((((w1.alloc (.cells #[.int .i64 0, .int .i64 0, .string { data := #[] }] 63)).alloc (.cells #[.int .i64 2] 3)).alloc (.cells #[.int .i64 0, .int .i64 0, .string { data := #[] }] 63)).alloc (.cells #[.int .i64 1] 3)).alloc (.cells #[.slice (some ⟨w1.heap.size, 0, none⟩) 1 1, .slice (some ⟨w1.heap.size + 1, 0, none⟩) 1 1, .slice (some ⟨w1.heap.size + 1 + 1, 0, none⟩) 1 1, .slice (some ⟨w1.heap.size + 1 + 1 + 1, 0, none⟩) 1 1] 32)).cell? ⟨w1.heap.size + 1 + 1, 1, none⟩ = some (.int .i64 0) := by go_simp
  have c6 : (((((w1.alloc (.cells #[.int .i64 0, .int .i64 0, .string { data := #[] }] 63)).alloc (.cells #[.int .i64 2] 3)).alloc (.cells #[.int .i64 0, .int .i64 0, .string { data := #[] }] 63)).alloc (.cells #[.int .i64 1] 3)).alloc (.cells #[.slice (some ⟨w1.heap.size, 0, none⟩) 1 1, .slice (some ⟨w1.heap.size + 1, 0, none⟩) 1 1, .slice (some ⟨w1.heap.size + 1 + 1, 0, none⟩) 1 1, .slice (some ⟨w1.heap.size + 1 + 1 + 1, 0, none⟩) 1 1] 32)).cell? ⟨w1.heap.size + 1 + 1, 2, none⟩ = some (.string { data := #[] }) := by go_simp
  have c7 : (((((w1.alloc (.cells #[.int .i64 0, .int .i64 0, .string { data := #[] }] 63)).alloc (.cells #[.int .i64 2] 3)).alloc (.cells #[.int .i64 0, .int .i64 0, .string { data := #[] }] 63)).alloc (.cells #[.int .i64 1] 3)).alloc (.cells #[.slice (some ⟨w1.heap.size, 0, none⟩) 1 1, .slice (some ⟨w1.heap.size + 1, 0, none⟩) 1 1, .slice (some ⟨w1.heap.size + 1 + 1, 0, none⟩) 1 1, .slice (some ⟨w1.heap.size + 1 + 1 + 1, 0, none⟩) 1 1] 32)).cell? ⟨w1.heap.size + 1 + 1 + 1, 0, none⟩ = some (.int .i64 1) := by go_simp
  have c8 : (((((w1.alloc (.cells #[.int .i64 0, .int .i64 0, .string { data := #[] }] 63)).alloc (.cells #[.int .i64 2] 3)).alloc (.cells #[.int .i64 0, .int .i64 0, .string { data := #[] }] 63)).alloc (.cells #[.int .i64 1] 3)).alloc (.cells #[.slice (some ⟨w1.heap.size, 0, none⟩) 1 1, .slice (some ⟨w1.heap.size + 1, 0, none⟩) 1 1, .slice (some ⟨w1.heap.size + 1 + 1, 0, none⟩) 1 1, .slice (some ⟨w1.heap.size + 1 + 1 + 1, 0, none⟩) 1 1] 32)).cell? ⟨w1.heap.size + 1 + 1 + 1 + 1, 0, none⟩ = some (.slice (some ⟨w1.heap.size, 0, none⟩) 1 1) := by go_simp
  have c9 : (((((w1.alloc (.cells #[.int .i64 0, .int .i64 0, .string { data := #[] }] 63)).alloc (.cells #[.int .i64 2] 3)).alloc (.cells #[.int .i64 0, .int .i64 0, .string { data := #[] }] 63)).alloc (.cells #[.int .i64 1] 3)).alloc (.cells #[.slice (some ⟨w1.heap.size, 0, none⟩) 1 1, .slice (some ⟨w1.heap.size + 1, 0, none⟩) 1 1, .slice (some ⟨w1.heap.size + 1 + 1, 0, none⟩) 1 1, .slice (some ⟨w1.heap.size + 1 + 1 + 1, 0, none⟩) 1 1] 32)).cell? ⟨w1.heap.size + 1 + 1 + 1 + 1, 1, none⟩ = some (.slice (some ⟨w1.heap.size + 1, 0, none⟩) 1 1) := by go_simp
  have c10 : (((((w1.alloc (.cells #[.int .i64 0, .int .i64 0, .string { data := #[] }] 63)).alloc (.cells #[.int .i64 2] 3)).alloc (.cells #[.int .i64 0, .int .i64 0, .string { data := #[] }] 63)).alloc (.cells #[.int .i64 1] 3)).alloc (.cells #[.slice (some ⟨w1.heap.size, 0, none⟩) 1 1, .slice (some ⟨w1.heap.size + 1, 0, none⟩) 1 1, .slice (some ⟨w1.heap.size + 1 + 1, 0, none⟩) 1 1, .slice (some ⟨w1.heap.size + 1 + 1 + 1, 0, none⟩) 1 1] 32)).cell? ⟨w1.heap.size + 1 + 1 + 1 + 1, 2, none⟩ = some (.slice (some ⟨w1.heap.size + 1 + 1, 0, none⟩) 1 1) := by go_simp
  have c11 : (((((w1.alloc (.cells #[.int .i64 0, .int .i64 0, .string { data := #[] }] 63)).alloc (.cells #[.int .i64 2] 3)).alloc (.cells #[.int .i64 0, .int .i64 0, .string { data := #[] }] 63)).alloc (.cells #[.int .i64 1] 3)).alloc (.cells #[.slice (some ⟨w1.heap.size, 0, none⟩) 1 1, .slice (some ⟨w1.heap.size + 1, 0, none⟩) 1 1, .slice (some ⟨w1.heap.size + 1 + 1, 0, none⟩) 1 1, .slice (some ⟨w1.heap.size + 1 + 1 + 1, 0, none⟩) 1 1] 32)).cell? ⟨w1.heap.size + 1 + 1 + 1 + 1, 3, none⟩ = some (.slice (some ⟨w1.heap.size + 1 + 1 + 1, 0, none⟩) 1 1) := by go_simp
  have hx5 : Ext w1 (((((w1.alloc (.cells #[.int .i64 0, .int .i64 0, .string { data := #[] }] 63)).alloc (.cells #[.int .i64 2] 3)).alloc (.cells #[.int .i64 0, .int .i64 0, .string { data := #[] }] 63)).alloc (.cells #[.int .i64 1] 3)).alloc (.cells #[.slice (some ⟨w1.heap.size, 0, none⟩) 1 1, .slice (some ⟨w1.heap.size + 1, 0, none⟩) 1 1, .slice (some ⟨w1.heap.size + 1 + 1, 0, none⟩) 1 1, .slice (some ⟨w1.heap.size + 1 + 1 + 1, 0, none⟩) 1 1] 32)) := (((((Ext.refl w1).alloc _).alloc _).alloc _).alloc _).alloc _
  generalize (((((w1.alloc (.cells #[.int .i64 0, .int .i64 0, .string { data := #[] }] 63)).alloc (.cells #[.int .i64 2] 3)).alloc (.cells #[.int .i64 0, .int .i64 0, .string { data := #[] }] 63)).alloc (.cells #[.int .i64 1] 3)).alloc (.cells #[.slice (some ⟨w1.heap.size, 0, none⟩) 1 1, .slice (some ⟨w1.heap.size + 1, 0, none⟩) 1 1, .slice (some ⟨w1.heap.size + 1 + 1, 0, none⟩) 1 1, .slice (some ⟨w1.heap.size + 1 + 1 + 1, 0, none⟩) 1 1] 32)) = w5 at *
  have g1 := val_one w5.cell? _ nV (by decide) c0 c1 c2
  have g2 := int_one w5.cell? _ 2 (by decide) c3
  have g3 := val_one w5.cell? _ nV (by decide) c4 c5 c6
  have g4 := int_one w5.cell? _ 1 (by decide) c7
  have ha := row_two w5.cell? _ r2 r1 _ _ _ _ g1 g2 g3 g4 c8 c9 c10 c11
  have HA := Lib.hid ha
  have HA1 := Lib.hid (ha.takeV 1 (by simp))
  have hxr := hx.trans hx5
  have S15 := Lib.hid (S1.out.ext hx5.full)
  have d8 := c8
  clear c0 c1 c2 c3 c4 c5 c6 c7 c8 c9 c10 c11 g2 g3 g4 ha hx hx5
  have G1 := Lib.hid g1
  clear g1
  refine (diff_rows _ _ [r2, r1] [r2] w5 HA.out HA1.out fit_awake ⟨by simp, by simp [fitR, r2]⟩).mono ?_
  rintro e w6 ⟨v6, u6, rfl, s6, t6, hx6⟩
  rw [lost_awake] at s6
  rw [gained_awake] at t6
  obtain ⟨p6, q6, rfl, _, _, h6⟩ := s6.form
  obtain ⟨p7, q7, rfl, _⟩ := t6.form
  obtain ⟨b6, o6, rfl⟩ := h6 (by decide) (by simp)
  obtain ⟨y1, y2, e1, e2, z1, z2⟩ := row_at s6 0 (by simp)
  obtain ⟨p8, q8, rfl, _, _, h8⟩ := z2.form
  obtain ⟨p9, q9, rfl, _⟩ := z1.form
  obtain ⟨b8, o8, rfl⟩ := h8 (by decide) (by simp [r2])
  obtain ⟨e3, _⟩ := int_at z2 0 (by simp [r2])
  have d8' := hx6.at d8
  replace HA := Lib.hid (HA.out.ext hx6.full)
  replace G1 := Lib.hid (G1.out.ext hx6.full)
  clear s6 t6 z1 z2 h6 h8 d8
  replace S15 := Lib.hid (S15.out.ext hx6.full)
  replace hxr := hxr.trans hx6
  simp only [Nat.zero_mul, Nat.add_zero] at e1 e2 e3
  clear hx6 S1
  go_wp2_with fail
  have hxa := (Ext.refl w6).alloc (.cells #[.int .i64 1, .int .i64 2, .int .i64 3] 3)
  have k3 : SliceOf Rep.int (w6.alloc (.cells #[.int .i64 1, .int .i64 2, .int .i64 3] 3)).cell? (.slice (some ⟨w6.heap.size, 0, none⟩) 3 3) [1, 2, 3] := ints_lit w6 3 [1, 2, 3] (by intro x hx; simp at hx; omega) (by simp [maxLen])
  refine (same_ints _ _ [1, 2, 3] [1, 2, 3] _ (S15.out.ext hxa.full) k3).mono ?_
  rintro e w7 ⟨rfl, hx7⟩
  have hx67 := hxa.trans hx7.ext
  rw [show eqB [(1 : Int), 2, 3] [1, 2, 3] = true from eqB_iff.2 rfl]
  replace e1 := hx67.at e1
  replace e2 := hx67.at e2
  replace e3 := hx67.at e3
  replace d8' := hx67.at d8'
  replace HA := Lib.hid (HA.out.ext hx67.full)
  replace G1 := Lib.hid (G1.out.ext hx67.full)
  replace hxr := hxr.trans hx67
  clear hxa k3 hx7 hx67 S15
  go_wp2_with fail
  refine (sort_rows _ [r2, r1] _ HA.out fit_awake).mono ?_
  rintro e w8 ⟨v8, rfl, s8, hx8⟩
  have S8 := Lib.hid (s8.ext (on_sub _ _))
  obtain ⟨pv, qv, rfl, _⟩ := s8.form
  clear s8 e1 e2 e3
  go_wp2_with fail
  refine (equal_rows _ _ [r2, r1] (sortBy cmpRow [r2, r1]) _ (HA.out.ext hx8.full) S8.out fit_awake (by rw [sort_awake]; exact ⟨by simp, by simp [fitR, r1, r2]⟩)).mono ?_
  rintro e w9 ⟨rfl, hx9⟩
  rw [equal_awake]
  have hx89 := hx8.trans hx9
  replace d8' := hx89.at d8'
  replace HA := Lib.hid (HA.out.ext hx89.full)
  replace G1 := Lib.hid (G1.out.ext hx89.full)
  replace hxr := hxr.trans hx89
  clear hx8 hx9 hx89 S8
  go_wp2_with fail
  refine (multiplicity_rows _ _ [r2, r1] [nV] _ HA.out G1.out).mono ?_
  rintro e w10 ⟨rfl, hx10⟩
  rw [mult_nV [r2, r1] (by simp [r1, r2])]
  replace hxr := hxr.trans hx10
  clear hx10 d8' HA G1
  go_wp2_with fail
  go_ret
  exact ⟨rfl, hxr⟩

end Go.Proofs.Ytmjfbfigdkolaaa
