/- Contracts of slices.CompareFunc at values, of value.CompareRows, of slices.Compare at ints. -/
import Derived.Test.YtdgpbpbjlnlijaaGreatBagB
namespace Go.Proofs.YtdgpbpbjlnlijaaGreat
open Go.RowKit

/-- the lexicographic order by c -/
def lexI {α : Type} (c : α → α → Int) : List α → List α → Int
  | [], [] => 0
  | [], _ :: _ => -1
  | _ :: _, [] => 1
  | x :: xs, y :: ys => if c x y = 0 then lexI c xs ys else c x y
theorem lexI_drop {α : Type} (c : α → α → Int) (l l' : List α) (k : Nat) (h : k < l.length) (h' : k < l'.length) :
    lexI c (l.drop k) (l'.drop k) = if c l[k] l'[k] = 0 then lexI c (l.drop (k + 1)) (l'.drop (k + 1)) else c l[k] l'[k] := by
  rw [List.drop_eq_getElem_cons h, List.drop_eq_getElem_cons h']; rfl
theorem lexI_long {α : Type} (c : α → α → Int) (l l' : List α) (k : Nat) (h : k < l.length) (h' : l'.length ≤ k) : lexI c (l.drop k) (l'.drop k) = 1 := by
  rw [List.drop_eq_getElem_cons h, List.drop_eq_nil_of_le h']; rfl
theorem lexI_end {α : Type} (c : α → α → Int) (l l' : List α) : lexI c (l.drop l.length) (l'.drop l.length) = if l.length < l'.length then -1 else 0 := by
  rw [List.drop_length]
  split
  · rw [List.drop_eq_getElem_cons (by assumption)]; rfl
  · rw [List.drop_eq_nil_of_le (by omega)]; rfl
def cmpVals : List Val → List Val → Int := lexI cmpVal
def cmpInts : List Int → List Int → Int := lexI cmpI

set_option maxHeartbeats 2000000 in
theorem compareFunc_val (va vb : Value) (l l' : List Val) (w : World) (ha : SliceOf Rep.val w.cell? va l) (hb : SliceOf Rep.val w.cell? vb l') :
    Calls Tryz.prog 90 #[va, vb, .func (.func 91) #[] #[]] w
      fun e w' => e = .returned (.int .i64 (cmpVals l l')) ∧ Gro w w' := by
  obtain ⟨pa, ca, rfl, ha1, ha2, ha3⟩ := ha.form
  obtain ⟨pb, cb, rfl, hb1, hb2, hb3⟩ := hb.form
  unfold maxLen at ha2 hb2
  go_enter Tryz.func90, Tryz.ntmps90
  go_wp2_with fail
  go_loopg [13] l.length (fun gk i wr => ∃ k : Nat, k ≤ l.length ∧ gk = l.length - k ∧ i = .int .i64 k ∧ (k ≤ l'.length ∧ cmpVals l l' = lexI cmpVal (l.drop k) (l'.drop k)) ∧ Gro w wr)
  case atStart => exact ⟨0, by omega, rfl, rfl, ⟨by omega, rfl⟩, Gro.refl w⟩
  case round =>
    obtain ⟨k, hk, rfl, rfl, ⟨hk2, hc⟩, hx⟩ := hrel
    have HC := Lib.hid hc
    clear hc
    by_cases hlt : k < l.length
    · obtain ⟨ba, oa, rfl⟩ := ha3 (by decide) (by omega)
      obtain ⟨c1, c2, c3⟩ := val_at ha k hlt
      replace c1 := hx.at c1
      replace c2 := hx.at c2
      replace c3 := hx.at c3
      have hd : decide ((k : Int) < (l.length : Int)) = true := by simp; omega
      by_cases hlt2 : k < l'.length
      · obtain ⟨bb, ob, rfl⟩ := hb3 (by decide) (by omega)
        obtain ⟨d1, d2, d3⟩ := val_at hb k hlt2
        replace d1 := hx.at d1
        replace d2 := hx.at d2
        replace d3 := hx.at d3
        have hdr := lexI_drop cmpVal l l' k hlt hlt2
        have hd2 : (k : Int) < (l'.length : Int) := by omega
        generalize l[k] = x at c1 c2 c3 hdr
        generalize l'[k] = y at d1 d2 d3 hdr
        have HD := Lib.hid hdr
        clear hdr ha hb ha3 hb3
        have e1 := cell_lt c1
        have e2 := cell_lt d1
        go_wp2_with fail
        refine (compare_val x y _).mono ?_
        rintro e w1 ⟨rfl, hx1⟩
        replace hx := ((hx.alloc _).alloc _).trans hx1
        clear hx1 c1 c2 c3 d1 d2 d3 e1 e2
        generalize hq : cmpVal x y = q
        have HQ := Lib.hid hq
        clear hq
        by_cases hq0 : q = 0
        · have hqb : (q != 0) = false := by simp [hq0]
          have HQ0 := Lib.hid hq0
          clear hq0
          go_wp2_with fail
          go_roundg (l.length - (k + 1))
          case measure => omega
          case rel => exact ⟨k + 1, by omega, rfl, by go_num, ⟨by omega, by rw [HC.out, HD.out, HQ.out, if_pos HQ0.out]⟩, hx⟩
        · have hqb : (q != 0) = true := by simp [hq0]
          have HQ0 := Lib.hid hq0
          clear hq0
          go_wp2_with fail
          go_ret
          exact ⟨ret_int (by rw [HC.out, HD.out, HQ.out, if_neg HQ0.out]), hx⟩
      · have hlg := lexI_long cmpVal l l' k hlt (by omega)
        have HL := Lib.hid hlg
        clear hlg
        go_wp2_with fail
        go_ret
        exact ⟨ret_int (by rw [HC.out, HL.out]), hx.alloc _⟩
    · have : k = l.length := by omega
      subst this
      have hen := lexI_end cmpVal l l'
      have HE := Lib.hid hen
      clear hen
      by_cases hll : l.length < l'.length
      · go_wp2_with fail
        go_ret
        exact ⟨ret_int (by rw [HC.out, HE.out, if_pos hll]), hx⟩
      · go_wp2_with fail
        go_ret
        exact ⟨ret_int (by rw [HC.out, HE.out, if_neg hll]), hx⟩

theorem compareRows_any (va vb : Value) (l l' : List Val) (w : World) (ha : SliceOf Rep.val w.cell? va l) (hb : SliceOf Rep.val w.cell? vb l') :
    Calls Tryz.prog 69 #[va, vb] w fun e w' => e = .returned (.int .i64 (cmpVals l l')) ∧ Gro w w' := by
  have HA := Lib.hid ha
  have HB := Lib.hid hb
  obtain ⟨pa, ca, rfl, _⟩ := ha.form
  obtain ⟨pb, cb, rfl, _⟩ := hb.form
  clear ha hb
  go_enter Tryz.func69, Tryz.ntmps69
  go_wp2_with fail
  refine (compareFunc_val _ _ _ _ _ HA.out HB.out).mono ?_
  rintro e w1 ⟨rfl, hx⟩
  go_wp2_with fail
  go_ret
  exact ⟨rfl, hx⟩

set_option maxHeartbeats 2000000 in
theorem compare_ints (va vb : Value) (l l' : List Int) (w : World) (ha : SliceOf Rep.int w.cell? va l) (hb : SliceOf Rep.int w.cell? vb l') :
    Calls Tryz.prog 70 #[va, vb] w
      fun e w' => e = .returned (.int .i64 (cmpInts l l')) ∧ Gro w w' := by
  obtain ⟨pa, ca, rfl, ha1, ha2, ha3⟩ := ha.form
  obtain ⟨pb, cb, rfl, hb1, hb2, hb3⟩ := hb.form
  unfold maxLen at ha2 hb2
  go_enter Tryz.func70, Tryz.ntmps70
  go_wp2_with fail
  go_loopg [11] l.length (fun gk i wr => ∃ k : Nat, k ≤ l.length ∧ gk = l.length - k ∧ i = .int .i64 k ∧ (k ≤ l'.length ∧ cmpInts l l' = lexI cmpI (l.drop k) (l'.drop k)) ∧ Gro w wr)
  case atStart => exact ⟨0, by omega, rfl, rfl, ⟨by omega, rfl⟩, Gro.refl w⟩
  case round =>
    obtain ⟨k, hk, rfl, rfl, ⟨hk2, hc⟩, hx⟩ := hrel
    have HC := Lib.hid hc
    clear hc
    by_cases hlt : k < l.length
    · obtain ⟨ba, oa, rfl⟩ := ha3 (by decide) (by omega)
      obtain ⟨c1, _⟩ := int_at ha k hlt
      replace c1 := hx.at c1
      have hd : decide ((k : Int) < (l.length : Int)) = true := by simp; omega
      by_cases hlt2 : k < l'.length
      · obtain ⟨bb, ob, rfl⟩ := hb3 (by decide) (by omega)
        obtain ⟨d1, _⟩ := int_at hb k hlt2
        replace d1 := hx.at d1
        have hdr := lexI_drop cmpI l l' k hlt hlt2
        have hd2 : (k : Int) < (l'.length : Int) := by omega
        generalize l[k] = x at c1 hdr
        generalize l'[k] = y at d1 hdr
        have HD := Lib.hid hdr
        clear hdr ha hb ha3 hb3
        go_wp2_with fail
        refine (compare_int x y _).mono ?_
        rintro e w1 ⟨rfl, rfl⟩
        clear c1 d1
        generalize hq : cmpI x y = q
        have HQ := Lib.hid hq
        clear hq
        by_cases hq0 : q = 0
        · have hqb : (q != 0) = false := by simp [hq0]
          have HQ0 := Lib.hid hq0
          clear hq0
          go_wp2_with fail
          go_roundg (l.length - (k + 1))
          case measure => omega
          case rel => exact ⟨k + 1, by omega, rfl, by go_num, ⟨by omega, by rw [HC.out, HD.out, HQ.out, if_pos HQ0.out]⟩, hx⟩
        · have hqb : (q != 0) = true := by simp [hq0]
          have HQ0 := Lib.hid hq0
          clear hq0
          go_wp2_with fail
          go_ret
          exact ⟨ret_int (by rw [HC.out, HD.out, HQ.out, if_neg HQ0.out]), hx⟩
      · have hlg := lexI_long cmpI l l' k hlt (by omega)
        have HL := Lib.hid hlg
        clear hlg
        go_wp2_with fail
        go_ret
        exact ⟨ret_int (by rw [HC.out, HL.out]), hx⟩
    · have : k = l.length := by omega
      subst this
      have hen := lexI_end cmpI l l'
      have HE := Lib.hid hen
      clear hen
      by_cases hll : l.length < l'.length
      · go_wp2_with fail
        go_ret
        exact ⟨ret_int (by rw [HC.out, HE.out, if_pos hll]), hx⟩
      · go_wp2_with fail
        go_ret
        exact ⟨ret_int (by rw [HC.out, HE.out, if_neg hll]), hx⟩

/-- the canonical order of rows -/
def cmpRow (a b : Row) : Int := orI [cmpVals a.vals b.vals, cmpInts a.lin b.lin]

set_option maxHeartbeats 1000000 in
theorem compareRow_any (va vb ua ub : Value) (a b : Row) (w : World) (ha : SliceOf Rep.val w.cell? va a.vals) (hb : SliceOf Rep.val w.cell? vb b.vals) (ka : SliceOf Rep.int w.cell? ua a.lin) (kb : SliceOf Rep.int w.cell? ub b.lin) :
    Calls Tryz.prog 41 #[.agg #[va, ua], .agg #[vb, ub]] w fun e w' => e = .returned (.int .i64 (cmpRow a b)) ∧ Gro w w' := by
  have HA := Lib.hid ha
  have HB := Lib.hid hb
  have KA := Lib.hid ka
  have KB := Lib.hid kb
  obtain ⟨pa, ca, rfl, _⟩ := ha.form
  obtain ⟨pb, cb, rfl, _⟩ := hb.form
  obtain ⟨qa, da, rfl, _⟩ := ka.form
  obtain ⟨qb, db, rfl, _⟩ := kb.form
  unfold cmpRow
  generalize a.vals = av at *
  generalize b.vals = bv at *
  generalize a.lin = al at *
  generalize b.lin = bl at *
  clear ha hb ka kb
  go_enter Tryz.func41, Tryz.ntmps41
  go_wp2_with fail
  have c1 : ((w.alloc (.cells #[.slice pa av.length ca, .slice qa al.length da] 75)).alloc (.cells #[.slice pb bv.length cb, .slice qb bl.length db] 75)).cell? ⟨w.heap.size, 0, none⟩ = some (.slice pa av.length ca) := by go_simp
  have c2 : ((w.alloc (.cells #[.slice pa av.length ca, .slice qa al.length da] 75)).alloc (.cells #[.slice pb bv.length cb, .slice qb bl.length db] 75)).cell? ⟨w.heap.size, 1, none⟩ = some (.slice qa al.length da) := by go_simp
  have c3 : ((w.alloc (.cells #[.slice pa av.length ca, .slice qa al.length da] 75)).alloc (.cells #[.slice pb bv.length cb, .slice qb bl.length db] 75)).cell? ⟨w.heap.size + 1, 0, none⟩ = some (.slice pb bv.length cb) := by go_simp
  have c4 : ((w.alloc (.cells #[.slice pa av.length ca, .slice qa al.length da] 75)).alloc (.cells #[.slice pb bv.length cb, .slice qb bl.length db] 75)).cell? ⟨w.heap.size + 1, 1, none⟩ = some (.slice qb bl.length db) := by go_simp
  have hxx := ((Gro.refl w).alloc (.cells #[.slice pa av.length ca, .slice qa al.length da] 75)).alloc (.cells #[.slice pb bv.length cb, .slice qb bl.length db] 75)
  generalize ((w.alloc (.cells #[.slice pa av.length ca, .slice qa al.length da] 75)).alloc (.cells #[.slice pb bv.length cb, .slice qb bl.length db] 75)) = w1 at c1 c2 c3 c4 hxx ⊢
  go_region_held3 (fun w' => Gro w w' ∧ w'.cell? ⟨w.heap.size, 0, none⟩ = some (.slice pa av.length ca) ∧ w'.cell? ⟨w.heap.size, 1, none⟩ = some (.slice qa al.length da) ∧ w'.cell? ⟨w.heap.size + 1, 0, none⟩ = some (.slice pb bv.length cb) ∧ w'.cell? ⟨w.heap.size + 1, 1, none⟩ = some (.slice qb bl.length db))
    (first | exact ⟨hxx.drew, c1, c2, c3, c4⟩ | assumption | exact keepG4 (by assumption) hx3 | exact keepG4 (by assumption) hx2 | exact keepG4 (by assumption) ((Gro.refl _).alloc _))
    (first | (go_at_call 69; refine (compareRows_any _ _ av bv _ (by exact HA.out.ext (And.left ‹Gro w _ ∧ _›).ext.full) (by exact HB.out.ext (And.left ‹Gro w _ ∧ _›).ext.full)).mono ?_; rintro e w2 ⟨rfl, hx2⟩) | (go_at_call 70; refine (compare_ints _ _ al bl _ (by exact KA.out.ext (And.left ‹Gro w _ ∧ _›).ext.full) (by exact KB.out.ext (And.left ‹Gro w _ ∧ _›).ext.full)).mono ?_; rintro e w3 ⟨rfl, hx3⟩) | (go_at_call 37; refine (or_any _ 0 2 [cmpVals av bv, cmpInts al bl] _ (by simp [maxLen]) (by exact fun k hk => or_new w3 [cmpVals av bv, cmpInts al bl] 3 k hk)).mono ?_; rintro e w4 ⟨rfl, rfl⟩))
  all_goals (obtain ⟨hfin, _⟩ := ‹Gro w _ ∧ _›)
  all_goals go_wp2_with fail
  all_goals go_ret
  all_goals exact ⟨rfl, hfin⟩

end Go.Proofs.YtdgpbpbjlnlijaaGreat
