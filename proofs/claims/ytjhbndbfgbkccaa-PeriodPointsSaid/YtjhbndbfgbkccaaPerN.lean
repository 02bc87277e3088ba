/- The walk of PeriodPoints. -/
import Derived.Test.YtjhbndbfgbkccaaPerM
namespace Go.Proofs.Ytjhbndbfgbkccaa
open Go.RowKit

/-- how many of the periods include t -/
def cntP (l : List (Int × Int)) (t : Int) : Nat := (l.filter fun p => incB p.1 p.2 t).length
theorem cntP_snoc (l : List (Int × Int)) (i : Nat) (t : Int) (h : i < l.length) : cntP (l.take (i + 1)) t = cntP (l.take i) t + if incB l[i].1 l[i].2 t = true then 1 else 0 := by
  rw [List.take_succ_eq_append_getElem h]
  simp only [cntP, List.filter_append, List.length_append]
  congr 1
  by_cases e : incB l[i].1 l[i].2 t = true <;> simp [e]
theorem cntP_le (l : List (Int × Int)) (t : Int) : cntP l t ≤ l.length := List.length_filter_le _ _
theorem subL_len (a b c d : Int) : (subL a b c d).length ≤ 2 := by
  unfold subL restL; (repeat' split) <;> simp
def n0P (a b c d t : Int) : Nat := if (interB a b c d && incB (max a c) (min b d) t) = true then 1 else 0
theorem b2 {p : Prop} [Decidable p] : (decide p = true) = p := by simp
theorem pointsP (a b c d t : Int) : ((n0P a b c d t + cntP (subL a b c d) t = 1) ↔ incB a b t = true) ∧ n0P a b c d t + cntP (subL a b c d) t ≤ 1 := by
  unfold n0P subL
  by_cases h1 : validB a b = true
  · rw [if_pos h1]
    by_cases h2 : interB a b c d = true
    · rw [if_pos h2, h2, Bool.true_and]
      have g : validB c d = true ∧ max a c < min b d := by simpa [interB, h1] using h2
      obtain ⟨g0, g3⟩ := g
      have g1 := validB_lt h1
      have g2 := validB_lt g0
      have e1 : ∀ x y : Int, 0 ≤ x → x < y → y ≤ 1099511627776 → (incB x y t = true ↔ x ≤ t ∧ t < y) := by
        intro x y hx hy hz; simp [incB, validB, hx, hy, hz]
      have i1 := e1 a b g1.1 g1.2.1 g1.2.2
      have i2 := e1 (max a c) (min b d) (by omega) g3 (by omega)
      unfold restL
      by_cases p1 : a < max a c
      · have i3 := e1 a (max a c) g1.1 p1 (by omega)
        rw [if_pos p1]
        by_cases p2 : min b d < b
        · have i4 := e1 (min b d) b (by omega) p2 (by omega)
          rw [if_pos p2]
          by_cases q1 : incB (max a c) (min b d) t = true <;> by_cases q2 : incB a (max a c) t = true <;> by_cases q3 : incB (min b d) b t = true <;> by_cases q4 : incB a b t = true <;> simp [cntP, q1, q2, q3, q4] <;> simp only [q1, q2, q3, q4, true_iff, false_iff, Bool.false_eq_true] at i1 i2 i3 i4 <;> omega
        · rw [if_neg p2]
          by_cases q1 : incB (max a c) (min b d) t = true <;> by_cases q2 : incB a (max a c) t = true <;> by_cases q4 : incB a b t = true <;> simp [cntP, q1, q2, q4] <;> simp only [q1, q2, q4, true_iff, false_iff, Bool.false_eq_true] at i1 i2 i3 <;> omega
      · rw [if_neg p1]
        by_cases p2 : min b d < b
        · have i4 := e1 (min b d) b (by omega) p2 (by omega)
          rw [if_pos p2]
          by_cases q1 : incB (max a c) (min b d) t = true <;> by_cases q3 : incB (min b d) b t = true <;> by_cases q4 : incB a b t = true <;> simp [cntP, q1, q3, q4] <;> simp only [q1, q3, q4, true_iff, false_iff, Bool.false_eq_true] at i1 i2 i4 <;> omega
        · rw [if_neg p2]
          by_cases q1 : incB (max a c) (min b d) t = true <;> by_cases q4 : incB a b t = true <;> simp [cntP, q1, q4] <;> simp only [q1, q4, true_iff, false_iff, Bool.false_eq_true] at i1 i2 <;> omega
    · rw [if_neg h2]
      have h2' : interB a b c d = false := by simpa using h2
      by_cases q : incB a b t = true <;> simp [cntP, h2', q]
  · rw [if_neg h1]
    have h1' : validB a b = false := by simpa using h1
    simp [interB, h1', incB, cntP]

set_option maxHeartbeats 2000000 in
theorem PeriodPoints_walk (a b c d t : Int) (_ : (Lit.int .i64 a).wf = true) (_ : (Lit.int .i64 b).wf = true) (_ : (Lit.int .i64 c).wf = true) (_ : (Lit.int .i64 d).wf = true) (_ : (Lit.int .i64 t).wf = true) (w : World) :
    Calls Try.prog 9 #[perV a b, perV c d, .int .i64 t] w fun e w' => e = .returned (.bool true) ∧ Ext w w' := by
  obtain ⟨x, y, o, hv, ho1, ho2⟩ : ∃ x y o, interV a b c d = .tuple #[perV x y, .bool o] ∧ (o = true → incB x y t = incB (max a c) (min b d) t) ∧ o = interB a b c d := by
    cases h : interB a b c d with
    | true => exact ⟨max a c, min b d, true, interV_yes h rfl rfl, fun _ => rfl, rfl⟩
    | false => exact ⟨0, 0, false, interV_no h, (fun h => by cases h), rfl⟩
  obtain ⟨hp1, hp2⟩ := pointsP a b c d t
  have hlen := subL_len a b c d
  obtain ⟨n0, hn0, hn1⟩ : ∃ n0 : Nat, n0P a b c d t = n0 ∧ n0 = (if (o && incB x y t) = true then 1 else 0) := by
    refine ⟨_, rfl, ?_⟩
    unfold n0P
    rw [← ho2]
    cases o with
    | true => rw [ho1 rfl]
    | false => rfl
  rw [hn0] at hp1 hp2
  generalize hl : subL a b c d = l at hp1 hp2 hlen
  generalize hq : incB x y t = q at hn1
  have HL := Lib.hid hl
  have HV := Lib.hid hv
  have HQ := Lib.hid hq
  have HP := Lib.hid (And.intro hp1 hp2)
  clear hv ho1 ho2 hn0 hl hq hp1 hp2
  have hcs : (o = false ∧ n0 = 0) ∨ (o = true ∧ q = false ∧ n0 = 0) ∨ (o = true ∧ q = true ∧ n0 = 1) := by
    cases o <;> cases q <;> simp_all
  clear hn1
  rcases hcs with ⟨rfl, rfl⟩ | ⟨rfl, rfl, rfl⟩ | ⟨rfl, rfl, rfl⟩
  · go_enter Try.func9, Try.ntmps9
    go_wp2_with fail
    refine (intersect_any _ _ _ _ _).mono ?_
    rintro e w1 ⟨rfl, hx1⟩
    rw [HV.out]
    have c1 : w1.cell? ⟨w.heap.size, 0, none⟩ = some (.int .i64 a) := hx1.at (by go_simp)
    have c2 : w1.cell? ⟨w.heap.size, 1, none⟩ = some (.int .i64 b) := hx1.at (by go_simp)
    have c3 : w1.cell? ⟨w.heap.size + 1, 0, none⟩ = some (.int .i64 c) := hx1.at (by go_simp)
    have c4 : w1.cell? ⟨w.heap.size + 1, 1, none⟩ = some (.int .i64 d) := hx1.at (by go_simp)
    have hz1 : w.heap.size < w1.heap.size := cell_lt c1
    have hz2 : w.heap.size + 1 < w1.heap.size := cell_lt c3
    have hxx := ((Ext.refl w).alloc _ |>.alloc _).trans hx1
    clear hx1
    go_wp2_with fail
    refine (subtract_any _ _ _ _ _).mono ?_
    rintro e w3 ⟨v3, rfl, hs, hx3⟩
    rw [HL.out] at hs
    obtain ⟨pa, cap, rfl, hcap1, hcap2, hs⟩ := hs
    unfold maxLen at hcap2
    replace c1 := hx3.at (cell_alloc c1 _)
    replace c2 := hx3.at (cell_alloc c2 _)
    replace hxx := (hxx.alloc _).trans hx3
    clear hx3 c3 c4
    go_wp2_with fail
    go_loopg [9, 30] l.length (fun gk n i wr => ∃ k : Nat, k ≤ l.length ∧ gk = l.length - k ∧ i = .int .i64 k ∧ n = .int .i64 ((0 + cntP (l.take k) t : Nat) : Int) ∧ Ext w3 wr)
    case atStart => exact ⟨0, by omega, by omega, rfl, by simp [cntP], Ext.refl _⟩
    case round =>
      obtain ⟨k, hk, rfl, rfl, rfl, hx⟩ := hrel
      have hcl := cntP_le (l.take k) t
      have htl := List.length_take_le k l
      by_cases hlt : k < l.length
      · obtain ⟨bk, ok, rfl, hs2⟩ := or_pos hs (i := k * 2) (by rw [perCells_len]; omega)
        have d1 := hx.at (hs2 (k * 2) _ (perCells_fst l k hlt))
        have d2 := hx.at (hs2 (k * 2 + 1) _ (perCells_snd l k hlt))
        rw [← Nat.add_assoc] at d2
        have hsn := cntP_snoc l k t hlt
        generalize l[k] = p at d1 d2 hsn
        obtain ⟨p1, p2⟩ := p
        dsimp only at d1 d2 hsn
        have hd : decide ((k : Int) < (l.length : Int)) = true := by simp; omega
        generalize hN : 0 + cntP (l.take k) t = N
        have hN2 : N ≤ 10 := by omega
        have HN := Lib.hid hN
        have HS := Lib.hid hsn
        clear hN hsn hcl htl hs hs2
        go_wp2_with fail
        refine (includes_any _ _ _ _).mono ?_
        rintro e w4 ⟨rfl, hx4⟩
        replace hx := (hx.alloc _).trans hx4
        cases hB : incB p1 p2 t with
        | true =>
          have HB := Lib.hid hB
          clear hB hx4
          go_wp2_with fail
          go_roundg (l.length - (k + 1))
          case measure => omega
          case rel => exact ⟨k + 1, by omega, rfl, by go_num, by rw [HS.out, if_pos HB.out, ← Nat.add_assoc, HN.out]; go_num, hx⟩
        | false =>
          have HB := Lib.hid hB
          clear hB hx4
          go_wp2_with fail
          go_roundg (l.length - (k + 1))
          case measure => omega
          case rel => exact ⟨k + 1, by omega, rfl, by go_num, by rw [HS.out, if_neg (by rw [HB.out]; simp), Nat.add_zero, HN.out], hx⟩
      · have : k = l.length := by omega
        subst this
        have htk : l.take l.length = l := List.take_of_length_le (Nat.le_refl _)
        rw [htk]
        have hp := HP.out
        generalize hN : 0 + cntP l t = N at hp
        obtain ⟨hp1, hp2⟩ := hp
        clear hN hcl htl htk
        replace c1 := hx.at c1
        replace c2 := hx.at c2
        replace hxx := hxx.trans hx
        clear hs
        have hN : (N = 0 ∧ incB a b t = false) ∨ (N = 1 ∧ incB a b t = true) := by
          have h01 : N = 0 ∨ N = 1 := by omega
          rcases h01 with rfl | rfl
          · exact .inl ⟨rfl, Bool.eq_false_iff.2 fun h => by have := hp1.2 h; omega⟩
          · exact .inr ⟨rfl, hp1.1 rfl⟩
        clear hp1 hp2
        rcases hN with ⟨rfl, hB⟩ | ⟨rfl, hB⟩
        all_goals
          have HB := Lib.hid hB
          clear hB
          go_wp2_with fail
          refine (awake_any _).mono ?_
          rintro e w5 ⟨rfl, hx5⟩
          replace c1 := hx5.at c1
          replace c2 := hx5.at c2
          go_wp2_with fail
          refine (includes_any _ _ _ _).mono ?_
          rintro e w6 ⟨rfl, hx6⟩
          rw [HB.out]
          go_wp2_with fail
          go_ret
          exact ⟨rfl, (hxx.trans hx5).trans hx6⟩
  · go_enter Try.func9, Try.ntmps9
    go_wp2_with fail
    refine (intersect_any _ _ _ _ _).mono ?_
    rintro e w1 ⟨rfl, hx1⟩
    rw [HV.out]
    have c1 : w1.cell? ⟨w.heap.size, 0, none⟩ = some (.int .i64 a) := hx1.at (by go_simp)
    have c2 : w1.cell? ⟨w.heap.size, 1, none⟩ = some (.int .i64 b) := hx1.at (by go_simp)
    have c3 : w1.cell? ⟨w.heap.size + 1, 0, none⟩ = some (.int .i64 c) := hx1.at (by go_simp)
    have c4 : w1.cell? ⟨w.heap.size + 1, 1, none⟩ = some (.int .i64 d) := hx1.at (by go_simp)
    have hz1 : w.heap.size < w1.heap.size := cell_lt c1
    have hz2 : w.heap.size + 1 < w1.heap.size := cell_lt c3
    have hxx := ((Ext.refl w).alloc _ |>.alloc _).trans hx1
    clear hx1
    go_wp2_with fail
    refine (includes_any _ _ _ _).mono ?_
    rintro e w2 ⟨rfl, hx2⟩
    rw [HQ.out]
    replace c1 := hx2.at (cell_alloc c1 _)
    replace c2 := hx2.at (cell_alloc c2 _)
    replace c3 := hx2.at (cell_alloc c3 _)
    replace c4 := hx2.at (cell_alloc c4 _)
    replace hxx := (hxx.alloc _).trans hx2
    clear hx2
    go_wp2_with fail
    refine (subtract_any _ _ _ _ _).mono ?_
    rintro e w3 ⟨v3, rfl, hs, hx3⟩
    rw [HL.out] at hs
    obtain ⟨pa, cap, rfl, hcap1, hcap2, hs⟩ := hs
    unfold maxLen at hcap2
    replace c1 := hx3.at c1
    replace c2 := hx3.at c2
    replace hxx := hxx.trans hx3
    clear hx3 c3 c4
    go_wp2_with fail
    go_loopg [9, 30] l.length (fun gk n i wr => ∃ k : Nat, k ≤ l.length ∧ gk = l.length - k ∧ i = .int .i64 k ∧ n = .int .i64 ((0 + cntP (l.take k) t : Nat) : Int) ∧ Ext w3 wr)
    case atStart => exact ⟨0, by omega, by omega, rfl, by simp [cntP], Ext.refl _⟩
    case round =>
      obtain ⟨k, hk, rfl, rfl, rfl, hx⟩ := hrel
      have hcl := cntP_le (l.take k) t
      have htl := List.length_take_le k l
      by_cases hlt : k < l.length
      · obtain ⟨bk, ok, rfl, hs2⟩ := or_pos hs (i := k * 2) (by rw [perCells_len]; omega)
        have d1 := hx.at (hs2 (k * 2) _ (perCells_fst l k hlt))
        have d2 := hx.at (hs2 (k * 2 + 1) _ (perCells_snd l k hlt))
        rw [← Nat.add_assoc] at d2
        have hsn := cntP_snoc l k t hlt
        generalize l[k] = p at d1 d2 hsn
        obtain ⟨p1, p2⟩ := p
        dsimp only at d1 d2 hsn
        have hd : decide ((k : Int) < (l.length : Int)) = true := by simp; omega
        generalize hN : 0 + cntP (l.take k) t = N
        have hN2 : N ≤ 10 := by omega
        have HN := Lib.hid hN
        have HS := Lib.hid hsn
        clear hN hsn hcl htl hs hs2
        go_wp2_with fail
        refine (includes_any _ _ _ _).mono ?_
        rintro e w4 ⟨rfl, hx4⟩
        replace hx := (hx.alloc _).trans hx4
        cases hB : incB p1 p2 t with
        | true =>
          have HB := Lib.hid hB
          clear hB hx4
          go_wp2_with fail
          go_roundg (l.length - (k + 1))
          case measure => omega
          case rel => exact ⟨k + 1, by omega, rfl, by go_num, by rw [HS.out, if_pos HB.out, ← Nat.add_assoc, HN.out]; go_num, hx⟩
        | false =>
          have HB := Lib.hid hB
          clear hB hx4
          go_wp2_with fail
          go_roundg (l.length - (k + 1))
          case measure => omega
          case rel => exact ⟨k + 1, by omega, rfl, by go_num, by rw [HS.out, if_neg (by rw [HB.out]; simp), Nat.add_zero, HN.out], hx⟩
      · have : k = l.length := by omega
        subst this
        have htk : l.take l.length = l := List.take_of_length_le (Nat.le_refl _)
        rw [htk]
        have hp := HP.out
        generalize hN : 0 + cntP l t = N at hp
        obtain ⟨hp1, hp2⟩ := hp
        clear hN hcl htl htk
        replace c1 := hx.at c1
        replace c2 := hx.at c2
        replace hxx := hxx.trans hx
        clear hs
        have hN : (N = 0 ∧ incB a b t = false) ∨ (N = 1 ∧ incB a b t = true) := by
          have h01 : N = 0 ∨ N = 1 := by omega
          rcases h01 with rfl | rfl
          · exact .inl ⟨rfl, Bool.eq_false_iff.2 fun h => by have := hp1.2 h; omega⟩
          · exact .inr ⟨rfl, hp1.1 rfl⟩
        clear hp1 hp2
        rcases hN with ⟨rfl, hB⟩ | ⟨rfl, hB⟩
        all_goals
          have HB := Lib.hid hB
          clear hB
          go_wp2_with fail
          refine (awake_any _).mono ?_
          rintro e w5 ⟨rfl, hx5⟩
          replace c1 := hx5.at c1
          replace c2 := hx5.at c2
          go_wp2_with fail
          refine (includes_any _ _ _ _).mono ?_
          rintro e w6 ⟨rfl, hx6⟩
          rw [HB.out]
          go_wp2_with fail
          go_ret
          exact ⟨rfl, (hxx.trans hx5).trans hx6⟩
  · go_enter Try.func9, Try.ntmps9
    go_wp2_with fail
    refine (intersect_any _ _ _ _ _).mono ?_
    rintro e w1 ⟨rfl, hx1⟩
    rw [HV.out]
    have c1 : w1.cell? ⟨w.heap.size, 0, none⟩ = some (.int .i64 a) := hx1.at (by go_simp)
    have c2 : w1.cell? ⟨w.heap.size, 1, none⟩ = some (.int .i64 b) := hx1.at (by go_simp)
    have c3 : w1.cell? ⟨w.heap.size + 1, 0, none⟩ = some (.int .i64 c) := hx1.at (by go_simp)
    have c4 : w1.cell? ⟨w.heap.size + 1, 1, none⟩ = some (.int .i64 d) := hx1.at (by go_simp)
    have hz1 : w.heap.size < w1.heap.size := cell_lt c1
    have hz2 : w.heap.size + 1 < w1.heap.size := cell_lt c3
    have hxx := ((Ext.refl w).alloc _ |>.alloc _).trans hx1
    clear hx1
    go_wp2_with fail
    refine (includes_any _ _ _ _).mono ?_
    rintro e w2 ⟨rfl, hx2⟩
    rw [HQ.out]
    replace c1 := hx2.at (cell_alloc c1 _)
    replace c2 := hx2.at (cell_alloc c2 _)
    replace c3 := hx2.at (cell_alloc c3 _)
    replace c4 := hx2.at (cell_alloc c4 _)
    replace hxx := (hxx.alloc _).trans hx2
    clear hx2
    go_wp2_with fail
    refine (subtract_any _ _ _ _ _).mono ?_
    rintro e w3 ⟨v3, rfl, hs, hx3⟩
    rw [HL.out] at hs
    obtain ⟨pa, cap, rfl, hcap1, hcap2, hs⟩ := hs
    unfold maxLen at hcap2
    replace c1 := hx3.at c1
    replace c2 := hx3.at c2
    replace hxx := hxx.trans hx3
    clear hx3 c3 c4
    go_wp2_with fail
    go_loopg [9, 30] l.length (fun gk n i wr => ∃ k : Nat, k ≤ l.length ∧ gk = l.length - k ∧ i = .int .i64 k ∧ n = .int .i64 ((1 + cntP (l.take k) t : Nat) : Int) ∧ Ext w3 wr)
    case atStart => exact ⟨0, by omega, by omega, rfl, by simp [cntP], Ext.refl _⟩
    case round =>
      obtain ⟨k, hk, rfl, rfl, rfl, hx⟩ := hrel
      have hcl := cntP_le (l.take k) t
      have htl := List.length_take_le k l
      by_cases hlt : k < l.length
      · obtain ⟨bk, ok, rfl, hs2⟩ := or_pos hs (i := k * 2) (by rw [perCells_len]; omega)
        have d1 := hx.at (hs2 (k * 2) _ (perCells_fst l k hlt))
        have d2 := hx.at (hs2 (k * 2 + 1) _ (perCells_snd l k hlt))
        rw [← Nat.add_assoc] at d2
        have hsn := cntP_snoc l k t hlt
        generalize l[k] = p at d1 d2 hsn
        obtain ⟨p1, p2⟩ := p
        dsimp only at d1 d2 hsn
        have hd : decide ((k : Int) < (l.length : Int)) = true := by simp; omega
        generalize hN : 1 + cntP (l.take k) t = N
        have hN2 : N ≤ 10 := by omega
        have HN := Lib.hid hN
        have HS := Lib.hid hsn
        clear hN hsn hcl htl hs hs2
        go_wp2_with fail
        refine (includes_any _ _ _ _).mono ?_
        rintro e w4 ⟨rfl, hx4⟩
        replace hx := (hx.alloc _).trans hx4
        cases hB : incB p1 p2 t with
        | true =>
          have HB := Lib.hid hB
          clear hB hx4
          go_wp2_with fail
          go_roundg (l.length - (k + 1))
          case measure => omega
          case rel => exact ⟨k + 1, by omega, rfl, by go_num, by rw [HS.out, if_pos HB.out, ← Nat.add_assoc, HN.out]; go_num, hx⟩
        | false =>
          have HB := Lib.hid hB
          clear hB hx4
          go_wp2_with fail
          go_roundg (l.length - (k + 1))
          case measure => omega
          case rel => exact ⟨k + 1, by omega, rfl, by go_num, by rw [HS.out, if_neg (by rw [HB.out]; simp), Nat.add_zero, HN.out], hx⟩
      · have : k = l.length := by omega
        subst this
        have htk : l.take l.length = l := List.take_of_length_le (Nat.le_refl _)
        rw [htk]
        have hp := HP.out
        generalize hN : 1 + cntP l t = N at hp
        obtain ⟨hp1, hp2⟩ := hp
        clear hN hcl htl htk
        replace c1 := hx.at c1
        replace c2 := hx.at c2
        replace hxx := hxx.trans hx
        clear hs
        have hN : (N = 0 ∧ incB a b t = false) ∨ (N = 1 ∧ incB a b t = true) := by
          have h01 : N = 0 ∨ N = 1 := by omega
          rcases h01 with rfl | rfl
          · exact .inl ⟨rfl, Bool.eq_false_iff.2 fun h => by have := hp1.2 h; omega⟩
          · exact .inr ⟨rfl, hp1.1 rfl⟩
        clear hp1 hp2
        rcases hN with ⟨rfl, hB⟩ | ⟨rfl, hB⟩
        all_goals
          have HB := Lib.hid hB
          clear hB
          go_wp2_with fail
          refine (awake_any _).mono ?_
          rintro e w5 ⟨rfl, hx5⟩
          replace c1 := hx5.at c1
          replace c2 := hx5.at c2
          go_wp2_with fail
          refine (includes_any _ _ _ _).mono ?_
          rintro e w6 ⟨rfl, hx6⟩
          rw [HB.out]
          go_wp2_with fail
          go_ret
          exact ⟨rfl, (hxx.trans hx5).trans hx6⟩

end Go.Proofs.Ytjhbndbfgbkccaa
