/- Contracts of SameInts and SamePeriods of the reference: whether two slices hold the same. -/
import Derived.Test.YtjhbndbfgbkccaaPerF
namespace Go.Proofs.Ytjhbndbfgbkccaa
open Go.RowKit

def intCells (l : List Int) : List Value := l.map (Value.int .i64)

theorem or_pos {xs : List Value} {P : Prop} (h : xs = [] ∨ P) {i : Nat} (hi : i < xs.length) : P := h.resolve_left (by intro e; rw [e] at hi; simp at hi)
theorem perCells_len (l : List (Int × Int)) : (perCells l).length = l.length * 2 := by
  induction l with
  | nil => rfl
  | cons x l ih => rw [show x :: l = [x] ++ l from rfl, perCells_app, List.length_append, ih]; simp [perCells]; omega
theorem perCells_at (l : List (Int × Int)) (i : Nat) (h : i < l.length) : (perCells l)[i * 2]? = some (.int .i64 l[i].1) ∧ (perCells l)[i * 2 + 1]? = some (.int .i64 l[i].2) := by
  induction l generalizing i with
  | nil => simp at h
  | cons x l ih =>
    have e : perCells (x :: l) = .int .i64 x.1 :: .int .i64 x.2 :: perCells l := rfl
    rw [e]
    cases i with
    | zero => exact ⟨rfl, rfl⟩
    | succ i =>
      have e1 : (i + 1) * 2 = i * 2 + 1 + 1 := by omega
      rw [e1]
      exact ih i (by simpa using h)
theorem perCells_fst (l : List (Int × Int)) (i : Nat) (h : i < l.length) : (perCells l)[i * 2]? = some (.int .i64 l[i].1) := (perCells_at l i h).1
theorem perCells_snd (l : List (Int × Int)) (i : Nat) (h : i < l.length) : (perCells l)[i * 2 + 1]? = some (.int .i64 l[i].2) := (perCells_at l i h).2

set_option maxHeartbeats 1000000 in
theorem sameInts_any (va vb : Value) (l l' : List Int) (w : World) (ha : SliceAt w va l.length (intCells l)) (hb : SliceAt w vb l'.length (intCells l')) :
    Calls Try.prog 14 #[va, vb] w fun e w' => e = .returned (.bool (decide (l = l'))) ∧ Ext w w' := by
  obtain ⟨pa, ca, rfl, hna, hca, ha⟩ := ha
  obtain ⟨pb, cb, rfl, hnb, hcb, hb⟩ := hb
  unfold maxLen at hca hcb
  by_cases hl : l.length = l'.length
  · have hlb : ((l.length : Int) != (l'.length : Int)) = false := by simp [hl]
    have hle : l'.length ≤ l.length := by omega
    have hge : l.length ≤ l'.length := by omega
    clear hl
    go_enter Try.func14, Try.ntmps14
    go_wp2_with fail
    go_loopg [5] l.length (fun gk t wr => ∃ i : Nat, i ≤ l.length ∧ gk = l.length - i ∧ t = .int .i64 i ∧ l.take i = l'.take i ∧ Ext w wr)
    case atStart => exact ⟨0, by omega, by omega, rfl, by simp, Ext.refl w⟩
    case round =>
      obtain ⟨i, hi, rfl, rfl, htk, hx⟩ := hrel
      have HT := Lib.hid htk
      clear htk
      by_cases hlt : i < l.length
      · have ha' := or_pos ha (i := i) (by simp [intCells]; omega)
        have hb' := or_pos hb (i := i) (by simp [intCells]; omega)
        obtain ⟨ba, oa, rfl, ha'⟩ := ha'
        obtain ⟨bb, ob, rfl, hb'⟩ := hb'
        have c1 := hx.at (ha' i (.int .i64 (l[i]'hlt)) (by simp [intCells, hlt]))
        have c2 := hx.at (hb' i (.int .i64 (l'[i]'(by omega))) (by simp [intCells]))
        clear ha hb ha' hb'
        generalize hp : l[i]'hlt = p at c1
        generalize hq : l'[i]'(by omega) = q at c2
        have Hp := Lib.hid hp
        have Hq := Lib.hid hq
        clear hp hq
        have hi1 : (i : Int) < (l.length : Int) := by omega
        have hi2 : (i : Int) < (l'.length : Int) := by omega
        have hd : decide ((i : Int) < (l.length : Int)) = true := by simp; omega
        by_cases hpq : p = q
        · have hd2 : (p != q) = false := by simp [hpq]
          have HPQ := Lib.hid hpq
          clear hpq
          go_wp2_with fail
          go_quiet (fail)
          go_wp2_with fail
          go_roundg (l.length - (i + 1))
          case measure => omega
          case rel => exact ⟨i + 1, by omega, rfl, by go_num, take_eq_succ HT.out hlt (by omega) (Hp.out.trans (HPQ.out.trans Hq.out.symm)), hx.drewN _⟩
        · have hd2 : (p != q) = true := by simp [hpq]
          have HPQ := Lib.hid hpq
          clear hpq
          go_wp2_with fail
          go_quiet (fail)
          go_wp2_with fail
          go_ret
          exact ⟨ret_bool (Eq.symm (decide_eq_false (fun h => HPQ.out (by rw [← Hp.out, ← Hq.out]; simp [h])))), hx.drewN _⟩
      · have : i = l.length := by omega
        subst this
        go_wp2_with fail
        go_ret
        refine ⟨ret_bool (Eq.symm (decide_eq_true ?_)), hx⟩
        have := HT.out
        rwa [List.take_of_length_le (Nat.le_refl _), List.take_of_length_le hle] at this
  · have hlb : ((l.length : Int) != (l'.length : Int)) = true := by simp; omega
    have HL := Lib.hid hl
    clear hl
    go_enter Try.func14, Try.ntmps14
    go_wp2_with fail
    go_ret
    exact ⟨ret_bool (Eq.symm (decide_eq_false (fun h => HL.out (by rw [h])))), Ext.refl w⟩

set_option maxHeartbeats 1000000 in
theorem samePeriods_any (va vb : Value) (l l' : List (Int × Int)) (w : World) (ha : SliceAt w va l.length (perCells l)) (hb : SliceAt w vb l'.length (perCells l')) :
    Calls Try.prog 26 #[va, vb] w fun e w' => e = .returned (.bool (decide (l = l'))) ∧ Ext w w' := by
  obtain ⟨pa, ca, rfl, hna, hca, ha⟩ := ha
  obtain ⟨pb, cb, rfl, hnb, hcb, hb⟩ := hb
  unfold maxLen at hca hcb
  by_cases hl : l.length = l'.length
  · have hlb : ((l.length : Int) != (l'.length : Int)) = false := by simp [hl]
    have hle : l'.length ≤ l.length := by omega
    have hge : l.length ≤ l'.length := by omega
    clear hl
    go_enter Try.func26, Try.ntmps26
    go_wp2_with fail
    go_loopg [5] l.length (fun gk t wr => ∃ i : Nat, i ≤ l.length ∧ gk = l.length - i ∧ t = .int .i64 i ∧ l.take i = l'.take i ∧ Ext w wr)
    case atStart => exact ⟨0, by omega, by omega, rfl, by simp, Ext.refl w⟩
    case round =>
      obtain ⟨i, hi, rfl, rfl, htk, hx⟩ := hrel
      have HT := Lib.hid htk
      clear htk
      by_cases hlt : i < l.length
      · have ha' := or_pos ha (i := i) (by simp [perCells_len]; omega)
        have hb' := or_pos hb (i := i) (by simp [perCells_len]; omega)
        obtain ⟨ba, oa, rfl, ha'⟩ := ha'
        obtain ⟨bb, ob, rfl, hb'⟩ := hb'
        have c1 := hx.at (ha' (i * 2) _ (perCells_fst l i hlt))
        have c2 := hx.at (ha' (i * 2 + 1) _ (perCells_snd l i hlt))
        have c3 := hx.at (hb' (i * 2) _ (perCells_fst l' i (by omega)))
        have c4 := hx.at (hb' (i * 2 + 1) _ (perCells_snd l' i (by omega)))
        rw [← Nat.add_assoc] at c2 c4
        clear ha hb ha' hb'
        generalize hp : l[i]'hlt = p at c1 c2
        generalize hq : l'[i]'(by omega) = q at c3 c4
        have Hp := Lib.hid hp
        have Hq := Lib.hid hq
        clear hp hq
        have hi1 : (i : Int) < (l.length : Int) := by omega
        have hi2 : (i : Int) < (l'.length : Int) := by omega
        have hd : decide ((i : Int) < (l.length : Int)) = true := by simp; omega
        by_cases hpq : p = q
        · have hd2 : (p != q) = false := by simp [hpq]
          subst hpq
          go_wp2_with fail
          go_quiet (fail)
          go_wp2_with fail
          go_roundg (l.length - (i + 1))
          case measure => omega
          case rel => exact ⟨i + 1, by omega, rfl, by go_num, take_eq_succ HT.out hlt (by omega) (Hp.out.trans Hq.out.symm), hx.drewN _⟩
        · have hor : (p.1 == q.1) = false ∨ ((p.1 == q.1) = true ∧ (p.2 == q.2) = false) := by
            rcases hpq1 : (p.1 == q.1) with _ | _
            · exact .inl rfl
            · refine .inr ⟨rfl, ?_⟩
              rw [beq_iff_eq] at hpq1
              exact beq_eq_false_iff_ne.2 fun h => hpq (Prod.ext hpq1 h)
          have HPQ := Lib.hid hpq
          clear hpq
          rcases hor with hd2 | ⟨hd2, hd3⟩
          all_goals
            go_wp2_with fail
            go_quiet (fail)
            go_wp2_with fail
            go_ret
            exact ⟨ret_bool (Eq.symm (decide_eq_false (fun h => HPQ.out (by rw [← Hp.out, ← Hq.out]; simp [h])))), hx.drewN _⟩
      · have : i = l.length := by omega
        subst this
        go_wp2_with fail
        go_ret
        refine ⟨ret_bool (Eq.symm (decide_eq_true ?_)), hx⟩
        have := HT.out
        rwa [List.take_of_length_le (Nat.le_refl _), List.take_of_length_le hle] at this
  · have hlb : ((l.length : Int) != (l'.length : Int)) = true := by simp; omega
    have HL := Lib.hid hl
    clear hl
    go_enter Try.func26, Try.ntmps26
    go_wp2_with fail
    go_ret
    exact ⟨ret_bool (Eq.symm (decide_eq_false (fun h => HL.out (by rw [h])))), Ext.refl w⟩

end Go.Proofs.Ytjhbndbfgbkccaa
