/- the reference's comparisons -/
import Derived.Test.YtmjfbfigdkolaaaBagF
namespace Go.Proofs.Ytmjfbfigdkolaaa
open Go.RowKit

theorem bytesLess_cmp (x y : List UInt8) : Op.bytesLess x y = decide (Lib.compareBytes x y = -1) := by
  induction x generalizing y with
  | nil => cases y <;> simp [Op.bytesLess, Lib.compareBytes]
  | cons a x ih =>
    cases y with
    | nil => simp [Op.bytesLess, Lib.compareBytes]
    | cons b y =>
      simp only [Op.bytesLess, Lib.compareBytes]
      by_cases h1 : a < b
      · simp [h1]
      · by_cases h2 : b < a
        · have : a ≠ b := fun e => by subst e; exact h1 h2
          simp [h1, h2, this]
        · have : a = b := UInt8.le_antisymm (UInt8.not_lt.1 h2) (UInt8.not_lt.1 h1)
          subst this
          simp [h1, ih]

theorem cmpS_if (sa sb : ByteArray) : cmpS sa sb = if Op.bytesLess sa.toList sb.toList = true then -1 else if sa.toList = sb.toList then 0 else 1 := by
  have hr := ord_bytes.rng sa.data.toList sb.data.toList
  have he := ord_bytes.eq sa.data.toList sb.data.toList
  unfold cmpS
  rw [bytesLess_cmp, Lib.toList_data, Lib.toList_data]
  generalize Lib.compareBytes sa.data.toList sb.data.toList = s at *
  simp only [decide_eq_true_eq]
  split
  · assumption
  · split
    · exact he.2 (by assumption)
    · have : s ≠ 0 := fun e => by have := he.1 e; contradiction
      omega

set_option maxHeartbeats 2000000 in
theorem ref_compare (a b : Val) (w : World) : Calls Try.prog 66 #[valV a, valV b] w fun e w' => e = .returned (.int .i64 (cmpVal a b)) ∧ Gro w w' := by
  obtain ⟨ak, an, sa⟩ := a
  obtain ⟨bk, bn, sb⟩ := b
  unfold cmpVal
  dsimp only
  go_enter Try.func66, Try.ntmps66
  go_wp2_with fail
  all_goals go_ret
  all_goals refine ⟨ret_int ?_, ((Gro.refl w).alloc _).alloc _⟩
  all_goals simp only [orI, cmpI, cmpS_if]
  all_goals ((repeat' split) <;> first | rfl | omega | contradiction | simp_all)

theorem lexI_done {α : Type} (c : α → α → Int) (l l' : List α) (k : Nat) (hk : k ≤ l.length) (hk' : k ≤ l'.length) (h : ¬ (k < l.length ∧ k < l'.length)) :
    lexI c (l.drop k) (l'.drop k) = if l.length < l'.length then -1 else if l'.length < l.length then 1 else 0 := by
  by_cases h1 : k < l.length
  · have : k = l'.length := by omega
    subst this
    rw [List.drop_eq_nil_of_le (Nat.le_refl l'.length), List.drop_eq_getElem_cons h1, if_neg (by omega), if_pos (by omega)]
    rfl
  · have : k = l.length := by omega
    subst this
    rw [lexI_end]
    by_cases h2 : l.length < l'.length
    · rw [if_pos h2, if_pos h2]
    · rw [if_neg h2, if_neg h2, if_neg (by omega)]

set_option maxHeartbeats 2000000 in
theorem ref_compareInts (va vb : Value) (l l' : List Int) (w : World) (ha : SliceOf Rep.int w.cell? va l) (hb : SliceOf Rep.int w.cell? vb l') :
    Calls Try.prog 74 #[va, vb] w
      fun e w' => e = .returned (.int .i64 (cmpInts l l')) ∧ Gro w w' := by
  obtain ⟨pa, ca, rfl, ha1, ha2, ha3⟩ := ha.form
  obtain ⟨pb, cb, rfl, hb1, hb2, hb3⟩ := hb.form
  unfold maxLen at ha2 hb2
  go_enter Try.func74, Try.ntmps74
  go_wp2_with fail
  go_loopg [5] l.length (fun gk i wr => ∃ k : Nat, k ≤ l.length ∧ gk = l.length - k ∧ i = .int .i64 k ∧ (k ≤ l'.length ∧ cmpInts l l' = lexI cmpI (l.drop k) (l'.drop k)) ∧ Gro w wr)
  case atStart => exact ⟨0, by omega, rfl, rfl, ⟨by omega, rfl⟩, Gro.refl w⟩
  case round =>
    obtain ⟨k, hk, rfl, rfl, ⟨hk2, hc⟩, hx⟩ := hrel
    have HC := Lib.hid hc
    clear hc
    by_cases hlt : k < l.length ∧ k < l'.length
    · obtain ⟨hlt, hlt2⟩ := hlt
      obtain ⟨ba, oa, rfl⟩ := ha3 (by decide) (by omega)
      obtain ⟨c1, _⟩ := int_at ha k hlt
      replace c1 := hx.at c1
      have hd : decide ((k : Int) < (l.length : Int)) = true := by simp; omega
      have hd1 : (k : Int) < (l.length : Int) := by omega
      obtain ⟨bb, ob, rfl⟩ := hb3 (by decide) (by omega)
      obtain ⟨d1, _⟩ := int_at hb k hlt2
      replace d1 := hx.at d1
      have hdr := lexI_drop cmpI l l' k hlt hlt2
      have hdb : decide ((k : Int) < (l'.length : Int)) = true := by simp; omega
      have hd2 : (k : Int) < (l'.length : Int) := by omega
      generalize l[k] = x at c1 hdr
      generalize l'[k] = y at d1 hdr
      have HD := Lib.hid hdr
      clear hdr ha hb ha3 hb3
      rcases Int.lt_trichotomy x y with h | h | h
      · have hb1 : decide (x < y) = true := by simp [h]
        have HQ := Lib.hid h
        clear h
        go_wp2_with fail
        go_quiet (fail)
        go_wp2_with fail
        go_ret
        exact ⟨ret_int (by rw [HC.out, HD.out]; have := HQ.out; simp [cmpI, this]), hx.drewN _⟩
      · have hb1 : decide (x < y) = false := by simp; omega
        have hb2 : decide (y < x) = false := by simp; omega
        have hb3 : decide (x > y) = false := by simp; omega
        have HQ := Lib.hid h
        clear h
        go_wp2_with fail
        go_quiet (fail)
        go_wp2_with fail
        go_quiet (fail)
        go_wp2_with fail
        go_roundg (l.length - (k + 1))
        case measure => omega
        case rel => exact ⟨k + 1, by omega, rfl, by go_num, ⟨by omega, by rw [HC.out, HD.out]; have := HQ.out; simp [cmpI, this]⟩, by first | exact hx.drewN _ | exact (hx.drewN _).drewN _⟩
      · have hb1 : decide (x < y) = false := by simp; omega
        have hb2 : decide (y < x) = true := by simp; omega
        have hb3 : decide (x > y) = true := by simp; omega
        have HQ := Lib.hid h
        clear h
        go_wp2_with fail
        go_quiet (fail)
        go_wp2_with fail
        go_quiet (fail)
        go_wp2_with fail
        go_ret
        exact ⟨ret_int (by rw [HC.out, HD.out]; have := HQ.out; have h2 : ¬ x < y := (by omega); simp [cmpI, this, h2]), (hx.drewN _).drewN _⟩
    · have hend := lexI_done cmpI l l' k hk hk2 hlt
      have HE := Lib.hid hend
      clear hend
      by_cases hk3 : k < l.length
      · have hd : decide ((k : Int) < (l.length : Int)) = true := by simp; omega
        have hdb : decide ((k : Int) < (l'.length : Int)) = false := by simp; omega
        go_wp2_with fail
        all_goals go_ret
        all_goals exact ⟨ret_int (by rw [HC.out, HE.out]; (repeat' split) <;> first | rfl | omega), hx⟩
      · have hd : decide ((k : Int) < (l.length : Int)) = false := by simp; omega
        go_wp2_with fail
        all_goals go_ret
        all_goals exact ⟨ret_int (by rw [HC.out, HE.out]; (repeat' split) <;> first | rfl | omega), hx⟩

end Go.Proofs.Ytmjfbfigdkolaaa
