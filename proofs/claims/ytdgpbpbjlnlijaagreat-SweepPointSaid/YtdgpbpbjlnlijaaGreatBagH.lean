/- the reference's comparisons -/
import Derived.Test.YtdgpbpbjlnlijaaGreatBagF
namespace Go.Proofs.YtdgpbpbjlnlijaaGreat
open Go.RowKit

theorem bytesLess_cmp (x y : List UInt8) : Op.bytesLess x y = decide (Lib.compareBytes x y = -1) := by
  induction x generalizing y with
  | nil => cases y <;> simp [Op.bytesLess, Lib.compareBytes]
  | cons a x ih =>
    cases y with
    | nil => simp [Op.bytesLess, Lib.compareBytes]
    | cons b y =>
      simp only [Op.bytesLess, Lib.compareBytes]
      by_cases h1 : a < b
      · simp [h1]
      · by_cases h2 : b < a
        · have : a ≠ b := fun e => by subst e; exact h1 h2
          simp [h1, h2, this]
        · have : a = b := UInt8.le_antisymm (UInt8.not_lt.1 h2) (UInt8.not_lt.1 h1)
          subst this
          simp [h1, ih]

theorem cmpS_if (sa sb : ByteArray) : cmpS sa sb = if Op.bytesLess sa.toList sb.toList = true then -1 else if sa.toList = sb.toList then 0 else 1 := by
  have hr := ord_bytes.rng sa.data.toList sb.data.toList
  have he := ord_bytes.eq sa.data.toList sb.data.toList
  unfold cmpS
  rw [bytesLess_cmp, Lib.toList_data, Lib.toList_data]
  generalize Lib.compareBytes sa.data.toList sb.data.toList = s at *
  simp only [decide_eq_true_eq]
  split
  · assumption
  · split
    · exact he.2 (by assumption)
    · have : s ≠ 0 := fun e => by have := he.1 e; contradiction
      omega

theorem lexI_done {α : Type} (c : α → α → Int) (l l' : List α) (k : Nat) (hk : k ≤ l.length) (hk' : k ≤ l'.length) (h : ¬ (k < l.length ∧ k < l'.length)) :
    lexI c (l.drop k) (l'.drop k) = if l.length < l'.length then -1 else if l'.length < l.length then 1 else 0 := by
  by_cases h1 : k < l.length
  · have : k = l'.length := by omega
    subst this
    rw [List.drop_eq_nil_of_le (Nat.le_refl l'.length), List.drop_eq_getElem_cons h1, if_neg (by omega), if_pos (by omega)]
    rfl
  · have : k = l.length := by omega
    subst this
    rw [lexI_end]
    by_cases h2 : l.length < l'.length
    · rw [if_pos h2, if_pos h2]
    · rw [if_neg h2, if_neg h2, if_neg (by omega)]

end Go.Proofs.YtdgpbpbjlnlijaaGreat
