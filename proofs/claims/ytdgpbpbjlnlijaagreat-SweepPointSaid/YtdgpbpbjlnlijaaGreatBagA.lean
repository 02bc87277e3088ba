/- Contracts of the comparisons: cmp.Compare at int and int64, cmp.Or at int, value.Compare, value.CompareRows, slices.Compare, bag.Compare. -/
import Derived.Test.YtdgpbpbjlnlijaaGreatProg
import Derived.Test.YtdgpbpbjlnlijaaGreatRep
import Derived.Deep.QuietTactic
import Derived.BigQuiet
import Derived.Deep.RegionHeld3
namespace Go.Proofs.YtdgpbpbjlnlijaaGreat
open Go.RowKit

/-- -1, 0 or 1 as a is less than, equal to or greater than b -/
def cmpI (a b : Int) : Int := if a < b then -1 else if b < a then 1 else 0

theorem isNaN_int (a : Int) (w : World) : Calls Tryz.prog 31 #[.int .i64 a] w fun e w' => e = .returned (.bool false) ∧ w = w' := by
  go_enter Tryz.func31, Tryz.ntmps31
  go_wp2
  go_ret
  exact ⟨rfl, rfl⟩
theorem isNaN_int64 (a : Int) (w : World) : Calls Tryz.prog 110 #[.int .i64 a] w fun e w' => e = .returned (.bool false) ∧ w = w' := by
  go_enter Tryz.func110, Tryz.ntmps110
  go_wp2
  go_ret
  exact ⟨rfl, rfl⟩
theorem compare_int (a b : Int) (w : World) : Calls Tryz.prog 14 #[.int .i64 a, .int .i64 b] w fun e w' => e = .returned (.int .i64 (cmpI a b)) ∧ w = w' := by
  go_enter Tryz.func14, Tryz.ntmps14
  go_wp2_with (go_at_call 31; refine (isNaN_int _ _).mono ?_; rintro e w' ⟨rfl, rfl⟩)
  all_goals
    go_ret
    refine ⟨ret_int ?_, rfl⟩
    unfold cmpI
    repeat (first | rw [if_pos (by omega)] | rw [if_neg (by omega)])
theorem compare_int64 (a b : Int) (w : World) : Calls Tryz.prog 99 #[.int .i64 a, .int .i64 b] w fun e w' => e = .returned (.int .i64 (cmpI a b)) ∧ w = w' := by
  go_enter Tryz.func99, Tryz.ntmps99
  go_wp2_with (go_at_call 110; refine (isNaN_int64 _ _).mono ?_; rintro e w' ⟨rfl, rfl⟩)
  all_goals
    go_ret
    refine ⟨ret_int ?_, rfl⟩
    unfold cmpI
    repeat (first | rw [if_pos (by omega)] | rw [if_neg (by omega)])

/-- the first that is not 0 -/
def orI : List Int → Int
  | [] => 0
  | x :: xs => if x = 0 then orI xs else x
theorem orI_drop (l : List Int) (k : Nat) (hk : k < l.length) : orI (l.drop k) = if l[k] = 0 then orI (l.drop (k + 1)) else l[k] := by
  rw [List.drop_eq_getElem_cons hk]; rfl

set_option maxHeartbeats 1000000 in
theorem or_any (b o cap : Nat) (l : List Int) (w : World) (hcap : l.length ≤ maxLen) (hl : ∀ k (h : k < l.length), w.cell? ⟨b, o + k, none⟩ = some (.int .i64 l[k])) :
    Calls Tryz.prog 37 #[.slice (some ⟨b, o, none⟩) l.length cap] w fun e w' => e = .returned (.int .i64 (orI l)) ∧ w = w' := by
  unfold maxLen at hcap
  go_enter Tryz.func37, Tryz.ntmps37
  go_wp2_with fail
  go_loop [8] (fun i => ∃ k : Nat, k ≤ l.length ∧ i = .int .i64 k ∧ orI l = orI (l.drop k)) (fun i => l.length - (intOf i).toNat)
  case atStart => exact ⟨0, by omega, rfl, rfl⟩
  case round =>
    obtain ⟨k, hk, rfl, ho⟩ := hrel
    have HO := Lib.hid ho
    clear ho
    by_cases hlt : k < l.length
    · have c := hl k hlt
      have hd := orI_drop l k hlt
      generalize l[k] = x at c hd
      have hdi : decide ((k : Int) < (l.length : Int)) = true := by simp; omega
      have hdj : (k : Int) < (l.length : Int) := by omega
      have HD := Lib.hid hd
      clear hd hl
      by_cases hx : x = 0
      · have hb : (x != 0) = false := by simp [hx]
        have HX := Lib.hid hx
        clear hx
        go_wp2_with fail
        go_round
        case rel => exact ⟨k + 1, by omega, by go_num, by rw [HO.out, HD.out, if_pos HX.out]⟩
        case measure => simp [intOf]; omega
      · have hb : (x != 0) = true := by simp [hx]
        have HX := Lib.hid hx
        clear hx
        go_wp2_with fail
        go_ret
        exact ⟨ret_int (by rw [HO.out, HD.out, if_neg HX.out]), rfl⟩
    · have : k = l.length := by omega
      subst this
      go_wp2_with fail
      go_ret
      exact ⟨ret_int (by rw [HO.out, List.drop_length]; rfl), rfl⟩

end Go.Proofs.YtdgpbpbjlnlijaaGreat
