/- the values that the laws build out of numbers (annalistlaw0): IntValue, Value, Vals, Period -/
import Derived.Test.YtdgpbpbjlnlijaaGreatBagB
import Derived.Test.YtdgpbpbjlnlijaaGreatKeep
import Derived.Test.YtdgpbpbjlnlijaaGreatStep
namespace Go.Proofs.YtdgpbpbjlnlijaaGreat
open Go.RowKit

/-- the value Null -/
def nV : Val := ⟨0, 0, ByteArray.empty⟩
def intVal (n : Int) : Val := ⟨1, n, ByteArray.empty⟩
theorem int_value (n : Int) (w : World) : Calls Tryz.prog 26 #[.int .i64 n] w fun e w' => e = .returned (valV (intVal n)) ∧ Ext w w' := by
  go_enter Tryz.func26, Tryz.ntmps26
  go_wp2_with fail
  exact bodyPost_ret (v := valV (intVal n)) (by simp [results, Tryz.results26, go_sem, valV, intVal]; rfl) rfl ⟨rfl, by first | exact ((Ext.refl w).alloc _) | exact Below.setCell (Below.setCell (Below.setCell ((Ext.refl w).alloc _) (by simp) _) (by simp) _) (by simp) _⟩

def genStr (x : Int) : ByteArray := if x % 3 = 0 then ⟨#[]⟩ else if x % 3 = 1 then ⟨#[97]⟩ else ⟨#[98, 39]⟩
def genV0 (x : Int) : Val := if x % 7 = 6 then nV else intVal (x % 3 - 1)
def genV1 (x : Int) : Val := if x % 7 = 6 then nV else ⟨2, 0, genStr x⟩

theorem value_0 (x : Int) (w : World) (h0 : 0 ≤ x) (h1 : x ≤ 65535) : Calls Tryz.prog 43 #[.int .i64 0, .int .u16 x] w fun e w' => e = .returned (valV (genV0 x)) ∧ Ext w w' := by
  by_cases h7 : x % 7 = 6
  · have hb : (x % 7 == 6) = true := by simp [h7]
    have hv : genV0 x = nV := if_pos h7
    have HV := Lib.hid hv
    clear h7 hv
    go_enter Tryz.func43, Tryz.ntmps43
    go_wp2_with fail
    exact bodyPost_ret (v := valV (genV0 x)) (by rw [HV.out]; simp [results, Tryz.results43, go_sem, valV, nV]; rfl) rfl ⟨rfl, (Ext.refl w).alloc _⟩
  · have hb : (x % 7 == 6) = false := by simp [h7]
    have hv : genV0 x = intVal (x % 3 - 1) := if_neg h7
    have HV := Lib.hid hv
    clear h7 hv
    go_enter Tryz.func43, Tryz.ntmps43
    go_wp2_with fail
    refine (int_value _ _).mono ?_
    rintro e w1 ⟨rfl, x1⟩
    have z1 := x1.size
    simp at z1
    have c0 := x1.at (p := ⟨w.heap.size, 0, none⟩) (v := .int .i64 0) (by go_simp)
    have c1 := x1.at (p := ⟨w.heap.size, 1, none⟩) (v := .int .i64 0) (by go_simp)
    have c2 := x1.at (p := ⟨w.heap.size, 2, none⟩) (v := .string ⟨#[]⟩) (by go_simp)
    have f0 := x1.unfrozen (p := ⟨w.heap.size, 0, none⟩) (v := .int .i64 0) (by go_simp) (by go_simp)
    have f1 := x1.unfrozen (p := ⟨w.heap.size, 1, none⟩) (v := .int .i64 0) (by go_simp) (by go_simp)
    have f2 := x1.unfrozen (p := ⟨w.heap.size, 2, none⟩) (v := .string ⟨#[]⟩) (by go_simp) (by go_simp)
    go_wp2_with fail
    exact bodyPost_ret (v := valV (genV0 x)) (by rw [HV.out]; simp [results, Tryz.results43, go_sem, valV, intVal, c0, c1, c2]) rfl ⟨rfl, Below.setCell (Below.setCell (Below.setCell (((Ext.refl w).alloc _).trans x1) (by simp) _) (by simp) _) (by simp) _⟩

theorem value_1 (x : Int) (w : World) (h0 : 0 ≤ x) (h1 : x ≤ 65535) : Calls Tryz.prog 43 #[.int .i64 1, .int .u16 x] w fun e w' => e = .returned (valV (genV1 x)) ∧ Ext w w' := by
  by_cases h7 : x % 7 = 6
  · have hb : (x % 7 == 6) = true := by simp [h7]
    have hv : genV1 x = nV := if_pos h7
    have HV := Lib.hid hv
    clear h7 hv
    go_enter Tryz.func43, Tryz.ntmps43
    go_wp2_with fail
    exact bodyPost_ret (v := valV (genV1 x)) (by rw [HV.out]; simp [results, Tryz.results43, go_sem, valV, nV]; rfl) rfl ⟨rfl, (Ext.refl w).alloc _⟩
  · have hb : (x % 7 == 6) = false := by simp [h7]
    have hv : genV1 x = ⟨2, 0, genStr x⟩ := if_neg h7
    have h3 : x % 3 = 0 ∨ x % 3 = 1 ∨ x % 3 = 2 := by omega
    unfold genStr at hv
    clear h7
    rcases h3 with h3 | h3 | h3
    all_goals
      rw [h3] at hv
      simp at hv
      have HV := Lib.hid hv
      clear hv
      go_enter Tryz.func43, Tryz.ntmps43
      go_wp2_with fail
      exact bodyPost_ret (v := valV (genV1 x)) (by rw [HV.out]; simp [results, Tryz.results43, go_sem, valV]) rfl ⟨rfl, by first | exact Below.setCell (Below.setCell (Below.setCell (((Ext.refl w).alloc _).alloc _) (by simp) _) (by simp) _) (by simp) _ | exact ((Ext.refl w).alloc _).alloc _⟩

def okVal (x : Val) : Prop := (-9223372036854775808 ≤ x.kind ∧ x.kind ≤ 9223372036854775807) ∧ (-9223372036854775808 ≤ x.n ∧ x.n ≤ 9223372036854775807) ∧ x.s.size ≤ maxLen
theorem ok_nV : okVal nV := ⟨by decide, by decide, by simp [nV, maxLen]⟩
theorem ok_genV0 (x : Int) : okVal (genV0 x) := by
  unfold genV0
  split
  · exact ok_nV
  · exact ⟨by simp [intVal], by simp [intVal]; omega, by simp [intVal, maxLen]⟩
theorem ok_genV1 (x : Int) : okVal (genV1 x) := by
  unfold genV1
  split
  · exact ok_nV
  · refine ⟨by simp, by simp, ?_⟩
    unfold genStr
    (repeat' split) <;> simp [maxLen, ByteArray.size]
/-- what the two values are that make a row -/
def genVals (x y : Int) : List Val := [genV0 x, genV1 y]
theorem vals_gen (x y : Int) (w : World) (h0 : 0 ≤ x) (h1 : x ≤ 65535) (h2 : 0 ≤ y) (h3 : y ≤ 65535) :
    Calls Tryz.prog 27 #[.int .u16 x, .int .u16 y] w fun e w' => ∃ v, e = .returned v ∧ SliceOf Rep.val (on w' (fun k => w.heap.size ≤ k)) v (genVals x y) ∧ Ext w w' := by
  go_enter Tryz.func27, Tryz.ntmps27
  go_wp2_with fail
  refine (value_0 x _ h0 h1).mono ?_
  rintro e w1 ⟨rfl, x1⟩
  go_wp2_with fail
  refine (value_1 y _ h2 h3).mono ?_
  rintro e w2 ⟨rfl, x2⟩
  go_wp2_with fail
  refine bodyPost_ret (v := .slice (some ⟨w2.heap.size, 0, none⟩) 2 2) (by simp [results, Tryz.results27, go_sem]) rfl ⟨_, rfl, ?_, (x1.trans x2).alloc _⟩
  refine SliceOf.flatOn flat_val (slice_lit Rep.val w2 _ 35 [[.int .i64 (genV0 x).kind, .int .i64 (genV0 x).n, .string (genV0 x).s], [.int .i64 (genV1 y).kind, .int .i64 (genV1 y).n, .string (genV1 y).s]] (genVals x y) rfl ⟨⟨rfl, ok_genV0 x⟩, ⟨rfl, ok_genV1 y⟩, trivial⟩ (by simp [genVals, maxLen])) fun ad n c h => ?_
  injection h with h _ _
  injection h with h
  rw [← h]
  exact (x1.trans x2).size

def genFrom (x : Int) : Int := x % 40
def genTo (x y : Int) : Int := if y % 11 = 0 then 1000000 else x % 40 + 1 + y % 15
theorem gen_per (x y : Int) : 0 ≤ genFrom x ∧ genFrom x < 40 ∧ genFrom x < genTo x y ∧ genTo x y ≤ 1000000 := by
  unfold genFrom genTo
  split <;> omega
theorem period_gen (x y : Int) (w : World) (h0 : 0 ≤ x) (h1 : x ≤ 65535) (h2 : 0 ≤ y) (h3 : y ≤ 65535) :
    Calls Tryz.prog 28 #[.int .u16 x, .int .u16 y] w fun e w' => e = .returned (.agg #[.int .i64 (genFrom x), .int .i64 (genTo x y)]) ∧ Ext w w' := by
  by_cases h7 : y % 11 = 0
  · have hb : (y % 11 == 0) = true := by simp [h7]
    have hv : genTo x y = 1000000 := if_pos h7
    have HV := Lib.hid hv
    clear h7 hv
    go_enter Tryz.func28, Tryz.ntmps28
    go_wp2_with fail
    exact bodyPost_ret (v := .agg #[.int .i64 (genFrom x), .int .i64 (genTo x y)]) (by rw [HV.out]; simp [results, Tryz.results28, go_sem, genFrom]) rfl ⟨rfl, ((Ext.refl w).alloc _).alloc _⟩
  · have hb : (y % 11 == 0) = false := by simp [h7]
    have hv : genTo x y = x % 40 + 1 + y % 15 := if_neg h7
    have HV := Lib.hid hv
    clear h7 hv
    go_enter Tryz.func28, Tryz.ntmps28
    go_wp2_with fail
    exact bodyPost_ret (v := .agg #[.int .i64 (genFrom x), .int .i64 (genTo x y)]) (by rw [HV.out]; simp [results, Tryz.results28, go_sem, genFrom]) rfl ⟨rfl, ((Ext.refl w).alloc _).alloc _⟩

end Go.Proofs.YtdgpbpbjlnlijaaGreat
