/- period.Valid, Intersect and the reference's; from wip/per's PerA and PerE -/
import Derived.Test.YtdgpbpbjlnlijaaGreatPlainS
import Derived.Test.YtdgpbpbjlnlijaaGreatKit
import Derived.Deep.QuietTactic
import Derived.BigQuiet
import Derived.Deep.RegionWith
namespace Go.Proofs.YtdgpbpbjlnlijaaGreat
open Go.RowKit

/-- a period as a value -/
@[reducible] def perV (a b : Int) : Value := .agg #[.int .i64 a, .int .i64 b]

set_option maxHeartbeats 400000 in
theorem valid_any (a b : Int) (w : World) :
    Calls Tryz.prog 20 #[perV a b] w fun e w' => e = .returned (.bool (validB a b)) ∧ Ext w w' := by
  go_enter Tryz.func20, Tryz.ntmps20
  go_wp2
  all_goals
    go_ret
    refine ⟨ret_bool ?_, (Below.refl _ _).alloc (Nat.le_refl _) _⟩
    simp [validB, *]
    try omega

def interB (a b c d : Int) : Bool := validB a b && validB c d && decide (max a c < min b d)
def interV (a b c d : Int) : Value := if interB a b c d = true then .tuple #[perV (max a c) (min b d), .bool true] else .tuple #[perV 0 0, .bool false]
theorem interV_no {a b c d : Int} (h : interB a b c d = false) : interV a b c d = .tuple #[perV 0 0, .bool false] := by unfold interV; rw [h]; rfl
theorem interV_yes {a b c d x y : Int} (h : interB a b c d = true) (hx : x = max a c) (hy : y = min b d) : interV a b c d = .tuple #[perV x y, .bool true] := by subst hx hy; unfold interV; rw [h]; rfl

set_option maxHeartbeats 1000000 in
theorem intersect_any (a b c d : Int) (w : World) :
    Calls Tryz.prog 16 #[perV a b, perV c d] w fun e w' => e = .returned (interV a b c d) ∧ Ext w w' := by
  cases h1 : validB a b with
  | false =>
    have hv := interV_no (a := a) (b := b) (c := c) (d := d) (by simp [interB, h1])
    have H1 := Lib.hid h1
    have HV := Lib.hid hv
    clear h1 hv
    go_enter Tryz.func16, Tryz.ntmps16
    go_wp2_with fail
    all_goals
      refine (valid_any _ _ _).mono ?_
      rintro e w1 ⟨rfl, hx1⟩
      rw [H1.out]
      have hz1 := hx1.size
      simp at hz1
      obtain ⟨hc, hf⟩ := bcell (hx1.mono (B' := w.heap.size + 4) (by simp))
      have hz2 : w.heap.size + 2 < w1.heap.size := by omega
      go_wp2_with fail
      exact bodyPost_ret (v := .tuple #[perV 0 0, .bool false]) (by simp [results, Tryz.results16, go_sem, hc]) rfl ⟨by rw [HV.out], Below.setCell (Below.setCell (((((Ext.refl w).alloc _).alloc _).alloc _).alloc _ |>.trans hx1) (by simp; omega) _) (by simp; omega) _⟩
  | true =>
    cases h2 : validB c d with
    | false =>
      have hv := interV_no (a := a) (b := b) (c := c) (d := d) (by simp [interB, h2])
      have H1 := Lib.hid h1
      have H2 := Lib.hid h2
      have HV := Lib.hid hv
      clear h1 h2 hv
      go_enter Tryz.func16, Tryz.ntmps16
      go_wp2_with fail
      all_goals
        refine (valid_any _ _ _).mono ?_
        rintro e w1 ⟨rfl, hx1⟩
        rw [H1.out]
        have hz1 := hx1.size
        simp at hz1
        obtain ⟨hc, hf⟩ := bcell (hx1.mono (B' := w.heap.size + 4) (by simp))
        go_wp2_with fail
        refine (valid_any _ _ _).mono ?_
        rintro e w2 ⟨rfl, hx2⟩
        rw [H2.out]
        have hz3 := hx2.size
        obtain ⟨hc2, hf2⟩ := bcell (hx2.mono (B' := w.heap.size + 4) (by omega))
        have hz2 : w.heap.size + 2 < w2.heap.size := by omega
        go_wp2_with fail
        exact bodyPost_ret (v := .tuple #[perV 0 0, .bool false]) (by simp [results, Tryz.results16, go_sem, hc, hc2]) rfl ⟨by rw [HV.out], Below.setCell (Below.setCell ((((((Ext.refl w).alloc _).alloc _).alloc _).alloc _ |>.trans hx1).trans hx2) (by simp; omega) _) (by simp; omega) _⟩
    | true =>
      have hv := fun (x y : Int) (hx : x = max a c) (hy : y = min b d) (h3 : x < y) => interV_yes (a := a) (b := b) (c := c) (d := d) (by simp only [interB, h1, h2, Bool.true_and, decide_eq_true_eq]; omega) hx hy
      have hw := fun h3 : ¬ max a c < min b d => interV_no (a := a) (b := b) (c := c) (d := d) (by simp [interB, h3])
      have H1 := Lib.hid h1
      have H2 := Lib.hid h2
      have HV := Lib.hid hv
      have HW := Lib.hid hw
      clear h1 h2 hv hw
      go_enter Tryz.func16, Tryz.ntmps16
      go_wp2_with fail
      all_goals
        refine (valid_any _ _ _).mono ?_
        rintro e w1 ⟨rfl, hx1⟩
        rw [H1.out]
        have hz1 := hx1.size
        simp at hz1
        obtain ⟨hc, hf⟩ := bcell (hx1.mono (B' := w.heap.size + 4) (by simp))
        go_wp2_with fail
        refine (valid_any _ _ _).mono ?_
        rintro e w2 ⟨rfl, hx2⟩
        rw [H2.out]
        have hz3 := hx2.size
        obtain ⟨hc2, hf2⟩ := bcell (hx2.mono (B' := w.heap.size + 4) (by omega))
        have hz2 : w.heap.size + 2 < w2.heap.size := by omega
        go_wp2_with fail
        · exact bodyPost_ret (v := .tuple #[perV 0 0, .bool false]) (by simp [results, Tryz.results16, go_sem, hc, hc2]) rfl ⟨by rw [HW.out (by omega)], Below.setCell (Below.setCell ((((((Ext.refl w).alloc _).alloc _).alloc _).alloc _ |>.trans hx1).trans hx2) (by simp; omega) _) (by simp; omega) _⟩
        · have hb2 : ∀ x y : Int, x = max a c → y = min b d → x < y → .tuple #[perV x y, .bool true] = interV a b c d := fun x y hx hy h => (HV.out x y hx hy h).symm
          have HB := Lib.hid hb2
          clear hb2
          first
            | exact bodyPost_ret (v := .tuple #[perV (max a c) (min b d), .bool true]) (by simp [results, Tryz.results16, go_sem, hc, hc2]) rfl ⟨by rw [HB.out _ _ rfl rfl (by omega)], Below.setCell (Below.setCell ((((((Ext.refl w).alloc _).alloc _).alloc _).alloc _ |>.trans hx1).trans hx2) (by simp; omega) _) (by simp; omega) _⟩
            | exact bodyPost_ret (v := .tuple #[perV a b, .bool true]) (by simp [results, Tryz.results16, go_sem, hc, hc2]) rfl ⟨by rw [HB.out _ _ (by omega) (by omega) (by omega)], Below.setCell (Below.setCell ((((((Ext.refl w).alloc _).alloc _).alloc _).alloc _ |>.trans hx1).trans hx2) (by simp; omega) _) (by simp; omega) _⟩
            | exact bodyPost_ret (v := .tuple #[perV a d, .bool true]) (by simp [results, Tryz.results16, go_sem, hc, hc2]) rfl ⟨by rw [HB.out _ _ (by omega) (by omega) (by omega)], Below.setCell (Below.setCell ((((((Ext.refl w).alloc _).alloc _).alloc _).alloc _ |>.trans hx1).trans hx2) (by simp; omega) _) (by simp; omega) _⟩
            | exact bodyPost_ret (v := .tuple #[perV c b, .bool true]) (by simp [results, Tryz.results16, go_sem, hc, hc2]) rfl ⟨by rw [HB.out _ _ (by omega) (by omega) (by omega)], Below.setCell (Below.setCell ((((((Ext.refl w).alloc _).alloc _).alloc _).alloc _ |>.trans hx1).trans hx2) (by simp; omega) _) (by simp; omega) _⟩
            | exact bodyPost_ret (v := .tuple #[perV c d, .bool true]) (by simp [results, Tryz.results16, go_sem, hc, hc2]) rfl ⟨by rw [HB.out _ _ (by omega) (by omega) (by omega)], Below.setCell (Below.setCell ((((((Ext.refl w).alloc _).alloc _).alloc _).alloc _ |>.trans hx1).trans hx2) (by simp; omega) _) (by simp; omega) _⟩

end Go.Proofs.YtdgpbpbjlnlijaaGreat
