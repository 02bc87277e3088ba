/- joined texts of a proof: SplJ, Tab3, BagO, BagP, BagQ, GenO, Arr4 -/
import Derived.Test.YtdgpbpbjlnlijaaGreatDoorKJ20
import Derived.Test.YtdgpbpbjlnlijaaGreatDoorRows
import Derived.Test.YtdgpbpbjlnlijaaGreatDoorKJ06
import Derived.ProofKit
import Derived.LaidMore
import Derived.Lib.LaidTab
import Derived.MakeChecks
import Derived.Stop.LaidErr
import Derived.ChangeSame
import Derived.Test.YtdgpbpbjlnlijaaGreatDoorKJ08
import Derived.Test.YtdgpbpbjlnlijaaGreatDoorKJ03
import Derived.Test.YtdgpbpbjlnlijaaGreatDoorKJ07
import Derived.Test.YtdgpbpbjlnlijaaGreatDoorKJ15

/- the walk of JoinSplits -/
namespace Go.Proofs.YtdgpbpbjlnlijaaGreatDoor
open Go.RowKit

set_option maxRecDepth 100000 in
set_option maxHeartbeats 4000000 in
theorem JoinSplits_walk (v0 : Value) (x : List Num5) (v1 : Value) (y : List Num5) (x0 x1 x2 x3 : Int) (v3 : Value) (P : List Int) {w : World} (s0 : SliceOf Rep.num w.cell? v0 x) (s1 : SliceOf Rep.num w.cell? v1 y)
    (h0 : 0 ≤ x0 ∧ x0 ≤ 65535) (h1 : 0 ≤ x1 ∧ x1 ≤ 65535) (h2 : 0 ≤ x2 ∧ x2 ≤ 65535) (h3 : 0 ≤ x3 ∧ x3 ≤ 65535) (s3 : SliceOf Rep.int w.cell? v3 P) (hT : TabW w) :
    Calls Tryz.prog 10 #[v0, v1, .agg #[.int .u16 x0, .int .u16 x1, .int .u16 x2, .int .u16 x3], v3] w fun e w' => e = .returned (.bool true) ∧ Ext w w' := by
  have S0 := Lib.hid s0
  have S1 := Lib.hid s1
  obtain ⟨p0, q0, rfl, _⟩ := s0.form
  obtain ⟨p1, q1, rfl, _⟩ := s1.form
  have HT := Lib.hid hT
  have HX := Lib.hid (And.intro h0 (And.intro h1 (And.intro h2 h3)))
  have S3 := Lib.hid s3
  obtain ⟨p9, q9, rfl, _⟩ := s3.form
  obtain ⟨np, hnp⟩ : ∃ n, n = P.length := ⟨_, rfl⟩
  have HNP := Lib.hid hnp
  rw [← hnp] at S3 ⊢
  clear s0 s1 s3 hT h0 h1 h2 h3 hnp
  rcases Nat.lt_or_ge 12 np with hgt | hpl
  · have hpI : (12 : Int) < (np : Int) := by omega
    go_enter Tryz.func10, Tryz.ntmps10
    go_wp2_with fail
    refine (awake_join _ (HT.out.ext ((Ext.refl w).alloc _))).mono ?_
    rintro e w9 ⟨rfl, x9⟩
    have X9 := Lib.hid (((Ext.refl w).alloc (.cells #[.int .u16 x0, .int .u16 x1, .int .u16 x2, .int .u16 x3] 64)).trans x9)
    clear x9
    go_wp2_with fail
    go_ret
    exact ⟨by simp, X9.out⟩
  have hpI : ¬ (12 : Int) < (np : Int) := by omega
  go_enter Tryz.func10, Tryz.ntmps10
  go_wp2_with fail
  obtain ⟨bx, hbx⟩ : ∃ z, z = w.heap.size := ⟨_, rfl⟩
  obtain ⟨wb, hwb⟩ : ∃ z, z = w.alloc (.cells #[.int .u16 x0, .int .u16 x1, .int .u16 x2, .int .u16 x3] 64) := ⟨_, rfl⟩
  have HXB := Lib.hid (show Ext w wb from by rw [hwb]; exact (Ext.refl w).alloc _)
  have HBX := Lib.hid (show wb.cell? ⟨bx, 0, none⟩ = some (.int .u16 x0) ∧ wb.cell? ⟨bx, 1, none⟩ = some (.int .u16 x1) ∧ wb.cell? ⟨bx, 2, none⟩ = some (.int .u16 x2) ∧ wb.cell? ⟨bx, 3, none⟩ = some (.int .u16 x3) from by
    rw [hbx, hwb]
    exact ⟨(by go_simp), (by go_simp), (by go_simp), (by go_simp)⟩)
  try rw [← hbx]
  try rw [← hwb]
  clear hbx hwb
  refine (tuples_gen _ x 7 (by decide) _ (S0.out.ext HXB.out.full)).mono ?_
  rintro e w1 ⟨u1, rfl, t1, x1'⟩
  have la := genTups_len x 7
  have fa := genTups_few x 7
  generalize genTups x 7 = a at t1 la fa
  obtain ⟨r1, k1, rfl, _⟩ := t1.form
  have TA := Lib.hid (t1.ext (on_sub _ _))
  have X1 := Lib.hid (HXB.out.trans x1')
  have XB1 := Lib.hid x1'
  have HLA := Lib.hid la
  have HFA := Lib.hid fa
  obtain ⟨na, hna⟩ : ∃ z, z = a.length := ⟨_, rfl⟩
  rw [← hna] at TA ⊢
  clear t1 x1' la fa S0 HXB hna
  go_wp2_with fail
  refine (tuples_gen _ y 7 (by decide) _ (S1.out.ext X1.out.full)).mono ?_
  rintro e w2 ⟨u2, rfl, t2, x2'⟩
  have lb := genTups_len y 7
  have fb := genTups_few y 7
  generalize genTups y 7 = b at t2 lb fb
  obtain ⟨r2, k2, rfl, _⟩ := t2.form
  have TB := Lib.hid (t2.ext (on_sub _ _))
  replace TA := Lib.hid (TA.out.ext x2'.full)
  have X2 := Lib.hid (X1.out.trans x2')
  have HLB := Lib.hid lb
  have HFB := Lib.hid fb
  obtain ⟨nb, hnb⟩ : ∃ z, z = b.length := ⟨_, rfl⟩
  rw [← hnb] at TB ⊢
  have xb2 := XB1.out.trans x2'
  have d0 := xb2.at HBX.out.1
  have d1 := xb2.at HBX.out.2.1
  have d2 := xb2.at HBX.out.2.2.1
  have d3 := xb2.at HBX.out.2.2.2
  have e0 := cell_lt d0
  clear t2 x2' lb fb S1 X1 XB1 HBX xb2 hnb
  go_wp2_with fail
  refine (predicate_join x0 x1 x2 x3 _ HX.out.1 HX.out.2.1 HX.out.2.2.1 HX.out.2.2.2).mono ?_
  rintro e w3 ⟨u3, rfl, t3, x3'⟩
  have hel := predL_len [1, 2, 1, 2] x0 x1 x2 x3 0
  obtain ⟨pr, hpr⟩ : ∃ z : Int, z = (((predL [1, 2, 1, 2] x0 x1 x2 x3 0).length - 1 : Nat) : Int) := ⟨_, rfl⟩
  rw [← hpr]
  generalize predL [1, 2, 1, 2] x0 x1 x2 x3 0 = es at t3 hel
  obtain ⟨p3, q3, rfl, _⟩ := t3.form
  have HE := Lib.hid t3
  have HEL := Lib.hid (show es.length ≤ 1000 from by omega)
  obtain ⟨ne, hne⟩ : ∃ z, z = es.length := ⟨_, rfl⟩
  rw [← hne] at HE ⊢
  replace TA := Lib.hid (TA.out.ext x3'.full)
  replace TB := Lib.hid (TB.out.ext x3'.full)
  have X3 := Lib.hid (X2.out.trans x3')
  clear t3 x3' X2 d0 d1 d2 d3 e0 hpr hel hne
  go_wp2_with fail
  refine (split_any _ _ a P _ TA.out (S3.out.ext X3.out.full) (by have := HLA.out; omega) (by have := HNP.out; omega) HFA.out.long).mono ?_
  rintro e w4 ⟨u4, rfl, o4, x4'⟩
  have t4 := o4.slice
  obtain ⟨Q, hQ⟩ : ∃ Q, Q = sortI P := ⟨_, rfl⟩
  rw [← hQ] at t4
  have hql : Q.length ≤ 12 := by rw [hQ, (sortI_perm P).length_eq, ← HNP.out]; exact hpl
  have HQ := Lib.hid hQ
  have HQL := Lib.hid hql
  obtain ⟨SA, hSA⟩ : ∃ z, z = splitT a Q := ⟨_, rfl⟩
  rw [← hSA] at t4
  have hsl : SA.length ≤ 100 := by
    have h1 := splitT_len a Q
    have h2 : a.length * (Q.length + 1) ≤ 7 * 13 := Nat.mul_le_mul HLA.out (by omega)
    rw [hSA]
    omega
  have HSA := Lib.hid hSA
  have HSAL := Lib.hid hsl
  have HSAF := Lib.hid (show fewT SA from by rw [hSA]; exact split_few HFA.out Q)
  obtain ⟨r4, k4, rfl, _⟩ := t4.form
  have T4 := Lib.hid t4
  replace TA := Lib.hid (TA.out.ext x4'.full)
  replace TB := Lib.hid (TB.out.ext x4'.full)
  replace HE := Lib.hid (HE.out.ext x4'.full)
  have X4 := Lib.hid (X3.out.trans x4')
  obtain ⟨m4, hm4⟩ : ∃ z, z = SA.length := ⟨_, rfl⟩
  rw [← hm4] at T4 ⊢
  clear t4 o4 x4' X3 hQ hql hSA hsl hm4
  go_wp2_with fail
  refine (split_any _ _ b P _ TB.out (S3.out.ext X4.out.full) (by have := HLB.out; omega) (by have := HNP.out; omega) HFB.out.long).mono ?_
  rintro e w5 ⟨u5, rfl, o5, x5'⟩
  have t5 := o5.slice
  rw [← HQ.out] at t5
  obtain ⟨SB, hSB⟩ : ∃ z, z = splitT b Q := ⟨_, rfl⟩
  rw [← hSB] at t5
  have hsl : SB.length ≤ 100 := by
    have h1 := splitT_len b Q
    have h2 : b.length * (Q.length + 1) ≤ 7 * 13 := Nat.mul_le_mul HLB.out (by have := HQL.out; omega)
    rw [hSB]
    omega
  have HSB := Lib.hid hSB
  have HSBL := Lib.hid hsl
  have HSBF := Lib.hid (show fewT SB from by rw [hSB]; exact split_few HFB.out Q)
  obtain ⟨r5, k5, rfl, _⟩ := t5.form
  have T5 := Lib.hid t5
  replace TA := Lib.hid (TA.out.ext x5'.full)
  replace TB := Lib.hid (TB.out.ext x5'.full)
  replace T4 := Lib.hid (T4.out.ext x5'.full)
  replace HE := Lib.hid (HE.out.ext x5'.full)
  have X5 := Lib.hid (X4.out.trans x5')
  obtain ⟨m5, hm5⟩ : ∃ z, z = SB.length := ⟨_, rfl⟩
  rw [← hm5] at T5 ⊢
  clear t5 o5 x5' X4 hSB hsl hm5
  go_wp2_with fail
  refine (awake_join _ (HT.out.ext X5.out)).mono ?_
  rintro e w6 ⟨rfl, x6⟩
  replace TA := Lib.hid (TA.out.ext x6.full)
  replace TB := Lib.hid (TB.out.ext x6.full)
  replace T4 := Lib.hid (T4.out.ext x6.full)
  replace T5 := Lib.hid (T5.out.ext x6.full)
  replace HE := Lib.hid (HE.out.ext x6.full)
  have X6 := Lib.hid (X5.out.trans x6)
  clear x6 X5
  go_wp2_with fail
  refine (inner_any _ _ SA SB _ es pr _ T4.out T5.out HSAL.out HSBL.out HE.out HEL.out HSAF.out HSBF.out (HT.out.ext X6.out)).mono ?_
  rintro e w7 ⟨u7, rfl, t7, x7⟩
  have hI : innerT (trE es pr) SA SB = innerT (trE es pr) a b := by rw [HSA.out, HSB.out]; exact inner_congr _ (fun t => List.Perm.of_eq (split_slice a Q t)) (fun t => List.Perm.of_eq (split_slice b Q t))
  rw [hI] at t7
  obtain ⟨I, hI2⟩ : ∃ z, z = innerT (trE es pr) a b := ⟨_, rfl⟩
  rw [← hI2] at t7
  have HI := Lib.hid hI2
  clear hI hI2
  obtain ⟨r7, k7, rfl, _⟩ := t7.form
  have T7 := Lib.hid (t7.ext (on_sub _ _))
  replace TA := Lib.hid (TA.out.ext x7.full)
  replace TB := Lib.hid (TB.out.ext x7.full)
  replace T4 := Lib.hid (T4.out.ext x7.full)
  replace T5 := Lib.hid (T5.out.ext x7.full)
  replace HE := Lib.hid (HE.out.ext x7.full)
  have X7 := Lib.hid (X6.out.trans x7)
  clear t7 x7 X6
  go_wp2_with fail
  refine (inner_any _ _ a b _ es pr _ TA.out TB.out (by have := HLA.out; omega) (by have := HLB.out; omega) HE.out HEL.out HFA.out HFB.out (HT.out.ext X7.out)).mono ?_
  rintro e w8 ⟨u8, rfl, t8, x8⟩
  rw [← HI.out] at t8
  obtain ⟨r8, k8, rfl, _⟩ := t8.form
  have T8 := Lib.hid (t8.ext (on_sub _ _))
  replace TA := Lib.hid (TA.out.ext x8.full)
  replace TB := Lib.hid (TB.out.ext x8.full)
  replace T4 := Lib.hid (T4.out.ext x8.full)
  replace T5 := Lib.hid (T5.out.ext x8.full)
  replace HE := Lib.hid (HE.out.ext x8.full)
  replace T7 := Lib.hid (T7.out.ext x8.full)
  have X8 := Lib.hid (X7.out.trans x8)
  clear t8 x8 X7
  go_wp2_with fail
  refine (same_tuples _ _ I _ T7.out T8.out).mono ?_
  rintro e w9 ⟨rfl, x9⟩
  replace TA := Lib.hid (TA.out.ext x9.full)
  replace TB := Lib.hid (TB.out.ext x9.full)
  replace T4 := Lib.hid (T4.out.ext x9.full)
  replace T5 := Lib.hid (T5.out.ext x9.full)
  replace HE := Lib.hid (HE.out.ext x9.full)
  have X9 := Lib.hid (X8.out.trans x9)
  clear x9 X8 T7 T8
  go_wp2_with fail
  refine (leftOuter_any _ _ SA SB _ es pr 2 _ T4.out T5.out HSAL.out HSBL.out HE.out HEL.out HSAF.out HSBF.out (HT.out.ext X9.out)).mono ?_
  rintro e w10 ⟨u10, rfl, t10, x10⟩
  rw [nullW_two] at t10
  have hI : leftT (trE es pr) 2 SA SB = leftT (trE es pr) 2 a b := by rw [HSA.out, HSB.out]; exact left_congr _ _ (fun t => List.Perm.of_eq (split_slice a Q t)) (fun t => List.Perm.of_eq (split_slice b Q t))
  rw [hI] at t10
  obtain ⟨J, hI2⟩ : ∃ z, z = leftT (trE es pr) 2 a b := ⟨_, rfl⟩
  rw [← hI2] at t10
  have HJ := Lib.hid hI2
  clear hI hI2
  obtain ⟨r10, k10, rfl, _⟩ := t10.form
  have T10 := Lib.hid (t10.ext (on_sub _ _))
  replace TA := Lib.hid (TA.out.ext x10.full)
  replace TB := Lib.hid (TB.out.ext x10.full)
  replace T4 := Lib.hid (T4.out.ext x10.full)
  replace T5 := Lib.hid (T5.out.ext x10.full)
  replace HE := Lib.hid (HE.out.ext x10.full)
  have X10 := Lib.hid (X9.out.trans x10)
  clear t10 x10 X9
  go_wp2_with fail
  refine (leftOuter_any _ _ a b _ es pr 2 _ TA.out TB.out (by have := HLA.out; omega) (by have := HLB.out; omega) HE.out HEL.out HFA.out HFB.out (HT.out.ext X10.out)).mono ?_
  rintro e w11 ⟨u11, rfl, t11, x11⟩
  rw [nullW_two, ← HJ.out] at t11
  obtain ⟨r11, k11, rfl, _⟩ := t11.form
  have T11 := Lib.hid (t11.ext (on_sub _ _))
  replace TA := Lib.hid (TA.out.ext x11.full)
  replace TB := Lib.hid (TB.out.ext x11.full)
  replace T4 := Lib.hid (T4.out.ext x11.full)
  replace T5 := Lib.hid (T5.out.ext x11.full)
  replace HE := Lib.hid (HE.out.ext x11.full)
  replace T10 := Lib.hid (T10.out.ext x11.full)
  have X11 := Lib.hid (X10.out.trans x11)
  clear t11 x11 X10
  go_wp2_with fail
  refine (same_tuples _ _ J _ T10.out T11.out).mono ?_
  rintro e w12 ⟨rfl, x12⟩
  have X12 := Lib.hid (X11.out.trans x12)
  clear x12 X11
  go_wp2_with fail
  go_ret
  exact ⟨by simp, X12.out⟩

end Go.Proofs.YtdgpbpbjlnlijaaGreatDoor

/- what the listed variables of the join laws give: the table of powers -/
namespace Go.Proofs.YtdgpbpbjlnlijaaGreatDoor
open Go.ChangeShapes Go.RowKit

def laid3 : List (String × DataW Unit) := [("math/bits.deBruijn32tab", Rows.laid_math_bits_deBruijn32tab), ("math/bits.deBruijn64tab", Rows.laid_math_bits_deBruijn64tab), ("internal/strconv.uint64pow10", Rows.laid_internal_strconv_uint64pow10)]
theorem door_met3 (os : Os) (args : Array Value) : laidMetH Tryz.prog laid3 ((World.doorLaid Tryz.prog 29 os).forCall (fun _ _ => 0) ⟨#[], args, []⟩).memory :=
  laidMetH_of_parts3 (fuel := 8) (laidMet_of_run' 8 (by kernel_rfl) (by kernel_rfl)) (by kernel_rfl) (by kernel_rfl)
set_option maxRecDepth 100000 in
theorem of_laid3 {W : World} (h : laidMetH Tryz.prog laid3 W) : TabW W := by
  rw [MakeChecks.laidMetH_plain _ _ _ (by kernel_rfl)] at h
  have h3 := laidMet.tail (laidMet.tail h)
  exact Lib.tabIs_of_head (k := .u64) (zs := Lib.pow10Tab) (g := 1) (t := 287) (e := 205) (n := 20) (by kernel_rfl) (by kernel_rfl) Tryz.underlying287 Tryz.underlying205 (by kernel_rfl) (by kernel_rfl) h3

end Go.Proofs.YtdgpbpbjlnlijaaGreatDoor

/- annalistref1.SameInts; the laws' sanity check -/
namespace Go.Proofs.YtdgpbpbjlnlijaaGreatDoor
open Go.RowKit

end Go.Proofs.YtdgpbpbjlnlijaaGreatDoor

/- the laws' sanity check (annalistlaw8.awake) -/
namespace Go.Proofs.YtdgpbpbjlnlijaaGreatDoor
open Go.RowKit

def r1 : Row := ⟨[nV], [1]⟩
def r2 : Row := ⟨[nV], [2]⟩
end Go.Proofs.YtdgpbpbjlnlijaaGreatDoor

/- the arguments []int, []api.Row as data -/
namespace Go.Proofs.YtdgpbpbjlnlijaaGreatDoor
open Go.RowKit Go.Deep Go.ChangeShapes Go.WideShapes Go.ChangeAt

theorem cellsInt : Tryz.prog.cellsOf 3 = 1 := by kernel_rfl
theorem opens_ints : Opens Tryz.prog 24 (Rep.slice Rep.int) := opens_slice Tryz.underlying24 cellsInt (opens_int Tryz.underlying3)
/-- an argument that is a slice -/
theorem open_arg {α : Type} {P : Program} {t e : TypeId} {R : Rep α} (ht : P.underlying t = some (.slice e)) (hR : Opens P t (Rep.slice R)) {H : Type} {enc : TypeId × Value → H} {w : World} {base : Nat} {spare : Nat → Bool} {held : Bool} {v : Value} {d : DataW H} {ps : List MemPlace} {r : Reach} {b0 : Nat}
    (hv : Value.okWide P w r b0 t v) (h : DataW.Trod enc P w base spare held t v d ps) : ∃ xs, SliceOf R w.cell? v xs := by
  obtain ⟨a, n, c, rfl⟩ := okWide_slice ht hv
  obtain ⟨m, hm⟩ := h
  obtain ⟨xs, v', e, hs⟩ := hR H enc w base spare held m _ _ hm
  simp [Value.cells] at e
  subst e
  exact ⟨xs, hs⟩

end Go.Proofs.YtdgpbpbjlnlijaaGreatDoor

/- the arguments [][5]uint16 as data -/
namespace Go.Proofs.YtdgpbpbjlnlijaaGreatDoor
open Go.RowKit Go.Deep Go.ChangeShapes Go.WideShapes Go.ChangeAt

theorem cellsNum : Tryz.prog.cellsOf 96 = 5 := by kernel_rfl
theorem cellsU16 : Tryz.prog.cellsOf 38 = 1 := by kernel_rfl
theorem list_five {α : Type} {l : List α} (h : l.length = 5) : ∃ a b c d e, l = [a, b, c, d, e] := by
  match l, h with
  | [a, b, c, d, e], _ => exact ⟨a, b, c, d, e, rfl⟩
theorem opens_num : Opens Tryz.prog 96 Rep.num := by
  intro H enc w base spare held fuel cs x h
  obtain ⟨ys, m, _, _, hl, hn, hel⟩ := DataW.trod_array Tryz.underlying96 h
  rw [cellsNum] at hl
  obtain ⟨c0, c1, c2, c3, c4, rfl⟩ := list_five hl
  have g : ∀ i (hi : i < 5), DataW.trod enc Tryz.prog w base spare held m 38 (([c0, c1, c2, c3, c4].drop (i * 1)).take 1) = some (ys[i]'(by omega)) := fun i hi => by
    have h1 := hel i hi
    rwa [cellsU16, List.getElem?_eq_getElem (by omega)] at h1
  obtain ⟨a0, e0, _, w0⟩ := DataW.trod_int Tryz.underlying38 (g 0 (by decide))
  obtain ⟨a1, e1, _, w1⟩ := DataW.trod_int Tryz.underlying38 (g 1 (by decide))
  obtain ⟨a2, e2, _, w2⟩ := DataW.trod_int Tryz.underlying38 (g 2 (by decide))
  obtain ⟨a3, e3, _, w3⟩ := DataW.trod_int Tryz.underlying38 (g 3 (by decide))
  obtain ⟨a4, e4, _, w4⟩ := DataW.trod_int Tryz.underlying38 (g 4 (by decide))
  simp at e0 e1 e2 e3 e4
  subst e0 e1 e2 e3 e4
  exact ⟨⟨a0, a1, a2, a3, a4⟩, rfl, bounds_u16 w0, bounds_u16 w1, bounds_u16 w2, bounds_u16 w3, bounds_u16 w4⟩
theorem opens_nums : Opens Tryz.prog 31 (Rep.slice Rep.num) := opens_slice Tryz.underlying31 cellsNum opens_num

end Go.Proofs.YtdgpbpbjlnlijaaGreatDoor

/- the argument [4]uint16 as data -/
namespace Go.Proofs.YtdgpbpbjlnlijaaGreatDoor
open Go.RowKit Go.Deep Go.ChangeShapes Go.WideShapes Go.ChangeAt

theorem okWide_array {P : Program} {w : World} {r : Reach} {base : Nat} {t : TypeId} {v : Value} {n : Nat} {e : TypeId} (ht : P.underlying t = some (.array n e)) (h : Value.okWide P w r base t v) : ∃ cs, v = .agg cs := by
  cases v <;> simp_all [Value.okWide]
theorem list_four {α : Type} {l : List α} (h : l.length = 4) : ∃ a b c d, l = [a, b, c, d] := by
  match l, h with
  | [a, b, c, d], _ => exact ⟨a, b, c, d, rfl⟩
theorem cells4 : Tryz.prog.cellsOf 64 = 4 := by kernel_rfl
set_option maxRecDepth 100000 in
theorem open_arr4 {H : Type} {enc : TypeId × Value → H} {w : World} {base : Nat} {spare : Nat → Bool} {held : Bool} {v : Value} {d : DataW H} {ps : List MemPlace} {r : Reach} {b0 : Nat}
    (hv : Value.okWide Tryz.prog w r b0 64 v) (h : DataW.Trod enc Tryz.prog w base spare held 64 v d ps) :
    ∃ a b c e, v = .agg #[.int .u16 a, .int .u16 b, .int .u16 c, .int .u16 e] ∧ (0 ≤ a ∧ a ≤ 65535) ∧ (0 ≤ b ∧ b ≤ 65535) ∧ (0 ≤ c ∧ c ≤ 65535) ∧ (0 ≤ e ∧ e ≤ 65535) := by
  obtain ⟨cs, rfl⟩ := okWide_array Tryz.underlying64 hv
  obtain ⟨m, hm⟩ := h
  obtain ⟨ys, m, _, _, hl, hn, hel⟩ := DataW.trod_array Tryz.underlying64 hm
  rw [cells4] at hl
  obtain ⟨c0, c1, c2, c3, hcs⟩ := list_four hl
  rw [hcs] at hel
  have g : ∀ i (hi : i < 4), DataW.trod enc Tryz.prog w base spare held m 38 (([c0, c1, c2, c3].drop (i * 1)).take 1) = some (ys[i]'(by omega)) := fun i hi => by
    have h1 := hel i hi
    rwa [cellsU16, List.getElem?_eq_getElem (by omega)] at h1
  obtain ⟨a0, e0, _, w0⟩ := DataW.trod_int Tryz.underlying38 (g 0 (by decide))
  obtain ⟨a1, e1, _, w1⟩ := DataW.trod_int Tryz.underlying38 (g 1 (by decide))
  obtain ⟨a2, e2, _, w2⟩ := DataW.trod_int Tryz.underlying38 (g 2 (by decide))
  obtain ⟨a3, e3, _, w3⟩ := DataW.trod_int Tryz.underlying38 (g 3 (by decide))
  simp at e0 e1 e2 e3
  subst e0 e1 e2 e3
  refine ⟨a0, a1, a2, a3, ?_, bounds_u16 w0, bounds_u16 w1, bounds_u16 w2, bounds_u16 w3⟩
  have hc2 : (Value.agg cs).cells.toList = [.int .u16 a0, .int .u16 a1, .int .u16 a2, .int .u16 a3] := hcs
  have hc3 : cs.toList = [.int .u16 a0, .int .u16 a1, .int .u16 a2, .int .u16 a3] := hc2
  rw [← Array.toArray_toList (xs := cs), hc3]
end Go.Proofs.YtdgpbpbjlnlijaaGreatDoor
