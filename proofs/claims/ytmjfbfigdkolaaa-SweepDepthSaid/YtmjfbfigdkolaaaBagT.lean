/- the reference's MergeLineage -/
import Derived.Test.YtmjfbfigdkolaaaBagS
import Derived.Test.YtmjfbfigdkolaaaBagE
import Derived.Test.YtmjfbfigdkolaaaStep
namespace Go.Proofs.Ytmjfbfigdkolaaa
open Go.RowKit

def doneL (a b : List Int) (k : Nat) : List Int := if k = 0 then [] else if k = 1 then a else a ++ b

set_option maxRecDepth 100000 in
set_option maxHeartbeats 4000000 in
theorem ref_mergeLineage (va vb : Value) (a b : List Int) (w : World) (ha : SliceOf Rep.int w.cell? va a) (hb : SliceOf Rep.int w.cell? vb b) (fa : a.length ≤ 1048576) (fb : b.length ≤ 1048576) :
    Calls Try.prog 26 #[va, vb] w fun e w' => ∃ v', e = .returned v' ∧ SliceOf Rep.int (on w' (since w)) v' (mergeL a b) ∧ Ext w w' := by
  obtain ⟨i0, hi, hz0, hz1, hz2⟩ := info_parts info_ints
  have HA := Lib.hid ha
  have HB := Lib.hid hb
  obtain ⟨pa, ca, rfl, _⟩ := ha.form
  obtain ⟨pb, cb, rfl, _⟩ := hb.form
  clear ha hb
  have hsel : ∀ k : Nat, k < 2 → ∃ pl cl, ∃ l : List Int, (∀ W, (Instr.index 77 (.agg #[.slice pa a.length ca, .slice pb b.length cb]) (.int .i64 k)).run Try.prog W = .ok (.slice pl l.length cl) W) ∧ SliceOf Rep.int w.cell? (.slice pl l.length cl) l ∧ doneL a b (k + 1) = doneL a b k ++ l ∧ l.length ≤ 1048576 ∧ (doneL a b k).length ≤ 1048576 := by
    intro k hk
    by_cases h0 : k = 0
    · subst h0
      exact ⟨pa, ca, a, fun W => by kernel_rfl, HA.out, by simp [doneL], fa, by simp [doneL]⟩
    · have : k = 1 := by omega
      subst this
      exact ⟨pb, cb, b, fun W => by kernel_rfl, HB.out, by simp [doneL], fb, by simpa [doneL] using fa⟩
  have HSEL := Lib.hid hsel
  clear hsel
  go_enter Try.func26, Try.ntmps26
  go_wp2_with fail
  go_loopg [5, 14] 2 (fun gk v i wr => ∃ (k : Nat) (o : List Int), k ≤ 2 ∧ gk = 2 - k ∧ i = .int .i64 k ∧ OwnOf Rep.int wr (fun _ => True) w.heap.size 3 v o ∧ AscOf o (doneL a b k) ∧ Ext w wr)
  case atStart => exact ⟨0, [], by omega, rfl, rfl, OwnOf.nil _ _ _ _ _, by simpa [doneL] using AscOf.nil, Ext.refl w⟩
  case round =>
    obtain ⟨kk, o0, hkk, rfl, rfl, hown0, hasc0, hx0⟩ := hrel
    have HO0 := Lib.hid hown0
    have HA0 := Lib.hid hasc0
    obtain ⟨q0, c0, rfl, _⟩ := hown0.slice.form
    obtain ⟨wA, rfl⟩ : ∃ wA : World, wA = wr := ⟨_, rfl⟩
    clear hown0 hasc0
    by_cases hkl : kk < 2
    · obtain ⟨pl, cl, l, hidx, hl, hdone, hl1, hd1⟩ := HSEL.out kk hkl
      have HL := Lib.hid hl
      have HD := Lib.hid hdone
      obtain ⟨_, _, he, hcl, hcm, hpl⟩ := hl.form
      injection he with he1 _ he2
      subst he1 he2
      unfold maxLen at hcm
      have hlt2 : decide ((kk : Int) < 2) = true := by simp; omega
      clear hl hdone
      go_wp2_with fail
      go_loopg [5, 19] l.length (fun gk v i wr => ∃ (j : Nat) (o : List Int), j ≤ l.length ∧ gk = l.length - j ∧ i = .int .i64 j ∧ OwnOf Rep.int wr (fun _ => True) w.heap.size 3 v o ∧ AscOf o (doneL a b kk ++ l.take j) ∧ Ext w wr)
      case atStart => exact ⟨0, o0, by omega, rfl, rfl, HO0.out, by simpa using HA0.out, hx0⟩
      case round =>
        obtain ⟨j, o, hj, rfl, rfl, hown, hasc, hx⟩ := hrel
        have holen := hasc.2.2
        rw [List.length_append, List.length_take] at holen
        have HO := Lib.hid hown
        have HASC0 := Lib.hid hasc
        have hform : (u5 = .slice none 0 0 ∧ o = []) ∨ ∃ g cap, u5 = .slice (some ⟨g, 0, none⟩) o.length cap ∧ o.length ≤ cap ∧ cap ≤ maxLen := by
          obtain ⟨css, h1, h2⟩ := hown
          rcases h2.2 with ⟨hv, h0⟩ | ⟨g, cap, cur, hv, _, _, h3, h4, _⟩
          · exact .inl ⟨hv, List.eq_nil_of_length_eq_zero h0⟩
          · exact .inr ⟨g, cap, hv, h3, h4⟩
        by_cases hlt : j < l.length
        · have hd : decide ((j : Int) < (l.length : Int)) = true := by simp; omega
          have htk := List.take_succ_eq_append_getElem hlt
          obtain ⟨bl, ol, rfl⟩ := hpl (by decide) (by omega)
          obtain ⟨e1, hr⟩ := int_at HL.out j hlt
          replace e1 := hx.at e1
          have hins := hasc.ins l[j]
          have hold := hasc.old l[j]
          generalize l[j] = x at htk e1 hr hins hold
          have HTK := Lib.hid htk
          have HR := Lib.hid hr
          have HINS := Lib.hid hins
          have HOLD := Lib.hid hold
          clear htk hr hasc hins hold
          have hsort := HASC0.out.1
          have HSO := Lib.hid hsort
          clear hsort
          rcases hform with ⟨rfl, hoe⟩ | ⟨g, cap, rfl, hcap1, hcap2⟩
          · have HOE := Lib.hid hoe
            have holn : o.length = 0 := by rw [hoe]; rfl
            have HOL := Lib.hid holn
            clear hoe holn
            go_wp2_with fail
            go_loopg [10] 1 (fun gk i wq => gk = 1 ∧ i = .int .i64 0 ∧ wr = wq)
            case atStart => exact ⟨rfl, rfl, rfl⟩
            case round =>
              obtain ⟨rfl, rfl, rfl⟩ := hrel
              have los : SliceOf Rep.int wr.cell? (.slice none 0 0) (o.take 0) := by rw [List.take_zero]; exact SliceOf.nil _ _
              have his : SliceOf Rep.int wr.cell? (.slice none 0 0) (o.drop 0) := by rw [HOE.out]; exact SliceOf.nil _ _
              have LOS := Lib.hid los
              have HIS := Lib.hid his
              have hasc : AscOf (o.take 0 ++ [x] ++ o.drop 0) (doneL a b kk ++ l.take j ++ [x]) := HINS.out 0 (by omega) (fun t _ h => by omega) (fun h => by rw [HOE.out] at h; simp at h)
              have HASC := Lib.hid hasc
              have B1 : ([] : List Int).length + (o.take 0).length ≤ maxLen := by simp [maxLen] <;> omega
              have B2 : (([] : List Int).length + (o.take 0).length) * 8 ≤ 140737488355328 := by simp <;> omega
              have B3 : ([] ++ o.take 0).length + [x].length ≤ maxLen := by simp [maxLen] <;> omega
              have B4 : (([] ++ o.take 0).length + [x].length) * 8 ≤ 140737488355328 := by simp <;> omega
              have B5 : ([] ++ o.take 0 ++ [x]).length + (o.drop 0).length ≤ maxLen := by simp [maxLen] <;> omega
              have B6 : (([] ++ o.take 0 ++ [x]).length + (o.drop 0).length) * 8 ≤ 140737488355328 := by simp <;> omega
              clear los his hasc
              skip
              go_wp2_with fail
              go_region_law (first
                | ((with_reducible refine key_op 52 ?_); (try simp only [Act.put, List.getElem_toArray, List.getElem_cons_zero, List.getElem_cons_succ, List.setIfInBounds_toArray, List.set_cons_zero, List.set_cons_succ]); refine step_append_all Rep.int (fun _ => True) rfl _ _ 27 rfl wr.heap.size 3 i0 _ 8 Try.underlying27 hi hz0 hz1 hz2 rfl (by decide) (.slice none 0 0) ([] : List Int) rfl (OwnOf.nil _ _ _ _ _) (.slice none 0 0) (o.take 0) rfl (by first | with_reducible exact LOS.out.away flat_int (Ext.refl wr).drew (own_nil _) | with_reducible exact LOS.out.away flat_int ((Ext.refl wr).alloc _).drew (own_nil _)) B1 B2 (by first | with_reducible exact (Ext.refl wr).drew.size | with_reducible exact ((Ext.refl wr).alloc _).drew.size) ?_; intro v1 w1 own1 gr1 at1; have x1 : Ext wr w1 := (by first | with_reducible exact Ext.grownNew (Ext.refl wr).drew gr1 (own_nil _) | with_reducible exact Ext.grownNew ((Ext.refl wr).alloc _).drew gr1 (own_nil _)))
                | ((with_reducible refine key_op 55 ?_); (try simp only [Act.put, List.setIfInBounds_toArray, List.set_cons_zero, List.set_cons_succ]); refine step_append_all Rep.int (fun _ => True) rfl _ _ 27 rfl wr.heap.size 3 i0 _ 8 Try.underlying27 hi hz0 hz1 hz2 rfl (by decide) v1 ([] ++ o.take 0) rfl (by first | with_reducible exact own1 | with_reducible exact own1.ext ((Ext.refl _).alloc _)) _ [x] rfl (by first | exact lone_new HR.out own1 | exact lone_old HR.out gr1 rfl at1) B3 B4 (by first | with_reducible exact x1.size | with_reducible exact (x1.alloc _).size) ?_; intro v2 w2 own2 gr2 at2; have x2 : Ext wr w2 := (by first | with_reducible exact Ext.grownNew x1 gr2 own1.base | with_reducible exact Ext.grownNew (x1.alloc _) gr2 own1.base))
                | ((with_reducible refine key_op 59 ?_); (try simp only [Act.put, List.setIfInBounds_toArray, List.set_cons_zero, List.set_cons_succ]); refine step_append_all Rep.int (fun _ => True) rfl _ _ 27 rfl wr.heap.size 3 i0 _ 8 Try.underlying27 hi hz0 hz1 hz2 rfl (by decide) v2 ([] ++ o.take 0 ++ [x]) rfl own2 (.slice none 0 0) (o.drop 0) rfl (HIS.out.away flat_int x2 own2.base) B5 B6 x2.size ?_; intro v3 w3 own3 gr3 at3; have x3 : Ext wr w3 := Ext.grownNew x2 gr3 own2.base))
              all_goals
                have R3 := own3.weak (T := fun _ => True) (fun _ _ h => h) hx.size
                have X3 := hx.trans x3
                rw [List.nil_append] at R3
                have H3 := Lib.hid R3
                clear R3 own1 own2 own3 gr1 gr2 gr3 at1 at2 at3 x1 x2 x3 hx HO LOS HIS
                go_wp2_with fail
                go_roundg (l.length - (j + 1))
                case measure => omega
                case rel => exact ⟨j + 1, _, by omega, rfl, by go_num, H3.out, by rw [HTK.out, ← List.append_assoc]; exact HASC.out, X3⟩
          · unfold maxLen at hcap2
            go_wp2_with fail
            go_loopg [10] o.length (fun gk i wq => ∃ k : Nat, k ≤ o.length ∧ gk = o.length - k ∧ i = .int .i64 k ∧ (∀ (t : Nat) (ht : t < o.length), t < k → o[t] < x) ∧ wr = wq)
            case atStart => exact ⟨0, by omega, rfl, rfl, fun t _ h => by omega, rfl⟩
            case round =>
              obtain ⟨k, hk, rfl, rfl, hall, rfl⟩ := hrel
              have HALL := Lib.hid hall
              clear hall
              by_cases hkl : k < o.length
              · obtain ⟨e2, _⟩ := int_at HO.out.slice k hkl
                rw [Nat.zero_add] at e2
                generalize hz : o[k] = z at e2
                have HZ := Lib.hid hz
                clear hz
                have hd2 : decide ((k : Int) < (o.length : Int)) = true := by simp; omega
                have hd3 : (k : Int) < (o.length : Int) := by omega
                have hd5 : ((k : Int) == (o.length : Int)) = false := by simp; omega
                by_cases hzx : z < x
                · have hd4 : decide (z < x) = true := by simp [hzx]
                  go_wp2_with fail
                  go_roundg (o.length - (k + 1))
                  case measure => omega
                  case rel => exact ⟨k + 1, by omega, rfl, by go_num, fun t ht h => by
                    by_cases htk : t < k
                    · exact HALL.out t ht htk
                    · have : t = k := by omega
                      subst this
                      rw [HZ.out]; exact hzx, rfl⟩
                · have hd4 : decide (z < x) = false := by simp; omega
                  by_cases hze : z = x
                  · have hd6 : (z != x) = false := by simp [hze]
                    have HOLD2 := Lib.hid (HOLD.out k hkl (by rw [HZ.out]; exact hze))
                    clear hze
                    go_wp2_with fail
                    go_roundg (l.length - (j + 1))
                    case measure => omega
                    case rel => exact ⟨j + 1, o, by omega, rfl, by go_num, HO.out, by rw [HTK.out, ← List.append_assoc]; exact HOLD2.out, hx⟩
                  · have hd6 : (z != x) = true := by simp [hze]
                    have los : SliceOf Rep.int wr.cell? (.slice (some ⟨g, 0, none⟩) k cap) (o.take k) := HO.out.slice.takeV k (by omega)
                    have his : SliceOf Rep.int wr.cell? (.slice (some ⟨g, k, none⟩) (o.length - k) (cap - k)) (o.drop k) := by have h := HO.out.slice.dropV k (by omega); rwa [show Rep.int.size = 1 from rfl, Nat.mul_one, Nat.zero_add] at h
                    have LOS := Lib.hid los
                    have HIS := Lib.hid his
                    have hasc : AscOf (o.take k ++ [x] ++ o.drop k) (doneL a b kk ++ l.take j ++ [x]) := HINS.out k (by omega) HALL.out (fun h => by rw [HZ.out]; omega)
                    have HASC := Lib.hid hasc
                    have B1 : ([] : List Int).length + (o.take k).length ≤ maxLen := by simp [maxLen] <;> omega
                    have B2 : (([] : List Int).length + (o.take k).length) * 8 ≤ 140737488355328 := by simp <;> omega
                    have B3 : ([] ++ o.take k).length + [x].length ≤ maxLen := by simp [maxLen] <;> omega
                    have B4 : (([] ++ o.take k).length + [x].length) * 8 ≤ 140737488355328 := by simp <;> omega
                    have B5 : ([] ++ o.take k ++ [x]).length + (o.drop k).length ≤ maxLen := by simp [maxLen] <;> omega
                    have B6 : (([] ++ o.take k ++ [x]).length + (o.drop k).length) * 8 ≤ 140737488355328 := by simp <;> omega
                    clear los his hasc
                    have hkc : k ≤ cap := by omega
                    have hkc2 : ¬ cap = k := by omega
                    have hkc3 : ¬ (k : Int) = (cap : Int) := by omega
                    go_wp2_with fail
                    go_region_law (first
                      | ((with_reducible refine key_op 52 ?_); (try simp only [Act.put, List.getElem_toArray, List.getElem_cons_zero, List.getElem_cons_succ, List.setIfInBounds_toArray, List.set_cons_zero, List.set_cons_succ]); refine step_append_all Rep.int (fun _ => True) rfl _ _ 27 rfl wr.heap.size 3 i0 _ 8 Try.underlying27 hi hz0 hz1 hz2 rfl (by decide) (.slice none 0 0) ([] : List Int) rfl (OwnOf.nil _ _ _ _ _) (.slice (some ⟨g, 0, none⟩) k cap) (o.take k) rfl (by first | with_reducible exact LOS.out.away flat_int (Ext.refl wr).drew (own_nil _) | with_reducible exact LOS.out.away flat_int ((Ext.refl wr).alloc _).drew (own_nil _)) B1 B2 (by first | with_reducible exact (Ext.refl wr).drew.size | with_reducible exact ((Ext.refl wr).alloc _).drew.size) ?_; intro v1 w1 own1 gr1 at1; have x1 : Ext wr w1 := (by first | with_reducible exact Ext.grownNew (Ext.refl wr).drew gr1 (own_nil _) | with_reducible exact Ext.grownNew ((Ext.refl wr).alloc _).drew gr1 (own_nil _)))
                      | ((with_reducible refine key_op 55 ?_); (try simp only [Act.put, List.setIfInBounds_toArray, List.set_cons_zero, List.set_cons_succ]); refine step_append_all Rep.int (fun _ => True) rfl _ _ 27 rfl wr.heap.size 3 i0 _ 8 Try.underlying27 hi hz0 hz1 hz2 rfl (by decide) v1 ([] ++ o.take k) rfl (by first | with_reducible exact own1 | with_reducible exact own1.ext ((Ext.refl _).alloc _)) _ [x] rfl (by first | exact lone_new HR.out own1 | exact lone_old HR.out gr1 rfl at1) B3 B4 (by first | with_reducible exact x1.size | with_reducible exact (x1.alloc _).size) ?_; intro v2 w2 own2 gr2 at2; have x2 : Ext wr w2 := (by first | with_reducible exact Ext.grownNew x1 gr2 own1.base | with_reducible exact Ext.grownNew (x1.alloc _) gr2 own1.base))
                      | ((with_reducible refine key_op 59 ?_); (try simp only [Act.put, List.setIfInBounds_toArray, List.set_cons_zero, List.set_cons_succ]); refine step_append_all Rep.int (fun _ => True) rfl _ _ 27 rfl wr.heap.size 3 i0 _ 8 Try.underlying27 hi hz0 hz1 hz2 rfl (by decide) v2 ([] ++ o.take k ++ [x]) rfl own2 (.slice (some ⟨g, k, none⟩) (o.length - k) (cap - k)) (o.drop k) rfl (HIS.out.away flat_int x2 own2.base) B5 B6 x2.size ?_; intro v3 w3 own3 gr3 at3; have x3 : Ext wr w3 := Ext.grownNew x2 gr3 own2.base))
                    all_goals
                      have R3 := own3.weak (T := fun _ => True) (fun _ _ h => h) hx.size
                      have X3 := hx.trans x3
                      rw [List.nil_append] at R3
                      have H3 := Lib.hid R3
                      clear R3 own1 own2 own3 gr1 gr2 gr3 at1 at2 at3 x1 x2 x3 hx HO LOS HIS
                      go_wp2_with fail
                      go_roundg (l.length - (j + 1))
                      case measure => omega
                      case rel => exact ⟨j + 1, _, by omega, rfl, by go_num, H3.out, by rw [HTK.out, ← List.append_assoc]; exact HASC.out, X3⟩
              · have : k = o.length := by omega
                have hd2 : decide ((k : Int) < (o.length : Int)) = false := by simp; omega
                have hd5 : ((k : Int) == (o.length : Int)) = true := by simp; omega
                have hkn : k = o.length := this
                have HKN := Lib.hid hkn
                clear this hkn
                by_cases hcu : k = cap
                · subst hcu
                  have los : SliceOf Rep.int wr.cell? (.slice (some ⟨g, 0, none⟩) k k) (o.take k) := HO.out.slice.takeV k (by omega)
                  have his : SliceOf Rep.int wr.cell? (.slice (some ⟨g, 0, none⟩) 0 0) (o.drop k) := by rw [List.drop_eq_nil_of_le (by omega)]; exact ⟨[], trivial, .inr ⟨_, 0, rfl, Nat.le_refl _, by simp [maxLen], .inl rfl⟩⟩
                  have LOS := Lib.hid los
                  have HIS := Lib.hid his
                  have hasc : AscOf (o.take k ++ [x] ++ o.drop k) (doneL a b kk ++ l.take j ++ [x]) := HINS.out k (by omega) HALL.out (fun h => by omega)
                  have HASC := Lib.hid hasc
                  have B1 : ([] : List Int).length + (o.take k).length ≤ maxLen := by simp [maxLen] <;> omega
                  have B2 : (([] : List Int).length + (o.take k).length) * 8 ≤ 140737488355328 := by simp <;> omega
                  have B3 : ([] ++ o.take k).length + [x].length ≤ maxLen := by simp [maxLen] <;> omega
                  have B4 : (([] ++ o.take k).length + [x].length) * 8 ≤ 140737488355328 := by simp <;> omega
                  have B5 : ([] ++ o.take k ++ [x]).length + (o.drop k).length ≤ maxLen := by simp [maxLen] <;> omega
                  have B6 : (([] ++ o.take k ++ [x]).length + (o.drop k).length) * 8 ≤ 140737488355328 := by simp <;> omega
                  clear los his hasc
                  have hkc : k ≤ k := Nat.le_refl k
                  go_wp2_with fail
                  go_region_law (first
                    | ((with_reducible refine key_op 52 ?_); (try simp only [Act.put, List.getElem_toArray, List.getElem_cons_zero, List.getElem_cons_succ, List.setIfInBounds_toArray, List.set_cons_zero, List.set_cons_succ]); refine step_append_all Rep.int (fun _ => True) rfl _ _ 27 rfl wr.heap.size 3 i0 _ 8 Try.underlying27 hi hz0 hz1 hz2 rfl (by decide) (.slice none 0 0) ([] : List Int) rfl (OwnOf.nil _ _ _ _ _) (.slice (some ⟨g, 0, none⟩) k k) (o.take k) rfl (by first | with_reducible exact LOS.out.away flat_int (Ext.refl wr).drew (own_nil _) | with_reducible exact LOS.out.away flat_int ((Ext.refl wr).alloc _).drew (own_nil _)) B1 B2 (by first | with_reducible exact (Ext.refl wr).drew.size | with_reducible exact ((Ext.refl wr).alloc _).drew.size) ?_; intro v1 w1 own1 gr1 at1; have x1 : Ext wr w1 := (by first | with_reducible exact Ext.grownNew (Ext.refl wr).drew gr1 (own_nil _) | with_reducible exact Ext.grownNew ((Ext.refl wr).alloc _).drew gr1 (own_nil _)))
                    | ((with_reducible refine key_op 55 ?_); (try simp only [Act.put, List.setIfInBounds_toArray, List.set_cons_zero, List.set_cons_succ]); refine step_append_all Rep.int (fun _ => True) rfl _ _ 27 rfl wr.heap.size 3 i0 _ 8 Try.underlying27 hi hz0 hz1 hz2 rfl (by decide) v1 ([] ++ o.take k) rfl (by first | with_reducible exact own1 | with_reducible exact own1.ext ((Ext.refl _).alloc _)) _ [x] rfl (by first | exact lone_new HR.out own1 | exact lone_old HR.out gr1 rfl at1) B3 B4 (by first | with_reducible exact x1.size | with_reducible exact (x1.alloc _).size) ?_; intro v2 w2 own2 gr2 at2; have x2 : Ext wr w2 := (by first | with_reducible exact Ext.grownNew x1 gr2 own1.base | with_reducible exact Ext.grownNew (x1.alloc _) gr2 own1.base))
                    | ((with_reducible refine key_op 59 ?_); (try simp only [Act.put, List.setIfInBounds_toArray, List.set_cons_zero, List.set_cons_succ]); refine step_append_all Rep.int (fun _ => True) rfl _ _ 27 rfl wr.heap.size 3 i0 _ 8 Try.underlying27 hi hz0 hz1 hz2 rfl (by decide) v2 ([] ++ o.take k ++ [x]) rfl own2 (.slice (some ⟨g, 0, none⟩) 0 0) (o.drop k) rfl (HIS.out.away flat_int x2 own2.base) B5 B6 x2.size ?_; intro v3 w3 own3 gr3 at3; have x3 : Ext wr w3 := Ext.grownNew x2 gr3 own2.base))
                  all_goals
                    have R3 := own3.weak (T := fun _ => True) (fun _ _ h => h) hx.size
                    have X3 := hx.trans x3
                    rw [List.nil_append] at R3
                    have H3 := Lib.hid R3
                    clear R3 own1 own2 own3 gr1 gr2 gr3 at1 at2 at3 x1 x2 x3 hx HO LOS HIS
                    go_wp2_with fail
                    go_roundg (l.length - (j + 1))
                    case measure => omega
                    case rel => exact ⟨j + 1, _, by omega, rfl, by go_num, H3.out, by rw [HTK.out, ← List.append_assoc]; exact HASC.out, X3⟩
                · have hcu2 : ¬ (k : Int) = (cap : Int) := by omega
                  have los : SliceOf Rep.int wr.cell? (.slice (some ⟨g, 0, none⟩) k cap) (o.take k) := HO.out.slice.takeV k (by omega)
                  have his : SliceOf Rep.int wr.cell? (.slice (some ⟨g, k, none⟩) (o.length - k) (cap - k)) (o.drop k) := by have h := HO.out.slice.dropV k (by omega); rwa [show Rep.int.size = 1 from rfl, Nat.mul_one, Nat.zero_add] at h
                  have LOS := Lib.hid los
                  have HIS := Lib.hid his
                  have hasc : AscOf (o.take k ++ [x] ++ o.drop k) (doneL a b kk ++ l.take j ++ [x]) := HINS.out k (by omega) HALL.out (fun h => by omega)
                  have HASC := Lib.hid hasc
                  have B1 : ([] : List Int).length + (o.take k).length ≤ maxLen := by simp [maxLen] <;> omega
                  have B2 : (([] : List Int).length + (o.take k).length) * 8 ≤ 140737488355328 := by simp <;> omega
                  have B3 : ([] ++ o.take k).length + [x].length ≤ maxLen := by simp [maxLen] <;> omega
                  have B4 : (([] ++ o.take k).length + [x].length) * 8 ≤ 140737488355328 := by simp <;> omega
                  have B5 : ([] ++ o.take k ++ [x]).length + (o.drop k).length ≤ maxLen := by simp [maxLen] <;> omega
                  have B6 : (([] ++ o.take k ++ [x]).length + (o.drop k).length) * 8 ≤ 140737488355328 := by simp <;> omega
                  clear los his hasc
                  have hkc : k ≤ cap := by omega
                  have hkc2 : ¬ cap = k := by omega
                  have hkc3 : ¬ (k : Int) = (cap : Int) := by omega
                  go_wp2_with fail
                  go_region_law (first
                    | ((with_reducible refine key_op 52 ?_); (try simp only [Act.put, List.getElem_toArray, List.getElem_cons_zero, List.getElem_cons_succ, List.setIfInBounds_toArray, List.set_cons_zero, List.set_cons_succ]); refine step_append_all Rep.int (fun _ => True) rfl _ _ 27 rfl wr.heap.size 3 i0 _ 8 Try.underlying27 hi hz0 hz1 hz2 rfl (by decide) (.slice none 0 0) ([] : List Int) rfl (OwnOf.nil _ _ _ _ _) (.slice (some ⟨g, 0, none⟩) k cap) (o.take k) rfl (by first | with_reducible exact LOS.out.away flat_int (Ext.refl wr).drew (own_nil _) | with_reducible exact LOS.out.away flat_int ((Ext.refl wr).alloc _).drew (own_nil _)) B1 B2 (by first | with_reducible exact (Ext.refl wr).drew.size | with_reducible exact ((Ext.refl wr).alloc _).drew.size) ?_; intro v1 w1 own1 gr1 at1; have x1 : Ext wr w1 := (by first | with_reducible exact Ext.grownNew (Ext.refl wr).drew gr1 (own_nil _) | with_reducible exact Ext.grownNew ((Ext.refl wr).alloc _).drew gr1 (own_nil _)))
                    | ((with_reducible refine key_op 55 ?_); (try simp only [Act.put, List.setIfInBounds_toArray, List.set_cons_zero, List.set_cons_succ]); refine step_append_all Rep.int (fun _ => True) rfl _ _ 27 rfl wr.heap.size 3 i0 _ 8 Try.underlying27 hi hz0 hz1 hz2 rfl (by decide) v1 ([] ++ o.take k) rfl (by first | with_reducible exact own1 | with_reducible exact own1.ext ((Ext.refl _).alloc _)) _ [x] rfl (by first | exact lone_new HR.out own1 | exact lone_old HR.out gr1 rfl at1) B3 B4 (by first | with_reducible exact x1.size | with_reducible exact (x1.alloc _).size) ?_; intro v2 w2 own2 gr2 at2; have x2 : Ext wr w2 := (by first | with_reducible exact Ext.grownNew x1 gr2 own1.base | with_reducible exact Ext.grownNew (x1.alloc _) gr2 own1.base))
                    | ((with_reducible refine key_op 59 ?_); (try simp only [Act.put, List.setIfInBounds_toArray, List.set_cons_zero, List.set_cons_succ]); refine step_append_all Rep.int (fun _ => True) rfl _ _ 27 rfl wr.heap.size 3 i0 _ 8 Try.underlying27 hi hz0 hz1 hz2 rfl (by decide) v2 ([] ++ o.take k ++ [x]) rfl own2 (.slice (some ⟨g, k, none⟩) (o.length - k) (cap - k)) (o.drop k) rfl (HIS.out.away flat_int x2 own2.base) B5 B6 x2.size ?_; intro v3 w3 own3 gr3 at3; have x3 : Ext wr w3 := Ext.grownNew x2 gr3 own2.base))
                  all_goals
                    have R3 := own3.weak (T := fun _ => True) (fun _ _ h => h) hx.size
                    have X3 := hx.trans x3
                    rw [List.nil_append] at R3
                    have H3 := Lib.hid R3
                    clear R3 own1 own2 own3 gr1 gr2 gr3 at1 at2 at3 x1 x2 x3 hx HO LOS HIS
                    go_wp2_with fail
                    go_roundg (l.length - (j + 1))
                    case measure => omega
                    case rel => exact ⟨j + 1, _, by omega, rfl, by go_num, H3.out, by rw [HTK.out, ← List.append_assoc]; exact HASC.out, X3⟩
        · have : j = l.length := by omega
          subst this
          rw [List.take_length, ← HD.out] at hasc
          have HASC := Lib.hid hasc
          clear hasc
          rcases hform with ⟨rfl, rfl⟩ | ⟨g, cap, rfl, hcap1, hcap2⟩
          all_goals
            go_wp2_with fail
            go_roundg (2 - (kk + 1))
            case measure => omega
            case rel => exact ⟨kk + 1, _, by omega, rfl, by go_num, HO.out, HASC.out, hx⟩
    · have : kk = 2 := by omega
      subst this
      go_wp2_with fail
      go_ret
      exact ⟨_, rfl, by rw [← AscOf.merge (a := a) (b := b) (by simpa [doneL] using HA0.out)]; exact HO0.out.fresh flat_int, hx0⟩

end Go.Proofs.Ytmjfbfigdkolaaa

