/- annalistref1.SameInts; the laws' sanity check -/
import Derived.Test.YtmjfbfigdkolaaaBagN
import Derived.Test.YtmjfbfigdkolaaaBagJ
namespace Go.Proofs.Ytmjfbfigdkolaaa
open Go.RowKit

set_option maxHeartbeats 2000000 in
theorem same_ints (va vb : Value) (l l' : List Int) (w : World) (ha : SliceOf Rep.int w.cell? va l) (hb : SliceOf Rep.int w.cell? vb l') :
    Calls Try.prog 24 #[va, vb] w fun e w' => e = .returned (.bool (eqB l l')) ∧ Gro w w' := by
  obtain ⟨pa, ca, rfl, ha1, ha2, ha3⟩ := ha.form
  obtain ⟨pb, cb, rfl, hb1, hb2, hb3⟩ := hb.form
  unfold maxLen at ha2 hb2
  go_enter Try.func24, Try.ntmps24
  by_cases hlen : l.length = l'.length
  · have hlb : ((l.length : Int) != (l'.length : Int)) = false := by simp [hlen]
    have HLn := Lib.hid hlen
    clear hlen
    go_wp2_with fail
    go_loopg [5] l.length (fun gk i wr => ∃ k : Nat, k ≤ l.length ∧ gk = l.length - k ∧ i = .int .i64 k ∧ eqB l l' = eqB (l.drop k) (l'.drop k) ∧ Gro w wr)
    case atStart => exact ⟨0, by omega, rfl, rfl, rfl, Gro.refl w⟩
    case round =>
      obtain ⟨k, hk, rfl, rfl, hc, hx⟩ := hrel
      have HC := Lib.hid hc
      clear hc
      by_cases hlt : k < l.length
      · have hlt2 : k < l'.length := by have := HLn.out; omega
        obtain ⟨ba, oa, rfl⟩ := ha3 (by decide) (by omega)
        obtain ⟨bb, ob, rfl⟩ := hb3 (by decide) (by omega)
        obtain ⟨c1, _⟩ := int_at ha k hlt
        obtain ⟨d1, _⟩ := int_at hb k hlt2
        have hdr := eqB_drop l l' k hlt hlt2
        generalize l[k] = x at c1 hdr
        generalize l'[k] = y at d1 hdr
        replace c1 := hx.at c1
        replace d1 := hx.at d1
        have HD := Lib.hid hdr
        have hd : decide ((k : Int) < (l.length : Int)) = true := by simp; omega
        have hd1 : (k : Int) < (l.length : Int) := by omega
        have hd2 : (k : Int) < (l'.length : Int) := by omega
        clear hdr ha hb ha3 hb3
        by_cases hxy : x = y
        · have hb1 : (x != y) = false := by simp [hxy]
          have HX := Lib.hid hxy
          clear hxy
          go_wp2_with fail
          go_quiet (fail)
          go_wp2_with fail
          go_roundg (l.length - (k + 1))
          case measure => omega
          case rel => exact ⟨k + 1, by omega, rfl, by go_num, by rw [HC.out, HD.out, eqB_iff.2 HX.out, Bool.true_and], hx.drewN _⟩
        · have hb1 : (x != y) = true := by simp [hxy]
          have HX := Lib.hid hxy
          clear hxy
          go_wp2_with fail
          go_quiet (fail)
          go_wp2_with fail
          go_ret
          exact ⟨ret_bool (by rw [HC.out, HD.out, Bool.eq_false_iff.2 (fun h => HX.out (eqB_iff.1 h)), Bool.false_and]), hx.drewN _⟩
      · have : k = l.length := by omega
        subst this
        have hen := eqB_end l l' HLn.out
        have HE := Lib.hid hen
        clear hen
        go_wp2_with fail
        go_ret
        exact ⟨ret_bool (by rw [HC.out, HE.out]), hx⟩
  · have hlb : ((l.length : Int) != (l'.length : Int)) = true := by simp; omega
    have hen := eqB_len l l' hlen
    have HE := Lib.hid hen
    clear hen
    go_wp2_with fail
    go_ret
    exact ⟨ret_bool HE.out.symm, Gro.refl w⟩

end Go.Proofs.Ytmjfbfigdkolaaa
