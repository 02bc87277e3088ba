/- algebra.Widen, Wide.Plus, Int64, sum -/
import Derived.Test.YtdgpbpbjlnlijaaGreatDoorKC14
import Derived.Test.YtdgpbpbjlnlijaaGreatDoorKC11
import Derived.Shelf.Spec.BitsCarry
import Derived.WalkArith
import Derived.Test.YtdgpbpbjlnlijaaGreatDoorKC12
namespace Go.Proofs.YtdgpbpbjlnlijaaGreatDoor
open Go.RowKit

theorem add64N (x y c : Nat) (hc : c ≤ 1) (w : World) : (callFunc 235 #[.int .u64 x, .int .u64 y, .int .u64 c]).run Tryz.prog w =
    .ok (.value (.tuple #[.int .u64 (((x + y + c) % 18446744073709551616 : Nat) : Int), .int .u64 (((x + y + c) / 18446744073709551616 : Nat) : Int)])) w := by
  rw [run_callFunc_extern Tryz.func235 (by kernel_rfl) (by kernel_rfl) (by kernel_rfl) (e := add64Entry) (by kernel_rfl), run_add64 x y c (by omega) (by omega) (by omega) (by omega)]
  simp only [Result.andThen]
  congr 5 <;> omega
theorem add64_0 (x y : Int) (hx : 0 ≤ x) (hy : 0 ≤ y) (w : World) : (callFunc 235 #[.int .u64 x, .int .u64 y, .int .u64 0]).run Tryz.prog w =
    .ok (.value (.tuple #[.int .u64 ((x + y) % 18446744073709551616), .int .u64 ((x + y) / 18446744073709551616)])) w := by
  obtain ⟨x, rfl⟩ := Int.eq_ofNat_of_zero_le hx
  obtain ⟨y, rfl⟩ := Int.eq_ofNat_of_zero_le hy
  refine (add64N x y 0 (by omega) w).trans ?_
  congr 5 <;> omega
def wideV (S : Int) : Value := .agg #[.int .i64 (wideHi S), .int .u64 (wideLo S)]

set_option maxRecDepth 100000 in
theorem widen_any (n : Int) (w : World) (h0 : -9223372036854775808 ≤ n) (h1 : n ≤ 9223372036854775807) : Calls Tryz.prog 189 #[.int .i64 n] w fun e w' => e = .returned (wideV n) ∧ Ext w w' := by
  have hh : n / 9223372036854775808 = wideHi n := by unfold wideHi; omega
  have hl : IntKind.u64.wrap n = wideLo n := by unfold wideLo; rw [IntKind.wrap_u64]
  go_enter Tryz.func189, Tryz.ntmps189
  go_wp2_with fail
  exact bodyPost_ret (v := wideV n) (by simp [results, Tryz.results189, go_sem, wideV]) rfl ⟨rfl, (Ext.refl w).alloc _⟩

set_option maxRecDepth 100000 in
theorem plus_any (S T : Int) (w : World) (h0 : -10141204801825835211973625643008 ≤ S ∧ S ≤ 10141204801825835211973625643008) (h1 : -10141204801825835211973625643008 ≤ T ∧ T ≤ 10141204801825835211973625643008) : Calls Tryz.prog 188 #[wideV S, wideV T] w fun e w' => e = .returned (wideV (S + T)) ∧ Ext w w' := by
  unfold wideV
  obtain ⟨a, ha⟩ : ∃ a, a = wideHi S := ⟨_, rfl⟩
  obtain ⟨b, hb⟩ : ∃ a, a = wideLo S := ⟨_, rfl⟩
  obtain ⟨c, hc⟩ : ∃ a, a = wideHi T := ⟨_, rfl⟩
  obtain ⟨d, hd⟩ : ∃ a, a = wideLo T := ⟨_, rfl⟩
  rw [← ha, ← hb, ← hc, ← hd]
  unfold wideHi at ha hc
  unfold wideLo at hb hd
  have hb0 : 0 ≤ b := by omega
  have hd0 : 0 ≤ d := by omega
  have HHI := Lib.hid (show a + c + (b + d) / 18446744073709551616 = wideHi (S + T) from by unfold wideHi; omega)
  have HLO := Lib.hid (show (b + d) % 18446744073709551616 = wideLo (S + T) from by unfold wideLo; omega)
  have hw1 : IntKind.i64.wrap (a + c) = a + c := by rw [IntKind.wrap_i64]; omega
  have hw2 : IntKind.i64.wrap ((b + d) / 18446744073709551616) = (b + d) / 18446744073709551616 := by rw [IntKind.wrap_i64]; omega
  have hw3 : IntKind.i64.wrap (a + c + (b + d) / 18446744073709551616) = a + c + (b + d) / 18446744073709551616 := by rw [IntKind.wrap_i64]; omega
  have HA := add64_0 b d hb0 hd0
  clear ha hb hc hd h0 h1
  go_enter Tryz.func188, Tryz.ntmps188
  go_wp2_with (simp only [HA])
  exact bodyPost_ret (v := .agg #[.int .i64 (wideHi (S + T)), .int .u64 (wideLo (S + T))]) (by rw [← HHI.out, ← HLO.out]; simp [results, Tryz.results188, go_sem]) rfl ⟨rfl, (((Ext.refl w).alloc _).alloc _).alloc _⟩

set_option maxRecDepth 100000 in
theorem int64_any (S : Int) (w : World) (h0 : -10141204801825835211973625643008 ≤ S ∧ S ≤ 10141204801825835211973625643008) : Calls Tryz.prog 190 #[wideV S] w fun e w' => ∃ n b, e = .returned (.tuple #[.int .i64 n, .bool b]) ∧ (b = true ↔ -9223372036854775808 ≤ S ∧ S ≤ 9223372036854775807) ∧ (b = true → n = S) ∧ Ext w w' := by
  unfold wideV
  obtain ⟨a, ha⟩ : ∃ a, a = wideHi S := ⟨_, rfl⟩
  obtain ⟨b, hb⟩ : ∃ a, a = wideLo S := ⟨_, rfl⟩
  rw [← ha, ← hb]
  unfold wideHi at ha
  unfold wideLo at hb
  obtain ⟨n, hn⟩ : ∃ n, IntKind.i64.wrap b = n := ⟨_, rfl⟩
  have hn' := hn
  rw [IntKind.wrap_i64] at hn'
  obtain ⟨q, hq⟩ : ∃ q, n / 9223372036854775808 = q := ⟨_, rfl⟩
  have H1 := Lib.hid (show (a == q) = true ↔ -9223372036854775808 ≤ S ∧ S ≤ 9223372036854775807 from by rw [beq_iff_eq]; omega)
  have H2 := Lib.hid (show (a == q) = true → n = S from by rw [beq_iff_eq]; omega)
  clear ha hb h0 hn'
  go_enter Tryz.func190, Tryz.ntmps190
  go_wp2_with fail
  go_region
  go_wp2_with fail
  go_ret2
  exact ⟨n, a == q, rfl, H1.out, H2.out, ((Ext.refl w).alloc _).drew⟩

set_option maxRecDepth 100000 in
set_option maxHeartbeats 4000000 in
theorem sum_any (v : Value) (xs : List Val) (w : World) (hv : SliceOf Rep.val w.cell? v xs) (hl : xs.length ≤ 1048576) : Calls Tryz.prog 134 #[v] w fun e w' => e = .returned (valV (sumV xs)) ∧ Ext w w' := by
  obtain ⟨p, cap, rfl, hc1, hc2, hp⟩ := hv.form
  obtain ⟨N, hN⟩ : ∃ N, N = xs.length := ⟨_, rfl⟩
  have HV := Lib.hid hv
  rw [← hN]
  have HN := Lib.hid hN
  have HP := Lib.hid hp
  have hNl : N ≤ 1048576 := by omega
  clear hv hl hp hc1 hc2 hN
  have HOK := Lib.hid (vals_ok HV.out)
  go_enter Tryz.func134, Tryz.ntmps134
  go_wp2_with fail
  obtain ⟨Q, hQ⟩ : ∃ q, q = w.heap.size := ⟨_, rfl⟩
  have HQ := Lib.hid hQ
  rw [← hQ]
  go_loopg [4, 11] N (fun gk vb vi wr => ∃ k : Nat, k ≤ N ∧ gk = N - k ∧ vi = .int .i64 k ∧ vb = .bool (anyI (xs.take k)) ∧ Hid (wr.cell? ⟨Q + 1, 0, none⟩ = some (.int .i64 (wideHi (sumI (xs.take k)))) ∧ wr.cell? ⟨Q + 1, 1, none⟩ = some (.int .u64 (wideLo (sumI (xs.take k)))) ∧ wr.frozen? ⟨Q + 1, 0, none⟩ = false ∧ wr.frozen? ⟨Q + 1, 1, none⟩ = false) ∧ Hid (FreeN wr Q 3) ∧ Hid (Ext w wr))
  case atStart =>
    refine ⟨0, by omega, rfl, rfl, rfl, ⟨?_, ?_, ?_, ?_⟩, fun j hj => ?_, ((Ext.refl w).alloc _).alloc _⟩
    · rw [hQ]; go_simp; rfl
    · rw [hQ]; go_simp; rfl
    · rw [hQ]; go_simp
    · rw [hQ]; go_simp
    · rw [hQ]
      match j, hj with
      | 0, _ => exact ⟨⟨.int .i64 0, by go_simp⟩, by go_simp⟩
      | 1, _ => exact ⟨⟨.int .i64 0, by go_simp⟩, by go_simp⟩
      | 2, _ => exact ⟨⟨.string ⟨#[]⟩, by go_simp⟩, by go_simp⟩
  case round =>
    clear hQ
    obtain ⟨k, hk, rfl, rfl, rfl, TT, FR, HX⟩ := hrel
    by_cases hlt : k < N
    · have hkl : k < xs.length := by have := HN.out; omega
      have hd : decide ((k : Int) < (N : Int)) = true := by simp; omega
      obtain ⟨b, o, rfl⟩ := HP.out (by decide) (by omega)
      have hv := HV.out
      rw [← HN.out] at hv
      obtain ⟨c0, c1, c2, r0, r1⟩ := val_cells hv k hkl
      replace c0 := HX.out.at c0
      replace c1 := HX.out.at c1
      replace c2 := HX.out.at c2
      have hst := sumI_take xs k hkl
      have hat := anyI_take xs k hkl
      have hbd := sumI_bound (xs := xs.take k) (b := 9223372036854775808) (by decide) (fun v hv => by have := (HOK.out v (List.mem_of_mem_take hv)).2.1; omega)
      rw [List.length_take, Nat.min_eq_left (by omega)] at hbd
      obtain ⟨S, hS⟩ : ∃ S, S = sumI (xs.take k) := ⟨_, rfl⟩
      rw [← hS] at TT hst hbd
      have hS1 : -10141204801825835211973625643008 ≤ S ∧ S ≤ 10141204801825835211973625643008 := by omega
      generalize xs[k] = y at c0 c1 c2 r0 r1 hst hat
      obtain ⟨yk, yn, ys⟩ := y
      dsimp only at c0 c1 c2 r0 r1 hst hat
      have e0 := cell_lt c0
      have m0 := TT.out.1
      have m1 := TT.out.2.1
      have e1 := cell_lt m0
      have HS1 := Lib.hid hS1
      have HR1 := Lib.hid r1
      have HST := Lib.hid hst
      have HAT := Lib.hid hat
      clear hv hbd hS hS1 r0 r1 hst hat hkl
      by_cases hyk : yk = 1
      · have hb1 : (yk == 1) = true := by simp [hyk]
        have HYK := Lib.hid hyk
        clear hyk
        go_wp2_with fail
        have k1 : (wr.alloc (.cells #[.int .i64 yk, .int .i64 yn, .string ys] 44)).cell? ⟨wr.heap.size, 1, none⟩ = some (.int .i64 yn) := by go_simp
        have x0 : Ext wr (wr.alloc (.cells #[.int .i64 yk, .int .i64 yn, .string ys] 44)) := (Ext.refl wr).alloc _
        generalize (wr.alloc (.cells #[.int .i64 yk, .int .i64 yn, .string ys] 44)) = W at k1 x0 ⊢
        replace m0 := x0.at m0
        replace m1 := x0.at m1
        have X0 := Lib.hid x0.drew
        clear x0 c0 c1 c2 e0 e1
        go_region_law (first
          | ((with_reducible refine key_op 21 ?_); go_simp; refine (widen_any yn _ HR1.out.1 HR1.out.2).mono ?_; rintro e w5 ⟨rfl, x5⟩; unfold wideV; have X5 : Hid (Ext wr w5) := Lib.hid (X0.out.trans x5); have f0 := X5.out.at TT.out.1; have f1 := X5.out.at TT.out.2.1; have f4 := cell_lt f0)
          | ((with_reducible refine key_op 22 ?_); go_simp; refine (plus_any S yn _ HS1.out (by have := HR1.out; omega)).mono ?_; rintro e w6 ⟨rfl, x6⟩; unfold wideV; have X6 : Hid (Ext wr w6) := Lib.hid (X5.out.trans x6); have l0 := X6.out.at TT.out.1; have l1 := X6.out.at TT.out.2.1; have l2 := X6.out.unfrozen TT.out.1 TT.out.2.2.1; have l3 := X6.out.unfrozen TT.out.2.1 TT.out.2.2.2; have l4 := cell_lt l0))
        all_goals
          have CH : Chg (fun x => x = Q + 1) wr ((w6.setCell ⟨Q + 1, 0, none⟩ (.int .i64 (wideHi (S + yn)))).setCell ⟨Q + 1, 1, none⟩ (.int .u64 (wideLo (S + yn)))) := ((X6.out.chg (fun x => x = Q + 1)).setCell (p := ⟨Q + 1, 0, none⟩) (.inl rfl) _).setCell (p := ⟨Q + 1, 1, none⟩) (.inl rfl) _
          have X7 : Ext w ((w6.setCell ⟨Q + 1, 0, none⟩ (.int .i64 (wideHi (S + yn)))).setCell ⟨Q + 1, 1, none⟩ (.int .u64 (wideLo (S + yn)))) := Below.setCell (Below.setCell (HX.out.trans X6.out) (by have := HQ.out; show w.heap.size ≤ Q + 1; omega) _) (by have := HQ.out; show w.heap.size ≤ Q + 1; omega) _
          have q0 : ((w6.setCell ⟨Q + 1, 0, none⟩ (.int .i64 (wideHi (S + yn)))).setCell ⟨Q + 1, 1, none⟩ (.int .u64 (wideLo (S + yn)))).cell? ⟨Q + 1, 0, none⟩ = some (.int .i64 (wideHi (S + yn))) := by go_simp
          have q1 : ((w6.setCell ⟨Q + 1, 0, none⟩ (.int .i64 (wideHi (S + yn)))).setCell ⟨Q + 1, 1, none⟩ (.int .u64 (wideLo (S + yn)))).cell? ⟨Q + 1, 1, none⟩ = some (.int .u64 (wideLo (S + yn))) := by go_simp
          have q2 : ((w6.setCell ⟨Q + 1, 0, none⟩ (.int .i64 (wideHi (S + yn)))).setCell ⟨Q + 1, 1, none⟩ (.int .u64 (wideLo (S + yn)))).frozen? ⟨Q + 1, 0, none⟩ = false := by go_simp
          have q3 : ((w6.setCell ⟨Q + 1, 0, none⟩ (.int .i64 (wideHi (S + yn)))).setCell ⟨Q + 1, 1, none⟩ (.int .u64 (wideLo (S + yn)))).frozen? ⟨Q + 1, 1, none⟩ = false := by go_simp
          generalize (w6.setCell ⟨Q + 1, 0, none⟩ (.int .i64 (wideHi (S + yn)))).setCell ⟨Q + 1, 1, none⟩ (.int .u64 (wideLo (S + yn))) = w7 at CH X7 q0 q1 q2 q3 ⊢
          have FR7 := Lib.hid (FR.out.chg CH (by omega))
          have HX7 := Lib.hid X7
          have TT7 := Lib.hid (And.intro q0 (And.intro q1 (And.intro q2 q3)))
          clear CH X7 q0 q1 q2 q3 l0 l1 l2 l3 l4 f0 f1 f4 m0 m1 k1
          go_wp2_with fail
          go_roundg (N - (k + 1))
          case measure => omega
          case rel =>
            refine ⟨k + 1, by omega, rfl, by go_num, ?_, ?_, FR7.out, HX7.out⟩
            · rw [HAT.out, decide_eq_true HYK.out, Bool.or_true]
            · rw [HST.out, if_pos HYK.out]; exact TT7.out
      · have hb1 : (yk == 1) = false := by simp [hyk]
        have HYK := Lib.hid hyk
        clear hyk
        go_wp2_with fail
        go_roundg (N - (k + 1))
        case measure => omega
        case rel =>
          have X1 := (Ext.refl wr).alloc (.cells #[.int .i64 yk, .int .i64 yn, .string ys] 44)
          refine ⟨k + 1, by omega, rfl, by go_num, ?_, ⟨?_, ?_, ?_, ?_⟩, ?_, HX.out.trans X1⟩
          · rw [HAT.out, decide_eq_false HYK.out, Bool.or_false]
          · rw [HST.out, if_neg HYK.out, Int.add_zero]; exact X1.at TT.out.1
          · rw [HST.out, if_neg HYK.out, Int.add_zero]; exact X1.at TT.out.2.1
          · exact X1.unfrozen TT.out.1 TT.out.2.2.1
          · exact X1.unfrozen TT.out.2.1 TT.out.2.2.2
          · exact FR.out.chg (X1.chg (fun _ => False)) (fun h => h)
    · have hkN : k = N := by omega
      have hd : ¬ (k : Int) < (N : Int) := by omega
      have hxt : xs.take k = xs := by rw [hkN, HN.out]; exact List.take_length
      rw [hxt] at TT
      rw [hxt]
      have hbd := sumI_bound (xs := xs) (b := 9223372036854775808) (by decide) (fun v hv => by have := (HOK.out v hv).2.1; omega)
      obtain ⟨S, hS⟩ : ∃ S, S = sumI xs := ⟨_, rfl⟩
      have HSV := Lib.hid (show sumV xs = if anyI xs = true ∧ -9223372036854775808 ≤ S ∧ S ≤ 9223372036854775807 then intVal S else nV from by rw [hS]; rfl)
      rw [← hS] at TT hbd
      have hS1 : -10141204801825835211973625643008 ≤ S ∧ S ≤ 10141204801825835211973625643008 := by have := HN.out; omega
      have m0 := TT.out.1
      have m1 := TT.out.2.1
      have HS1 := Lib.hid hS1
      have e1 := cell_lt m0
      generalize anyI xs = ay at HSV ⊢
      clear hkN hxt hbd hS hS1
      go_wp2_with fail
      refine (int64_any S _ HS1.out).mono ?_
      rintro e w5 ⟨n, bo, rfl, hb1, hb2, x5⟩
      have HB := Lib.hid (And.intro hb1 hb2)
      obtain ⟨⟨⟨z0, f0⟩, g0⟩, ⟨⟨z1, f1⟩, g1⟩, ⟨⟨z2, f2⟩, g2⟩⟩ := And.intro (FR.out.ext x5 0 (by omega)) (And.intro (FR.out.ext x5 1 (by omega)) (FR.out.ext x5 2 (by omega)))
      have X5 := Lib.hid (HX.out.trans x5)
      have e5 := cell_lt f0
      clear hb1 hb2 x5 m0 m1 e1 TT FR HX
      cases ay <;> cases bo
      all_goals
        go_wp2_with fail
        have XF : ∀ u v z, Ext w (((w5.setCell ⟨Q, 0, none⟩ u).setCell ⟨Q, 1, none⟩ v).setCell ⟨Q, 2, none⟩ z) := fun u v z => Below.setCell (Below.setCell (Below.setCell X5.out (by have := HQ.out; show w.heap.size ≤ Q; omega) _) (by have := HQ.out; show w.heap.size ≤ Q; omega) _) (by have := HQ.out; show w.heap.size ≤ Q; omega) _
        first
        | exact bodyPost_ret (v := .agg #[.int .i64 0, .int .i64 0, .string ⟨#[]⟩]) (by simp [results, Tryz.results134, go_sem, f0, f1, f2]) rfl ⟨by rw [show sumV xs = nV from by rw [HSV.out]; exact if_neg (fun h => by first | exact absurd h.1 (by decide) | exact absurd (HB.out.1.2 h.2) (by decide))]; rfl, XF _ _ _⟩
        | exact bodyPost_ret (v := .agg #[.int .i64 1, .int .i64 n, .string ⟨#[]⟩]) (by simp [results, Tryz.results134, go_sem, f0, f1, f2]) rfl ⟨by rw [HSV.out, if_pos (by have h := HB.out.1; simpa using h), show n = S from by have h := HB.out.2; simpa using h]; rfl, XF _ _ _⟩

end Go.Proofs.YtdgpbpbjlnlijaaGreatDoor
