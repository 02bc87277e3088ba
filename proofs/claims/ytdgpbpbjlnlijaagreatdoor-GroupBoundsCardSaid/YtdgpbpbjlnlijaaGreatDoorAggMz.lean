/- slices.MinFunc, MaxFunc at values; algebra.Aggregate of every kind (written by gen_aggm.py) -/
import Derived.Test.YtdgpbpbjlnlijaaGreatDoorAggXz
namespace Go.Proofs.YtdgpbpbjlnlijaaGreatDoor
open Go.RowKit

theorem pickMin_snoc {xs : List Val} (h : xs ≠ []) (y : Val) : pickMin (xs ++ [y]) = if cmpVal y (pickMin xs) < 0 then y else pickMin xs := by
  cases xs with
  | nil => exact absurd rfl h
  | cons x xs =>
    show (xs ++ [y]).foldl _ x = _
    rw [List.foldl_append]
    rfl
set_option maxRecDepth 100000 in
set_option maxHeartbeats 4000000 in
theorem pickMin_any (v : Value) (xs : List Val) (w : World) (hv : SliceOf Rep.val w.cell? v xs) (hne : xs ≠ []) : Calls Tryz.prog 135 #[v, .func (.func 136) #[] #[]] w fun e w' => e = .returned (valV (pickMin xs)) ∧ Ext w w' := by
  obtain ⟨p, cap, rfl, hc1, hc2, hp⟩ := hv.form
  obtain ⟨N, hN⟩ : ∃ N, N = xs.length := ⟨_, rfl⟩
  have hN0 : 0 < N := by rw [hN]; exact List.length_pos_iff.2 hne
  have hN1 : N ≤ maxLen := by omega
  unfold maxLen at hN1
  have HV := Lib.hid hv
  rw [← hN] at HV
  rw [← hN]
  obtain ⟨b, o, rfl⟩ := hp (by decide) (by omega)
  have h00 : 0 < xs.length := List.length_pos_iff.2 hne
  have h0 : xs.take 1 = [xs[0]] := by rw [List.take_one]; simp [List.head?_eq_getElem?]
  have hpk : pickMin (xs.take 1) = xs[0] := by rw [h0]; rfl
  obtain ⟨c0, c1, c2, _, _⟩ := val_cells HV.out 0 h00
  simp only [Nat.zero_mul, Nat.add_zero] at c0 c1 c2
  rw [← hpk] at c0 c1 c2
  have HN := Lib.hid hN
  have HNE := Lib.hid hne
  have e0 := cell_lt c0
  clear hv hne hp hc1 hc2 hN h0 hpk
  have hlt1 : ¬ (N : Int) < 1 := by omega
  have hz1 : decide ((N : Int) < 1) = false := by simp; omega
  go_enter Tryz.func135, Tryz.ntmps135
  go_wp2_with fail
  obtain ⟨Q, hQ⟩ : ∃ q, q = w.heap.size := ⟨_, rfl⟩
  have HQ := Lib.hid hQ
  rw [← hQ]
  go_loopg [6] (N - 1) (fun gk vi wr => ∃ k : Nat, k + 1 ≤ N ∧ gk = N - 1 - k ∧ vi = .int .i64 ((k : Int) + 1) ∧ Hid (wr.cell? ⟨Q + 1, 0, none⟩ = some (.int .i64 (pickMin (xs.take (k + 1))).kind) ∧ wr.cell? ⟨Q + 1, 1, none⟩ = some (.int .i64 (pickMin (xs.take (k + 1))).n) ∧ wr.cell? ⟨Q + 1, 2, none⟩ = some (.string (pickMin (xs.take (k + 1))).s)) ∧ Hid (FreeN wr (Q + 1) 3) ∧ Hid (FreeN wr Q 3) ∧ Hid (Ext w wr))
  case atStart =>
    refine ⟨0, by omega, rfl, rfl, ⟨?_, ?_, ?_⟩, fun j hj => ?_, fun j hj => ?_, ((Ext.refl w).alloc _).alloc _⟩
    · rw [hQ]; go_simp
    · rw [hQ]; go_simp
    · rw [hQ]; go_simp
    · rw [hQ]
      match j, hj with
      | 0, _ => exact ⟨⟨.int .i64 (pickMin (xs.take 1)).kind, by go_simp⟩, by go_simp⟩
      | 1, _ => exact ⟨⟨.int .i64 (pickMin (xs.take 1)).n, by go_simp⟩, by go_simp⟩
      | 2, _ => exact ⟨⟨.string (pickMin (xs.take 1)).s, by go_simp⟩, by go_simp⟩
    · rw [hQ]
      match j, hj with
      | 0, _ => exact ⟨⟨.int .i64 0, by go_simp⟩, by go_simp⟩
      | 1, _ => exact ⟨⟨.int .i64 0, by go_simp⟩, by go_simp⟩
      | 2, _ => exact ⟨⟨.string ⟨#[]⟩, by go_simp⟩, by go_simp⟩
  case round =>
    clear hQ c0 c1 c2 e0
    obtain ⟨k, hk, rfl, rfl, MM, FM, FR, HX⟩ := hrel
    by_cases hlt : k + 1 < N
    · have hkl : k + 1 < xs.length := by have := HN.out; omega
      have hd : decide ((k : Int) + 1 < (N : Int)) = true := by simp; omega
      obtain ⟨c0, c1, c2, rr0, rr1⟩ := val_cells HV.out (k + 1) hkl
      clear rr0 rr1
      replace c0 := HX.out.at c0
      replace c1 := HX.out.at c1
      replace c2 := HX.out.at c2
      have hst : pickMin (xs.take (k + 1 + 1)) = if (fun y m => cmpVal y m < 0) xs[k + 1] (pickMin (xs.take (k + 1))) then xs[k + 1] else pickMin (xs.take (k + 1)) := by
        rw [List.take_succ_eq_append_getElem hkl]
        exact pickMin_snoc (fun h => by have h5 := congrArg List.length h; rw [List.length_take, List.length_nil] at h5; omega) _
      generalize xs[k + 1] = y at c0 c1 c2 hst
      obtain ⟨m, hm⟩ : ∃ m, m = pickMin (xs.take (k + 1)) := ⟨_, rfl⟩
      rw [← hm] at MM hst
      obtain ⟨yk, yn, ys⟩ := y
      obtain ⟨mk, mn, ms⟩ := m
      dsimp only at c0 c1 c2 hst
      have m0 := MM.out.1
      have m1 := MM.out.2.1
      have m2 := MM.out.2.2
      dsimp only at m0 m1 m2
      have e1 := cell_lt c0
      have e2 := cell_lt m0
      have HST := Lib.hid hst
      have hj1 : k + 1 < N := hlt
      have hj2 : (k : Int) + 1 < (N : Int) := by omega
      have hj3 : 0 ≤ (k : Int) + 1 := by omega
      have X0 := Lib.hid (show Ext wr wr.drew from (Ext.refl wr).drew)
      have hw4 : IntKind.i64.wrap ((k : Int) + 1 + 1) = (k : Int) + 1 + 1 := by rw [IntKind.wrap_i64]; omega
      clear hst hkl hm
      go_wp2_with fail
      go_region_law (first
        | ((with_reducible refine key_op 26 ?_); go_simp; refine (compare_val ⟨yk, yn, ys⟩ ⟨mk, mn, ms⟩ _).mono ?_; rintro e w5 ⟨rfl, x5⟩; have X5 : Hid (Ext wr w5) := Lib.hid (X0.out.trans x5.ext)))
      all_goals
        generalize hq : cmpVal ⟨yk, yn, ys⟩ ⟨mk, mn, ms⟩ = q
        have HQQ := Lib.hid hq
        clear hq
        replace c0 := X5.out.at c0
        replace c1 := X5.out.at c1
        replace c2 := X5.out.at c2
        obtain ⟨⟨⟨z0, f0⟩, g0⟩, ⟨⟨z1, f1⟩, g1⟩, ⟨⟨z2, f2⟩, g2⟩⟩ := And.intro (FM.out.ext X5.out 0 (by omega)) (And.intro (FM.out.ext X5.out 1 (by omega)) (FM.out.ext X5.out 2 (by omega)))
        have e5 := cell_lt f0
        clear m0 m1 m2
        by_cases hq0 : q < 0
        · have hqb : decide (q < 0) = true := by simp [hq0]
          have HQ0 := Lib.hid hq0
          clear hq0
          go_wp2_with fail
          have CH : Chg (fun x => x = Q + 1) wr (((w5.setCell ⟨Q + 1, 0, none⟩ (.int .i64 yk)).setCell ⟨Q + 1, 1, none⟩ (.int .i64 yn)).setCell ⟨Q + 1, 2, none⟩ (.string ys)) := (((X5.out.chg (fun x => x = Q + 1)).setCell (p := ⟨Q + 1, 0, none⟩) (.inl rfl) _).setCell (p := ⟨Q + 1, 1, none⟩) (.inl rfl) _).setCell (p := ⟨Q + 1, 2, none⟩) (.inl rfl) _
          have X7 : Ext w (((w5.setCell ⟨Q + 1, 0, none⟩ (.int .i64 yk)).setCell ⟨Q + 1, 1, none⟩ (.int .i64 yn)).setCell ⟨Q + 1, 2, none⟩ (.string ys)) := Below.setCell (Below.setCell (Below.setCell (HX.out.trans X5.out) (by have := HQ.out; show w.heap.size ≤ Q + 1; omega) _) (by have := HQ.out; show w.heap.size ≤ Q + 1; omega) _) (by have := HQ.out; show w.heap.size ≤ Q + 1; omega) _
          have q0 : (((w5.setCell ⟨Q + 1, 0, none⟩ (.int .i64 yk)).setCell ⟨Q + 1, 1, none⟩ (.int .i64 yn)).setCell ⟨Q + 1, 2, none⟩ (.string ys)).cell? ⟨Q + 1, 0, none⟩ = some (.int .i64 yk) := by go_simp
          have q1 : (((w5.setCell ⟨Q + 1, 0, none⟩ (.int .i64 yk)).setCell ⟨Q + 1, 1, none⟩ (.int .i64 yn)).setCell ⟨Q + 1, 2, none⟩ (.string ys)).cell? ⟨Q + 1, 1, none⟩ = some (.int .i64 yn) := by go_simp
          have q2 : (((w5.setCell ⟨Q + 1, 0, none⟩ (.int .i64 yk)).setCell ⟨Q + 1, 1, none⟩ (.int .i64 yn)).setCell ⟨Q + 1, 2, none⟩ (.string ys)).cell? ⟨Q + 1, 2, none⟩ = some (.string ys) := by go_simp
          have FM7 := Lib.hid ((((FM.out.ext X5.out).set 0 (.int .i64 yk)).set 1 (.int .i64 yn)).set 2 (.string ys))
          generalize (((w5.setCell ⟨Q + 1, 0, none⟩ (.int .i64 yk)).setCell ⟨Q + 1, 1, none⟩ (.int .i64 yn)).setCell ⟨Q + 1, 2, none⟩ (.string ys)) = w7 at CH X7 q0 q1 q2 FM7 ⊢
          have FR7 := Lib.hid (FR.out.chg CH (by omega))
          have HX7 := Lib.hid X7
          have MM7 := Lib.hid (And.intro q0 (And.intro q1 q2))
          clear CH X7 q0 q1 q2 f0 g0 f1 g1 f2 g2 c0 c1 c2
          go_wp2_with fail
          go_roundg (N - 1 - (k + 1))
          case measure => omega
          case rel =>
            refine ⟨k + 1, by omega, rfl, by go_num, ?_, FM7.out, FR7.out, HX7.out⟩
            rw [HST.out, if_pos (by show cmpVal ⟨yk, yn, ys⟩ ⟨mk, mn, ms⟩ < 0; rw [HQQ.out]; have h5 := HQ0.out; omega)]
            exact MM7.out
        · have hqb : decide (q < 0) = false := by simp [hq0]
          have HQ0 := Lib.hid hq0
          clear hq0
          go_wp2_with fail
          go_roundg (N - 1 - (k + 1))
          case measure => omega
          case rel =>
            refine ⟨k + 1, by omega, rfl, by go_num, ?_, FM.out.ext X5.out, FR.out.ext X5.out, HX.out.trans X5.out⟩
            rw [HST.out, if_neg (by show ¬ cmpVal ⟨yk, yn, ys⟩ ⟨mk, mn, ms⟩ < 0; rw [HQQ.out]; have h5 := HQ0.out; omega)]
            exact ⟨X5.out.at MM.out.1, X5.out.at MM.out.2.1, X5.out.at MM.out.2.2⟩
    · have hkN : k + 1 = N := by omega
      have hd : ¬ (k : Int) + 1 < (N : Int) := by omega
      have hxt : xs.take (k + 1) = xs := by rw [hkN, HN.out]; exact List.take_length
      rw [hxt] at MM
      obtain ⟨m, hm⟩ : ∃ m, m = pickMin xs := ⟨_, rfl⟩
      rw [← hm] at MM
      have HM := Lib.hid hm
      obtain ⟨mk, mn, ms⟩ := m
      have m0 := MM.out.1
      have m1 := MM.out.2.1
      have m2 := MM.out.2.2
      dsimp only at m0 m1 m2
      obtain ⟨⟨⟨z0, f0⟩, g0⟩, ⟨⟨z1, f1⟩, g1⟩, ⟨⟨z2, f2⟩, g2⟩⟩ := And.intro (FR.out 0 (by omega)) (And.intro (FR.out 1 (by omega)) (FR.out 2 (by omega)))
      have e1 := cell_lt m0
      have e5 := cell_lt f0
      clear hxt hm hkN
      go_wp2_with fail
      have XF : ∀ u v z, Ext w (((wr.setCell ⟨Q, 0, none⟩ u).setCell ⟨Q, 1, none⟩ v).setCell ⟨Q, 2, none⟩ z) := fun u v z => Below.setCell (Below.setCell (Below.setCell HX.out (by have := HQ.out; show w.heap.size ≤ Q; omega) _) (by have := HQ.out; show w.heap.size ≤ Q; omega) _) (by have := HQ.out; show w.heap.size ≤ Q; omega) _
      exact bodyPost_ret (v := .agg #[.int .i64 mk, .int .i64 mn, .string ms]) (by simp [results, Tryz.results135, go_sem, f0, f1, f2]) rfl ⟨by rw [← HM.out]; first | done | rfl, XF _ _ _⟩

theorem pickMax_snoc {xs : List Val} (h : xs ≠ []) (y : Val) : pickMax (xs ++ [y]) = if 0 < cmpVal y (pickMax xs) then y else pickMax xs := by
  cases xs with
  | nil => exact absurd rfl h
  | cons x xs =>
    show (xs ++ [y]).foldl _ x = _
    rw [List.foldl_append]
    rfl
set_option maxRecDepth 100000 in
set_option maxHeartbeats 4000000 in
theorem pickMax_any (v : Value) (xs : List Val) (w : World) (hv : SliceOf Rep.val w.cell? v xs) (hne : xs ≠ []) : Calls Tryz.prog 137 #[v, .func (.func 136) #[] #[]] w fun e w' => e = .returned (valV (pickMax xs)) ∧ Ext w w' := by
  obtain ⟨p, cap, rfl, hc1, hc2, hp⟩ := hv.form
  obtain ⟨N, hN⟩ : ∃ N, N = xs.length := ⟨_, rfl⟩
  have hN0 : 0 < N := by rw [hN]; exact List.length_pos_iff.2 hne
  have hN1 : N ≤ maxLen := by omega
  unfold maxLen at hN1
  have HV := Lib.hid hv
  rw [← hN] at HV
  rw [← hN]
  obtain ⟨b, o, rfl⟩ := hp (by decide) (by omega)
  have h00 : 0 < xs.length := List.length_pos_iff.2 hne
  have h0 : xs.take 1 = [xs[0]] := by rw [List.take_one]; simp [List.head?_eq_getElem?]
  have hpk : pickMax (xs.take 1) = xs[0] := by rw [h0]; rfl
  obtain ⟨c0, c1, c2, _, _⟩ := val_cells HV.out 0 h00
  simp only [Nat.zero_mul, Nat.add_zero] at c0 c1 c2
  rw [← hpk] at c0 c1 c2
  have HN := Lib.hid hN
  have HNE := Lib.hid hne
  have e0 := cell_lt c0
  clear hv hne hp hc1 hc2 hN h0 hpk
  have hlt1 : ¬ (N : Int) < 1 := by omega
  have hz1 : decide ((N : Int) < 1) = false := by simp; omega
  go_enter Tryz.func137, Tryz.ntmps137
  go_wp2_with fail
  obtain ⟨Q, hQ⟩ : ∃ q, q = w.heap.size := ⟨_, rfl⟩
  have HQ := Lib.hid hQ
  rw [← hQ]
  go_loopg [6] (N - 1) (fun gk vi wr => ∃ k : Nat, k + 1 ≤ N ∧ gk = N - 1 - k ∧ vi = .int .i64 ((k : Int) + 1) ∧ Hid (wr.cell? ⟨Q + 1, 0, none⟩ = some (.int .i64 (pickMax (xs.take (k + 1))).kind) ∧ wr.cell? ⟨Q + 1, 1, none⟩ = some (.int .i64 (pickMax (xs.take (k + 1))).n) ∧ wr.cell? ⟨Q + 1, 2, none⟩ = some (.string (pickMax (xs.take (k + 1))).s)) ∧ Hid (FreeN wr (Q + 1) 3) ∧ Hid (FreeN wr Q 3) ∧ Hid (Ext w wr))
  case atStart =>
    refine ⟨0, by omega, rfl, rfl, ⟨?_, ?_, ?_⟩, fun j hj => ?_, fun j hj => ?_, ((Ext.refl w).alloc _).alloc _⟩
    · rw [hQ]; go_simp
    · rw [hQ]; go_simp
    · rw [hQ]; go_simp
    · rw [hQ]
      match j, hj with
      | 0, _ => exact ⟨⟨.int .i64 (pickMax (xs.take 1)).kind, by go_simp⟩, by go_simp⟩
      | 1, _ => exact ⟨⟨.int .i64 (pickMax (xs.take 1)).n, by go_simp⟩, by go_simp⟩
      | 2, _ => exact ⟨⟨.string (pickMax (xs.take 1)).s, by go_simp⟩, by go_simp⟩
    · rw [hQ]
      match j, hj with
      | 0, _ => exact ⟨⟨.int .i64 0, by go_simp⟩, by go_simp⟩
      | 1, _ => exact ⟨⟨.int .i64 0, by go_simp⟩, by go_simp⟩
      | 2, _ => exact ⟨⟨.string ⟨#[]⟩, by go_simp⟩, by go_simp⟩
  case round =>
    clear hQ c0 c1 c2 e0
    obtain ⟨k, hk, rfl, rfl, MM, FM, FR, HX⟩ := hrel
    by_cases hlt : k + 1 < N
    · have hkl : k + 1 < xs.length := by have := HN.out; omega
      have hd : decide ((k : Int) + 1 < (N : Int)) = true := by simp; omega
      obtain ⟨c0, c1, c2, rr0, rr1⟩ := val_cells HV.out (k + 1) hkl
      clear rr0 rr1
      replace c0 := HX.out.at c0
      replace c1 := HX.out.at c1
      replace c2 := HX.out.at c2
      have hst : pickMax (xs.take (k + 1 + 1)) = if (fun y m => 0 < cmpVal y m) xs[k + 1] (pickMax (xs.take (k + 1))) then xs[k + 1] else pickMax (xs.take (k + 1)) := by
        rw [List.take_succ_eq_append_getElem hkl]
        exact pickMax_snoc (fun h => by have h5 := congrArg List.length h; rw [List.length_take, List.length_nil] at h5; omega) _
      generalize xs[k + 1] = y at c0 c1 c2 hst
      obtain ⟨m, hm⟩ : ∃ m, m = pickMax (xs.take (k + 1)) := ⟨_, rfl⟩
      rw [← hm] at MM hst
      obtain ⟨yk, yn, ys⟩ := y
      obtain ⟨mk, mn, ms⟩ := m
      dsimp only at c0 c1 c2 hst
      have m0 := MM.out.1
      have m1 := MM.out.2.1
      have m2 := MM.out.2.2
      dsimp only at m0 m1 m2
      have e1 := cell_lt c0
      have e2 := cell_lt m0
      have HST := Lib.hid hst
      have hj1 : k + 1 < N := hlt
      have hj2 : (k : Int) + 1 < (N : Int) := by omega
      have hj3 : 0 ≤ (k : Int) + 1 := by omega
      have X0 := Lib.hid (show Ext wr wr.drew from (Ext.refl wr).drew)
      have hw4 : IntKind.i64.wrap ((k : Int) + 1 + 1) = (k : Int) + 1 + 1 := by rw [IntKind.wrap_i64]; omega
      clear hst hkl hm
      go_wp2_with fail
      go_region_law (first
        | ((with_reducible refine key_op 26 ?_); go_simp; refine (compare_val ⟨yk, yn, ys⟩ ⟨mk, mn, ms⟩ _).mono ?_; rintro e w5 ⟨rfl, x5⟩; have X5 : Hid (Ext wr w5) := Lib.hid (X0.out.trans x5.ext)))
      all_goals
        generalize hq : cmpVal ⟨yk, yn, ys⟩ ⟨mk, mn, ms⟩ = q
        have HQQ := Lib.hid hq
        clear hq
        replace c0 := X5.out.at c0
        replace c1 := X5.out.at c1
        replace c2 := X5.out.at c2
        obtain ⟨⟨⟨z0, f0⟩, g0⟩, ⟨⟨z1, f1⟩, g1⟩, ⟨⟨z2, f2⟩, g2⟩⟩ := And.intro (FM.out.ext X5.out 0 (by omega)) (And.intro (FM.out.ext X5.out 1 (by omega)) (FM.out.ext X5.out 2 (by omega)))
        have e5 := cell_lt f0
        clear m0 m1 m2
        by_cases hq0 : 0 < q
        · have hqb : decide (0 < q) = true := by simp [hq0]
          have HQ0 := Lib.hid hq0
          clear hq0
          go_wp2_with fail
          have CH : Chg (fun x => x = Q + 1) wr (((w5.setCell ⟨Q + 1, 0, none⟩ (.int .i64 yk)).setCell ⟨Q + 1, 1, none⟩ (.int .i64 yn)).setCell ⟨Q + 1, 2, none⟩ (.string ys)) := (((X5.out.chg (fun x => x = Q + 1)).setCell (p := ⟨Q + 1, 0, none⟩) (.inl rfl) _).setCell (p := ⟨Q + 1, 1, none⟩) (.inl rfl) _).setCell (p := ⟨Q + 1, 2, none⟩) (.inl rfl) _
          have X7 : Ext w (((w5.setCell ⟨Q + 1, 0, none⟩ (.int .i64 yk)).setCell ⟨Q + 1, 1, none⟩ (.int .i64 yn)).setCell ⟨Q + 1, 2, none⟩ (.string ys)) := Below.setCell (Below.setCell (Below.setCell (HX.out.trans X5.out) (by have := HQ.out; show w.heap.size ≤ Q + 1; omega) _) (by have := HQ.out; show w.heap.size ≤ Q + 1; omega) _) (by have := HQ.out; show w.heap.size ≤ Q + 1; omega) _
          have q0 : (((w5.setCell ⟨Q + 1, 0, none⟩ (.int .i64 yk)).setCell ⟨Q + 1, 1, none⟩ (.int .i64 yn)).setCell ⟨Q + 1, 2, none⟩ (.string ys)).cell? ⟨Q + 1, 0, none⟩ = some (.int .i64 yk) := by go_simp
          have q1 : (((w5.setCell ⟨Q + 1, 0, none⟩ (.int .i64 yk)).setCell ⟨Q + 1, 1, none⟩ (.int .i64 yn)).setCell ⟨Q + 1, 2, none⟩ (.string ys)).cell? ⟨Q + 1, 1, none⟩ = some (.int .i64 yn) := by go_simp
          have q2 : (((w5.setCell ⟨Q + 1, 0, none⟩ (.int .i64 yk)).setCell ⟨Q + 1, 1, none⟩ (.int .i64 yn)).setCell ⟨Q + 1, 2, none⟩ (.string ys)).cell? ⟨Q + 1, 2, none⟩ = some (.string ys) := by go_simp
          have FM7 := Lib.hid ((((FM.out.ext X5.out).set 0 (.int .i64 yk)).set 1 (.int .i64 yn)).set 2 (.string ys))
          generalize (((w5.setCell ⟨Q + 1, 0, none⟩ (.int .i64 yk)).setCell ⟨Q + 1, 1, none⟩ (.int .i64 yn)).setCell ⟨Q + 1, 2, none⟩ (.string ys)) = w7 at CH X7 q0 q1 q2 FM7 ⊢
          have FR7 := Lib.hid (FR.out.chg CH (by omega))
          have HX7 := Lib.hid X7
          have MM7 := Lib.hid (And.intro q0 (And.intro q1 q2))
          clear CH X7 q0 q1 q2 f0 g0 f1 g1 f2 g2 c0 c1 c2
          go_wp2_with fail
          go_roundg (N - 1 - (k + 1))
          case measure => omega
          case rel =>
            refine ⟨k + 1, by omega, rfl, by go_num, ?_, FM7.out, FR7.out, HX7.out⟩
            rw [HST.out, if_pos (by show 0 < cmpVal ⟨yk, yn, ys⟩ ⟨mk, mn, ms⟩; rw [HQQ.out]; have h5 := HQ0.out; omega)]
            exact MM7.out
        · have hqb : decide (0 < q) = false := by simp [hq0]
          have HQ0 := Lib.hid hq0
          clear hq0
          go_wp2_with fail
          go_roundg (N - 1 - (k + 1))
          case measure => omega
          case rel =>
            refine ⟨k + 1, by omega, rfl, by go_num, ?_, FM.out.ext X5.out, FR.out.ext X5.out, HX.out.trans X5.out⟩
            rw [HST.out, if_neg (by show ¬ 0 < cmpVal ⟨yk, yn, ys⟩ ⟨mk, mn, ms⟩; rw [HQQ.out]; have h5 := HQ0.out; omega)]
            exact ⟨X5.out.at MM.out.1, X5.out.at MM.out.2.1, X5.out.at MM.out.2.2⟩
    · have hkN : k + 1 = N := by omega
      have hd : ¬ (k : Int) + 1 < (N : Int) := by omega
      have hxt : xs.take (k + 1) = xs := by rw [hkN, HN.out]; exact List.take_length
      rw [hxt] at MM
      obtain ⟨m, hm⟩ : ∃ m, m = pickMax xs := ⟨_, rfl⟩
      rw [← hm] at MM
      have HM := Lib.hid hm
      obtain ⟨mk, mn, ms⟩ := m
      have m0 := MM.out.1
      have m1 := MM.out.2.1
      have m2 := MM.out.2.2
      dsimp only at m0 m1 m2
      obtain ⟨⟨⟨z0, f0⟩, g0⟩, ⟨⟨z1, f1⟩, g1⟩, ⟨⟨z2, f2⟩, g2⟩⟩ := And.intro (FR.out 0 (by omega)) (And.intro (FR.out 1 (by omega)) (FR.out 2 (by omega)))
      have e1 := cell_lt m0
      have e5 := cell_lt f0
      clear hxt hm hkN
      go_wp2_with fail
      have XF : ∀ u v z, Ext w (((wr.setCell ⟨Q, 0, none⟩ u).setCell ⟨Q, 1, none⟩ v).setCell ⟨Q, 2, none⟩ z) := fun u v z => Below.setCell (Below.setCell (Below.setCell HX.out (by have := HQ.out; show w.heap.size ≤ Q; omega) _) (by have := HQ.out; show w.heap.size ≤ Q; omega) _) (by have := HQ.out; show w.heap.size ≤ Q; omega) _
      exact bodyPost_ret (v := .agg #[.int .i64 mk, .int .i64 mn, .string ms]) (by simp [results, Tryz.results137, go_sem, f0, f1, f2]) rfl ⟨by rw [← HM.out]; first | done | rfl, XF _ _ _⟩

def colOf (es : List ExprI) (arg : Int) : Int := (es.map ExprI.col).getD arg.toNat 0
set_option maxRecDepth 100000 in
set_option maxHeartbeats 8000000 in
theorem aggregate_any (v : Value) (es : List ExprI) (kind : Int) (root : Nat) (mv : Value) (vss : List (List Val)) (w : World) (he : SliceOf Rep.expr w.cell? v es) (hcol : ∀ e ∈ es, e.op = 2) (hel : es.length ≤ 1000) (hr : root < es.length) (hm : SliceOf (Rep.slice Rep.val) w.cell? mv vss) (hml : vss.length ≤ 4096) (hk : kind = 2 ∨ kind = 3 ∨ kind = 4) :
    Calls Tryz.prog 92 #[v, .agg #[.int .i64 kind, .int .i64 root], mv] w fun e w' => e = .returned (valV (aggVal kind es[root].col vss)) ∧ Ext w w' := by
  obtain ⟨i3, hi3, hz30, hz31, hz32⟩ := info_parts info_val3
  obtain ⟨pe, ce, rfl, _⟩ := he.form
  obtain ⟨p, cap, rfl, hc1, hc2, hp⟩ := hm.form
  obtain ⟨N, hN⟩ : ∃ N, N = vss.length := ⟨_, rfl⟩
  obtain ⟨col, hco⟩ : ∃ c, c = es[root].col := ⟨_, rfl⟩
  have HM := Lib.hid hm
  rw [← hN] at HM
  rw [← hN]
  have HN := Lib.hid hN
  have HP := Lib.hid hp
  have HE := Lib.hid (And.intro he (And.intro hcol hel))
  have HR := Lib.hid hr
  have HCO := Lib.hid hco
  have hNl : N ≤ 4096 := by omega
  have HK := Lib.hid hk
  have hk1 : (kind == 1) = false := by simp; omega
  rw [← hco]
  clear hm hN hp hc1 hc2 he hcol hel hml hco hk
  go_enter Tryz.func92, Tryz.ntmps92
  go_wp2_with fail
  obtain ⟨Q, hQ⟩ : ∃ q, q = w.heap.size := ⟨_, rfl⟩
  have HQ := Lib.hid hQ
  rw [← hQ]
  go_loopg [7, 19] N (fun gk vo vi wr => ∃ (k : Nat) (u : Value) (o : List Val), k ≤ N ∧ gk = N - k ∧ vi = .int .i64 k ∧ u = vo ∧ Hid (OwnOf Rep.val wr (fun _ => True) (Q + 2) 44 u o) ∧ Hid (o = argsC col (vss.take k)) ∧ Hid (wr.cell? ⟨Q, 0, none⟩ = some (.int .i64 kind) ∧ wr.cell? ⟨Q, 1, none⟩ = some (.int .i64 root)) ∧ Hid (FreeN wr (Q + 1) 3) ∧ Hid (Q + 2 ≤ wr.heap.size) ∧ Hid (Ext w wr))
  case atStart =>
    refine ⟨0, _, [], by omega, rfl, rfl, rfl, OwnOf.nil _ _ _ _ _, rfl, ⟨?_, ?_⟩, fun j hj => ?_, ?_, ((Ext.refl w).alloc _).alloc _⟩
    · rw [hQ]; go_simp
    · rw [hQ]; go_simp
    · rw [hQ]
      match j, hj with
      | 0, _ => exact ⟨⟨.int .i64 0, by go_simp⟩, by go_simp⟩
      | 1, _ => exact ⟨⟨.int .i64 0, by go_simp⟩, by go_simp⟩
      | 2, _ => exact ⟨⟨.string ⟨#[]⟩, by go_simp⟩, by go_simp⟩
    · show Q + 2 ≤ _; rw [hQ]; simp
  case round =>
    clear hQ
    obtain ⟨k, u, o, hk, rfl, rfl, rfl, OW, AS, BX, FR, HSZ, HX⟩ := hrel
    by_cases hlt : k < N
    · have hkl : k < vss.length := by have := HN.out; omega
      have hd : decide ((k : Int) < (N : Int)) = true := by simp; omega
      obtain ⟨b, o', rfl⟩ := HP.out (by decide) (by omega)
      have hv := HM.out
      rw [HN.out] at hv
      obtain ⟨c, ⟨uv, rfl, sv⟩, hcell⟩ := hv.at k hkl
      have c0 := hcell 0 _ rfl
      simp only [show (Rep.slice Rep.val).size = 1 from rfl, Nat.mul_one, Nat.add_zero] at c0
      replace c0 := HX.out.at c0
      obtain ⟨pv, cv, rfl, _⟩ := sv.form
      have hst := args_take col vss k hkl
      rw [← AS.out] at hst
      have hol : o.length ≤ 4096 := by rw [AS.out]; have h1 := args_len col (vss.take k); have h2 := List.length_take_le k vss; omega
      have hoy : okVal (colAt vss[k] col) := ok_colAt (vals_ok sv) col
      have SV := Lib.hid sv
      generalize vss[k] = vals at c0 SV hst hoy
      obtain ⟨y, hy⟩ : ∃ y, y = colAt vals col := ⟨_, rfl⟩
      rw [← hy] at hst hoy
      have HHY := Lib.hid hy
      have HOY := Lib.hid hoy
      have HST := Lib.hid hst
      have e0 := cell_lt c0
      have b0 := BX.out.1
      have b1 := BX.out.2
      have B1 : o.length + 1 ≤ maxLen := by unfold maxLen; omega
      have B2 : (o.length + 1) * 32 ≤ 140737488355328 := by omega
      clear hst hol hoy hy hv hcell sv
      go_wp2_with fail
      refine (eval_col _ es root _ vals _ (HE.out.1.ext HX.out.full) HE.out.2.1 HR.out HE.out.2.2 (SV.out.ext HX.out.full)).mono ?_
      rintro e w1 ⟨rfl, x1⟩
      rw [← HCO.out, ← HHY.out]
      have X1 := Lib.hid x1
      obtain ⟨yk, yn, ys⟩ := y
      clear x1 c0 b0 b1 e0
      dsimp only
      by_cases hyk : yk = 0
      · have hb1 : (yk != 0) = false := by simp [hyk]
        have HYK := Lib.hid hyk
        clear hyk
        go_wp2_with fail
        go_roundg (N - (k + 1))
        case measure => omega
        case rel => exact ⟨k + 1, u, o, by omega, rfl, by go_num, rfl, OW.out.ext (X1.out.alloc _), by show _ = _; rw [HST.out, if_pos HYK.out, List.append_nil], ⟨(X1.out.alloc _).at BX.out.1, (X1.out.alloc _).at BX.out.2⟩, FR.out.ext (X1.out.alloc _), Nat.le_trans HSZ.out (X1.out.alloc _).size, HX.out.trans (X1.out.alloc _)⟩
      · have hb1 : (yk != 0) = true := by simp [hyk]
        have HYK := Lib.hid hyk
        clear hyk
        go_wp2_with (at_builtin; go_loud (refine wpList_append_one Rep.val (fun _ => True) rfl _ _ 40 rfl (Q + 2) 44 i3 _ 32 Tryz.underlying40 hi3 hz30 hz31 hz32 rfl (by decide) u o rfl (OW.out.ext ((X1.out.alloc _).alloc _)) ⟨w1.heap.size + 1, 0, none⟩ 1 ⟨yk, yn, ys⟩ [.int .i64 yk, .int .i64 yn, .string ys] rfl ⟨rfl, HOY.out⟩ (by have h := cells_new (w1.alloc (.cells #[.int .i64 yk, .int .i64 yn, .string ys] 44)) [.int .i64 yk, .int .i64 yn, .string ys] 44; rw [show (w1.alloc (.cells #[.int .i64 yk, .int .i64 yn, .string ys] 44)).heap.size = w1.heap.size + 1 by simp] at h; exact h) B1 B2 (by exact Nat.le_trans HSZ.out ((X1.out.alloc _).alloc _).size) ?_))
        intro g cap3 w3 own gr _
        have hbase : ∀ x, u.ownBlock = some x → Q + 2 ≤ x := fun x hx => (OW.out.lt x hx).1
        have X2 := Lib.hid ((X1.out.alloc (.cells #[.int .i64 yk, .int .i64 yn, .string ys] 44)).alloc (.cells #[.int .i64 yk, .int .i64 yn, .string ys] 44))
        have OW3 := Lib.hid own
        have BX3 := Lib.hid (And.intro (cell_grown gr (X2.out.at BX.out.1) (fun x hx => by have := hbase x hx; omega)) (cell_grown gr (X2.out.at BX.out.2) (fun x hx => by have := hbase x hx; omega)))
        have FR3 := Lib.hid ((FR.out.ext X2.out).grown gr (fun e => by have := hbase _ e; omega))
        have HSZ3 := Lib.hid (Nat.le_trans HSZ.out (Nat.le_trans X2.out.size gr.size))
        have HX3 := Lib.hid (ext_grown (HX.out.trans X2.out) gr (fun x hx => by have := hbase x hx; have := HQ.out; omega))
        clear own gr hbase X1 X2 OW BX FR HSZ HX
        go_wp2_with fail
        go_roundg (N - (k + 1))
        case measure => omega
        case rel => exact ⟨k + 1, _, _, by omega, rfl, by go_num, rfl, OW3.out, by show _ = _; rw [HST.out, if_neg HYK.out], BX3.out, FR3.out, HSZ3.out, HX3.out⟩
    · have hkN : k = N := by omega
      have hd : ¬ (k : Int) < (N : Int) := by omega
      have hxt : o = argsC col vss := by rw [AS.out, hkN, HN.out, List.take_length]
      have HO := Lib.hid hxt
      have hol : o.length ≤ 4096 := by rw [hxt]; have h1 := args_len col vss; have := HN.out; omega
      obtain ⟨pu, cu, rfl, _⟩ := OW.out.shapeL
      have b0 := BX.out.1
      have b1 := BX.out.2
      have e0 := cell_lt b0
      have SU := Lib.hid OW.out.slice
      obtain ⟨⟨⟨z0, f0⟩, g0⟩, ⟨⟨z1, f1⟩, g1⟩, ⟨⟨z2, f2⟩, g2⟩⟩ := And.intro (FR.out 0 (by omega)) (And.intro (FR.out 1 (by omega)) (FR.out 2 (by omega)))
      have e5 := cell_lt f0
      have XF : ∀ w' u v z, Ext wr w' → Ext w (((w'.setCell ⟨Q + 1, 0, none⟩ u).setCell ⟨Q + 1, 1, none⟩ v).setCell ⟨Q + 1, 2, none⟩ z) := fun w' u v z hx => Below.setCell (Below.setCell (Below.setCell (HX.out.trans hx) (by have := HQ.out; show w.heap.size ≤ Q + 1; omega) _) (by have := HQ.out; show w.heap.size ≤ Q + 1; omega) _) (by have := HQ.out; show w.heap.size ≤ Q + 1; omega) _
      have HXF := Lib.hid XF
      have HFR := Lib.hid FR.out
      clear hxt hkN OW AS XF
      rcases HK.out with rfl | rfl | rfl
      · go_wp2_with fail
        refine (sum_any _ o _ SU.out (by omega)).mono ?_
        rintro e w5 ⟨rfl, x5⟩
        have HV := Lib.hid (show aggVal 2 col vss = sumV o from by rw [HO.out]; rfl)
        generalize sumV o = y at HV ⊢
        obtain ⟨yk, yn, ys⟩ := y
        have X5 := Lib.hid x5
        clear f0 g0 f1 g1 f2 g2 b0 b1 e0 e5 x5
        obtain ⟨⟨⟨z0, f0⟩, g0⟩, ⟨⟨z1, f1⟩, g1⟩, ⟨⟨z2, f2⟩, g2⟩⟩ := And.intro (HFR.out.ext X5.out 0 (by omega)) (And.intro (HFR.out.ext X5.out 1 (by omega)) (HFR.out.ext X5.out 2 (by omega)))
        have e5 := cell_lt f0
        unfold valV
        dsimp only
        go_wp2_with fail
        exact bodyPost_ret (v := .agg #[.int .i64 yk, .int .i64 yn, .string ys]) (by simp [results, Tryz.results92, go_sem, f0, f1, f2]) rfl ⟨by rw [HV.out], HXF.out _ _ _ _ X5.out⟩
      · by_cases hoe : o = []
        · have hol0 : ((o.length : Int) == 0) = true := by simp [hoe]
          have HV := Lib.hid (show aggVal 3 col vss = nV from by rw [HO.out] at hoe; unfold aggVal; rw [if_neg (by decide), if_neg (by decide), if_pos hoe])
          clear hoe
          go_wp2_with fail
          exact bodyPost_ret (v := .agg #[.int .i64 0, .int .i64 0, .string ⟨#[]⟩]) (by simp [results, Tryz.results92, go_sem, f0, f1, f2]) rfl ⟨by rw [HV.out]; rfl, HXF.out _ _ _ _ (Ext.refl _)⟩
        · have hol0 : ((o.length : Int) == 0) = false := by simp [hoe]
          have HOE := Lib.hid hoe
          have HV := Lib.hid (show aggVal 3 col vss = pickMin o from by rw [HO.out] at hoe ⊢; unfold aggVal; rw [if_neg (by decide), if_neg (by decide), if_neg hoe, if_pos rfl])
          clear hoe
          go_wp2_with fail
          refine (pickMin_any _ o _ SU.out HOE.out).mono ?_
          rintro e w5 ⟨rfl, x5⟩
          generalize pickMin o = y at HV ⊢
          obtain ⟨yk, yn, ys⟩ := y
          have X5 := Lib.hid x5
          clear f0 g0 f1 g1 f2 g2 b0 b1 e0 e5 x5
          obtain ⟨⟨⟨z0, f0⟩, g0⟩, ⟨⟨z1, f1⟩, g1⟩, ⟨⟨z2, f2⟩, g2⟩⟩ := And.intro (HFR.out.ext X5.out 0 (by omega)) (And.intro (HFR.out.ext X5.out 1 (by omega)) (HFR.out.ext X5.out 2 (by omega)))
          have e5 := cell_lt f0
          unfold valV
          dsimp only
          go_wp2_with fail
          exact bodyPost_ret (v := .agg #[.int .i64 yk, .int .i64 yn, .string ys]) (by simp [results, Tryz.results92, go_sem, f0, f1, f2]) rfl ⟨by rw [HV.out], HXF.out _ _ _ _ X5.out⟩
      · by_cases hoe : o = []
        · have hol0 : ((o.length : Int) == 0) = true := by simp [hoe]
          have HV := Lib.hid (show aggVal 4 col vss = nV from by rw [HO.out] at hoe; unfold aggVal; rw [if_neg (by decide), if_neg (by decide), if_pos hoe])
          clear hoe
          go_wp2_with fail
          exact bodyPost_ret (v := .agg #[.int .i64 0, .int .i64 0, .string ⟨#[]⟩]) (by simp [results, Tryz.results92, go_sem, f0, f1, f2]) rfl ⟨by rw [HV.out]; rfl, HXF.out _ _ _ _ (Ext.refl _)⟩
        · have hol0 : ((o.length : Int) == 0) = false := by simp [hoe]
          have HOE := Lib.hid hoe
          have HV := Lib.hid (show aggVal 4 col vss = pickMax o from by rw [HO.out] at hoe ⊢; unfold aggVal; rw [if_neg (by decide), if_neg (by decide), if_neg hoe, if_neg (by decide), if_pos rfl])
          clear hoe
          go_wp2_with fail
          refine (pickMax_any _ o _ SU.out HOE.out).mono ?_
          rintro e w5 ⟨rfl, x5⟩
          generalize pickMax o = y at HV ⊢
          obtain ⟨yk, yn, ys⟩ := y
          have X5 := Lib.hid x5
          clear f0 g0 f1 g1 f2 g2 b0 b1 e0 e5 x5
          obtain ⟨⟨⟨z0, f0⟩, g0⟩, ⟨⟨z1, f1⟩, g1⟩, ⟨⟨z2, f2⟩, g2⟩⟩ := And.intro (HFR.out.ext X5.out 0 (by omega)) (And.intro (HFR.out.ext X5.out 1 (by omega)) (HFR.out.ext X5.out 2 (by omega)))
          have e5 := cell_lt f0
          unfold valV
          dsimp only
          go_wp2_with fail
          exact bodyPost_ret (v := .agg #[.int .i64 yk, .int .i64 yn, .string ys]) (by simp [results, Tryz.results92, go_sem, f0, f1, f2]) rfl ⟨by rw [HV.out], HXF.out _ _ _ _ X5.out⟩

end Go.Proofs.YtdgpbpbjlnlijaaGreatDoor
