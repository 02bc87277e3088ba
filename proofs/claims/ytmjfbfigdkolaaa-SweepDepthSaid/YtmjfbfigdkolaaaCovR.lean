/- the reference's insert, Normalize, Coverage; printed by gen_ins.py -/
import Derived.Test.YtmjfbfigdkolaaaDepR
import Derived.Test.YtmjfbfigdkolaaaDepS
namespace Go.Proofs.Ytmjfbfigdkolaaa
open Go.RowKit

theorem ins_step {s : List Per} {p : Per} {i : Nat} (h : i < s.length) (ht : s[i].to_ < p.from_) : insPer (s.drop i) p = s[i] :: insPer (s.drop (i + 1)) p := by
  rw [List.drop_eq_getElem_cons h, insPer, if_pos ht]
theorem ins_stop {s : List Per} {p : Per} {i : Nat} (h : ∀ hi : i < s.length, ¬ s[i].to_ < p.from_) : insPer (s.drop i) p = (absorb (s.drop i) p).1 :: (absorb (s.drop i) p).2 := by
  by_cases hi : i < s.length
  · rw [List.drop_eq_getElem_cons hi, insPer, if_neg (h hi)]
  · rw [List.drop_eq_nil_of_le (by omega)]; rfl
theorem abs_step {s : List Per} {f t : Int} {i : Nat} (h : i < s.length) (ht : s[i].from_ ≤ t) : absorb (s.drop i) ⟨f, t⟩ = absorb (s.drop (i + 1)) ⟨min f s[i].from_, max t s[i].to_⟩ := by
  rw [List.drop_eq_getElem_cons h, absorb, if_pos ht]
theorem abs_stop {s : List Per} {p : Per} {i : Nat} (h : ∀ hi : i < s.length, ¬ s[i].from_ ≤ p.to_) : absorb (s.drop i) p = (p, s.drop i) := by
  by_cases hi : i < s.length
  · rw [List.drop_eq_getElem_cons hi, absorb, if_neg (h hi)]
  · rw [List.drop_eq_nil_of_le (by omega)]; rfl

theorem per_rest {h : View} {p : Option Addr} {cap : Nat} {s : List Per} (k : SliceOf Rep.per h (.slice p s.length cap) s) (j : Nat) (hj : j = s.length) : SliceOf Rep.per h (.slice (if cap = j then p else Option.map (fun x => x.add (j * 2)) p) (s.length - j) (cap - j)) (s.drop j) := by
  obtain ⟨css, _, h2⟩ := k
  subst hj
  rw [Nat.sub_self, List.drop_length]
  refine ⟨[], trivial, ?_⟩
  rcases h2 with ⟨e, _⟩ | ⟨ad, c, e, h3, h4, _⟩
  · injection e with e1 e2 e3
    subst e1
    rw [e2, e3]
    exact .inl ⟨rfl, rfl, rfl⟩
  · injection e with e1 e2 e3
    subst e1 e3
    by_cases hc : cap = s.length
    · rw [if_pos hc]
      exact .inr ⟨ad, _, rfl, Nat.zero_le _, by omega, .inl rfl⟩
    · rw [if_neg hc]
      exact .inr ⟨_, _, rfl, Nat.zero_le _, by omega, .inl rfl⟩
theorem add_slot (b o m : Nat) : Option.map (fun x : Addr => x.add m) (some ⟨b, o, none⟩) = some ⟨b, o + m, none⟩ := by
  by_cases h : m = 0 <;> simp [Addr.add, h]
theorem box_two {wr : World} {E : Nat} {a b : Value} (h : wr.cell? ⟨E, 0, none⟩ = some a ∧ wr.cell? ⟨E, 1, none⟩ = some b ∧ wr.frozen? ⟨E, 0, none⟩ = false ∧ wr.frozen? ⟨E, 1, none⟩ = false) (x y : Value) :
    (((wr.setCell ⟨E, 0, none⟩ x).setCell ⟨E, 1, none⟩ y).cell? ⟨E, 0, none⟩ = some x ∧ ((wr.setCell ⟨E, 0, none⟩ x).setCell ⟨E, 1, none⟩ y).cell? ⟨E, 1, none⟩ = some y ∧ ((wr.setCell ⟨E, 0, none⟩ x).setCell ⟨E, 1, none⟩ y).frozen? ⟨E, 0, none⟩ = false ∧ ((wr.setCell ⟨E, 0, none⟩ x).setCell ⟨E, 1, none⟩ y).frozen? ⟨E, 1, none⟩ = false) ∧
      Chg (fun k => k = E) wr ((wr.setCell ⟨E, 0, none⟩ x).setCell ⟨E, 1, none⟩ y) := by
  obtain ⟨h0, h1, h2, h3⟩ := h
  have g0 : (wr.setCell ⟨E, 0, none⟩ x).cell? ⟨E, 0, none⟩ = some x := World.cell?_setCell_same' _ _ _ (by rw [h0]; rfl)
  have g1 : (wr.setCell ⟨E, 0, none⟩ x).cell? ⟨E, 1, none⟩ = some b := by rw [World.cell?_setCell_other _ _ _ _ (by simp)]; exact h1
  refine ⟨⟨?_, ?_, ?_, ?_⟩, ((Chg.refl (fun k => k = E) wr).setCell (.inl rfl) _).setCell (.inl rfl) _⟩
  · rw [World.cell?_setCell_other _ _ _ _ (by simp)]; exact g0
  · exact World.cell?_setCell_same' _ _ _ (by rw [g1]; rfl)
  · rw [World.frozen?_setCell, World.frozen?_setCell]; exact h2
  · rw [World.frozen?_setCell, World.frozen?_setCell]; exact h3
theorem okI_minmax {a b c d : Int} (h : okI a ∧ okI b) (k : okI c ∧ okI d) : okI (min a c) ∧ okI (max b d) := by
  unfold okI at *
  omega

set_option maxRecDepth 100000 in
set_option maxHeartbeats 8000000 in
theorem insert_any (v : Value) (s : List Per) (f t : Int) (w : World) (hv : SliceOf Rep.per w.cell? v s) (hft : okI f ∧ okI t) (hl : s.length ≤ 1000) :
    Calls Try.prog 97 #[v, perV f t] w fun e w' => ∃ v', e = .returned v' ∧ SliceOf Rep.per w'.cell? v' (insPer s ⟨f, t⟩) ∧ Ext w w' := by
  obtain ⟨i0, hi, hz0, hz1, hz2⟩ := info_parts info_per
  have mixed := mixedOrd
  have HV := Lib.hid hv
  obtain ⟨p, cap, rfl, hcl, hcm, hp⟩ := hv.form
  have HP := Lib.hid hp
  have HC := Lib.hid (show s.length ≤ cap ∧ cap ≤ maxLen from ⟨hcl, hcm⟩)
  obtain ⟨n, hn⟩ : ∃ n, n = s.length := ⟨_, rfl⟩
  rw [← hn] at HP HC ⊢
  have HN := Lib.hid hn
  have hn5 : n ≤ 1000 := by omega
  have HFT := Lib.hid hft
  clear hv hp hcl hcm hn hl hft
  go_enter Try.func97, Try.ntmps97
  go_wp2_with fail
  have X0 := Lib.hid ((Ext.refl w).alloc (.cells #[.int .i64 f, .int .i64 t] 57))
  have M0 := Lib.hid (show (w.alloc (.cells #[.int .i64 f, .int .i64 t] 57)).cell? ⟨w.heap.size, 0, none⟩ = some (.int .i64 f) ∧ (w.alloc (.cells #[.int .i64 f, .int .i64 t] 57)).cell? ⟨w.heap.size, 1, none⟩ = some (.int .i64 t) ∧ (w.alloc (.cells #[.int .i64 f, .int .i64 t] 57)).frozen? ⟨w.heap.size, 0, none⟩ = false ∧ (w.alloc (.cells #[.int .i64 f, .int .i64 t] 57)).frozen? ⟨w.heap.size, 1, none⟩ = false from ⟨by simp, by simp, by simp, by simp⟩)
  have Z0 := Lib.hid (show w.heap.size ≤ w.heap.size ∧ w.heap.size < (w.alloc (.cells #[.int .i64 f, .int .i64 t] 57)).heap.size from ⟨Nat.le_refl _, by simp⟩)
  generalize w.alloc (.cells #[.int .i64 f, .int .i64 t] 57) = w0 at X0 M0 Z0 ⊢
  obtain ⟨E, hE⟩ : ∃ E, E = w.heap.size := ⟨_, rfl⟩
  rw [← hE] at M0 ⊢
  have HE := Lib.hid (show w.heap.size ≤ E ∧ E < w0.heap.size from by rw [hE]; exact Z0.out)
  clear hE Z0
  go_loopg [5, 6] n (fun gk vo vi wr => ∃ (i : Nat) (u : Value), i ≤ n ∧ gk = n - i ∧ vi = .int .i64 i ∧ u = vo ∧ Hid (OwnOf Rep.per wr (fun _ => True) w0.heap.size 57 u (s.take i)) ∧ Hid (insPer s ⟨f, t⟩ = s.take i ++ insPer (s.drop i) ⟨f, t⟩) ∧ Hid (Ext w0 wr))
  case atStart => exact ⟨0, _, by omega, rfl, rfl, rfl, OwnOf.nil _ _ _ _ _, by show _ = _; simp, Ext.refl w0⟩
  case round =>
    obtain ⟨i, u, hi', rfl, rfl, rfl, OO, INV, X1⟩ := hrel
    by_cases hin : i < n
    · have hil : i < s.length := by have := HN.out; omega
      obtain ⟨b, o, rfl⟩ := HP.out (by decide) (by omega)
      have hv := HV.out
      rw [← HN.out] at hv
      obtain ⟨c0, c1, r1, r2⟩ := per_at hv i hil
      replace c0 := (X0.out.trans X1.out).at c0
      replace c1 := (X0.out.trans X1.out).at c1
      obtain ⟨q, hq⟩ : ∃ q, q = s[i] := ⟨_, rfl⟩
      have hst : s.take (i + 1) = s.take i ++ [q] := by rw [List.take_succ_eq_append_getElem hil, ← hq]
      rw [← hq] at c0 c1 r1 r2
      have HQ := Lib.hid hq
      obtain ⟨qf, qt⟩ := q
      dsimp only at c0 c1 r1 r2
      have HST := Lib.hid hst
      have HR := Lib.hid (And.intro r1 r2)
      have d0 := X1.out.at M0.out.1
      have e0 := cell_lt c0
      have e1 := cell_lt d0
      have hd : decide ((i : Int) < (n : Int)) = true := by simp; omega
      have hd1 : (i : Int) < (n : Int) := by omega
      have hdn : decide (i < n) = true := by simp; omega
      clear hst r1 r2 hv hq
      by_cases hqf : qt < f
      · have hdq : decide (qt < f) = true := by simp [hqf]
        have HIN := Lib.hid (show insPer s ⟨f, t⟩ = s.take (i + 1) ++ insPer (s.drop (i + 1)) ⟨f, t⟩ from by
          rw [INV.out, ins_step hil (by rw [← HQ.out]; exact hqf), HST.out, HQ.out, List.append_assoc]; rfl)
        have hlen : (s.take i).length ≤ 1000 := by simp only [List.length_take]; omega
        have B1 : (s.take i).length + [(⟨qf, qt⟩ : Per)].length ≤ maxLen := by simp only [List.length_singleton, maxLen]; omega
        have B2 : ((s.take i).length + [(⟨qf, qt⟩ : Per)].length) * 16 ≤ 140737488355328 := by simp only [List.length_singleton]; omega
        obtain ⟨z, hz⟩ : ∃ z, z = s.take i := ⟨_, rfl⟩
        rw [← hz] at OO B1 B2 HST
        clear hqf hlen hz
        go_wp2_with fail
        go_big_region_o
        go_wp2_with (at_builtin; refine wpList_append_all Rep.per (fun _ => True) rfl _ _ 52 rfl w0.heap.size 57 i0 _ 16 Try.underlying52 hi hz0 hz1 hz2 rfl (by decide) u z rfl (by exact OO.out.ext ((Ext.refl wr).alloc (.cells (perEnc ⟨qf, qt⟩).toArray 57)).drew) _ [⟨qf, qt⟩] rfl (by exact lone_flat (T := 57) (cs := perEnc ⟨qf, qt⟩) flat_per ⟨rfl, HR.out⟩ OO.out) B1 B2 (by exact (X1.out.alloc (.cells (perEnc ⟨qf, qt⟩).toArray 57)).drew.size) ?_)
        intro v' w3 own gr _
        have hxx := Lib.hid (Chg.below (chg_grown gr) (X1.out.alloc (.cells (perEnc ⟨qf, qt⟩).toArray 57)).drew fun b hb => (OO.out.lt b hb).1)
        have OW2 := Lib.hid own
        clear own gr
        go_wp2_with fail
        go_roundg (n - (i + 1))
        case measure => omega
        case rel => exact ⟨i + 1, v', by omega, rfl, by go_num, rfl, by show OwnOf _ _ _ _ _ _ _; rw [HST.out]; exact OW2.out, HIN.out, hxx.out⟩
      · have hdq : decide (qt < f) = false := by simp [hqf]
        have HSTOP := Lib.hid (show insPer (s.drop i) ⟨f, t⟩ = (absorb (s.drop i) ⟨f, t⟩).1 :: (absorb (s.drop i) ⟨f, t⟩).2 from ins_stop fun h => by rw [← HQ.out]; exact hqf)
        have hil5 : i ≤ 1000 := by omega
        clear hqf
        go_wp2_with fail
        go_big_region_o
        have OO5 := Lib.hid (OO.out.ext (Ext.refl wr).drew)
        have X5 := Lib.hid X1.out.drew
        clear c0 c1 d0 e0 e1 hd hdq hin hd1 hdn OO X1 HR HST HQ
        generalize wr.drew = w5 at OO5 X5 ⊢
        have OKK := Lib.hid (OO5.out.lt)
        go_wp2_with fail
        go_loopg [6] (n - i) (fun gk vi wr => ∃ (j : Nat) (f2 t2 : Int), j ≤ n ∧ gk = n - j ∧ vi = .int .i64 j ∧ Hid (okI f2 ∧ okI t2) ∧ Hid (absorb (s.drop i) ⟨f, t⟩ = absorb (s.drop j) ⟨f2, t2⟩) ∧ Hid (wr.cell? ⟨E, 0, none⟩ = some (.int .i64 f2) ∧ wr.cell? ⟨E, 1, none⟩ = some (.int .i64 t2) ∧ wr.frozen? ⟨E, 0, none⟩ = false ∧ wr.frozen? ⟨E, 1, none⟩ = false) ∧ Hid (OwnOf Rep.per wr (fun _ => True) w0.heap.size 57 u (s.take i)) ∧ Hid (Ext w wr) ∧ Hid (w0.heap.size ≤ wr.heap.size))
        case atStart => exact ⟨i, f, t, by omega, rfl, rfl, HFT.out, rfl, ⟨X5.out.at M0.out.1, X5.out.at M0.out.2.1, X5.out.unfrozen M0.out.1 M0.out.2.2.1, X5.out.unfrozen M0.out.2.1 M0.out.2.2.2⟩, OO5.out, X0.out.trans X5.out, X5.out.size⟩
        case round =>
          clear OO5 X5 OKK
          obtain ⟨j, f2, t2, hj, rfl, rfl, HF2, ABS, BOX, O6, X6, Z6⟩ := hrel
          have UE := Lib.hid (show ∀ k, u.ownBlock = some k → ¬ k = E from fun k hk e => by have h1 := (O6.out.lt k hk).1; have h2 := HE.out.2; omega)
          by_cases hjn : j < n
          · have hjl : j < s.length := by have := HN.out; omega
            have hv := HV.out
            rw [← HN.out] at hv
            obtain ⟨c0, c1, r1, r2⟩ := per_at hv j hjl
            have NE := Lib.hid (show ¬ b = E from fun e => by have h1 := cell_lt c0; have h2 := HE.out.1; omega)
            replace c0 := X6.out.at c0
            replace c1 := X6.out.at c1
            obtain ⟨q, hq⟩ : ∃ q, q = s[j] := ⟨_, rfl⟩
            rw [← hq] at c0 c1 r1 r2
            have HQ := Lib.hid hq
            obtain ⟨qf, qt⟩ := q
            dsimp only at c0 c1 r1 r2
            have HR := Lib.hid (And.intro r1 r2)
            have d0 := BOX.out.1
            have d1 := BOX.out.2.1
            have e0 := cell_lt c0
            have e1 := cell_lt d0
            have f0 := BOX.out.2.2.1
            have f1 := BOX.out.2.2.2
            have hd : decide ((j : Int) < (n : Int)) = true := by simp; omega
            have hd1 : (j : Int) < (n : Int) := by omega
            have hdn : decide (j < n) = true := by simp; omega
            have hne : ¬ b = E := NE.out
            have hne2 : ¬ E = b := fun e => NE.out e.symm
            clear r1 r2 hv hq
            by_cases hqf : qf ≤ t2
            · have hdq : decide (qf ≤ t2) = true := by simp [hqf]
              have HAB := Lib.hid (show absorb (s.drop i) ⟨f, t⟩ = absorb (s.drop (j + 1)) ⟨min f2 qf, max t2 qt⟩ from by
                rw [ABS.out, abs_step hjl (by rw [← HQ.out]; exact hqf), ← HQ.out])
              clear hqf
              go_wp2_with fail
              go_big_region_o
              all_goals go_wp2_with fail
              all_goals go_big_region_o
              all_goals go_wp2_with fail
              all_goals go_big_region_o
              all_goals go_wp2_with fail
              all_goals go_roundg (n - (j + 1))
              all_goals first
                | (case measure => omega)
                | (case rel =>
                    have hb2 := box_two BOX.out (.int .i64 (min f2 qf)) (.int .i64 (max t2 qt))
                    exact ⟨j + 1, min f2 qf, max t2 qt, by omega, rfl, by go_num, okI_minmax HF2.out HR.out, HAB.out, hb2.1, (O6.out.chg flat_per hb2.2 UE.out).ext (Ext.refl _).drew.drew.drew, (Chg.below hb2.2 X6.out fun k hk => by rw [hk]; exact HE.out.1).drew.drew.drew, Nat.le_trans Z6.out hb2.2.size⟩)
            · have hdq : decide (qf ≤ t2) = false := by simp [hqf]
              have HAB := Lib.hid (show absorb (s.drop i) ⟨f, t⟩ = (⟨f2, t2⟩, s.drop j) from by
                rw [ABS.out, abs_stop fun h => by rw [← HQ.out]; exact hqf])
              have hcj : j ≤ cap := by have := HC.out.1; omega
              have hcj2 : ¬ cap = j := by have := HC.out.1; omega
              have hcj3 : ¬ (j : Int) = (cap : Int) := by omega
              have hcj4 : (j : Int) ≤ (n : Int) := by omega
              clear hqf
              have HIS := Lib.hid (show SliceOf Rep.per w.cell? (.slice (some ⟨b, o + j * 2, none⟩) (n - j) (cap - j)) (s.drop j) from by have h := SliceOf.dropV (by have h := HV.out; rwa [← HN.out] at h) j (by omega); rwa [← HN.out] at h)
              go_wp2_with fail
              go_big_region_o
              clear hd hdn hd1 hdq hne hne2 c0 c1 d0 d1 e0 e1 f0 f1
              have HFIN := Lib.hid (show insPer s ⟨f, t⟩ = s.take i ++ [⟨f2, t2⟩] ++ s.drop j from by rw [INV.out, HSTOP.out, HAB.out, List.append_assoc]; rfl)
              have O7 := Lib.hid (O6.out.ext (Ext.refl wr).drew)
              have X7 := Lib.hid (show Ext w wr.drew from X6.out.drew)
              have Z7 := Lib.hid (show w0.heap.size ≤ wr.drew.heap.size from Z6.out)
              have d0 : wr.drew.cell? ⟨E, 0, none⟩ = some (.int .i64 f2) := BOX.out.1
              have d1 : wr.drew.cell? ⟨E, 1, none⟩ = some (.int .i64 t2) := BOX.out.2.1
              have e1 := cell_lt d0
              have B1 : (s.take i).length + [(⟨f2, t2⟩ : Per)].length ≤ maxLen := by simp only [List.length_singleton, List.length_take, maxLen]; omega
              have B2 : ((s.take i).length + [(⟨f2, t2⟩ : Per)].length) * 16 ≤ 140737488355328 := by simp only [List.length_singleton, List.length_take]; omega
              have B3 : (s.take i ++ [(⟨f2, t2⟩ : Per)]).length + (s.drop j).length ≤ maxLen := by simp only [List.length_append, List.length_singleton, List.length_take, List.length_drop, maxLen]; have := HN.out; omega
              have B4 : ((s.take i ++ [(⟨f2, t2⟩ : Per)]).length + (s.drop j).length) * 16 ≤ 140737488355328 := by simp only [List.length_append, List.length_singleton, List.length_take, List.length_drop]; have := HN.out; omega
              clear HAB O6 X6 Z6 BOX
              generalize wr.drew = w7 at O7 X7 Z7 d0 d1 e1 ⊢
              go_wp2_with fail
              go_region_law (first
                | ((with_reducible refine key_op 67 ?_); (try simp only [Act.put, List.setIfInBounds_toArray, List.set_cons_zero, List.set_cons_succ]); refine step_append_all Rep.per (fun _ => True) rfl _ _ 52 rfl w0.heap.size 57 i0 _ 16 Try.underlying52 hi hz0 hz1 hz2 rfl (by decide) u (s.take i) rfl (by exact O7.out.ext ((Ext.refl w7).alloc (.cells (perEnc ⟨f2, t2⟩).toArray 57)).drew) _ [⟨f2, t2⟩] rfl (by exact lone_flat (T := 57) (cs := perEnc ⟨f2, t2⟩) flat_per ⟨rfl, HF2.out⟩ O7.out) B1 B2 (by exact Nat.le_trans Z7.out ((Ext.refl w7).alloc (.cells (perEnc ⟨f2, t2⟩).toArray 57)).drew.size) ?_; intro v1 w1 own1 gr1 at1; have x1 : Ext w w1 := Chg.below (chg_grown gr1) (X7.out.alloc (.cells (perEnc ⟨f2, t2⟩).toArray 57)).drew (fun b hb => Nat.le_trans X0.out.size (O7.out.lt b hb).1); have z1 : w0.heap.size ≤ w1.heap.size := Nat.le_trans (Nat.le_trans Z7.out ((Ext.refl w7).alloc (.cells (perEnc ⟨f2, t2⟩).toArray 57)).drew.size) gr1.size)
                | ((with_reducible refine key_op 71 ?_); (try simp only [Act.put, List.setIfInBounds_toArray, List.set_cons_zero, List.set_cons_succ]); refine step_append_all Rep.per (fun _ => True) rfl _ _ 52 rfl w0.heap.size 57 i0 _ 16 Try.underlying52 hi hz0 hz1 hz2 rfl (by decide) v1 (s.take i ++ [(⟨f2, t2⟩ : Per)]) rfl own1 _ (s.drop j) rfl (by exact HIS.out.away flat_per x1 (fun k h => Nat.le_trans X0.out.size (own1.base k h))) B3 B4 z1 ?_; intro v2 w2 own2 gr2 at2; have x2 : Ext w w2 := Chg.below (chg_grown gr2) x1 (fun b hb => Nat.le_trans X0.out.size (own1.lt b hb).1)))
              all_goals
                have XF := Lib.hid x2
                have OF := Lib.hid own2
                clear own1 own2 gr1 gr2 at1 at2 x1 x2 z1
                go_wp2_with fail
                all_goals go_ret
                all_goals exact ⟨_, rfl, by rw [HFIN.out]; exact OF.out.slice, XF.out⟩
          · have HAB := Lib.hid (show absorb (s.drop i) ⟨f, t⟩ = (⟨f2, t2⟩, s.drop j) from by
              rw [ABS.out, abs_stop fun h => by have := HN.out; omega])
            have hd : decide ((j : Int) < (n : Int)) = false := by simp; omega
            have hdn : decide (j < n) = false := by simp; omega
            have hd2 : ¬ (j : Int) < (n : Int) := by omega
            have hcj : j ≤ cap := by have := HC.out.1; omega
            have HIS := Lib.hid (show SliceOf Rep.per w.cell? (.slice (if cap = j then some (⟨b, o, none⟩ : Addr) else some (⟨b, o + j * 2, none⟩ : Addr)) (n - j) (cap - j)) (s.drop j) from by rw [HN.out]; have h := per_rest HV.out j (by have := HN.out; omega); rw [add_slot] at h; exact h)
            go_wp2_with fail
            go_big_region_o
            clear hd hdn hd2
            have HFIN := Lib.hid (show insPer s ⟨f, t⟩ = s.take i ++ [⟨f2, t2⟩] ++ s.drop j from by rw [INV.out, HSTOP.out, HAB.out, List.append_assoc]; rfl)
            have O7 := Lib.hid (O6.out.ext (Ext.refl wr).drew)
            have X7 := Lib.hid (show Ext w wr.drew from X6.out.drew)
            have Z7 := Lib.hid (show w0.heap.size ≤ wr.drew.heap.size from Z6.out)
            have d0 : wr.drew.cell? ⟨E, 0, none⟩ = some (.int .i64 f2) := BOX.out.1
            have d1 : wr.drew.cell? ⟨E, 1, none⟩ = some (.int .i64 t2) := BOX.out.2.1
            have e1 := cell_lt d0
            have B1 : (s.take i).length + [(⟨f2, t2⟩ : Per)].length ≤ maxLen := by simp only [List.length_singleton, List.length_take, maxLen]; omega
            have B2 : ((s.take i).length + [(⟨f2, t2⟩ : Per)].length) * 16 ≤ 140737488355328 := by simp only [List.length_singleton, List.length_take]; omega
            have B3 : (s.take i ++ [(⟨f2, t2⟩ : Per)]).length + (s.drop j).length ≤ maxLen := by simp only [List.length_append, List.length_singleton, List.length_take, List.length_drop, maxLen]; have := HN.out; omega
            have B4 : ((s.take i ++ [(⟨f2, t2⟩ : Per)]).length + (s.drop j).length) * 16 ≤ 140737488355328 := by simp only [List.length_append, List.length_singleton, List.length_take, List.length_drop]; have := HN.out; omega
            clear HAB O6 X6 Z6 BOX
            generalize wr.drew = w7 at O7 X7 Z7 d0 d1 e1 ⊢
            go_wp2_with fail
            go_region_law (first
              | ((with_reducible refine key_op 67 ?_); (try simp only [Act.put, List.setIfInBounds_toArray, List.set_cons_zero, List.set_cons_succ]); refine step_append_all Rep.per (fun _ => True) rfl _ _ 52 rfl w0.heap.size 57 i0 _ 16 Try.underlying52 hi hz0 hz1 hz2 rfl (by decide) u (s.take i) rfl (by exact O7.out.ext ((Ext.refl w7).alloc (.cells (perEnc ⟨f2, t2⟩).toArray 57)).drew) _ [⟨f2, t2⟩] rfl (by exact lone_flat (T := 57) (cs := perEnc ⟨f2, t2⟩) flat_per ⟨rfl, HF2.out⟩ O7.out) B1 B2 (by exact Nat.le_trans Z7.out ((Ext.refl w7).alloc (.cells (perEnc ⟨f2, t2⟩).toArray 57)).drew.size) ?_; intro v1 w1 own1 gr1 at1; have x1 : Ext w w1 := Chg.below (chg_grown gr1) (X7.out.alloc (.cells (perEnc ⟨f2, t2⟩).toArray 57)).drew (fun b hb => Nat.le_trans X0.out.size (O7.out.lt b hb).1); have z1 : w0.heap.size ≤ w1.heap.size := Nat.le_trans (Nat.le_trans Z7.out ((Ext.refl w7).alloc (.cells (perEnc ⟨f2, t2⟩).toArray 57)).drew.size) gr1.size)
              | ((with_reducible refine key_op 71 ?_); (try simp only [Act.put, List.setIfInBounds_toArray, List.set_cons_zero, List.set_cons_succ]); refine step_append_all Rep.per (fun _ => True) rfl _ _ 52 rfl w0.heap.size 57 i0 _ 16 Try.underlying52 hi hz0 hz1 hz2 rfl (by decide) v1 (s.take i ++ [(⟨f2, t2⟩ : Per)]) rfl own1 _ (s.drop j) rfl (by exact HIS.out.away flat_per x1 (fun k h => Nat.le_trans X0.out.size (own1.base k h))) B3 B4 z1 ?_; intro v2 w2 own2 gr2 at2; have x2 : Ext w w2 := Chg.below (chg_grown gr2) x1 (fun b hb => Nat.le_trans X0.out.size (own1.lt b hb).1)))
            all_goals
              have XF := Lib.hid x2
              have OF := Lib.hid own2
              clear own1 own2 gr1 gr2 at1 at2 x1 x2 z1
              go_wp2_with fail
              all_goals go_ret
              all_goals exact ⟨_, rfl, by rw [HFIN.out]; exact OF.out.slice, XF.out⟩
    · have hd : decide ((i : Int) < (n : Int)) = false := by simp; omega
      have hdn : decide (i < n) = false := by simp; omega
      have hd2 : ¬ (i : Int) < (n : Int) := by omega
      have HSTOP := Lib.hid (show insPer (s.drop i) ⟨f, t⟩ = (absorb (s.drop i) ⟨f, t⟩).1 :: (absorb (s.drop i) ⟨f, t⟩).2 from ins_stop fun h => by have := HN.out; omega)
      have hil5 : i ≤ 1000 := by omega
      go_wp2_with fail
      go_big_region_o
      have OO5 := Lib.hid (OO.out.ext (Ext.refl wr).drew)
      have X5 := Lib.hid X1.out.drew
      clear hd hdn hd2 hin OO X1
      generalize wr.drew = w5 at OO5 X5 ⊢
      have OKK := Lib.hid (OO5.out.lt)
      go_wp2_with fail
      go_loopg [6] (n - i) (fun gk vi wr => ∃ (j : Nat) (f2 t2 : Int), j ≤ n ∧ gk = n - j ∧ vi = .int .i64 j ∧ Hid (okI f2 ∧ okI t2) ∧ Hid (absorb (s.drop i) ⟨f, t⟩ = absorb (s.drop j) ⟨f2, t2⟩) ∧ Hid (wr.cell? ⟨E, 0, none⟩ = some (.int .i64 f2) ∧ wr.cell? ⟨E, 1, none⟩ = some (.int .i64 t2) ∧ wr.frozen? ⟨E, 0, none⟩ = false ∧ wr.frozen? ⟨E, 1, none⟩ = false) ∧ Hid (OwnOf Rep.per wr (fun _ => True) w0.heap.size 57 u (s.take i)) ∧ Hid (Ext w wr) ∧ Hid (w0.heap.size ≤ wr.heap.size))
      case atStart => exact ⟨i, f, t, by omega, rfl, rfl, HFT.out, rfl, ⟨X5.out.at M0.out.1, X5.out.at M0.out.2.1, X5.out.unfrozen M0.out.1 M0.out.2.2.1, X5.out.unfrozen M0.out.2.1 M0.out.2.2.2⟩, OO5.out, X0.out.trans X5.out, X5.out.size⟩
      case round =>
        clear OO5 X5 OKK
        obtain ⟨j, f2, t2, hj, rfl, rfl, HF2, ABS, BOX, O6, X6, Z6⟩ := hrel
        have UE := Lib.hid (show ∀ k, u.ownBlock = some k → ¬ k = E from fun k hk e => by have h1 := (O6.out.lt k hk).1; have h2 := HE.out.2; omega)
        by_cases hjn : j < n
        · have hjl : j < s.length := by have := HN.out; omega
          obtain ⟨b, o, rfl⟩ := HP.out (by decide) (by omega)
          have hv := HV.out
          rw [← HN.out] at hv
          obtain ⟨c0, c1, r1, r2⟩ := per_at hv j hjl
          have NE := Lib.hid (show ¬ b = E from fun e => by have h1 := cell_lt c0; have h2 := HE.out.1; omega)
          replace c0 := X6.out.at c0
          replace c1 := X6.out.at c1
          obtain ⟨q, hq⟩ : ∃ q, q = s[j] := ⟨_, rfl⟩
          rw [← hq] at c0 c1 r1 r2
          have HQ := Lib.hid hq
          obtain ⟨qf, qt⟩ := q
          dsimp only at c0 c1 r1 r2
          have HR := Lib.hid (And.intro r1 r2)
          have d0 := BOX.out.1
          have d1 := BOX.out.2.1
          have e0 := cell_lt c0
          have e1 := cell_lt d0
          have f0 := BOX.out.2.2.1
          have f1 := BOX.out.2.2.2
          have hd : decide ((j : Int) < (n : Int)) = true := by simp; omega
          have hd1 : (j : Int) < (n : Int) := by omega
          have hdn : decide (j < n) = true := by simp; omega
          have hne : ¬ b = E := NE.out
          have hne2 : ¬ E = b := fun e => NE.out e.symm
          clear r1 r2 hv hq
          by_cases hqf : qf ≤ t2
          · have hdq : decide (qf ≤ t2) = true := by simp [hqf]
            have HAB := Lib.hid (show absorb (s.drop i) ⟨f, t⟩ = absorb (s.drop (j + 1)) ⟨min f2 qf, max t2 qt⟩ from by
              rw [ABS.out, abs_step hjl (by rw [← HQ.out]; exact hqf), ← HQ.out])
            clear hqf
            go_wp2_with fail
            go_big_region_o
            all_goals go_wp2_with fail
            all_goals go_big_region_o
            all_goals go_wp2_with fail
            all_goals go_big_region_o
            all_goals go_wp2_with fail
            all_goals go_roundg (n - (j + 1))
            all_goals first
              | (case measure => omega)
              | (case rel =>
                  have hb2 := box_two BOX.out (.int .i64 (min f2 qf)) (.int .i64 (max t2 qt))
                  exact ⟨j + 1, min f2 qf, max t2 qt, by omega, rfl, by go_num, okI_minmax HF2.out HR.out, HAB.out, hb2.1, (O6.out.chg flat_per hb2.2 UE.out).ext (Ext.refl _).drew.drew.drew, (Chg.below hb2.2 X6.out fun k hk => by rw [hk]; exact HE.out.1).drew.drew.drew, Nat.le_trans Z6.out hb2.2.size⟩)
          · have hdq : decide (qf ≤ t2) = false := by simp [hqf]
            have HAB := Lib.hid (show absorb (s.drop i) ⟨f, t⟩ = (⟨f2, t2⟩, s.drop j) from by
              rw [ABS.out, abs_stop fun h => by rw [← HQ.out]; exact hqf])
            have hcj : j ≤ cap := by have := HC.out.1; omega
            have hcj2 : ¬ cap = j := by have := HC.out.1; omega
            have hcj3 : ¬ (j : Int) = (cap : Int) := by omega
            have hcj4 : (j : Int) ≤ (n : Int) := by omega
            clear hqf
            have HIS := Lib.hid (show SliceOf Rep.per w.cell? (.slice (some ⟨b, o + j * 2, none⟩) (n - j) (cap - j)) (s.drop j) from by have h := SliceOf.dropV (by have h := HV.out; rwa [← HN.out] at h) j (by omega); rwa [← HN.out] at h)
            go_wp2_with fail
            go_big_region_o
            clear hd hdn hd1 hdq hne hne2 c0 c1 d0 d1 e0 e1 f0 f1
            have HFIN := Lib.hid (show insPer s ⟨f, t⟩ = s.take i ++ [⟨f2, t2⟩] ++ s.drop j from by rw [INV.out, HSTOP.out, HAB.out, List.append_assoc]; rfl)
            have O7 := Lib.hid (O6.out.ext (Ext.refl wr).drew)
            have X7 := Lib.hid (show Ext w wr.drew from X6.out.drew)
            have Z7 := Lib.hid (show w0.heap.size ≤ wr.drew.heap.size from Z6.out)
            have d0 : wr.drew.cell? ⟨E, 0, none⟩ = some (.int .i64 f2) := BOX.out.1
            have d1 : wr.drew.cell? ⟨E, 1, none⟩ = some (.int .i64 t2) := BOX.out.2.1
            have e1 := cell_lt d0
            have B1 : (s.take i).length + [(⟨f2, t2⟩ : Per)].length ≤ maxLen := by simp only [List.length_singleton, List.length_take, maxLen]; omega
            have B2 : ((s.take i).length + [(⟨f2, t2⟩ : Per)].length) * 16 ≤ 140737488355328 := by simp only [List.length_singleton, List.length_take]; omega
            have B3 : (s.take i ++ [(⟨f2, t2⟩ : Per)]).length + (s.drop j).length ≤ maxLen := by simp only [List.length_append, List.length_singleton, List.length_take, List.length_drop, maxLen]; have := HN.out; omega
            have B4 : ((s.take i ++ [(⟨f2, t2⟩ : Per)]).length + (s.drop j).length) * 16 ≤ 140737488355328 := by simp only [List.length_append, List.length_singleton, List.length_take, List.length_drop]; have := HN.out; omega
            clear HAB O6 X6 Z6 BOX
            generalize wr.drew = w7 at O7 X7 Z7 d0 d1 e1 ⊢
            go_wp2_with fail
            go_region_law (first
              | ((with_reducible refine key_op 67 ?_); (try simp only [Act.put, List.setIfInBounds_toArray, List.set_cons_zero, List.set_cons_succ]); refine step_append_all Rep.per (fun _ => True) rfl _ _ 52 rfl w0.heap.size 57 i0 _ 16 Try.underlying52 hi hz0 hz1 hz2 rfl (by decide) u (s.take i) rfl (by exact O7.out.ext ((Ext.refl w7).alloc (.cells (perEnc ⟨f2, t2⟩).toArray 57)).drew) _ [⟨f2, t2⟩] rfl (by exact lone_flat (T := 57) (cs := perEnc ⟨f2, t2⟩) flat_per ⟨rfl, HF2.out⟩ O7.out) B1 B2 (by exact Nat.le_trans Z7.out ((Ext.refl w7).alloc (.cells (perEnc ⟨f2, t2⟩).toArray 57)).drew.size) ?_; intro v1 w1 own1 gr1 at1; have x1 : Ext w w1 := Chg.below (chg_grown gr1) (X7.out.alloc (.cells (perEnc ⟨f2, t2⟩).toArray 57)).drew (fun b hb => Nat.le_trans X0.out.size (O7.out.lt b hb).1); have z1 : w0.heap.size ≤ w1.heap.size := Nat.le_trans (Nat.le_trans Z7.out ((Ext.refl w7).alloc (.cells (perEnc ⟨f2, t2⟩).toArray 57)).drew.size) gr1.size)
              | ((with_reducible refine key_op 71 ?_); (try simp only [Act.put, List.setIfInBounds_toArray, List.set_cons_zero, List.set_cons_succ]); refine step_append_all Rep.per (fun _ => True) rfl _ _ 52 rfl w0.heap.size 57 i0 _ 16 Try.underlying52 hi hz0 hz1 hz2 rfl (by decide) v1 (s.take i ++ [(⟨f2, t2⟩ : Per)]) rfl own1 _ (s.drop j) rfl (by exact HIS.out.away flat_per x1 (fun k h => Nat.le_trans X0.out.size (own1.base k h))) B3 B4 z1 ?_; intro v2 w2 own2 gr2 at2; have x2 : Ext w w2 := Chg.below (chg_grown gr2) x1 (fun b hb => Nat.le_trans X0.out.size (own1.lt b hb).1)))
            all_goals
              have XF := Lib.hid x2
              have OF := Lib.hid own2
              clear own1 own2 gr1 gr2 at1 at2 x1 x2 z1
              go_wp2_with fail
              all_goals go_ret
              all_goals exact ⟨_, rfl, by rw [HFIN.out]; exact OF.out.slice, XF.out⟩
        · have HAB := Lib.hid (show absorb (s.drop i) ⟨f, t⟩ = (⟨f2, t2⟩, s.drop j) from by
            rw [ABS.out, abs_stop fun h => by have := HN.out; omega])
          have hd : decide ((j : Int) < (n : Int)) = false := by simp; omega
          have hdn : decide (j < n) = false := by simp; omega
          have hd2 : ¬ (j : Int) < (n : Int) := by omega
          have hcj : j ≤ cap := by have := HC.out.1; omega
          have HIS := Lib.hid (show SliceOf Rep.per w.cell? (.slice (if cap = j then p else Option.map (fun x : Addr => x.add (j * 2)) p) (n - j) (cap - j)) (s.drop j) from by rw [HN.out]; exact per_rest HV.out j (by have := HN.out; omega))
          go_wp2_with fail
          go_big_region_o
          clear hd hdn hd2
          have HFIN := Lib.hid (show insPer s ⟨f, t⟩ = s.take i ++ [⟨f2, t2⟩] ++ s.drop j from by rw [INV.out, HSTOP.out, HAB.out, List.append_assoc]; rfl)
          have O7 := Lib.hid (O6.out.ext (Ext.refl wr).drew)
          have X7 := Lib.hid (show Ext w wr.drew from X6.out.drew)
          have Z7 := Lib.hid (show w0.heap.size ≤ wr.drew.heap.size from Z6.out)
          have d0 : wr.drew.cell? ⟨E, 0, none⟩ = some (.int .i64 f2) := BOX.out.1
          have d1 : wr.drew.cell? ⟨E, 1, none⟩ = some (.int .i64 t2) := BOX.out.2.1
          have e1 := cell_lt d0
          have B1 : (s.take i).length + [(⟨f2, t2⟩ : Per)].length ≤ maxLen := by simp only [List.length_singleton, List.length_take, maxLen]; omega
          have B2 : ((s.take i).length + [(⟨f2, t2⟩ : Per)].length) * 16 ≤ 140737488355328 := by simp only [List.length_singleton, List.length_take]; omega
          have B3 : (s.take i ++ [(⟨f2, t2⟩ : Per)]).length + (s.drop j).length ≤ maxLen := by simp only [List.length_append, List.length_singleton, List.length_take, List.length_drop, maxLen]; have := HN.out; omega
          have B4 : ((s.take i ++ [(⟨f2, t2⟩ : Per)]).length + (s.drop j).length) * 16 ≤ 140737488355328 := by simp only [List.length_append, List.length_singleton, List.length_take, List.length_drop]; have := HN.out; omega
          clear HAB O6 X6 Z6 BOX
          generalize wr.drew = w7 at O7 X7 Z7 d0 d1 e1 ⊢
          go_wp2_with fail
          go_region_law (first
            | ((with_reducible refine key_op 67 ?_); (try simp only [Act.put, List.setIfInBounds_toArray, List.set_cons_zero, List.set_cons_succ]); refine step_append_all Rep.per (fun _ => True) rfl _ _ 52 rfl w0.heap.size 57 i0 _ 16 Try.underlying52 hi hz0 hz1 hz2 rfl (by decide) u (s.take i) rfl (by exact O7.out.ext ((Ext.refl w7).alloc (.cells (perEnc ⟨f2, t2⟩).toArray 57)).drew) _ [⟨f2, t2⟩] rfl (by exact lone_flat (T := 57) (cs := perEnc ⟨f2, t2⟩) flat_per ⟨rfl, HF2.out⟩ O7.out) B1 B2 (by exact Nat.le_trans Z7.out ((Ext.refl w7).alloc (.cells (perEnc ⟨f2, t2⟩).toArray 57)).drew.size) ?_; intro v1 w1 own1 gr1 at1; have x1 : Ext w w1 := Chg.below (chg_grown gr1) (X7.out.alloc (.cells (perEnc ⟨f2, t2⟩).toArray 57)).drew (fun b hb => Nat.le_trans X0.out.size (O7.out.lt b hb).1); have z1 : w0.heap.size ≤ w1.heap.size := Nat.le_trans (Nat.le_trans Z7.out ((Ext.refl w7).alloc (.cells (perEnc ⟨f2, t2⟩).toArray 57)).drew.size) gr1.size)
            | ((with_reducible refine key_op 71 ?_); (try simp only [Act.put, List.setIfInBounds_toArray, List.set_cons_zero, List.set_cons_succ]); refine step_append_all Rep.per (fun _ => True) rfl _ _ 52 rfl w0.heap.size 57 i0 _ 16 Try.underlying52 hi hz0 hz1 hz2 rfl (by decide) v1 (s.take i ++ [(⟨f2, t2⟩ : Per)]) rfl own1 _ (s.drop j) rfl (by exact HIS.out.away flat_per x1 (fun k h => Nat.le_trans X0.out.size (own1.base k h))) B3 B4 z1 ?_; intro v2 w2 own2 gr2 at2; have x2 : Ext w w2 := Chg.below (chg_grown gr2) x1 (fun b hb => Nat.le_trans X0.out.size (own1.lt b hb).1)))
          all_goals
            have XF := Lib.hid x2
            have OF := Lib.hid own2
            clear own1 own2 gr1 gr2 at1 at2 x1 x2 z1
            go_wp2_with fail
            all_goals go_ret
            all_goals exact ⟨_, rfl, by rw [HFIN.out]; exact OF.out.slice, XF.out⟩

end Go.Proofs.Ytmjfbfigdkolaaa
