/- the walk of SweepSwap -/
import Derived.Test.YtmjfbfigdkolaaaPlainS
import Derived.Test.YtmjfbfigdkolaaaAwakeS
import Derived.Test.YtmjfbfigdkolaaaGenC
namespace Go.Proofs.Ytmjfbfigdkolaaa
open Go.RowKit

theorem pair_at {h : View} {b o n cap : Nat} {xs : List Pair} (k : SliceOf Rep.pair h (.slice (some ⟨b, o, none⟩) n cap) xs) (i : Nat) (hi : i < xs.length) :
    h ⟨b, o + i * 4, none⟩ = some (.int .i64 xs[i].a) ∧ h ⟨b, o + i * 4 + 1, none⟩ = some (.int .i64 xs[i].b) ∧ h ⟨b, o + i * 4 + 2, none⟩ = some (.int .i64 xs[i].from_) ∧ h ⟨b, o + i * 4 + 3, none⟩ = some (.int .i64 xs[i].to_) := by
  obtain ⟨c, ⟨rfl, _⟩, h2⟩ := k.at i hi
  exact ⟨h2 0 _ rfl, h2 1 _ rfl, h2 2 _ rfl, h2 3 _ rfl⟩
theorem countP_take {α : Type} (p : α → Bool) (l : List α) (k : Nat) (h : k < l.length) : (l.take (k + 1)).countP p = (l.take k).countP p + if p l[k] = true then 1 else 0 := by
  rw [List.take_succ_eq_append_getElem h, List.countP_append, List.countP_singleton]

set_option maxRecDepth 100000 in
set_option maxHeartbeats 8000000 in
theorem SweepSwap_walk (v0 : Value) (x : List Num5) (v1 : Value) (y : List Num5) {w : World} (s0 : SliceOf Rep.num w.cell? v0 x) (s1 : SliceOf Rep.num w.cell? v1 y) :
    Calls Try.prog 11 #[v0, v1] w fun e w' => e = .returned (.bool true) ∧ Ext w w' := by
  have S0 := Lib.hid s0
  have S1 := Lib.hid s1
  obtain ⟨p0, q0, rfl, _⟩ := s0.form
  obtain ⟨p1, q1, rfl, _⟩ := s1.form
  clear s0 s1
  go_enter Try.func11, Try.ntmps11
  go_wp2_with fail
  refine (tuples_gen _ x 20 (by decide) _ S0.out).mono ?_
  rintro e w1 ⟨u1, rfl, t1, x1⟩
  have la := genTups_len x 20
  generalize genTups x 20 = a at t1 la
  obtain ⟨r1, k1, rfl, _⟩ := t1.form
  have T1 := Lib.hid (t1.ext (on_sub _ _))
  clear t1
  go_wp2_with fail
  refine (tuples_gen _ y 20 (by decide) _ (S1.out.ext x1.full)).mono ?_
  rintro e w2 ⟨u2, rfl, t2, x2⟩
  have lb := genTups_len y 20
  generalize genTups y 20 = b at t2 lb
  obtain ⟨r2, k2, rfl, _⟩ := t2.form
  have T2 := Lib.hid (t2.ext (on_sub _ _))
  replace T1 := Lib.hid (T1.out.ext x2.full)
  have X2 := Lib.hid (x1.trans x2)
  have HL := Lib.hid (And.intro la lb)
  clear t2 x1 x2 la lb S0 S1
  go_wp2_with fail
  refine (overlap_any _ _ a b _ T1.out T2.out (by have := HL.out; omega) (by have := HL.out; omega)).mono ?_
  rintro e w3 ⟨u3, rfl, t3, x3⟩
  obtain ⟨r3, k3, rfl, _⟩ := t3.form
  have T3 := Lib.hid (t3.ext (on_sub _ _))
  replace T1 := Lib.hid (T1.out.ext x3.full)
  replace T2 := Lib.hid (T2.out.ext x3.full)
  have X3 := Lib.hid (X2.out.trans x3)
  clear t3 x3 X2
  go_wp2_with fail
  refine (overlap_any _ _ b a _ T2.out T1.out (by have := HL.out; omega) (by have := HL.out; omega)).mono ?_
  rintro e w4 ⟨u4, rfl, t4, x4⟩
  obtain ⟨r4, k4, rfl, _⟩ := t4.form
  have hlen := swap_len a b
  have hbig := pairs_len a b
  have hcnt := fun s hs => swap_count a b (s := s) hs
  have hbig2 : (pairsOf a b).length ≤ 400 := by
    have h1 := HL.out
    have h2 := Nat.mul_le_mul h1.1 h1.2
    omega
  have T4 := Lib.hid (t4.ext (on_sub _ _))
  replace T3 := Lib.hid (T3.out.ext x4.full)
  have X4 := Lib.hid (X3.out.trans x4)
  generalize pairsOf a b = P at T3 hlen hbig2 hcnt ⊢
  generalize pairsOf b a = Q at T4 hlen hcnt ⊢
  obtain ⟨n, hn⟩ : ∃ n, n = P.length := ⟨_, rfl⟩
  rw [← hlen, ← hn] at T4 ⊢
  rw [← hn] at T3
  have HN := Lib.hid (show n = P.length ∧ n = Q.length ∧ n ≤ 400 from ⟨hn, by omega, by omega⟩)
  have HC := Lib.hid hcnt
  have hn4 : n ≤ 400 := HN.out.2.2
  clear t4 x4 X3 hlen hbig hbig2 hn hcnt T1 T2
  go_wp2_with fail
  go_loopg [31] n (fun gk vi wr => ∃ k : Nat, k ≤ n ∧ gk = n - k ∧ vi = .int .i64 k ∧ Hid (Ext w4 wr))
  case atStart => exact ⟨0, by omega, rfl, rfl, Ext.refl w4⟩
  case round =>
    obtain ⟨k, hk, rfl, rfl, X5⟩ := hrel
    by_cases hlt : k < n
    · have hkl : k < P.length := by have := HN.out; omega
      have hd : decide ((k : Int) < (n : Int)) = true := by simp; omega
      obtain ⟨_, _, e3, _, _, h3⟩ := T3.out.form
      injection e3 with e3 f3 g3
      clear f3 g3
      subst e3
      obtain ⟨b3, o3, rfl⟩ := h3 (by decide) (by omega)
      obtain ⟨_, _, e4, _, _, h4⟩ := T4.out.form
      injection e4 with e4 f4 g4
      clear f4 g4
      subst e4
      obtain ⟨b4, o4, rfl⟩ := h4 (by decide) (by have := HN.out; omega)
      obtain ⟨c0, c1, c2, c3⟩ := pair_at T3.out k hkl
      replace c0 := X5.out.at c0
      replace c1 := X5.out.at c1
      replace c2 := X5.out.at c2
      replace c3 := X5.out.at c3
      have hc1 := HC.out P[k] (List.getElem_mem hkl)
      generalize P[k] = s at c0 c1 c2 c3 hc1
      have HC1 := Lib.hid hc1
      obtain ⟨sa, sb, sf, st⟩ := s
      dsimp only at c0 c1 c2 c3
      have e0 := cell_lt c0
      clear hc1 h3 h4
      go_wp2_with fail
      have X6 := Lib.hid (X5.out.alloc (.cells #[.int .i64 (sa : Nat), .int .i64 (sb : Nat), .int .i64 sf, .int .i64 st] 59))
      have m0 : (wr.alloc (.cells #[.int .i64 (sa : Nat), .int .i64 (sb : Nat), .int .i64 sf, .int .i64 st] 59)).cell? ⟨wr.heap.size, 0, none⟩ = some (.int .i64 sa) := by simp
      have m1 : (wr.alloc (.cells #[.int .i64 (sa : Nat), .int .i64 (sb : Nat), .int .i64 sf, .int .i64 st] 59)).cell? ⟨wr.heap.size, 1, none⟩ = some (.int .i64 sb) := by simp
      have m2 : (wr.alloc (.cells #[.int .i64 (sa : Nat), .int .i64 (sb : Nat), .int .i64 sf, .int .i64 st] 59)).cell? ⟨wr.heap.size, 2, none⟩ = some (.int .i64 sf) := by simp
      have m3 : (wr.alloc (.cells #[.int .i64 (sa : Nat), .int .i64 (sb : Nat), .int .i64 sf, .int .i64 st] 59)).cell? ⟨wr.heap.size, 3, none⟩ = some (.int .i64 st) := by simp
      clear c0 c1 c2 c3 e0 X5
      generalize wr.alloc (.cells #[.int .i64 (sa : Nat), .int .i64 (sb : Nat), .int .i64 sf, .int .i64 st] 59) = W5 at X6 m0 m1 m2 m3 ⊢
      generalize wr.heap.size = eb at m0 m1 m2 m3 ⊢
      have M0 := Lib.hid (show _ ∧ _ ∧ _ ∧ _ from ⟨m0, m1, m2, m3⟩)
      clear m0 m1 m2 m3
      go_loopg [11, 37] n (fun gk vc vj wr => ∃ (j c : Nat), j ≤ n ∧ gk = n - j ∧ vj = .int .i64 j ∧ vc = .int .i64 c ∧ Hid (c = (Q.take j).countP (isSw ⟨sa, sb, sf, st⟩)) ∧ c ≤ j ∧ Hid (Ext W5 wr))
      case atStart => exact ⟨0, 0, by omega, rfl, rfl, rfl, by show 0 = _; rfl, Nat.le_refl _, Ext.refl W5⟩
      case round =>
        obtain ⟨j, c, hj, rfl, rfl, rfl, HCC, hcj, X7⟩ := hrel
        by_cases hlt2 : j < n
        · have hjl : j < Q.length := by have := HN.out; omega
          have hd2 : decide ((j : Int) < (n : Int)) = true := by simp; omega
          obtain ⟨c0, c1, c2, c3⟩ := pair_at T4.out j hjl
          replace c0 := (X6.out.trans X7.out).at c0
          replace c1 := (X6.out.trans X7.out).at c1
          replace c2 := (X6.out.trans X7.out).at c2
          replace c3 := (X6.out.trans X7.out).at c3
          have hst := countP_take (isSw ⟨sa, sb, sf, st⟩) Q j hjl
          generalize Q[j] = t at c0 c1 c2 c3 hst
          obtain ⟨ta, tb, tf, tt⟩ := t
          dsimp only at c0 c1 c2 c3
          rw [← HCC.out] at hst
          have HST := Lib.hid hst
          have m0 := X7.out.at M0.out.1
          have m1 := X7.out.at M0.out.2.1
          have m2 := X7.out.at M0.out.2.2.1
          have m3 := X7.out.at M0.out.2.2.2
          have e0 := cell_lt c0
          have e1 := cell_lt m0
          clear hst
          by_cases h1 : ta = sb
          · by_cases h2 : tb = sa
            · by_cases h3 : tf = sf ∧ tt = st
              · have hv : isSw ⟨sa, sb, sf, st⟩ ⟨ta, tb, tf, tt⟩ = true := by simp [isSw, h1, h2, h3]
                have HVV := Lib.hid hv
                obtain ⟨h3, h4⟩ := h3
                subst h1 h2 h3 h4
                clear hv
                go_wp2_with fail
                go_roundg (n - (j + 1))
                case measure => omega
                case rel => exact ⟨j + 1, c + 1, by omega, rfl, by go_num, by go_num, by show c + 1 = _; rw [HST.out, if_pos HVV.out], by omega, X7.out.alloc _⟩
              · have hv : ¬ isSw ⟨sa, sb, sf, st⟩ ⟨ta, tb, tf, tt⟩ = true := fun h => by have h9 := (isSw_iff _ _).1 h; simp only [swP, Pair.mk.injEq] at h9; omega
                have HVV := Lib.hid hv
                subst h1 h2
                clear hv
                by_cases h5 : tf = sf
                · subst h5
                  have h6 : ¬ tt = st := fun e => h3 ⟨rfl, e⟩
                  have b3 : (tt == st) = false := by simp; omega
                  clear h3
                  go_wp2_with fail
                  go_roundg (n - (j + 1))
                  case measure => omega
                  case rel => exact ⟨j + 1, c, by omega, rfl, by go_num, rfl, by show c = _; rw [HST.out, if_neg HVV.out, Nat.add_zero], by omega, X7.out.alloc _⟩
                · have b3 : (tf == sf) = false := by simp; omega
                  clear h3
                  go_wp2_with fail
                  go_roundg (n - (j + 1))
                  case measure => omega
                  case rel => exact ⟨j + 1, c, by omega, rfl, by go_num, rfl, by show c = _; rw [HST.out, if_neg HVV.out, Nat.add_zero], by omega, X7.out.alloc _⟩
            · have hv : ¬ isSw ⟨sa, sb, sf, st⟩ ⟨ta, tb, tf, tt⟩ = true := fun h => by have h9 := (isSw_iff _ _).1 h; simp only [swP, Pair.mk.injEq] at h9; omega
              have HVV := Lib.hid hv
              have b2 : ((tb : Int) == (sa : Int)) = false := by simp; omega
              subst h1
              clear hv
              go_wp2_with fail
              go_roundg (n - (j + 1))
              case measure => omega
              case rel => exact ⟨j + 1, c, by omega, rfl, by go_num, rfl, by show c = _; rw [HST.out, if_neg HVV.out, Nat.add_zero], by omega, X7.out.alloc _⟩
          · have hv : ¬ isSw ⟨sa, sb, sf, st⟩ ⟨ta, tb, tf, tt⟩ = true := fun h => by have h9 := (isSw_iff _ _).1 h; simp only [swP, Pair.mk.injEq] at h9; omega
            have HVV := Lib.hid hv
            have b1 : ((ta : Int) == (sb : Int)) = false := by simp; omega
            clear hv
            go_wp2_with fail
            go_roundg (n - (j + 1))
            case measure => omega
            case rel => exact ⟨j + 1, c, by omega, rfl, by go_num, rfl, by show c = _; rw [HST.out, if_neg HVV.out, Nat.add_zero], by omega, X7.out.alloc _⟩
        · have hjn : j = n := by omega
          have hd2 : ¬ (j : Int) < (n : Int) := by omega
          have hc : c = 1 := by rw [HCC.out, hjn, HN.out.2.1, List.take_length]; exact HC1.out
          have X8 := Lib.hid (X6.out.trans X7.out)
          subst hc
          clear hjn
          go_wp2_with fail
          go_roundg (n - (k + 1))
          case measure => omega
          case rel => exact ⟨k + 1, by omega, rfl, by go_num, X8.out⟩
    · have hd : ¬ (k : Int) < (n : Int) := by omega
      go_wp2_with fail
      refine (awake_sweep _).mono ?_
      rintro e w9 ⟨rfl, x9⟩
      have X9 := Lib.hid ((X4.out.trans X5.out).trans x9)
      clear x9
      go_wp2_with fail
      go_ret
      exact ⟨rfl, X9.out⟩

end Go.Proofs.Ytmjfbfigdkolaaa
