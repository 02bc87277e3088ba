/- slices.symMergeCmpFunc at the starts; printed by gen_sym.py -/
import Derived.Test.YtdgpbpbjlnlijaaGreatStabX
import Derived.Shelf.SlSortCmp.QuietGrown
namespace Go.Proofs.YtdgpbpbjlnlijaaGreat
open Go.RowKit Go.Shelf Go.Sort

theorem swk_test (gq blk N : Nat) (d0 dk : Array Ev) (w0 wr : World) (R : RowK evEnc 3 w0 blk 0 d0) (HC : CmpLays Tryz.prog gq #[] evEnc 3 cmpEv blk 0 N w0) (hd0 : d0.size = N) (hdk : dk.size = N) (S : SWK evEnc 3 w0 blk 0 dk wr) (x y : Nat) (hx : x < N) (hy : y < N) :
    ∃ f1 s1 i1 f2 s2 i2 c : Int, ((c < 0 → ltOf cmpEv dk[x]! dk[y]! = true) ∧ (¬ c < 0 → ltOf cmpEv dk[x]! dk[y]! = false)) ∧
      (∀ n os, (grow (wr.drewN n) os).cell? ⟨blk, x * 3, none⟩ = some (.int .i64 f1)) ∧ (∀ n os, (grow (wr.drewN n) os).cell? ⟨blk, x * 3 + 1, none⟩ = some (.int .i64 s1)) ∧ (∀ n os, (grow (wr.drewN n) os).cell? ⟨blk, x * 3 + 2, none⟩ = some (.int .i64 i1)) ∧
      (∀ n os, (grow (wr.drewN n) os).cell? ⟨blk, y * 3, none⟩ = some (.int .i64 f2)) ∧ (∀ n os, (grow (wr.drewN n) os).cell? ⟨blk, y * 3 + 1, none⟩ = some (.int .i64 s2)) ∧ (∀ n os, (grow (wr.drewN n) os).cell? ⟨blk, y * 3 + 2, none⟩ = some (.int .i64 i2)) ∧
      ∀ n os, Calls Tryz.prog gq #[.agg #[.int .i64 f1, .int .i64 s1, .int .i64 i1], .agg #[.int .i64 f2, .int .i64 s2, .int .i64 i2]] (grow (wr.drewN n) os) fun e w' => e = .returned (.int .i64 c) ∧ ∃ q os', w' = grow ((grow (wr.drewN n) os).drewN q) os' := by
  have hx' := fun n os => ev_cell ((S.grown n os).holds R.hblk R.hH (by omega)) x (by omega)
  have hy' := fun n os => ev_cell ((S.grown n os).holds R.hblk R.hH (by omega)) y (by omega)
  refine ⟨_, _, _, _, _, _, cmpEv dk[x]! dk[y]!, ⟨fun h => decide_eq_true h, fun h => decide_eq_false h⟩, fun n os => (hx' n os).1, fun n os => (hx' n os).2.1, fun n os => (hx' n os).2.2, fun n os => (hy' n os).1, fun n os => (hy' n os).2.1, fun n os => (hy' n os).2.2, fun n os => S.cmp HC hdk dk[x]! dk[y]! n os⟩
theorem sym_parts {d d1 : Array Ev} {a m b mid nn p s e : Nat} (h1 : SortedIn (ltOf cmpEv) a m d) (h2 : SortedIn (ltOf cmpEv) m b d) (F : mid = (a + b) / 2 ∧ nn = mid + m ∧ p = nn - 1 ∧ e = nn - s)
    (hs : a < m ∧ m < b) (hr : a ≤ s ∧ s ≤ m ∧ s ≤ mid ∧ m ≤ e ∧ e ≤ b) (I : ((s = a ∨ e = b) ∨ ltOf cmpEv d[p - (s - 1)]! d[s - 1]! = false) ∧ ((s = m ∨ s = mid) ∨ ltOf cmpEv d[p - s]! d[s]! = true)) (hrot : RotOf d d1 s (m - s) (e - m)) :
    SortedIn (ltOf cmpEv) a s d1 ∧ SortedIn (ltOf cmpEv) s mid d1 ∧ SortedIn (ltOf cmpEv) mid e d1 ∧ SortedIn (ltOf cmpEv) e b d1 ∧ ∀ i j, a ≤ i → i < mid → mid ≤ j → j < b → ltOf cmpEv d1[j]! d1[i]! = false := by
  have hx := rot_parts swo_ev h1 h2 (s := s) (e := e) (by omega) (by omega) (by omega) (by omega) hrot ?_ ?_
  · rw [show s + (e - m) = mid by omega] at hx
    exact hx
  · rcases I.1 with h | h
    · omega
    · by_cases h0 : s = 0
      · omega
      · exact .inr (.inr (by rwa [show p - (s - 1) = e by omega] at h))
  · rcases I.2 with h | h
    · omega
    · by_cases h0 : e = m
      · exact .inr (.inl h0)
      · exact .inr (.inr (by rwa [show p - s = e - 1 by omega] at h))

set_option maxRecDepth 100000 in
set_option maxHeartbeats 16000000 in
theorem symMerge_ev (gq blk cap N : Nat) (d0 : Array Ev) (w0 : World) (eg : ∀ args w, (callFunc gq args).run Tryz.prog w = .ok (.enter gq args) w) (R : RowK evEnc 3 w0 blk 0 d0) (hd0 : d0.size = N) (hC : CmpLays Tryz.prog gq #[] evEnc 3 cmpEv blk 0 N w0) (hsz : N ≤ 1048576) :
    ∀ (F a m b : Nat) (dk : Array Ev) (w : World), b - a < F → dk.size = N → SWK evEnc 3 w0 blk 0 dk w → a < m → m < b → b ≤ N → SortedIn (ltOf cmpEv) a m dk → SortedIn (ltOf cmpEv) m b dk →
      Calls Tryz.prog 45 #[.slice (some ⟨blk, 0, none⟩) N cap, .int .i64 a, .int .i64 m, .int .i64 b, .func (.func gq) #[] #[]] w fun e w' => e = .returned (.tuple #[]) ∧ ∃ d', PermIn a b dk d' ∧ SortedIn (ltOf cmpEv) a b d' ∧ SWK evEnc 3 w0 blk 0 d' w' := by
  intro F
  induction F with
  | zero => intro a m b dk w h; omega
  | succ F ih =>
    intro a m b dk w hF hdk S ham hmb hb h1 h2
    have mixed := mixedOrd
    have S0 := Lib.hid S
    have HC := Lib.hid hC
    have SD := Lib.hid (And.intro h1 h2)
    clear S h1 h2 hC
    go_enter Tryz.func45, Tryz.ntmps45
    by_cases hm1 : m = a + 1
    · have e1 : (m : Int) - (a : Int) = 1 := by omega
      have HM1 := Lib.hid hm1
      clear hm1
      go_wp2_with fail
      go_loopg [10, 11] (b - m) (fun gk vi vj wr => ∃ (i j : Nat), gk = j - i ∧ vi = .int .i64 i ∧ vj = .int .i64 j ∧ m ≤ i ∧ i ≤ j ∧ j ≤ b ∧ Hid ((i = m ∨ ltOf cmpEv dk[i - 1]! dk[a]! = true) ∧ (j = b ∨ ltOf cmpEv dk[j]! dk[a]! = false)) ∧ Hid (SWK evEnc 3 w0 blk 0 dk wr))
      case atStart => exact ⟨m, b, rfl, rfl, rfl, Nat.le_refl _, by omega, Nat.le_refl _, ⟨.inl rfl, .inl rfl⟩, S0⟩
      case round =>
        obtain ⟨i, j, rfl, rfl, rfl, hi, hij, hj, I1, S1⟩ := hrel
        clear S0
        by_cases hlt0 : i < j
        · have hltz : (i : Int) < (j : Int) := by omega
          obtain ⟨h, hh⟩ : ∃ h, h = (i + j) / 2 := ⟨_, rfl⟩
          have eh : ((i : Int) + (j : Int)) / 2 = (h : Int) := by omega
          have hh1 : i ≤ h := by omega
          have hh2 : h < j := by omega
          have HH := Lib.hid hh
          clear hh

          obtain ⟨f1, s1, i1, f2, s2, i2, c, hc, c1, c2, c3, c4, c5, c6, hcm⟩ := swk_test gq blk N d0 dk w0 wr R HC.out hd0 hdk S1.out h a (by omega) (by omega)
          have hX := Lib.hid hc
          clear hc
          have bx : (h : Int) < (N : Int) := by omega
          have byy : (a : Int) < (N : Int) := by omega
          have px : (0 : Int) ≤ (h : Int) := by omega
          have py : (0 : Int) ≤ (a : Int) := by omega
          have rx : IntKind.i64.wrap (h : Int) = (h : Int) := by rw [IntKind.wrap_i64]; omega
          have ry : IntKind.i64.wrap (a : Int) = (a : Int) := by rw [IntKind.wrap_i64]; omega
          by_cases hlt : c < 0
          · have hd : decide (c < 0) = true := decide_eq_true hlt
            have HL := Lib.hid (hX.out.1 hlt)
            clear hlt hX
            go_wp2_with fail
            go_quiet_grown (first | (go_at_fn gq; refine Calls.grown_of (hcm _ _)))
            have S2 := Lib.hid (S1.out.grown nq osq)
            clear c1 c2 c3 c4 c5 c6 hcm S1
            generalize grow (wr.drewN nq) osq = w2 at S2 ⊢
            clear nq osq
            go_wp2_with fail
            go_roundg (j - (h + 1))
            case measure => have := HH.out; omega
            case rel => exact ⟨h + 1, j, rfl, by simp, rfl, by omega, by omega, hj, ⟨.inr (by simpa using HL.out), I1.out.2⟩, S2⟩
          · have hd : decide (c < 0) = false := decide_eq_false hlt
            have HL := Lib.hid (hX.out.2 hlt)
            clear hlt hX
            go_wp2_with fail
            go_quiet_grown (first | (go_at_fn gq; refine Calls.grown_of (hcm _ _)))
            have S2 := Lib.hid (S1.out.grown nq osq)
            clear c1 c2 c3 c4 c5 c6 hcm S1
            generalize grow (wr.drewN nq) osq = w2 at S2 ⊢
            clear nq osq
            go_wp2_with fail
            go_roundg (h - i)
            case measure => have := HH.out; omega
            case rel => exact ⟨i, h, rfl, rfl, rfl, hi, by omega, by omega, ⟨I1.out.1, .inr HL.out⟩, S2⟩
        · have hltz : ¬ (i : Int) < (j : Int) := by omega
          have hje : j = i := by omega
          subst hje
          obtain ⟨wA, hwA⟩ : ∃ u, u = wr := ⟨_, rfl⟩
          subst hwA
          obtain ⟨u, hu⟩ : ∃ u, u = j - 1 := ⟨_, rfl⟩
          have eu : (j : Int) - 1 = (u : Int) := by omega
          have hau : a ≤ u := by omega
          have HU := Lib.hid hu
          have huN : u < N := by omega
          clear hu
          go_wp2_with fail
          go_loopg [13] (u - a) (fun gk vk wr => ∃ (k : Nat) (dj : Array Ev), gk = u - k ∧ vk = .int .i64 k ∧ a ≤ k ∧ k ≤ u ∧ dj.size = N ∧ Hid (RotOf dk dj a 1 (k - a)) ∧ Hid (PermIn a b dk dj) ∧ Hid (SWK evEnc 3 w0 blk 0 dj wr))
          case atStart => exact ⟨a, dk, rfl, rfl, Nat.le_refl _, by omega, hdk, by rw [Nat.sub_self]; exact RotOf.none_right dk a 1, permIn_refl dk a b, S1⟩
          case round =>
            obtain ⟨k, dj, rfl, rfl, hak, hku, hdj, T1, Q1, S3⟩ := hrel
            clear S1
            by_cases hlt1 : k < u
            · have hltz1 : (k : Int) < (u : Int) := by omega
              obtain ⟨v, hv⟩ : ∃ v, v = k + 1 := ⟨_, rfl⟩
              have ev : (k : Int) + 1 = (v : Int) := by omega
              have hkv : k < v := by omega
              have hvu : v ≤ u := by omega
              have HV := Lib.hid hv
              clear hv
              obtain ⟨f1, s1, i1, f2, s2, i2, c1, c2, c3, c4, c5, c6, r1, r2, r3, r4, r5, r6, S2⟩ := swk_exch blk N d0 dj w0 wr R hd0 hdj S3.out k v (by omega) (by omega)
              clear S3
              have q1 : ¬ k * 3 = v * 3 := by omega
              have q2 : ¬ k * 3 + 1 = v * 3 + 1 := by omega
              have q3 : ¬ k * 3 + 2 = v * 3 + 2 := by omega
              have q4 : ¬ k * 3 = v * 3 + 1 := by omega
              have q5 : ¬ k * 3 = v * 3 + 2 := by omega
              have q6 : ¬ k * 3 + 1 = v * 3 := by omega
              have q7 : ¬ k * 3 + 1 = v * 3 + 2 := by omega
              have q8 : ¬ k * 3 + 2 = v * 3 := by omega
              have q9 : ¬ k * 3 + 2 = v * 3 + 1 := by omega
              go_wp2_with fail
              go_big_region_o
              all_goals go_wp2_with fail
              all_goals go_roundg (u - v)
              all_goals first
                | (case measure => have := HV.out; omega)
                | (case rel =>
                    refine ⟨v, swp dj k v, rfl, rfl, by omega, hvu, by rw [size_swp]; exact hdj, ?_, ?_, S2.out⟩
                    · have := RotOf.up T1.out hak (by have := HV.out; omega)
                      rw [HV.out]
                      exact this
                    · exact permIn_trans _ _ _ _ _ Q1.out (swp_permIn _ _ _ _ _ (by omega) (by have := HU.out; omega) (by omega) (by have := HU.out; omega) (by omega)))
            · have hltz1 : ¬ (k : Int) < (u : Int) := by omega
              have hke : k = u := by omega
              subst hke
              go_wp2_with fail
              first | go_end0 | refine bodyPost_ret (results_none rfl _ _ _) rfl ?_
              refine ⟨rfl, dj, Q1.out, ?_, S3.out⟩
              have h1 := I1.out
              have h2 := SD.out
              have hm1 := HM1.out
              have hu := HU.out
              subst hm1
              refine rot_first swo_ev h2.2 (e := j) (by omega) hj (by rw [show j - (a + 1) = k - a by omega]; exact T1.out) ?_ h1.2
              rcases h1.1 with h | h
              · exact .inl h
              · exact .inr h
    · have e1 : ((m : Int) - (a : Int) == 1) = false := by simp; omega
      by_cases hm2 : m + 1 = b
      · have e2 : (b : Int) - (m : Int) = 1 := by omega
        have HM1 := Lib.hid hm2
        clear hm2
        go_wp2_with fail
        go_loopg [14, 15] (m - a) (fun gk vi vj wr => ∃ (i j : Nat), gk = j - i ∧ vi = .int .i64 i ∧ vj = .int .i64 j ∧ a ≤ i ∧ i ≤ j ∧ j ≤ m ∧ Hid ((i = a ∨ ltOf cmpEv dk[m]! dk[i - 1]! = false) ∧ (j = m ∨ ltOf cmpEv dk[m]! dk[j]! = true)) ∧ Hid (SWK evEnc 3 w0 blk 0 dk wr))
        case atStart => exact ⟨a, m, rfl, rfl, rfl, Nat.le_refl _, by omega, Nat.le_refl _, ⟨.inl rfl, .inl rfl⟩, S0⟩
        case round =>
          obtain ⟨i, j, rfl, rfl, rfl, hi, hij, hj, I1, S1⟩ := hrel
          clear S0
          by_cases hlt0 : i < j
          · have hltz : (i : Int) < (j : Int) := by omega
            obtain ⟨h, hh⟩ : ∃ h, h = (i + j) / 2 := ⟨_, rfl⟩
            have eh : ((i : Int) + (j : Int)) / 2 = (h : Int) := by omega
            have hh1 : i ≤ h := by omega
            have hh2 : h < j := by omega
            have HH := Lib.hid hh
            clear hh

            obtain ⟨f1, s1, i1, f2, s2, i2, c, hc, c1, c2, c3, c4, c5, c6, hcm⟩ := swk_test gq blk N d0 dk w0 wr R HC.out hd0 hdk S1.out m h (by omega) (by omega)
            have hX := Lib.hid hc
            clear hc
            have bx : (m : Int) < (N : Int) := by omega
            have byy : (h : Int) < (N : Int) := by omega
            have px : (0 : Int) ≤ (m : Int) := by omega
            have py : (0 : Int) ≤ (h : Int) := by omega
            have rx : IntKind.i64.wrap (m : Int) = (m : Int) := by rw [IntKind.wrap_i64]; omega
            have ry : IntKind.i64.wrap (h : Int) = (h : Int) := by rw [IntKind.wrap_i64]; omega
            by_cases hlt : c < 0
            · have hd : decide (c < 0) = true := decide_eq_true hlt
              have HL := Lib.hid (hX.out.1 hlt)
              clear hlt hX
              go_wp2_with fail
              go_quiet_grown (first | (go_at_fn gq; refine Calls.grown_of (hcm _ _)))
              have S2 := Lib.hid (S1.out.grown nq osq)
              clear c1 c2 c3 c4 c5 c6 hcm S1
              generalize grow (wr.drewN nq) osq = w2 at S2 ⊢
              clear nq osq
              go_wp2_with fail
              go_roundg (h - i)
              case measure => have := HH.out; omega
              case rel => exact ⟨i, h, rfl, rfl, rfl, hi, by omega, by omega, ⟨I1.out.1, .inr HL.out⟩, S2⟩
            · have hd : decide (c < 0) = false := decide_eq_false hlt
              have HL := Lib.hid (hX.out.2 hlt)
              clear hlt hX
              go_wp2_with fail
              go_quiet_grown (first | (go_at_fn gq; refine Calls.grown_of (hcm _ _)))
              have S2 := Lib.hid (S1.out.grown nq osq)
              clear c1 c2 c3 c4 c5 c6 hcm S1
              generalize grow (wr.drewN nq) osq = w2 at S2 ⊢
              clear nq osq
              go_wp2_with fail
              go_roundg (j - (h + 1))
              case measure => have := HH.out; omega
              case rel => exact ⟨h + 1, j, rfl, by simp, rfl, by omega, by omega, hj, ⟨.inr (by simpa using HL.out), I1.out.2⟩, S2⟩
          · have hltz : ¬ (i : Int) < (j : Int) := by omega
            have hje : j = i := by omega
            subst hje
            obtain ⟨wA, hwA⟩ : ∃ u, u = wr := ⟨_, rfl⟩
            subst hwA
            go_wp2_with fail
            go_loopg [17] (m - j) (fun gk vk wr => ∃ (k : Nat) (dj : Array Ev), gk = k - j ∧ vk = .int .i64 k ∧ j ≤ k ∧ k ≤ m ∧ dj.size = N ∧ Hid (RotOf dk dj k (m - k) 1) ∧ Hid (PermIn a b dk dj) ∧ Hid (SWK evEnc 3 w0 blk 0 dj wr))
            case atStart => exact ⟨m, dk, rfl, rfl, hj, Nat.le_refl _, hdk, by rw [Nat.sub_self]; exact RotOf.none_left dk m 1, permIn_refl dk a b, S1⟩
            case round =>
              obtain ⟨k, dj, rfl, rfl, hjk, hkm, hdj, T1, Q1, S3⟩ := hrel
              clear S1
              by_cases hlt1 : j < k
              · have hltz1 : (j : Int) < (k : Int) := by omega
                obtain ⟨v, hv⟩ : ∃ v, v = k - 1 := ⟨_, rfl⟩
                have ev : (k : Int) - 1 = (v : Int) := by omega
                have hkv : v < k := by omega
                have hvj : j ≤ v := by omega
                have HV := Lib.hid hv
                clear hv
                obtain ⟨f1, s1, i1, f2, s2, i2, c1, c2, c3, c4, c5, c6, r1, r2, r3, r4, r5, r6, S2⟩ := swk_exch blk N d0 dj w0 wr R hd0 hdj S3.out k v (by omega) (by omega)
                clear S3
                have q1 : ¬ k * 3 = v * 3 := by omega
                have q2 : ¬ k * 3 + 1 = v * 3 + 1 := by omega
                have q3 : ¬ k * 3 + 2 = v * 3 + 2 := by omega
                have q4 : ¬ k * 3 = v * 3 + 1 := by omega
                have q5 : ¬ k * 3 = v * 3 + 2 := by omega
                have q6 : ¬ k * 3 + 1 = v * 3 := by omega
                have q7 : ¬ k * 3 + 1 = v * 3 + 2 := by omega
                have q8 : ¬ k * 3 + 2 = v * 3 := by omega
                have q9 : ¬ k * 3 + 2 = v * 3 + 1 := by omega
                go_wp2_with fail
                go_big_region_o
                all_goals go_wp2_with fail
                all_goals go_roundg (v - j)
                all_goals first
                  | (case measure => have := HV.out; omega)
                  | (case rel =>
                      refine ⟨v, swp dj k v, rfl, rfl, hvj, by omega, by rw [size_swp]; exact hdj, ?_, ?_, S2.out⟩
                      · have := RotOf.down T1.out (by omega) hkm (by omega)
                        rw [HV.out]
                        exact this
                      · exact permIn_trans _ _ _ _ _ Q1.out (swp_permIn _ _ _ _ _ (by omega) (by omega) (by omega) (by omega) (by omega)))
              · have hltz1 : ¬ (j : Int) < (k : Int) := by omega
                have hke : k = j := by omega
                subst hke
                go_wp2_with fail
                first | go_end0 | refine bodyPost_ret (results_none rfl _ _ _) rfl ?_
                refine ⟨rfl, dj, Q1.out, ?_, S3.out⟩
                have h1 := I1.out
                have h2 := SD.out
                have hm1 := HM1.out
                rw [← hm1]
                refine rot_second swo_ev h2.1 (s := k) hi hj T1.out ?_ h1.2
                rcases h1.1 with h | h
                · exact .inl h
                · exact .inr h
      · have e2 : ((b : Int) - (m : Int) == 1) = false := by simp; omega
        obtain ⟨mid, hmid⟩ : ∃ u, u = (a + b) / 2 := ⟨_, rfl⟩
        have em : ((a : Int) + (b : Int)) / 2 = (mid : Int) := by omega
        obtain ⟨nn, hnn⟩ : ∃ u, u = mid + m := ⟨_, rfl⟩
        have en : (mid : Int) + (m : Int) = (nn : Int) := by omega
        obtain ⟨p, hp⟩ : ∃ u, u = nn - 1 := ⟨_, rfl⟩
        have ep : (nn : Int) - 1 = (p : Int) := by omega
        by_cases hmm : mid < m
        · have hz : (mid : Int) < (m : Int) := by omega
          obtain ⟨s0, hs0⟩ : ∃ u, u = nn - b := ⟨_, rfl⟩
          have es : (nn : Int) - (b : Int) = (s0 : Int) := by omega
          have F0 := Lib.hid (show mid = (a + b) / 2 ∧ nn = mid + m ∧ p = nn - 1 ∧ s0 = nn - b ∧ ¬ m = a + 1 ∧ ¬ m + 1 = b from ⟨hmid, hnn, hp, hs0, hm1, hm2⟩)
          have hsr : s0 ≤ mid := by omega
          clear hmid hnn hp hs0
          go_wp2_with fail
          go_loopg [20, 21] (mid - s0) (fun gk vi vj wr => ∃ (i j : Nat), gk = j - i ∧ vi = .int .i64 i ∧ vj = .int .i64 j ∧ s0 ≤ i ∧ i ≤ j ∧ j ≤ mid ∧ Hid ((i = s0 ∨ ltOf cmpEv dk[p - (i - 1)]! dk[i - 1]! = false) ∧ (j = mid ∨ ltOf cmpEv dk[p - j]! dk[j]! = true)) ∧ Hid (SWK evEnc 3 w0 blk 0 dk wr))
          case atStart => exact ⟨s0, mid, rfl, rfl, rfl, Nat.le_refl _, by omega, Nat.le_refl _, ⟨.inl rfl, .inl rfl⟩, S0⟩
          case round =>
            obtain ⟨i, j, rfl, rfl, rfl, hi, hij, hj, I1, S1⟩ := hrel
            clear S0
            by_cases hlt0 : i < j
            · have hltz : (i : Int) < (j : Int) := by omega
              obtain ⟨h, hh⟩ : ∃ h, h = (i + j) / 2 := ⟨_, rfl⟩
              have eh : ((i : Int) + (j : Int)) / 2 = (h : Int) := by omega
              have hh1 : i ≤ h := by omega
              have hh2 : h < j := by omega
              have HH := Lib.hid hh
              clear hh
              obtain ⟨q, hq⟩ : ∃ q, q = p - h := ⟨_, rfl⟩
              have hqN : q < N := by have h1 := F0.out; omega
              have eq1 : (p : Int) - (h : Int) = (q : Int) := by have h1 := F0.out; omega
              have hQ := Lib.hid hq
              clear hq
              obtain ⟨f1, s1, i1, f2, s2, i2, c, hc, c1, c2, c3, c4, c5, c6, hcm⟩ := swk_test gq blk N d0 dk w0 wr R HC.out hd0 hdk S1.out q h (by omega) (by omega)
              have hX := Lib.hid hc
              clear hc
              have bx : (q : Int) < (N : Int) := by omega
              have byy : (h : Int) < (N : Int) := by omega
              have px : (0 : Int) ≤ (q : Int) := by omega
              have py : (0 : Int) ≤ (h : Int) := by omega
              have rx : IntKind.i64.wrap (q : Int) = (q : Int) := by rw [IntKind.wrap_i64]; omega
              have ry : IntKind.i64.wrap (h : Int) = (h : Int) := by rw [IntKind.wrap_i64]; omega
              by_cases hlt : c < 0
              · have hd : decide (c < 0) = true := decide_eq_true hlt
                have HL := Lib.hid (hX.out.1 hlt)
                clear hlt hX
                go_wp2_with fail
                go_quiet_grown (first | (go_at_fn gq; refine Calls.grown_of (hcm _ _)))
                have S2 := Lib.hid (S1.out.grown nq osq)
                clear c1 c2 c3 c4 c5 c6 hcm S1
                generalize grow (wr.drewN nq) osq = w2 at S2 ⊢
                clear nq osq
                go_wp2_with fail
                go_roundg (h - i)
                case measure => have := HH.out; omega
                case rel => exact ⟨i, h, rfl, rfl, rfl, hi, by omega, by omega, ⟨I1.out.1, .inr (by have h2 := HL.out; rw [hQ.out] at h2; exact h2)⟩, S2⟩
              · have hd : decide (c < 0) = false := decide_eq_false hlt
                have HL := Lib.hid (hX.out.2 hlt)
                clear hlt hX
                go_wp2_with fail
                go_quiet_grown (first | (go_at_fn gq; refine Calls.grown_of (hcm _ _)))
                have S2 := Lib.hid (S1.out.grown nq osq)
                clear c1 c2 c3 c4 c5 c6 hcm S1
                generalize grow (wr.drewN nq) osq = w2 at S2 ⊢
                clear nq osq
                go_wp2_with fail
                go_roundg (j - (h + 1))
                case measure => have := HH.out; omega
                case rel => exact ⟨h + 1, j, rfl, by simp, rfl, by omega, by omega, hj, ⟨.inr (by have h2 := HL.out; rw [hQ.out] at h2; simpa using h2), I1.out.2⟩, S2⟩
            · have hltz : ¬ (i : Int) < (j : Int) := by omega
              have hje : j = i := by omega
              subst hje
              obtain ⟨wA, hwA⟩ : ∃ u, u = wr := ⟨_, rfl⟩
              subst hwA
              obtain ⟨e, he⟩ : ∃ e, e = nn - j := ⟨_, rfl⟩
              have ee : (nn : Int) - (j : Int) = (e : Int) := by have h1 := F0.out; omega
              have F := Lib.hid (show mid = (a + b) / 2 ∧ nn = mid + m ∧ p = nn - 1 ∧ e = nn - j from by have h1 := F0.out; omega)
              have hi0 : a ≤ j := by have h1 := F0.out; omega
              have hme : m ≤ e := by have h1 := F0.out; omega
              have heb : e ≤ b := by have h1 := F0.out; omega
              have hjm : j ≤ m := by have h1 := F0.out; omega
              have hjmid : j ≤ mid := by have h1 := F0.out; omega
              have I2 := Lib.hid (show ((j = a ∨ e = b) ∨ ltOf cmpEv dk[p - (j - 1)]! dk[j - 1]! = false) ∧ ((j = m ∨ j = mid) ∨ ltOf cmpEv dk[p - j]! dk[j]! = true) from
                ⟨I1.out.1.elim (fun h => .inl (by have h1 := F0.out; omega)) .inr, I1.out.2.elim (fun h => .inl (by have h1 := F0.out; omega)) .inr⟩)
              clear he F0 I1
              by_cases hC : j = mid
              · have hC1 := Nat.le_of_eq hC
                have hC2 := Nat.le_of_eq hC.symm
                clear hC
                have b1 : (j : Int) < (m : Int) := by omega
                have b2 : ¬ (m : Int) < (e : Int) := by omega
                obtain ⟨d1, hd1e⟩ : ∃ u, u = dk := ⟨_, rfl⟩
                have K1 := Lib.hid (show PermIn a b dk d1 ∧ SortedIn (ltOf cmpEv) a j d1 ∧ SortedIn (ltOf cmpEv) j mid d1 ∧ SortedIn (ltOf cmpEv) mid e d1 ∧ SortedIn (ltOf cmpEv) e b d1 ∧ ∀ x y, a ≤ x → x < mid → mid ≤ y → y < b → ltOf cmpEv d1[y]! d1[x]! = false from by rw [hd1e]; exact ⟨permIn_refl dk a b, sym_parts SD.out.1 SD.out.2 F.out ⟨ham, hmb⟩ ⟨hi0, hjm, hjmid, hme, heb⟩ I2.out (by rw [show e - m = 0 by omega]; exact RotOf.none_right dk j (m - j))⟩)
                have hd1 : d1.size = N := by rw [hd1e]; exact hdk
                have SA := Lib.hid (show SWK evEnc 3 w0 blk 0 d1 wA from by rw [hd1e]; exact S1.out)
                clear hd1e
                have f1 : (a : Int) < (j : Int) := by omega
                have f2 : ¬ (j : Int) < (mid : Int) := by omega
                obtain ⟨d2, hd2⟩ : ∃ u, u = d1 := ⟨_, rfl⟩
                rw [← hd2] at SA
                have SB := SA
                have K2 := Lib.hid (show PermIn a mid d1 d2 ∧ SortedIn (ltOf cmpEv) a mid d2 from by rw [hd2]; exact ⟨permIn_refl d1 a mid, by have h1 := F.out; have h2 := K1.out.2.1; rwa [show j = mid by omega] at h2⟩)
                clear hd2
                have g1 : (mid : Int) < (e : Int) := by have h1 := F.out; omega
                have g2 : (e : Int) < (b : Int) := by have h1 := F.out; omega
                go_wp2_with fail
                refine (ih mid e b d2 _ (by have h1 := F.out; omega) (by rw [K2.out.1.1]; exact hd1) SB.out (by omega) (by omega) hb (sorted_perm_out K2.out.1 K1.out.2.2.2.1 (.inr (Nat.le_refl _))) (sorted_perm_out K2.out.1 K1.out.2.2.2.2.1 (.inr (by omega)))).mono ?_
                rintro e4 w4 ⟨rfl, d3, P3, T3, S4⟩
                go_wp2_with fail
                first | go_end0 | refine bodyPost_ret (results_none rfl _ _ _) rfl ?_
                have E := merge_end (lt := ltOf cmpEv) (by omega) (by have h1 := F.out; omega) (by have h1 := F.out; omega) K1.out.1 K1.out.2.2.2.2.2 K2.out.1 K2.out.2 P3 T3
                exact ⟨rfl, d3, E.1, E.2, S4⟩
              · have b1 : (j : Int) < (m : Int) := by omega
                have b2 : (m : Int) < (e : Int) := by omega
                go_wp2_with fail
                refine (rotate_ev gq blk cap j m e N d0 dk w0 _ R hd0 hdk S1.out (by omega) (by omega) (by omega) hsz).mono ?_
                rintro e2 w2 ⟨rfl, d1, W1, Q1, S2⟩
                have K1 := Lib.hid (show PermIn a b dk d1 ∧ SortedIn (ltOf cmpEv) a j d1 ∧ SortedIn (ltOf cmpEv) j mid d1 ∧ SortedIn (ltOf cmpEv) mid e d1 ∧ SortedIn (ltOf cmpEv) e b d1 ∧ ∀ x y, a ≤ x → x < mid → mid ≤ y → y < b → ltOf cmpEv d1[y]! d1[x]! = false from ⟨permIn_mono _ _ _ _ _ _ hi0 heb (by omega) Q1, sym_parts SD.out.1 SD.out.2 F.out ⟨ham, hmb⟩ ⟨hi0, hjm, hjmid, hme, heb⟩ I2.out W1⟩)
                have hd1 : d1.size = N := by rw [W1.1]; exact hdk
                have SA := Lib.hid S2
                clear Q1 W1 S2
                by_cases hD : a < j
                · by_cases hE : e < b
                  · have f1 : (a : Int) < (j : Int) := by omega
                    have f2 : (j : Int) < (mid : Int) := by omega
                    go_wp2_with fail
                    refine (ih a j mid d1 _ (by have h1 := F.out; omega) hd1 SA.out (by omega) (by omega) (by have h1 := F.out; omega) K1.out.2.1 K1.out.2.2.1).mono ?_
                    rintro e3 w3 ⟨rfl, d2, P2, T2, S3⟩
                    have K2 := Lib.hid (show PermIn a mid d1 d2 ∧ SortedIn (ltOf cmpEv) a mid d2 from ⟨P2, T2⟩)
                    have SB := Lib.hid S3
                    clear P2 T2 S3
                    have g1 : (mid : Int) < (e : Int) := by have h1 := F.out; omega
                    have g2 : (e : Int) < (b : Int) := by have h1 := F.out; omega
                    go_wp2_with fail
                    refine (ih mid e b d2 _ (by have h1 := F.out; omega) (by rw [K2.out.1.1]; exact hd1) SB.out (by omega) (by omega) hb (sorted_perm_out K2.out.1 K1.out.2.2.2.1 (.inr (Nat.le_refl _))) (sorted_perm_out K2.out.1 K1.out.2.2.2.2.1 (.inr (by omega)))).mono ?_
                    rintro e4 w4 ⟨rfl, d3, P3, T3, S4⟩
                    go_wp2_with fail
                    first | go_end0 | refine bodyPost_ret (results_none rfl _ _ _) rfl ?_
                    have E := merge_end (lt := ltOf cmpEv) (by omega) (by have h1 := F.out; omega) (by have h1 := F.out; omega) K1.out.1 K1.out.2.2.2.2.2 K2.out.1 K2.out.2 P3 T3
                    exact ⟨rfl, d3, E.1, E.2, S4⟩
                  · have f1 : (a : Int) < (j : Int) := by omega
                    have f2 : (j : Int) < (mid : Int) := by omega
                    go_wp2_with fail
                    refine (ih a j mid d1 _ (by have h1 := F.out; omega) hd1 SA.out (by omega) (by omega) (by have h1 := F.out; omega) K1.out.2.1 K1.out.2.2.1).mono ?_
                    rintro e3 w3 ⟨rfl, d2, P2, T2, S3⟩
                    have K2 := Lib.hid (show PermIn a mid d1 d2 ∧ SortedIn (ltOf cmpEv) a mid d2 from ⟨P2, T2⟩)
                    have SB := Lib.hid S3
                    clear P2 T2 S3
                    have g1 : (mid : Int) < (e : Int) := by have h1 := F.out; omega
                    have g2 : ¬ (e : Int) < (b : Int) := by have h1 := F.out; omega
                    go_wp2_with fail
                    first | go_end0 | refine bodyPost_ret (results_none rfl _ _ _) rfl ?_
                    have E := merge_end (lt := ltOf cmpEv) (by omega) (by have h1 := F.out; omega) (by have h1 := F.out; omega) K1.out.1 K1.out.2.2.2.2.2 K2.out.1 K2.out.2 (permIn_refl d2 mid b) (sorted_perm_out K2.out.1 (by have h1 := F.out; have h2 := K1.out.2.2.2.1; rwa [show e = b by omega] at h2) (.inr (Nat.le_refl _)))
                    exact ⟨rfl, d2, E.1, E.2, SB.out⟩
                · by_cases hE : e < b
                  · have f1 : ¬ (a : Int) < (j : Int) := by omega
                    have K2 := Lib.hid (show PermIn a mid d1 d1 ∧ SortedIn (ltOf cmpEv) a mid d1 from ⟨permIn_refl d1 a mid, by have h2 := K1.out.2.2.1; rwa [show j = a by omega] at h2⟩)
                    obtain ⟨d2, hd2⟩ : ∃ u, u = d1 := ⟨_, rfl⟩
                    rw [← hd2] at SA
                    have SB := SA
                    have K2 := Lib.hid (show PermIn a mid d1 d2 ∧ SortedIn (ltOf cmpEv) a mid d2 from by rw [hd2]; exact K2.out)
                    clear hd2
                    have g1 : (mid : Int) < (e : Int) := by have h1 := F.out; omega
                    have g2 : (e : Int) < (b : Int) := by have h1 := F.out; omega
                    go_wp2_with fail
                    refine (ih mid e b d2 _ (by have h1 := F.out; omega) (by rw [K2.out.1.1]; exact hd1) SB.out (by omega) (by omega) hb (sorted_perm_out K2.out.1 K1.out.2.2.2.1 (.inr (Nat.le_refl _))) (sorted_perm_out K2.out.1 K1.out.2.2.2.2.1 (.inr (by omega)))).mono ?_
                    rintro e4 w4 ⟨rfl, d3, P3, T3, S4⟩
                    go_wp2_with fail
                    first | go_end0 | refine bodyPost_ret (results_none rfl _ _ _) rfl ?_
                    have E := merge_end (lt := ltOf cmpEv) (by omega) (by have h1 := F.out; omega) (by have h1 := F.out; omega) K1.out.1 K1.out.2.2.2.2.2 K2.out.1 K2.out.2 P3 T3
                    exact ⟨rfl, d3, E.1, E.2, S4⟩
                  · have f1 : ¬ (a : Int) < (j : Int) := by omega
                    have K2 := Lib.hid (show PermIn a mid d1 d1 ∧ SortedIn (ltOf cmpEv) a mid d1 from ⟨permIn_refl d1 a mid, by have h2 := K1.out.2.2.1; rwa [show j = a by omega] at h2⟩)
                    obtain ⟨d2, hd2⟩ : ∃ u, u = d1 := ⟨_, rfl⟩
                    rw [← hd2] at SA
                    have SB := SA
                    have K2 := Lib.hid (show PermIn a mid d1 d2 ∧ SortedIn (ltOf cmpEv) a mid d2 from by rw [hd2]; exact K2.out)
                    clear hd2
                    have g1 : (mid : Int) < (e : Int) := by have h1 := F.out; omega
                    have g2 : ¬ (e : Int) < (b : Int) := by have h1 := F.out; omega
                    go_wp2_with fail
                    first | go_end0 | refine bodyPost_ret (results_none rfl _ _ _) rfl ?_
                    have E := merge_end (lt := ltOf cmpEv) (by omega) (by have h1 := F.out; omega) (by have h1 := F.out; omega) K1.out.1 K1.out.2.2.2.2.2 K2.out.1 K2.out.2 (permIn_refl d2 mid b) (sorted_perm_out K2.out.1 (by have h1 := F.out; have h2 := K1.out.2.2.2.1; rwa [show e = b by omega] at h2) (.inr (Nat.le_refl _)))
                    exact ⟨rfl, d2, E.1, E.2, SB.out⟩
        · have hz : ¬ (mid : Int) < (m : Int) := by omega
          have F0 := Lib.hid (show mid = (a + b) / 2 ∧ nn = mid + m ∧ p = nn - 1 ∧ ¬ m = a + 1 ∧ ¬ m + 1 = b from ⟨hmid, hnn, hp, hm1, hm2⟩)
          clear hmid hnn hp
          go_wp2_with fail
          go_loopg [20, 21] (m - a) (fun gk vi vj wr => ∃ (i j : Nat), gk = j - i ∧ vi = .int .i64 i ∧ vj = .int .i64 j ∧ a ≤ i ∧ i ≤ j ∧ j ≤ m ∧ Hid ((i = a ∨ ltOf cmpEv dk[p - (i - 1)]! dk[i - 1]! = false) ∧ (j = m ∨ ltOf cmpEv dk[p - j]! dk[j]! = true)) ∧ Hid (SWK evEnc 3 w0 blk 0 dk wr))
          case atStart => exact ⟨a, m, rfl, rfl, rfl, Nat.le_refl _, by omega, Nat.le_refl _, ⟨.inl rfl, .inl rfl⟩, S0⟩
          case round =>
            obtain ⟨i, j, rfl, rfl, rfl, hi, hij, hj, I1, S1⟩ := hrel
            clear S0
            by_cases hlt0 : i < j
            · have hltz : (i : Int) < (j : Int) := by omega
              obtain ⟨h, hh⟩ : ∃ h, h = (i + j) / 2 := ⟨_, rfl⟩
              have eh : ((i : Int) + (j : Int)) / 2 = (h : Int) := by omega
              have hh1 : i ≤ h := by omega
              have hh2 : h < j := by omega
              have HH := Lib.hid hh
              clear hh
              obtain ⟨q, hq⟩ : ∃ q, q = p - h := ⟨_, rfl⟩
              have hqN : q < N := by have h1 := F0.out; omega
              have eq1 : (p : Int) - (h : Int) = (q : Int) := by have h1 := F0.out; omega
              have hQ := Lib.hid hq
              clear hq
              obtain ⟨f1, s1, i1, f2, s2, i2, c, hc, c1, c2, c3, c4, c5, c6, hcm⟩ := swk_test gq blk N d0 dk w0 wr R HC.out hd0 hdk S1.out q h (by omega) (by omega)
              have hX := Lib.hid hc
              clear hc
              have bx : (q : Int) < (N : Int) := by omega
              have byy : (h : Int) < (N : Int) := by omega
              have px : (0 : Int) ≤ (q : Int) := by omega
              have py : (0 : Int) ≤ (h : Int) := by omega
              have rx : IntKind.i64.wrap (q : Int) = (q : Int) := by rw [IntKind.wrap_i64]; omega
              have ry : IntKind.i64.wrap (h : Int) = (h : Int) := by rw [IntKind.wrap_i64]; omega
              by_cases hlt : c < 0
              · have hd : decide (c < 0) = true := decide_eq_true hlt
                have HL := Lib.hid (hX.out.1 hlt)
                clear hlt hX
                go_wp2_with fail
                go_quiet_grown (first | (go_at_fn gq; refine Calls.grown_of (hcm _ _)))
                have S2 := Lib.hid (S1.out.grown nq osq)
                clear c1 c2 c3 c4 c5 c6 hcm S1
                generalize grow (wr.drewN nq) osq = w2 at S2 ⊢
                clear nq osq
                go_wp2_with fail
                go_roundg (h - i)
                case measure => have := HH.out; omega
                case rel => exact ⟨i, h, rfl, rfl, rfl, hi, by omega, by omega, ⟨I1.out.1, .inr (by have h2 := HL.out; rw [hQ.out] at h2; exact h2)⟩, S2⟩
              · have hd : decide (c < 0) = false := decide_eq_false hlt
                have HL := Lib.hid (hX.out.2 hlt)
                clear hlt hX
                go_wp2_with fail
                go_quiet_grown (first | (go_at_fn gq; refine Calls.grown_of (hcm _ _)))
                have S2 := Lib.hid (S1.out.grown nq osq)
                clear c1 c2 c3 c4 c5 c6 hcm S1
                generalize grow (wr.drewN nq) osq = w2 at S2 ⊢
                clear nq osq
                go_wp2_with fail
                go_roundg (j - (h + 1))
                case measure => have := HH.out; omega
                case rel => exact ⟨h + 1, j, rfl, by simp, rfl, by omega, by omega, hj, ⟨.inr (by have h2 := HL.out; rw [hQ.out] at h2; simpa using h2), I1.out.2⟩, S2⟩
            · have hltz : ¬ (i : Int) < (j : Int) := by omega
              have hje : j = i := by omega
              subst hje
              obtain ⟨wA, hwA⟩ : ∃ u, u = wr := ⟨_, rfl⟩
              subst hwA
              obtain ⟨e, he⟩ : ∃ e, e = nn - j := ⟨_, rfl⟩
              have ee : (nn : Int) - (j : Int) = (e : Int) := by have h1 := F0.out; omega
              have F := Lib.hid (show mid = (a + b) / 2 ∧ nn = mid + m ∧ p = nn - 1 ∧ e = nn - j from by have h1 := F0.out; omega)
              have hi0 : a ≤ j := by have h1 := F0.out; omega
              have hme : m ≤ e := by have h1 := F0.out; omega
              have heb : e ≤ b := by have h1 := F0.out; omega
              have hjm : j ≤ m := by have h1 := F0.out; omega
              have hjmid : j ≤ mid := by have h1 := F0.out; omega
              have I2 := Lib.hid (show ((j = a ∨ e = b) ∨ ltOf cmpEv dk[p - (j - 1)]! dk[j - 1]! = false) ∧ ((j = m ∨ j = mid) ∨ ltOf cmpEv dk[p - j]! dk[j]! = true) from
                ⟨I1.out.1.elim (fun h => .inl (by have h1 := F0.out; omega)) .inr, I1.out.2.elim (fun h => .inl (by have h1 := F0.out; omega)) .inr⟩)
              clear he F0 I1
              by_cases hA : j = m
              · have hA1 := Nat.le_of_eq hA
                have hA2 := Nat.le_of_eq hA.symm
                clear hA
                have hem : e = mid := by have h1 := F.out; omega
                have HEM := Lib.hid hem
                clear hem
                have b1 : ¬ (j : Int) < (m : Int) := by omega
                obtain ⟨d1, hd1e⟩ : ∃ u, u = dk := ⟨_, rfl⟩
                have K1 := Lib.hid (show PermIn a b dk d1 ∧ SortedIn (ltOf cmpEv) a j d1 ∧ SortedIn (ltOf cmpEv) j mid d1 ∧ SortedIn (ltOf cmpEv) mid e d1 ∧ SortedIn (ltOf cmpEv) e b d1 ∧ ∀ x y, a ≤ x → x < mid → mid ≤ y → y < b → ltOf cmpEv d1[y]! d1[x]! = false from by rw [hd1e]; exact ⟨permIn_refl dk a b, sym_parts SD.out.1 SD.out.2 F.out ⟨ham, hmb⟩ ⟨hi0, hjm, hjmid, hme, heb⟩ I2.out (by rw [show m - j = 0 by omega]; exact RotOf.none_left dk j (e - m))⟩)
                have hd1 : d1.size = N := by rw [hd1e]; exact hdk
                have SA := Lib.hid (show SWK evEnc 3 w0 blk 0 d1 wA from by rw [hd1e]; exact S1.out)
                clear hd1e
                by_cases hB : j < mid
                · have f1 : (a : Int) < (j : Int) := by omega
                  have f2 : (j : Int) < (mid : Int) := by omega
                  go_wp2_with fail
                  refine (ih a j mid d1 _ (by have h1 := F.out; omega) hd1 SA.out (by omega) (by omega) (by have h1 := F.out; omega) K1.out.2.1 K1.out.2.2.1).mono ?_
                  rintro e3 w3 ⟨rfl, d2, P2, T2, S3⟩
                  have K2 := Lib.hid (show PermIn a mid d1 d2 ∧ SortedIn (ltOf cmpEv) a mid d2 from ⟨P2, T2⟩)
                  have SB := Lib.hid S3
                  clear P2 T2 S3
                  have g1 : ¬ (mid : Int) < (e : Int) := by have h1 := F.out; have := HEM.out; omega
                  go_wp2_with fail
                  first | go_end0 | refine bodyPost_ret (results_none rfl _ _ _) rfl ?_
                  have E := merge_end (lt := ltOf cmpEv) (by omega) (by have h1 := F.out; have := HEM.out; omega) (by have h1 := F.out; have := HEM.out; omega) K1.out.1 K1.out.2.2.2.2.2 K2.out.1 K2.out.2 (permIn_refl d2 mid b) (sorted_perm_out K2.out.1 (by have h1 := F.out; have h2 := K1.out.2.2.2.2.1; rwa [show e = mid by omega] at h2) (.inr (Nat.le_refl _)))
                  exact ⟨rfl, d2, E.1, E.2, SB.out⟩
                · have f1 : (a : Int) < (j : Int) := by omega
                  have f2 : ¬ (j : Int) < (mid : Int) := by omega
                  obtain ⟨d2, hd2⟩ : ∃ u, u = d1 := ⟨_, rfl⟩
                  rw [← hd2] at SA
                  have SB := SA
                  have K2 := Lib.hid (show PermIn a mid d1 d2 ∧ SortedIn (ltOf cmpEv) a mid d2 from by rw [hd2]; exact ⟨permIn_refl d1 a mid, by have h1 := F.out; have h2 := K1.out.2.1; rwa [show j = mid by omega] at h2⟩)
                  clear hd2
                  have g1 : ¬ (mid : Int) < (e : Int) := by have h1 := F.out; omega
                  go_wp2_with fail
                  first | go_end0 | refine bodyPost_ret (results_none rfl _ _ _) rfl ?_
                  have E := merge_end (lt := ltOf cmpEv) (by omega) (by have h1 := F.out; omega) (by have h1 := F.out; omega) K1.out.1 K1.out.2.2.2.2.2 K2.out.1 K2.out.2 (permIn_refl d2 mid b) (sorted_perm_out K2.out.1 (by have h1 := F.out; have h2 := K1.out.2.2.2.2.1; rwa [show e = mid by omega] at h2) (.inr (Nat.le_refl _)))
                  exact ⟨rfl, d2, E.1, E.2, SB.out⟩
              · have b1 : (j : Int) < (m : Int) := by omega
                have b2 : (m : Int) < (e : Int) := by omega
                go_wp2_with fail
                refine (rotate_ev gq blk cap j m e N d0 dk w0 _ R hd0 hdk S1.out (by omega) (by omega) (by omega) hsz).mono ?_
                rintro e2 w2 ⟨rfl, d1, W1, Q1, S2⟩
                have K1 := Lib.hid (show PermIn a b dk d1 ∧ SortedIn (ltOf cmpEv) a j d1 ∧ SortedIn (ltOf cmpEv) j mid d1 ∧ SortedIn (ltOf cmpEv) mid e d1 ∧ SortedIn (ltOf cmpEv) e b d1 ∧ ∀ x y, a ≤ x → x < mid → mid ≤ y → y < b → ltOf cmpEv d1[y]! d1[x]! = false from ⟨permIn_mono _ _ _ _ _ _ hi0 heb (by omega) Q1, sym_parts SD.out.1 SD.out.2 F.out ⟨ham, hmb⟩ ⟨hi0, hjm, hjmid, hme, heb⟩ I2.out W1⟩)
                have hd1 : d1.size = N := by rw [W1.1]; exact hdk
                have SA := Lib.hid S2
                clear Q1 W1 S2
                by_cases hD : a < j
                · by_cases hE : e < b
                  · have f1 : (a : Int) < (j : Int) := by omega
                    have f2 : (j : Int) < (mid : Int) := by omega
                    go_wp2_with fail
                    refine (ih a j mid d1 _ (by have h1 := F.out; omega) hd1 SA.out (by omega) (by omega) (by have h1 := F.out; omega) K1.out.2.1 K1.out.2.2.1).mono ?_
                    rintro e3 w3 ⟨rfl, d2, P2, T2, S3⟩
                    have K2 := Lib.hid (show PermIn a mid d1 d2 ∧ SortedIn (ltOf cmpEv) a mid d2 from ⟨P2, T2⟩)
                    have SB := Lib.hid S3
                    clear P2 T2 S3
                    have g1 : (mid : Int) < (e : Int) := by have h1 := F.out; omega
                    have g2 : (e : Int) < (b : Int) := by have h1 := F.out; omega
                    go_wp2_with fail
                    refine (ih mid e b d2 _ (by have h1 := F.out; omega) (by rw [K2.out.1.1]; exact hd1) SB.out (by omega) (by omega) hb (sorted_perm_out K2.out.1 K1.out.2.2.2.1 (.inr (Nat.le_refl _))) (sorted_perm_out K2.out.1 K1.out.2.2.2.2.1 (.inr (by omega)))).mono ?_
                    rintro e4 w4 ⟨rfl, d3, P3, T3, S4⟩
                    go_wp2_with fail
                    first | go_end0 | refine bodyPost_ret (results_none rfl _ _ _) rfl ?_
                    have E := merge_end (lt := ltOf cmpEv) (by omega) (by have h1 := F.out; omega) (by have h1 := F.out; omega) K1.out.1 K1.out.2.2.2.2.2 K2.out.1 K2.out.2 P3 T3
                    exact ⟨rfl, d3, E.1, E.2, S4⟩
                  · have f1 : (a : Int) < (j : Int) := by omega
                    have f2 : (j : Int) < (mid : Int) := by omega
                    go_wp2_with fail
                    refine (ih a j mid d1 _ (by have h1 := F.out; omega) hd1 SA.out (by omega) (by omega) (by have h1 := F.out; omega) K1.out.2.1 K1.out.2.2.1).mono ?_
                    rintro e3 w3 ⟨rfl, d2, P2, T2, S3⟩
                    have K2 := Lib.hid (show PermIn a mid d1 d2 ∧ SortedIn (ltOf cmpEv) a mid d2 from ⟨P2, T2⟩)
                    have SB := Lib.hid S3
                    clear P2 T2 S3
                    have g1 : (mid : Int) < (e : Int) := by have h1 := F.out; omega
                    have g2 : ¬ (e : Int) < (b : Int) := by have h1 := F.out; omega
                    go_wp2_with fail
                    first | go_end0 | refine bodyPost_ret (results_none rfl _ _ _) rfl ?_
                    have E := merge_end (lt := ltOf cmpEv) (by omega) (by have h1 := F.out; omega) (by have h1 := F.out; omega) K1.out.1 K1.out.2.2.2.2.2 K2.out.1 K2.out.2 (permIn_refl d2 mid b) (sorted_perm_out K2.out.1 (by have h1 := F.out; have h2 := K1.out.2.2.2.1; rwa [show e = b by omega] at h2) (.inr (Nat.le_refl _)))
                    exact ⟨rfl, d2, E.1, E.2, SB.out⟩
                · by_cases hE : e < b
                  · have f1 : ¬ (a : Int) < (j : Int) := by omega
                    have K2 := Lib.hid (show PermIn a mid d1 d1 ∧ SortedIn (ltOf cmpEv) a mid d1 from ⟨permIn_refl d1 a mid, by have h2 := K1.out.2.2.1; rwa [show j = a by omega] at h2⟩)
                    obtain ⟨d2, hd2⟩ : ∃ u, u = d1 := ⟨_, rfl⟩
                    rw [← hd2] at SA
                    have SB := SA
                    have K2 := Lib.hid (show PermIn a mid d1 d2 ∧ SortedIn (ltOf cmpEv) a mid d2 from by rw [hd2]; exact K2.out)
                    clear hd2
                    have g1 : (mid : Int) < (e : Int) := by have h1 := F.out; omega
                    have g2 : (e : Int) < (b : Int) := by have h1 := F.out; omega
                    go_wp2_with fail
                    refine (ih mid e b d2 _ (by have h1 := F.out; omega) (by rw [K2.out.1.1]; exact hd1) SB.out (by omega) (by omega) hb (sorted_perm_out K2.out.1 K1.out.2.2.2.1 (.inr (Nat.le_refl _))) (sorted_perm_out K2.out.1 K1.out.2.2.2.2.1 (.inr (by omega)))).mono ?_
                    rintro e4 w4 ⟨rfl, d3, P3, T3, S4⟩
                    go_wp2_with fail
                    first | go_end0 | refine bodyPost_ret (results_none rfl _ _ _) rfl ?_
                    have E := merge_end (lt := ltOf cmpEv) (by omega) (by have h1 := F.out; omega) (by have h1 := F.out; omega) K1.out.1 K1.out.2.2.2.2.2 K2.out.1 K2.out.2 P3 T3
                    exact ⟨rfl, d3, E.1, E.2, S4⟩
                  · have f1 : ¬ (a : Int) < (j : Int) := by omega
                    have K2 := Lib.hid (show PermIn a mid d1 d1 ∧ SortedIn (ltOf cmpEv) a mid d1 from ⟨permIn_refl d1 a mid, by have h2 := K1.out.2.2.1; rwa [show j = a by omega] at h2⟩)
                    obtain ⟨d2, hd2⟩ : ∃ u, u = d1 := ⟨_, rfl⟩
                    rw [← hd2] at SA
                    have SB := SA
                    have K2 := Lib.hid (show PermIn a mid d1 d2 ∧ SortedIn (ltOf cmpEv) a mid d2 from by rw [hd2]; exact K2.out)
                    clear hd2
                    have g1 : (mid : Int) < (e : Int) := by have h1 := F.out; omega
                    have g2 : ¬ (e : Int) < (b : Int) := by have h1 := F.out; omega
                    go_wp2_with fail
                    first | go_end0 | refine bodyPost_ret (results_none rfl _ _ _) rfl ?_
                    have E := merge_end (lt := ltOf cmpEv) (by omega) (by have h1 := F.out; omega) (by have h1 := F.out; omega) K1.out.1 K1.out.2.2.2.2.2 K2.out.1 K2.out.2 (permIn_refl d2 mid b) (sorted_perm_out K2.out.1 (by have h1 := F.out; have h2 := K1.out.2.2.2.1; rwa [show e = b by omega] at h2) (.inr (Nat.le_refl _)))
                    exact ⟨rfl, d2, E.1, E.2, SB.out⟩

end Go.Proofs.YtdgpbpbjlnlijaaGreat
