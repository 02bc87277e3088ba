/- StabD, StabE, joined -/
import Derived.Test.YtdgpbpbjlnlijaaGreatStabC
import Derived.Shelf.SlSortCmp.NoneTotal
import Derived.Test.YtdgpbpbjlnlijaaGreatPairA
import Derived.Test.YtdgpbpbjlnlijaaGreatChg

/- slices.stableCmpFunc, slices.SortStableFunc at the starts -/
namespace Go.Proofs.YtdgpbpbjlnlijaaGreat
open Go.RowKit Go.Shelf Go.Sort

/-- the blocks of s from 0 on that lie in lo .. hi are sorted -/
def Bk (s lo hi : Nat) (d : Array Ev) : Prop := ∀ i j, lo ≤ i → i < j → j < hi → i / s = j / s → ltOf cmpEv d[j]! d[i]! = false
theorem bk_ins {a b : Nat} {d d' : Array Ev} (ha : a % 20 = 0) (h : Bk 20 0 a d) (p : PermIn a b d d') (s : SortedIn (ltOf cmpEv) a b d') : Bk 20 0 b d' := by
  intro i j hi hij hj e
  by_cases hja : j < a
  · rw [p.2.1 i (.inl (by omega)), p.2.1 j (.inl hja)]; exact h i j hi hij hja e
  · exact s i j (by omega) hij hj
theorem bk_left {s a m N : Nat} {d : Array Ev} (hs : s = 20 ∨ s = 40) (ha : a % (2 * s) = 0) (h : Bk s a N d) (hm : m = a + s) (hmN : m ≤ N) : SortedIn (ltOf cmpEv) a m d := by
  intro i j hi hij hj
  refine h i j hi hij (by omega) ?_
  rcases hs with rfl | rfl <;> omega
theorem bk_right {s a m b N : Nat} {d : Array Ev} (hs : s = 20 ∨ s = 40) (ha : a % (2 * s) = 0) (h : Bk s a N d) (hm : m = a + s) (hb : b ≤ a + 2 * s) (hbN : b ≤ N) : SortedIn (ltOf cmpEv) m b d := by
  intro i j hi hij hj
  refine h i j (by omega) hij (by omega) ?_
  rcases hs with rfl | rfl <;> omega
theorem bk_step {s a b : Nat} {d d' : Array Ev} (hs : s = 20 ∨ s = 40) (ha : a % (2 * s) = 0) (h : Bk (2 * s) 0 a d) (p : PermIn a b d d') (hd : SortedIn (ltOf cmpEv) a b d') : Bk (2 * s) 0 b d' := by
  intro i j hi hij hj e
  by_cases hja : j < a
  · rw [p.2.1 i (.inl (by omega)), p.2.1 j (.inl hja)]; exact h i j hi hij hja e
  · refine hd i j ?_ hij hj
    rcases hs with rfl | rfl <;> omega
theorem bk_rest {s a b N : Nat} {d d' : Array Ev} (hab : a ≤ b) (h : Bk s a N d) (p : PermIn a b d d') : Bk s b N d' := by
  intro i j hi hij hj e
  rw [p.2.1 i (.inr hi), p.2.1 j (.inr (by omega))]
  exact h i j (by omega) hij hj e
theorem bk_stay {s a N : Nat} {d : Array Ev} (hs : s = 20 ∨ s = 40) (ha : a % (2 * s) = 0) (h : Bk (2 * s) 0 a d) (k : Bk s a N d) (hN : N ≤ a + s) : Bk (2 * s) 0 N d := by
  intro i j hi hij hj e
  by_cases hja : j < a
  · exact h i j hi hij hja e
  · refine k i j ?_ hij hj ?_
    · rcases hs with rfl | rfl <;> omega
    · rcases hs with rfl | rfl <;> omega
theorem bk_all {s N : Nat} {d : Array Ev} (h : Bk s 0 N d) (hN : N ≤ s) : SortedIn (ltOf cmpEv) 0 N d := fun i j hi hij hj =>
  h i j hi hij hj (by rw [Nat.div_eq_of_lt (by omega), Nat.div_eq_of_lt (by omega)])
theorem bk_zero (s : Nat) (d : Array Ev) : Bk s 0 0 d := fun i j _ _ hj => by omega

theorem ins_ev (gq blk cap N a b : Nat) (d0 d : Array Ev) (w0 w : World) (eg : ∀ args w, (callFunc gq args).run Tryz.prog w = .ok (.enter gq args) w) (R : RowK evEnc 3 w0 blk 0 d0) (hd0 : d0.size = N) (hd : d.size = N) (hC : CmpLays Tryz.prog gq #[] evEnc 3 cmpEv blk 0 N w0) (hsz : N ≤ 1048576) (S : SWK evEnc 3 w0 blk 0 d w) (hab : a ≤ b) (hb : b ≤ N) :
    Calls Tryz.prog 44 #[.slice (some ⟨blk, 0, none⟩) N cap, .int .i64 a, .int .i64 b, .func (.func gq) #[] #[]] w fun e w' => e = .returned (.tuple #[]) ∧ ∃ d', PermIn a b d d' ∧ SortedIn (ltOf cmpEv) a b d' ∧ SWK evEnc 3 w0 blk 0 d' w' := by
  have h := AnyQ.insertionSortCmpFunc_w Tryz.insEv 3 ev_agg ev_size evEnc cmpEv gq #[] blk 0 cap a b d0 d w0 w eg (by rw [hd0]; exact hC) R (by omega) S swo_ev hab (by omega) (by omega)
  rw [hd] at h
  refine h.mono ?_
  rintro e w' ⟨rfl, h1⟩
  have h2 := insertionSort_holds swo_ev d a b hab (by omega)
  exact ⟨rfl, _, h2.1, h2.2, h1⟩

set_option maxRecDepth 100000 in
set_option maxHeartbeats 4000000 in
theorem stable_ev (gq blk cap N : Nat) (d : Array Ev) (w0 : World) (eg : ∀ args w, (callFunc gq args).run Tryz.prog w = .ok (.enter gq args) w) (R : RowK evEnc 3 w0 blk 0 d) (hd0 : d.size = N) (hC : CmpLays Tryz.prog gq #[] evEnc 3 cmpEv blk 0 N w0) (hsz : N ≤ 50) :
    Calls Tryz.prog 30 #[.slice (some ⟨blk, 0, none⟩) N cap, .int .i64 N, .func (.func gq) #[] #[]] w0 fun e w' => e = .returned (.tuple #[]) ∧ ∃ d', PermIn 0 N d d' ∧ SortedIn (ltOf cmpEv) 0 N d' ∧ SWK evEnc 3 w0 blk 0 d' w' := by
  have HC := Lib.hid hC
  have S0 := Lib.hid (SWK.start R.hH)
  have P0 := Lib.hid (permIn_refl d 0 N)
  have B0 := Lib.hid (bk_zero 20 d)
  clear hC
  go_enter Tryz.func30, Tryz.ntmps30
  go_wp2_with fail
  go_loopg [7, 8] N (fun gk va vb wr => ∃ (a b : Nat) (dk : Array Ev), gk = N - a ∧ va = .int .i64 a ∧ vb = .int .i64 b ∧ Hid (b = a + 20 ∧ a % 20 = 0) ∧ a ≤ N ∧ dk.size = N ∧ Hid (Bk 20 0 a dk) ∧ Hid (PermIn 0 N d dk) ∧ Hid (SWK evEnc 3 w0 blk 0 dk wr))
  case atStart => exact ⟨0, 20, d, rfl, rfl, rfl, ⟨rfl, rfl⟩, by omega, hd0, B0, P0, S0⟩
  case round =>
    obtain ⟨a, b, dk, rfl, rfl, rfl, HB, haN, hdk, B1, P1, S1⟩ := hrel
    clear S0 P0 B0
    by_cases hbN : b ≤ N
    · have hbz : (b : Int) ≤ (N : Int) := by omega
      go_wp2_with fail
      refine (ins_ev gq blk cap N a b d dk w0 _ eg R hd0 hdk HC.out (by omega) S1.out (by have := HB.out; omega) hbN).mono ?_
      rintro e w1 ⟨rfl, d1, p1, s1, S2⟩
      obtain ⟨b2, hb2⟩ : ∃ u, u = b + 20 := ⟨_, rfl⟩
      have eb : (b : Int) + 20 = (b2 : Int) := by omega
      have HB2 := Lib.hid hb2
      clear hb2
      go_wp2_with fail
      go_roundg (N - b)
      case measure => have := HB.out; omega
      case rel => exact ⟨b, b2, d1, rfl, rfl, rfl, ⟨HB2.out, by have := HB.out; omega⟩, hbN, by rw [p1.1]; exact hdk, bk_ins HB.out.2 B1.out p1 s1, permIn_trans _ _ _ _ _ P1.out (permIn_mono _ _ _ _ _ _ (Nat.zero_le _) hbN (by omega) p1), S2⟩
    · have hbz : ¬ (b : Int) ≤ (N : Int) := by omega
      go_wp2_with fail
      refine (ins_ev gq blk cap N a N d dk w0 _ eg R hd0 hdk HC.out (by omega) S1.out haN (Nat.le_refl _)).mono ?_
      rintro e w1 ⟨rfl, d1, p1, s1, S2⟩
      have B2 := Lib.hid (bk_ins HB.out.2 B1.out p1 s1)
      have P2 := Lib.hid (permIn_trans _ _ _ _ _ P1.out (permIn_mono _ _ _ _ _ _ (Nat.zero_le _) (Nat.le_refl _) (by omega) p1))
      have S3 := Lib.hid S2
      have hd1 : d1.size = N := by rw [p1.1]; exact hdk
      clear B1 P1 S1 p1 s1 S2 HB hbN hbz haN hdk
      go_wp2_with fail
      go_loopg [6] 80 (fun gk vs wr => ∃ (s : Nat) (dk : Array Ev), gk = 100 - s ∧ vs = .int .i64 s ∧ Hid (s = 20 ∨ s = 40 ∨ s = 80) ∧ s ≤ 80 ∧ dk.size = N ∧ Hid (Bk s 0 N dk) ∧ Hid (PermIn 0 N d dk) ∧ Hid (SWK evEnc 3 w0 blk 0 dk wr))
      case atStart => exact ⟨20, d1, rfl, rfl, .inl rfl, by omega, hd1, B2, P2, S3⟩
      case round =>
        clear hd1 B2 P2 S3
        obtain ⟨s, dk, rfl, rfl, HS, hs80, hdk, B1, P1, S1⟩ := hrel
        by_cases hsN : s < N
        · have hsz2 : (s : Int) < (N : Int) := by omega
          obtain ⟨s2, hs2⟩ : ∃ u, u = 2 * s := ⟨_, rfl⟩
          have es : 2 * (s : Int) = (s2 : Int) := by omega
          have es' : (s : Int) * 2 = (s2 : Int) := by omega
          have hs160 : s2 ≤ 160 := by omega
          have HS2 := Lib.hid (show s2 = 2 * s ∧ (s = 20 ∨ s = 40) from ⟨hs2, by have := HS.out; omega⟩)
          clear hs2 HS
          have S2 := S1
          have P2 := P1
          have B2 := Lib.hid (bk_zero s2 dk)
          have B3 := B1
          clear S1 P1 B1
          go_wp2_with fail
          go_loopg [7, 8] N (fun gk va vb wr => ∃ (a b : Nat) (dk : Array Ev), gk = N - a ∧ va = .int .i64 a ∧ vb = .int .i64 b ∧ Hid (b = a + s2 ∧ a % s2 = 0) ∧ b ≤ a + 160 ∧ a ≤ N ∧ dk.size = N ∧ Hid (Bk s2 0 a dk) ∧ Hid (Bk s a N dk) ∧ Hid (PermIn 0 N d dk) ∧ Hid (SWK evEnc 3 w0 blk 0 dk wr))
          case atStart => exact ⟨0, s2, dk, rfl, rfl, rfl, ⟨by omega, Nat.zero_mod _⟩, by omega, by omega, hdk, B2, B3, P2, S2⟩
          case round =>
            clear hdk B2 B3 P2 S2
            obtain ⟨a, b, dk, rfl, rfl, rfl, HB, hb160, haN, hdk, B1, B2, P1, S1⟩ := hrel
            obtain ⟨m, hm⟩ : ∃ u, u = a + s := ⟨_, rfl⟩
            have em : (a : Int) + (s : Int) = (m : Int) := by omega
            have hm130 : m ≤ 130 := by omega
            have HM := Lib.hid hm
            clear hm
            by_cases hbN : b ≤ N
            · have hbz : (b : Int) ≤ (N : Int) := by omega
              obtain ⟨b2, hb2⟩ : ∃ u, u = b + s2 := ⟨_, rfl⟩
              have eb : (b : Int) + (s2 : Int) = (b2 : Int) := by omega
              have HB2 := Lib.hid hb2
              have hb4 : b2 ≤ 400 := by omega
              clear hb2
              go_wp2_with fail
              refine (symMerge_ev gq blk cap N d w0 eg R hd0 HC.out (by omega) (b - a + 1) a m b dk _ (by omega) hdk S1.out (by have := HM.out; have := HS2.out; omega) (by have := HM.out; have := HS2.out; have := HB.out; omega) hbN (bk_left HS2.out.2 (by rw [← HS2.out.1]; exact HB.out.2) B2.out HM.out (by have := HM.out; have := HS2.out; have := HB.out; omega)) (bk_right HS2.out.2 (by rw [← HS2.out.1]; exact HB.out.2) B2.out HM.out (by have := HS2.out; have := HB.out; omega) hbN)).mono ?_
              rintro e w1 ⟨rfl, d1, p1, s1, S2⟩
              go_wp2_with fail
              go_roundg (N - b)
              case measure => have := HB.out; have := HS2.out; omega
              case rel =>
                have q1 := HS2.out
                have q2 := HB.out
                refine ⟨b, b2, d1, rfl, rfl, rfl, ⟨HB2.out, by rw [q2.1, Nat.add_mod_right]; exact q2.2⟩, by have := HB2.out; omega, hbN, by rw [p1.1]; exact hdk, ?_, bk_rest (by omega) B2.out p1, permIn_trans _ _ _ _ _ P1.out (permIn_mono _ _ _ _ _ _ (Nat.zero_le _) hbN (by omega) p1), S2⟩
                have q3 := B1.out
                rw [q1.1] at q2 q3 ⊢
                exact bk_step q1.2 q2.2 q3 p1 s1
            · have hbz : ¬ (b : Int) ≤ (N : Int) := by omega
              by_cases hmN : m < N
              · have hmz : (m : Int) < (N : Int) := by omega
                go_wp2_with fail
                refine (symMerge_ev gq blk cap N d w0 eg R hd0 HC.out (by omega) (N - a + 1) a m N dk _ (by omega) hdk S1.out (by have := HM.out; have := HS2.out; omega) hmN (Nat.le_refl _) (bk_left HS2.out.2 (by rw [← HS2.out.1]; exact HB.out.2) B2.out HM.out (by omega)) (bk_right HS2.out.2 (by rw [← HS2.out.1]; exact HB.out.2) B2.out HM.out (by have := HS2.out; have := HB.out; omega) (Nat.le_refl _))).mono ?_
                rintro e w1 ⟨rfl, d1, p1, s1, S2⟩
                go_wp2_with fail
                go_roundg (100 - s2)
                case measure => have := HS2.out; omega
                case rel =>
                  have q1 := HS2.out
                  have q2 := HB.out
                  refine ⟨s2, d1, rfl, rfl, (by show s2 = 20 ∨ s2 = 40 ∨ s2 = 80; omega), by omega, by rw [p1.1]; exact hdk, ?_, permIn_trans _ _ _ _ _ P1.out (permIn_mono _ _ _ _ _ _ (Nat.zero_le _) (Nat.le_refl _) (by omega) p1), S2⟩
                  have q3 := B1.out
                  rw [q1.1] at q2 q3 ⊢
                  exact bk_step q1.2 q2.2 q3 p1 s1
              · have hmz : ¬ (m : Int) < (N : Int) := by omega
                go_wp2_with fail
                go_roundg (100 - s2)
                case measure => have := HS2.out; omega
                case rel =>
                  have q1 := HS2.out
                  have q2 := HB.out
                  refine ⟨s2, dk, rfl, rfl, (by show s2 = 20 ∨ s2 = 40 ∨ s2 = 80; omega), by omega, hdk, ?_, P1, S1⟩
                  have q3 := B1.out
                  have q4 := HM.out
                  rw [q1.1] at q2 q3 ⊢
                  exact bk_stay q1.2 q2.2 q3 B2.out (by omega)
        · have hsz2 : ¬ (s : Int) < (N : Int) := by omega
          go_wp2_with fail
          first | go_end0 | refine bodyPost_ret (results_none rfl _ _ _) rfl ?_
          exact ⟨rfl, dk, P1.out, bk_all B1.out (by omega), S1.out⟩

end Go.Proofs.YtdgpbpbjlnlijaaGreat

/- slices.SortStableFunc at the call's own row of starts -/
namespace Go.Proofs.YtdgpbpbjlnlijaaGreat
open Go.RowKit Go.Shelf Go.Sort

theorem cmpEv_enter : ∀ args w, (callFunc 13 args).run Tryz.prog w = .ok (.enter 13 args) w := fun args w => by kernel_rfl
theorem cmpEv_lays (blk N : Nat) (w : World) : CmpLays Tryz.prog 13 #[] evEnc 3 cmpEv blk 0 N w := by
  intro m os dk _ x y
  refine (cmpEv_any x y _).mono ?_
  rintro e w' ⟨rfl, h⟩
  obtain ⟨n, os', h⟩ := h.grown
  exact ⟨rfl, n, os', h⟩
set_option maxHeartbeats 1000000 in
theorem stable_none (p : Option Addr) (cap : Nat) (w : World) : Calls Tryz.prog 12 #[.slice p 0 cap, .func (.func 13) #[] #[]] w fun en w' => en = .returned (.tuple #[]) ∧ w' = w := by
  have h1 : Calls Tryz.prog 30 #[.slice p 0 cap, .int .i64 0, .func (.func 13) #[] #[]] w fun en w' => en = .returned (.tuple #[]) ∧ w' = w := by
    go_enter Tryz.func30, Tryz.ntmps30
    go_wp2_with fail
    go_loopg [7, 8] 0 (fun gk va vb wr => va = .int .i64 0 ∧ vb = .int .i64 20 ∧ wr = w)
    case atStart => exact ⟨rfl, rfl, rfl⟩
    case round =>
      obtain ⟨rfl, rfl, rfl⟩ := hrel
      go_wp2_with fail
      refine (AnyF.insertionSortCmpFunc_none Tryz.insEv p cap _ _).mono ?_
      rintro e w1 ⟨rfl, rfl⟩
      obtain ⟨wA, hwA⟩ : ∃ u, u = w1 := ⟨_, rfl⟩
      subst hwA
      go_wp2_with fail
      go_loopg [6] 0 (fun gk va wr => va = .int .i64 20 ∧ wr = wA)
      case atStart => exact ⟨rfl, rfl⟩
      case round =>
        obtain ⟨rfl, rfl⟩ := hrel
        go_wp2_with fail
        first | go_end0 | refine bodyPost_ret (results_none rfl _ _ _) rfl ?_
        exact ⟨rfl, rfl⟩
  go_enter Tryz.func12, Tryz.ntmps12
  go_wp2_with fail
  refine h1.mono ?_
  rintro e w1 ⟨rfl, rfl⟩
  go_wp2_with fail
  go_end0
  exact ⟨rfl, rfl⟩
set_option maxHeartbeats 1000000 in
theorem sortStable_ev (w : World) (S : Nat → Prop) (base : Nat) (e : TypeId) (v : Value) (xs : List Ev) (hown : OwnOf Rep.ev w S base e v xs) (hlen : xs.length ≤ 50) :
    Calls Tryz.prog 12 #[v, .func (.func 13) #[] #[]] w fun en w' => ∃ ys, en = .returned (.tuple #[]) ∧ ys.Perm xs ∧ (ys.Pairwise fun a b => a.from_ ≤ b.from_) ∧ OwnOf Rep.ev w' S base e v ys ∧ w.grownBy w' v.ownBlock := by
  by_cases hn : 0 < xs.length
  · obtain ⟨g, cap, cur, rfl, hb, hh, hc1, hc2, hsz, hH, hok⟩ := own_split ev_iff hown hn
    have hlt : g < w.heap.size := (Array.getElem?_eq_some_iff.1 hh).1
    obtain ⟨N, hN⟩ : ∃ N, N = xs.length := ⟨_, rfl⟩
    have R : RowK evEnc 3 w g 0 xs.toArray := ⟨ev_len, ev_one, hH, hlt⟩
    have h1 := stable_ev 13 g cap N xs.toArray w cmpEv_enter R (by simp [hN]) (cmpEv_lays g N w) (by omega)
    have hfin : ∀ d' w', PermIn 0 N xs.toArray d' → SortedIn (ltOf cmpEv) 0 N d' → SWK evEnc 3 w g 0 d' w' → ∃ ys, ys.Perm xs ∧ (ys.Pairwise fun a b => a.from_ ≤ b.from_) ∧ OwnOf Rep.ev w' S base e (.slice (some ⟨g, 0, none⟩) N cap) ys ∧ w.grownBy w' (Value.slice (some ⟨g, 0, none⟩) N cap).ownBlock := by
      intro d' w' p s hS
      obtain ⟨m, os, rfl⟩ := hS
      have hds : d'.size = N := by rw [p.1]; simp [hN]
      have hperm : d'.toList.Perm xs := by
        have := p.2.2
        rw [extract_all _ _ hds, extract_all _ _ (by simp [hN])] at this
        simpa using this
      refine ⟨d'.toList, hperm, ?_, ?_, ?_⟩
      · rw [List.pairwise_iff_getElem]
        intro i j hi hj hij
        have h2 := s i j (Nat.zero_le _) hij (by simpa [hds] using hj)
        rw [getElem!_pos d' j (by simpa using hj), getElem!_pos d' i (by simpa using hi)] at h2
        unfold ltOf cmpEv cmpI at h2
        simp only [decide_eq_false_iff_not] at h2
        simp only [Array.getElem_toList]
        (repeat' split at h2) <;> omega
      · exact own_back ev_iff ev_len hb hh (by omega) hc2 hsz hds fun x hx => hok x (hperm.mem_iff.1 hx)
      · exact sortWorld_grown evEnc 3 w g 0 m d' os
    rw [← hN]
    have HF := Lib.hid hfin
    clear hfin R hH hok hh hown hN
    go_enter Tryz.func12, Tryz.ntmps12
    go_wp2_with fail
    refine h1.mono ?_
    rintro en w1 ⟨rfl, d', p, s, hS⟩
    have HP := Lib.hid p
    have HS := Lib.hid s
    have HW := Lib.hid hS
    clear p s hS
    go_wp2_with fail
    go_end0
    obtain ⟨ys, h2⟩ := HF.out d' w1 HP.out HS.out HW.out
    exact ⟨ys, rfl, h2⟩
  · have hxs : xs = [] := List.eq_nil_of_length_eq_zero (by omega)
    subst hxs
    have hform : ∃ p cap, v = .slice p 0 cap := by
      rcases hown.form with ⟨rfl, _⟩ | ⟨g, cap, rfl, _⟩
      · exact ⟨_, _, rfl⟩
      · exact ⟨_, _, rfl⟩
    obtain ⟨p, cap, rfl⟩ := hform
    refine (stable_none p cap w).mono ?_
    rintro en w' ⟨rfl, rfl⟩
    exact ⟨[], rfl, List.Perm.refl _, List.Pairwise.nil, hown, ⟨rfl, rfl, rfl, Nat.le_refl _, fun _ _ _ => rfl⟩⟩

end Go.Proofs.YtdgpbpbjlnlijaaGreat
