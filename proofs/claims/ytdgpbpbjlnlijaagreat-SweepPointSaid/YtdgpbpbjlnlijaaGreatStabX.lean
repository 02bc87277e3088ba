/- StabA, StabB, joined -/
import Derived.Test.YtdgpbpbjlnlijaaGreatPlainS
import Derived.Test.YtdgpbpbjlnlijaaGreatHeapA
import Derived.Test.YtdgpbpbjlnlijaaGreatShelfC
import Derived.Shelf.SlSortCmp.PdqK

/- the starts of the tuples as a row of cells; the exchange of blocks, the rotation (slices.SortStableFunc's family) -/
namespace Go.Proofs.YtdgpbpbjlnlijaaGreat
open Go.RowKit Go.Shelf Go.Sort

def sideI (b : Bool) : Int := if b then 1 else 0
theorem sideI_rng (b : Bool) : 0 ≤ sideI b ∧ sideI b ≤ 1 := by cases b <;> simp [sideI]
def evEnc (x : Ev) : List Value := [.int .i64 x.from_, .int .i64 (sideI x.side), .int .i64 x.idx]
def okS (x : Ev) : Prop := x.idx ≤ 1048576 ∧ -9223372036854775808 ≤ x.from_ ∧ x.from_ ≤ 9223372036854775807
def Rep.ev : Rep Ev where
  size := 3
  holds _ cs x := cs = evEnc x ∧ okS x
  len := by rintro w cs x ⟨rfl, _⟩; rfl
  ext := by rintro w w' cs x h _; exact h
  one := by rintro w cs x ⟨rfl, _⟩; simp [evEnc, Value.oneCell']
theorem flat_ev : Rep.ev.flat := fun _ _ _ _ h => h
theorem ev_len (x : Ev) : (evEnc x).length = 3 := rfl
theorem ev_one (x : Ev) : ∀ v ∈ evEnc x, v.oneCell' = true := by simp [evEnc, Value.oneCell']
theorem ev_iff : ∀ h cs x, Rep.ev.holds h cs x ↔ cs = evEnc x ∧ okS x := fun _ _ _ => Iff.rfl
theorem ev_cell {w : World} {g : Nat} {d : Array Ev} (h : HoldsK evEnc 3 w g 0 d) (i : Nat) (hi : i < d.size) :
    w.cell? ⟨g, i * 3, none⟩ = some (.int .i64 d[i]!.from_) ∧ w.cell? ⟨g, i * 3 + 1, none⟩ = some (.int .i64 (sideI d[i]!.side)) ∧ w.cell? ⟨g, i * 3 + 2, none⟩ = some (.int .i64 d[i]!.idx) := by
  have g0 := (h (i * 3) (by simp; omega)).1
  have g1 := (h (i * 3 + 1) (by simp; omega)).1
  have g2 := (h (i * 3 + 2) (by simp; omega)).1
  rw [Nat.zero_add, get_flatK _ _ _ _ (by omega)] at g0 g1 g2
  rw [show i * 3 / 3 = i by omega, show i * 3 % 3 = 0 by omega] at g0
  rw [show (i * 3 + 1) / 3 = i by omega, show (i * 3 + 1) % 3 = 1 by omega] at g1
  rw [show (i * 3 + 2) / 3 = i by omega, show (i * 3 + 2) % 3 = 2 by omega] at g2
  exact ⟨g0, g1, g2⟩
theorem ev_free {w : World} {g : Nat} {d : Array Ev} (h : HoldsK evEnc 3 w g 0 d) (i : Nat) (hi : i < d.size) :
    w.frozen? ⟨g, i * 3, none⟩ = false ∧ w.frozen? ⟨g, i * 3 + 1, none⟩ = false ∧ w.frozen? ⟨g, i * 3 + 2, none⟩ = false := by
  have g0 := (h (i * 3) (by simp; omega)).2
  have g1 := (h (i * 3 + 1) (by simp; omega)).2
  have g2 := (h (i * 3 + 2) (by simp; omega)).2
  rw [Nat.zero_add] at g0 g1 g2
  exact ⟨g0, g1, g2⟩
def cmpEv (x y : Ev) : Int := cmpI x.from_ y.from_
theorem swo_ev : SWO (ltOf cmpEv) := swo_pull ord_int.swo fun x : Ev => x.from_
theorem ev_agg : ∀ w, (isAgg 51).run Tryz.prog w = .ok true w := fun w => by kernel_rfl
theorem ev_size : ∀ w, (Go.sizeOf 51).run Tryz.prog w = .ok 3 w := fun w => by kernel_rfl

theorem drew_set (w : World) (p : Addr) (v : Value) : w.drew.setCell p v = (w.setCell p v).drew := rfl
/-- an exchange of two starts, as a walk meets it -/
theorem swk_exch (blk N : Nat) (d0 dk : Array Ev) (w0 wr : World) (R : RowK evEnc 3 w0 blk 0 d0) (hd0 : d0.size = N) (hdk : dk.size = N) (S : SWK evEnc 3 w0 blk 0 dk wr) (x y : Nat) (hx : x < N) (hy : y < N) :
    ∃ f1 s1 i1 f2 s2 i2 : Int, wr.cell? ⟨blk, x * 3, none⟩ = some (.int .i64 f1) ∧ wr.cell? ⟨blk, x * 3 + 1, none⟩ = some (.int .i64 s1) ∧ wr.cell? ⟨blk, x * 3 + 2, none⟩ = some (.int .i64 i1) ∧
      wr.cell? ⟨blk, y * 3, none⟩ = some (.int .i64 f2) ∧ wr.cell? ⟨blk, y * 3 + 1, none⟩ = some (.int .i64 s2) ∧ wr.cell? ⟨blk, y * 3 + 2, none⟩ = some (.int .i64 i2) ∧
      wr.frozen? ⟨blk, x * 3, none⟩ = false ∧ wr.frozen? ⟨blk, x * 3 + 1, none⟩ = false ∧ wr.frozen? ⟨blk, x * 3 + 2, none⟩ = false ∧ wr.frozen? ⟨blk, y * 3, none⟩ = false ∧ wr.frozen? ⟨blk, y * 3 + 1, none⟩ = false ∧ wr.frozen? ⟨blk, y * 3 + 2, none⟩ = false ∧
      Hid (SWK evEnc 3 w0 blk 0 (swp dk x y) ((((((wr.setCell ⟨blk, x * 3, none⟩ (.int .i64 f2)).setCell ⟨blk, x * 3 + 1, none⟩ (.int .i64 s2)).setCell ⟨blk, x * 3 + 2, none⟩ (.int .i64 i2)).setCell ⟨blk, y * 3, none⟩ (.int .i64 f1)).setCell ⟨blk, y * 3 + 1, none⟩ (.int .i64 s1)).setCell ⟨blk, y * 3 + 2, none⟩ (.int .i64 i1)).drew) := by
  have hH := S.holds R.hblk R.hH (by omega)
  obtain ⟨a1, a2, a3⟩ := ev_cell hH x (by omega)
  obtain ⟨b1, b2, b3⟩ := ev_cell hH y (by omega)
  obtain ⟨p1, p2, p3⟩ := ev_free hH x (by omega)
  obtain ⟨r1, r2, r3⟩ := ev_free hH y (by omega)
  refine ⟨_, _, _, _, _, _, a1, a2, a3, b1, b2, b3, p1, p2, p3, r1, r2, r3, ?_⟩
  have h := S.swapped R x y (by omega) (by omega)
  simp only [evEnc, World.setCells, Nat.zero_add, Nat.add_assoc, Nat.reduceAdd, drew_set] at h
  exact h

set_option maxRecDepth 100000 in
set_option maxHeartbeats 4000000 in
theorem swapRange_ev (gq blk cap a b n N : Nat) (d0 d : Array Ev) (w0 w : World) (R : RowK evEnc 3 w0 blk 0 d0) (hd0 : d0.size = N) (hd : d.size = N) (S : SWK evEnc 3 w0 blk 0 d w) (hab : a + n ≤ b) (hb : b + n ≤ N) (hsz : N ≤ 1048576) :
    Calls Tryz.prog 93 #[.slice (some ⟨blk, 0, none⟩) N cap, .int .i64 a, .int .i64 b, .int .i64 n, .func (.func gq) #[] #[]] w fun e w' => e = .returned (.tuple #[]) ∧ ∃ d', SwapOf d d' a b n ∧ PermIn a (b + n) d d' ∧ SWK evEnc 3 w0 blk 0 d' w' := by
  have mixed := mixedOrd
  have S0 := Lib.hid S
  have W0 := Lib.hid (SwapOf.zero d a b)
  have P0 := Lib.hid (permIn_refl d a (b + n))
  clear S
  go_enter Tryz.func93, Tryz.ntmps93
  go_wp2_with fail
  go_loopg [10] n (fun gk vi wr => ∃ (k : Nat) (dk : Array Ev), gk = n - k ∧ vi = .int .i64 k ∧ k ≤ n ∧ dk.size = N ∧ Hid (SwapOf d dk a b k) ∧ Hid (PermIn a (b + n) d dk) ∧ Hid (SWK evEnc 3 w0 blk 0 dk wr))
  case atStart => exact ⟨0, d, rfl, rfl, by omega, hd, W0, P0, S0⟩
  case round =>
    obtain ⟨k, dk, rfl, rfl, hk, hdk, W1, P1, S1⟩ := hrel
    clear S0 W0 P0
    by_cases hkn : k < n
    · have hkz : (k : Int) < (n : Int) := by omega
      obtain ⟨x, hx⟩ : ∃ x, x = a + k := ⟨_, rfl⟩
      obtain ⟨y, hy⟩ : ∃ y, y = b + k := ⟨_, rfl⟩
      have e1 : (a : Int) + (k : Int) = (x : Int) := by omega
      have e2 : (b : Int) + (k : Int) = (y : Int) := by omega
      have hxN : x < N := by omega
      have hyN : y < N := by omega
      have hxz : (x : Int) < (N : Int) := by omega
      have hyz : (y : Int) < (N : Int) := by omega
      have hne : x ≠ y := by omega
      have hrx : IntKind.i64.wrap (x : Int) = (x : Int) := by rw [IntKind.wrap_i64]; omega
      have hry : IntKind.i64.wrap (y : Int) = (y : Int) := by rw [IntKind.wrap_i64]; omega
      obtain ⟨f1, s1, i1, f2, s2, i2, c1, c2, c3, c4, c5, c6, r1, r2, r3, r4, r5, r6, S2⟩ := swk_exch blk N d0 dk w0 wr R hd0 hdk S1.out x y hxN hyN
      have HX := Lib.hid hx
      have HY := Lib.hid hy
      clear S1 hx hy
      have q1 : ¬ x * 3 = y * 3 := by omega
      have q2 : ¬ x * 3 + 1 = y * 3 + 1 := by omega
      have q3 : ¬ x * 3 + 2 = y * 3 + 2 := by omega
      have q4 : ¬ x * 3 = y * 3 + 1 := by omega
      have q5 : ¬ x * 3 = y * 3 + 2 := by omega
      have q6 : ¬ x * 3 + 1 = y * 3 := by omega
      have q7 : ¬ x * 3 + 1 = y * 3 + 2 := by omega
      have q8 : ¬ x * 3 + 2 = y * 3 := by omega
      have q9 : ¬ x * 3 + 2 = y * 3 + 1 := by omega
      go_wp2_with fail
      go_big_region_o
      all_goals go_wp2_with fail
      all_goals go_roundg (n - (k + 1))
      all_goals first
        | (case measure => omega)
        | (case rel =>
            refine ⟨k + 1, swp dk x y, rfl, by simp, by omega, by rw [size_swp]; exact hdk, ?_, ?_, S2.out⟩
            · have := SwapOf.step W1.out (by omega) (by omega)
              rw [← HX.out, ← HY.out] at this
              exact this
            · exact permIn_trans _ _ _ _ _ P1.out (swp_permIn _ _ _ _ _ (by have := HX.out; omega) (by have := HX.out; omega) (by have := HY.out; omega) (by have := HY.out; omega) (by omega)))
    · have hkz : ¬ (k : Int) < (n : Int) := by omega
      have hke : k = n := by omega
      subst hke
      go_wp2_with fail
      go_end0
      exact ⟨rfl, dk, W1.out, P1.out, S1.out⟩

end Go.Proofs.YtdgpbpbjlnlijaaGreat

/- slices.rotateCmpFunc at the starts -/
namespace Go.Proofs.YtdgpbpbjlnlijaaGreat
open Go.RowKit Go.Shelf Go.Sort

set_option maxRecDepth 100000 in
set_option maxHeartbeats 4000000 in
theorem rotate_ev (gq blk cap a m b N : Nat) (d0 d : Array Ev) (w0 w : World) (R : RowK evEnc 3 w0 blk 0 d0) (hd0 : d0.size = N) (hd : d.size = N) (S : SWK evEnc 3 w0 blk 0 d w) (ham : a < m) (hmb : m < b) (hb : b ≤ N) (hsz : N ≤ 1048576) :
    Calls Tryz.prog 73 #[.slice (some ⟨blk, 0, none⟩) N cap, .int .i64 a, .int .i64 m, .int .i64 b, .func (.func gq) #[] #[]] w fun e w' => e = .returned (.tuple #[]) ∧ ∃ d', RotOf d d' a (m - a) (b - m) ∧ PermIn a b d d' ∧ SWK evEnc 3 w0 blk 0 d' w' := by
  have S0 := Lib.hid S
  have P0 := Lib.hid (permIn_refl d a b)
  obtain ⟨i0, hi0⟩ : ∃ i0, i0 = m - a := ⟨_, rfl⟩
  obtain ⟨j0, hj0⟩ : ∃ j0, j0 = b - m := ⟨_, rfl⟩
  have Z0 := Lib.hid (show ∀ d', RotOf d d' (m - i0) i0 j0 → RotOf d d' a (m - a) (b - m) from fun d' h => by rw [hi0, hj0, show m - (m - a) = a by omega] at h; exact h)
  have e1 : (m : Int) - (a : Int) = (i0 : Int) := by omega
  have e2 : (b : Int) - (m : Int) = (j0 : Int) := by omega
  have hi1 : i0 ≤ m - a ∧ 0 < i0 := by omega
  have hj1 : j0 ≤ b - m ∧ 0 < j0 := by omega
  clear S hi0 hj0
  go_enter Tryz.func73, Tryz.ntmps73
  go_wp2_with fail
  go_loopg [10, 11] (i0 + j0) (fun gk vi vj wr => ∃ (i j : Nat) (dk : Array Ev), gk = i + j ∧ vi = .int .i64 i ∧ vj = .int .i64 j ∧ 0 < i ∧ 0 < j ∧ i ≤ m - a ∧ j ≤ b - m ∧ dk.size = N ∧ Hid (∀ d', RotOf dk d' (m - i) i j → RotOf d d' a (m - a) (b - m)) ∧ Hid (PermIn a b d dk) ∧ Hid (SWK evEnc 3 w0 blk 0 dk wr))
  case atStart => exact ⟨i0, j0, d, rfl, rfl, rfl, hi1.2, hj1.2, hi1.1, hj1.1, hd, Z0, P0, S0⟩
  case round =>
    obtain ⟨i, j, dk, rfl, rfl, rfl, hi, hj, him, hjb, hdk, Z1, P1, S1⟩ := hrel
    clear S0 P0 Z0 e1 e2 hi1 hj1
    obtain ⟨lo, hlo⟩ : ∃ lo, lo = m - i := ⟨_, rfl⟩
    have e1 : (m : Int) - (i : Int) = (lo : Int) := by omega
    have HLO := Lib.hid hlo
    have hlm : lo + i = m := by omega
    have HLM := Lib.hid hlm
    have hal : a ≤ lo := by omega
    clear hlo hlm
    by_cases hij : i = j
    · subst hij
      go_wp2_with fail
      refine (swapRange_ev gq blk cap lo m i N d0 dk w0 _ R hd0 hdk S1.out (by have := HLM.out; omega) (by omega) hsz).mono ?_
      rintro e w1 ⟨rfl, d1, W1, Q1, S2⟩
      go_wp2_with fail
      go_end0
      refine ⟨rfl, d1, Z1.out d1 ?_, permIn_trans _ _ _ _ _ P1.out (permIn_mono _ _ _ _ _ _ hal (by omega) (by omega) Q1), S2⟩
      have := HLM.out
      rw [← HLO.out]
      exact RotOf.last (by rw [this]; exact W1)
    · by_cases hji : j < i
      · have hz : ¬ (i : Int) = (j : Int) := by omega
        have hz2 : (j : Int) < (i : Int) := by omega
        obtain ⟨k, hk⟩ : ∃ k, k = i - j := ⟨_, rfl⟩
        have e3 : (i : Int) - (j : Int) = (k : Int) := by omega
        have HK := Lib.hid hk
        have hk0 : 0 < k := by omega
        clear hk
        go_wp2_with fail
        refine (swapRange_ev gq blk cap lo m j N d0 dk w0 _ R hd0 hdk S1.out (by have := HLM.out; omega) (by omega) hsz).mono ?_
        rintro e w1 ⟨rfl, d1, W1, Q1, S2⟩
        go_wp2_with fail
        go_roundg (k + j)
        case measure => have := HK.out; omega
        case rel =>
          refine ⟨k, j, d1, rfl, rfl, rfl, hk0, hj, by have := HK.out; omega, hjb, by rw [Q1.1]; exact hdk, ?_, permIn_trans _ _ _ _ _ P1.out (permIn_mono _ _ _ _ _ _ hal (by omega) (by omega) Q1), S2⟩
          show ∀ d', _ → _
          intro d' h
          refine Z1.out d' ?_
          have := HLM.out
          have hk := HK.out
          rw [← HLO.out]
          refine RotOf.left (by rw [this]; exact W1) hji ?_
          rw [← hk, show lo + j = m - k by omega]
          exact h
      · have hz : ¬ (i : Int) = (j : Int) := by omega
        have hz2 : ¬ (j : Int) < (i : Int) := by omega
        obtain ⟨k, hk⟩ : ∃ k, k = j - i := ⟨_, rfl⟩
        have e3 : (j : Int) - (i : Int) = (k : Int) := by omega
        obtain ⟨q, hq⟩ : ∃ q, q = m + j - i := ⟨_, rfl⟩
        have e4 : (m : Int) + (j : Int) - (i : Int) = (q : Int) := by omega
        have HK := Lib.hid hk
        have HQ := Lib.hid hq
        have hk0 : 0 < k := by omega
        have hqN : q + i ≤ N := by omega
        clear hk hq
        go_wp2_with fail
        refine (swapRange_ev gq blk cap lo q i N d0 dk w0 _ R hd0 hdk S1.out (by have := HLM.out; have := HQ.out; omega) hqN hsz).mono ?_
        rintro e w1 ⟨rfl, d1, W1, Q1, S2⟩
        go_wp2_with fail
        go_roundg (i + k)
        case measure => have := HK.out; omega
        case rel =>
          refine ⟨i, k, d1, rfl, rfl, rfl, hi, hk0, him, by have := HK.out; omega, by rw [Q1.1]; exact hdk, ?_, permIn_trans _ _ _ _ _ P1.out (permIn_mono _ _ _ _ _ _ hal (by have := HQ.out; omega) (by omega) Q1), S2⟩
          show ∀ d', _ → _
          intro d' h
          refine Z1.out d' ?_
          have hl := HLM.out
          have hq := HQ.out
          have hk := HK.out
          rw [← HLO.out]
          refine RotOf.right (by rw [show lo + j = q by omega]; exact W1) (by omega) ?_
          rw [← hk, HLO.out]
          exact h

end Go.Proofs.YtdgpbpbjlnlijaaGreat
