/- joined texts of a proof: SplitW, PlainH, PlainI, SameT, SplG, TabH -/
import Derived.Test.YtdgpbpbjlnlijaaGreatDoorKD16
import Derived.Test.YtdgpbpbjlnlijaaGreatDoorKD09
import Derived.Test.YtdgpbpbjlnlijaaGreatDoorKD10
import Derived.Test.YtdgpbpbjlnlijaaGreatDoorKD14
import Derived.Deep.DeepCutAuto
import Derived.Test.YtdgpbpbjlnlijaaGreatDoorKD13
import Derived.Test.YtdgpbpbjlnlijaaGreatDoorKD05
import Derived.Test.YtdgpbpbjlnlijaaGreatDoorKD01
import Derived.Test.YtdgpbpbjlnlijaaGreatDoorRows
import Derived.ProofKit
import Derived.LaidMore
import Derived.Lib.LaidTab
import Derived.MakeChecks
import Derived.Stop.LaidErr
import Derived.ChangeSame

/- splitter.SplitAt; printed by gen_split.py -/
namespace Go.Proofs.YtdgpbpbjlnlijaaGreatDoor
open Go.RowKit

theorem sortI_perm (zs : List Int) : (sortI zs).Perm zs := List.mergeSort_perm _ _
theorem sortI_asc (zs : List Int) : (sortI zs).Pairwise (· ≤ ·) := by
  have := List.pairwise_mergeSort (le := fun x y : Int => decide (x ≤ y)) (fun a b c h1 h2 => by simp at *; omega) (fun a b => by simp; omega) zs
  exact this.imp fun h => by simpa using h
theorem cutT_len (t : Tup) : ∀ (P : List Int) (f : Int), (cutT t f P).length ≤ P.length + 1 := by
  intro P
  induction P with
  | nil => intro f; exact Nat.le_refl _
  | cons p P ih =>
    intro f
    unfold cutT
    split
    · simp
    split
    · have := ih p; simp; omega
    · have := ih f; simp; omega
theorem splitT_len (l : List Tup) (P : List Int) : (splitT l P).length ≤ l.length * (P.length + 1) := by
  unfold splitT
  induction l with
  | nil => simp
  | cons t l ih =>
    rw [List.flatMap_cons, List.length_append, List.length_cons, Nat.succ_mul]
    have : (if validT t = true then cutT t t.from_ P else []).length ≤ P.length + 1 := by
      split
      · exact cutT_len t P _
      · exact Nat.zero_le _
    omega
theorem splitT_snoc (l : List Tup) (P : List Int) (k : Nat) (h : k < l.length) : splitT (l.take (k + 1)) P = splitT (l.take k) P ++ if validT l[k] = true then cutT l[k] l[k].from_ P else [] := by
  unfold splitT
  rw [List.take_succ_eq_append_getElem h, List.flatMap_append, List.flatMap_cons, List.flatMap_nil, List.append_nil]
/-- points up to the start cut nothing -/
theorem cutT_drop (t : Tup) (f : Int) (hf : f < t.to_) : ∀ (P : List Int) (m : Nat), (∀ p ∈ P.take m, p ≤ f) → cutT t f P = cutT t f (P.drop m) := by
  intro P
  induction P with
  | nil => intro m _; rw [List.drop_nil]
  | cons p P ih =>
    intro m h
    cases m with
    | zero => rfl
    | succ m =>
      rw [List.take_succ_cons] at h
      have hp := h p (by simp)
      rw [List.drop_succ_cons, ← ih m fun q hq => h q (by simp [hq])]
      rw [cutT, if_neg (by omega), if_neg (by omega)]
/-- how many points lie below x, in a sorted list: they come first -/
theorem below_first {P : List Int} (h : P.Pairwise (· ≤ ·)) (x : Int) : ∀ p ∈ P.take (P.countP (· < x)), p < x := by
  induction P with
  | nil => intro p hp; simp at hp
  | cons a P ih =>
    obtain ⟨h1, h2⟩ := List.pairwise_cons.1 h
    intro p hp
    by_cases c : a < x
    · rw [List.countP_cons_of_pos (by simpa using c), List.take_succ_cons] at hp
      rcases List.mem_cons.1 hp with rfl | hp
      · exact c
      · exact ih h2 p hp
    · have h0 : P.countP (· < x) = 0 := List.countP_eq_zero.2 fun y hy => by have := h1 y hy; simp; omega
      rw [List.countP_cons_of_neg (by simpa using c), h0] at hp
      simp at hp

theorem int_rest {h : View} {g cap : Nat} {xs : List Int} {n : Nat} (hn : n = xs.length) (k : SliceOf Rep.int h (.slice (some ⟨g, 0, none⟩) n cap) xs) (m : Nat) (hm : m ≤ xs.length) : SliceOf Rep.int h (.slice (some ⟨g, m, none⟩) (n - m) (cap - m)) (xs.drop m) := by
  subst hn
  have := SliceOf.dropV k m hm
  simpa [Rep.int] using this
theorem bsearch_any (v : Value) (Q : List Int) (x : Int) (w : World) (hv : SliceOf Rep.int w.cell? v Q) (hs : Q.Pairwise (· ≤ ·)) (hl : Q.length ≤ 1048576) :
    Calls Tryz.prog 61 #[v, .int .i64 x] w fun e w' => ∃ r, e = .returned (.tuple #[.int .i64 (Q.countP (· < x) : Nat), .bool r]) ∧ Ext w w' := by
  obtain ⟨p, cap, rfl, h1, h2, h3⟩ := hv.form
  by_cases h0 : Q.length = 0
  · have hz : Q = [] := List.eq_nil_of_length_eq_zero h0
    subst hz
    refine (Tryz.slices_BinarySearch_int_empty p cap x w).mono ?_
    rintro e w' ⟨rfl, rfl⟩
    exact ⟨_, rfl, Ext.refl _⟩
  · obtain ⟨b, o, rfl⟩ := h3 (by decide) (by omega)
    refine (Tryz.slices_BinarySearch_int b o Q.length cap Q x w (Nat.le_refl _) (by omega) (fun j hj => by rw [List.getD_eq_getElem?_getD, List.getElem?_eq_getElem hj]; exact (int_at hv j hj).1) (by rw [List.take_length]; exact hs)).mono ?_
    rintro e w' ⟨rfl, q, rfl⟩
    rw [List.take_length]
    exact ⟨_, rfl, (Ext.refl w).drewN q⟩

set_option maxRecDepth 100000 in
set_option maxHeartbeats 8000000 in
theorem split_any (v pv : Value) (l : List Tup) (P : List Int) (w : World) (hv : SliceOf Rep.tup w.cell? v l) (hp : SliceOf Rep.int w.cell? pv P) (hl : l.length ≤ 50) (hpl : P.length ≤ 100) (hf : ∀ t ∈ l, t.vals.length ≤ 1048576 ∧ t.lin.length ≤ 1048576) :
    Calls Tryz.prog 26 #[v, pv] w fun e w' => ∃ v', e = .returned v' ∧ OwnOf Rep.tup w' (fun _ => True) w.heap.size 77 v' (splitT l (sortI P)) ∧ Ext w w' := by
  obtain ⟨i2, hi2, hz20, hz21, hz22⟩ := info_parts infoTup
  have mixed := mixedOrd
  obtain ⟨p, cap, rfl, hc1, hc2, hpt⟩ := hv.form
  obtain ⟨pp, pc, rfl, _⟩ := hp.form
  obtain ⟨N, hN⟩ : ∃ N, N = l.length := ⟨_, rfl⟩
  have HV := Lib.hid hv
  rw [← hN]
  have HN := Lib.hid hN
  have HP := Lib.hid hp
  have HPT := Lib.hid hpt
  have HF := Lib.hid hf
  have HPL := Lib.hid hpl
  have hasc0 := sortI_asc P
  have hql0 : (sortI P).length ≤ 100 := by rw [(sortI_perm P).length_eq]; exact hpl
  obtain ⟨Q, hQ⟩ : ∃ Q, Q = sortI P := ⟨_, rfl⟩
  rw [← hQ] at hasc0 hql0 ⊢
  have HASC := Lib.hid hasc0
  have HQL := Lib.hid hql0
  have HQQ := Lib.hid hQ
  clear hasc0 hql0 hQ
  have hNl : N ≤ 50 := by omega
  have hz0 : (w.alloc (.cells #[.slice pp P.length pc] 24)).cell? ⟨w.heap.size, 0, none⟩ = some (.slice pp P.length pc) := by go_simp
  have HZ0 := Lib.hid hz0
  clear hv hp hpt hf hN hl hpl hc1 hc2 hz0
  go_enter Tryz.func26, Tryz.ntmps26
  go_wp2_with fail
  refine (values_any pp _ pc _).mono ?_
  rintro e w1 ⟨rfl, rfl⟩
  go_wp2_with fail
  refine (sorted_any w.heap.size (.slice pp P.length pc) P _ HZ0.out (HP.out.ext ((Ext.refl w).alloc _).full) (by have := HPL.out; omega)).mono ?_
  rintro e w2 ⟨vs, rfl, o2, x2⟩
  rw [← HQQ.out] at o2
  have hql := HQL.out
  have X2 := Lib.hid (((Ext.refl w).alloc _).trans x2)
  have SQ := Lib.hid o2.slice
  have hfm : ∀ (pq : Option Addr) (n cq : Nat), vs = .slice pq n cq → (pq = none ∧ cq = 0) ∨ ∃ g, pq = some ⟨g, 0, none⟩ := fun pq n cq e => by
    rcases o2.form with ⟨h, _⟩ | ⟨g, c, h, _⟩
    · rw [h] at e; injection e with e1 e2 e3; exact .inl ⟨e1.symm, e3.symm⟩
    · rw [h] at e; injection e with e1 e2 e3; exact .inr ⟨g, e1.symm⟩
  obtain ⟨pq, cq, rfl, hq1, hq2, hq3⟩ := o2.slice.form
  have HFM := Lib.hid (hfm _ _ _ rfl)
  have HQ3 := Lib.hid hq3
  obtain ⟨nq, hnq⟩ : ∃ nq, nq = Q.length := ⟨_, rfl⟩
  have HNQ := Lib.hid hnq
  rw [← hnq] at SQ HQ3 hq1 hql ⊢
  clear o2 x2 hq3 hnq HZ0 HP HPL hfm
  go_wp2_with fail
  go_loopg [5, 18] N (fun gk vo vi wr => ∃ (k : Nat) (u : Value), k ≤ N ∧ gk = N - k ∧ vi = .int .i64 k ∧ u = vo ∧ Hid (OwnOf Rep.tup wr (fun _ => True) w2.heap.size 77 u (splitT (l.take k) Q)) ∧ Ext w2 wr)
  case atStart => exact ⟨0, _, by omega, rfl, rfl, rfl, OwnOf.nil _ _ _ _ _, Ext.refl w2⟩
  case round =>
    obtain ⟨k, u, hk, rfl, rfl, rfl, OU, hx⟩ := hrel
    by_cases hlt : k < N
    · have hkl : k < l.length := by have := HN.out; omega
      obtain ⟨b, o, rfl⟩ := HPT.out (by decide) (by omega)
      have hst := splitT_snoc l Q k hkl
      obtain ⟨ua, ub, c0, c1, c2, c3, g0, g1, r1, r2⟩ := tup_at HV.out k hkl
      have hfk := HF.out l[k] (List.getElem_mem hkl)
      have hlen := splitT_len (l.take k) Q
      generalize l[k] = t at c1 c2 g0 g1 r1 r2 hst hfk
      have hx0 := X2.out.trans hx
      replace c0 := hx0.at c0
      replace c1 := hx0.at c1
      replace c2 := hx0.at c2
      replace c3 := hx0.at c3
      obtain ⟨pa, ka, rfl, _⟩ := g0.form
      obtain ⟨pb, kb, rfl, _⟩ := g1.form
      have G0 := Lib.hid (g0.ext X2.out.full)
      have G1 := Lib.hid (g1.ext X2.out.full)
      have HFK := Lib.hid hfk
      have HST := Lib.hid hst
      have HRR := Lib.hid (And.intro r1 r2)
      have hyl : (splitT (l.take k) Q).length ≤ 50 * 101 := by
        have h1 : (l.take k).length ≤ 50 := by rw [List.length_take]; omega
        have h2 : Q.length + 1 ≤ 101 := by have := HNQ.out; omega
        exact Nat.le_trans hlen (Nat.mul_le_mul h1 h2)
      obtain ⟨ys0, hys0⟩ : ∃ ys, ys = splitT (l.take k) Q := ⟨_, rfl⟩
      rw [← hys0] at OU hyl HST
      have HYS0 := Lib.hid hys0
      have HYL := Lib.hid hyl
      have hd : decide ((k : Int) < (N : Int)) = true := by simp; omega
      have e0 := cell_lt c0
      obtain ⟨tv, tf, tt, tl⟩ := t
      dsimp only at c0 c1 c2 c3 G0 G1 HFK HRR
      obtain ⟨n1, hn1⟩ : ∃ n, n = tv.length := ⟨_, rfl⟩
      obtain ⟨n2, hn2⟩ : ∃ n, n = tl.length := ⟨_, rfl⟩
      rw [← hn1] at c0 G0
      rw [← hn2] at c3 G1
      have HN1 := Lib.hid hn1
      have HN2 := Lib.hid hn2
      clear hst g0 g1 r1 r2 hfk hx0 hlen hyl hys0 hn1 hn2
      go_wp2_with fail
      refine (valid_any tf tt _).mono ?_
      rintro e w3 ⟨rfl, x3⟩
      obtain ⟨bx, hbx⟩ : ∃ z, z = wr.heap.size := ⟨_, rfl⟩
      have a0 : w3.cell? ⟨bx, 0, none⟩ = some (.slice pa n1 ka) := by rw [hbx]; exact x3.at (by go_simp)
      have a1 : w3.cell? ⟨bx, 1, none⟩ = some (.int .i64 tf) := by rw [hbx]; exact x3.at (by go_simp)
      have a2 : w3.cell? ⟨bx, 2, none⟩ = some (.int .i64 tt) := by rw [hbx]; exact x3.at (by go_simp)
      have a3 : w3.cell? ⟨bx, 3, none⟩ = some (.slice pb n2 kb) := by rw [hbx]; exact x3.at (by go_simp)
      have X3 := Lib.hid (show Ext wr w3 from ((Ext.refl wr).alloc _).trans x3)
      have HBX := Lib.hid hbx
      rw [← hbx]
      have e1 := cell_lt a0
      clear x3 c0 c1 c2 c3 e0 hbx
      cases hvb : validB tf tt with
      | false =>
        have hnone : splitT (l.take (k + 1)) Q = ys0 := by
          rw [HST.out, if_neg (by show ¬ validB tf tt = true; rw [hvb]; decide), List.append_nil]
        have HNO := Lib.hid hnone
        have OU2 := Lib.hid (OU.out.ext X3.out)
        have HX := Lib.hid (hx.trans X3.out)
        clear hnone hvb OU hx
        go_wp2_with fail
        go_roundg (N - (k + 1))
        case measure => omega
        case rel => exact ⟨k + 1, u, by omega, rfl, by go_num, rfl, by show OwnOf _ _ _ _ _ _ _; rw [HNO.out]; exact OU2.out, HX.out⟩
      | true =>
        have hvl := validB_lt hvb
        have HST2 := Lib.hid (show splitT (l.take (k + 1)) Q = ys0 ++ cutT ⟨tv, tf, tt, tl⟩ tf Q from by rw [HST.out, if_pos (show validT ⟨tv, tf, tt, tl⟩ = true from hvb)])
        obtain ⟨h0, h1, h2⟩ := hvl
        have HVL := Lib.hid (And.intro h0 (And.intro h1 h2))
        have hw1 : IntKind.i64.wrap (tf + 1) = tf + 1 := by rw [IntKind.wrap_i64]; omega
        clear HST hvb
        go_wp2_with fail
        refine (bsearch_any _ Q (tf + 1) _ (SQ.out.ext (hx.trans X3.out).full) HASC.out (by have := HNQ.out; omega)).mono ?_
        rintro e w4 ⟨fr, rfl, x4⟩
        have hm1 : Q.countP (· < tf + 1) ≤ nq := by rw [HNQ.out]; exact List.countP_le_length
        have hdrop := cutT_drop ⟨tv, tf, tt, tl⟩ tf h1 Q (Q.countP (· < tf + 1)) (fun p hp => by have := below_first HASC.out (tf + 1) p hp; omega)
        generalize Q.countP (· < tf + 1) = m at hm1 hdrop
        have hmI : (m : Int) ≤ (nq : Int) := by omega
        have hmc : m ≤ cq := by omega
        have HX4 := Lib.hid (hx.trans (X3.out.trans x4))
        have G04 := Lib.hid (G0.out)
        have G14 := Lib.hid (G1.out)
        have OU4 := Lib.hid (OU.out.ext (X3.out.trans x4))
        have HUX := Lib.hid (show ∀ x, u.ownBlock = some x → x ≠ bx from fun x hx e => by have h1 := (OU.out.lt x hx).2; have h2 := HBX.out; omega)
        replace a0 := x4.at a0
        replace a1 := x4.at a1
        replace a2 := x4.at a2
        replace a3 := x4.at a3
        replace e1 := cell_lt a0
        clear x4 hx OU X3 G0 G1
        by_cases hcm : cq = m
        · have hnm : nq = m := by omega
          subst hcm
          subst hnm
          have hdr0 : Q.drop nq = [] := List.drop_eq_nil_of_le (by have := HNQ.out; omega)
          have HFIN := Lib.hid (show splitT (l.take (k + 1)) Q = ys0 ++ [⟨tv, tf, tt, tl⟩] from by rw [HST2.out, hdrop, hdr0]; rfl)
          have OUq := OU4
          have HUXq := HUX
          have HXq := HX4
          have HYB := Lib.hid (show ys0.length ≤ 6000 from by have := HYL.out; omega)
          have HFR := Lib.hid (show okI tf ∧ okI tt from HRR.out)
          clear hdr0 hdrop hm1 OU4 HUX HX4
          go_wp2_with fail
          go_loopg [5, 8, 40] 0 (fun gj vo vf vi wq => gj = 0 ∧ u = vo ∧ vf = .int .i64 tf ∧ vi = .int .i64 0 ∧ w4 = wq)
          case atStart => exact ⟨rfl, rfl, rfl, rfl, rfl⟩
          case round =>
            obtain ⟨rfl, rfl, rfl, rfl, rfl⟩ := hrel
            have eb := cell_lt a0
            have HUL := Lib.hid (show ∀ x, (u).ownBlock = some x → w2.heap.size ≤ x ∧ x < (w4).heap.size from fun x hx => OUq.out.lt x hx)
            have B1 : (ys0).length + 1 ≤ maxLen := by have := HYB.out; unfold maxLen; omega
            have B2 : ((ys0).length + 1) * 64 ≤ 140737488355328 := by have := HYB.out; omega
            have HW24 := Lib.hid (show w2.heap.size ≤ (w4).heap.size from HXq.out.size)
            have hS0 : Ext w2 (w4).drew ∧ (w4).drew.cell? ⟨bx, 0, none⟩ = some (.slice pa n1 ka) ∧ (w4).drew.cell? ⟨bx, 1, none⟩ = some (.int .i64 tf) ∧ (w4).drew.cell? ⟨bx, 2, none⟩ = some (.int .i64 tt) ∧ (w4).drew.cell? ⟨bx, 3, none⟩ = some (.slice pb n2 kb) := ⟨HXq.out.drew, a0, a1, a2, a3⟩
            go_wp2_with fail
            go_upto_region 17 with fail
            clear a0 a1 a2 a3
            go_region_held3 (fun w' => Ext w2 w' ∧ w'.cell? ⟨bx, 0, none⟩ = some (.slice pa n1 ka) ∧ w'.cell? ⟨bx, 1, none⟩ = some (.int .i64 tf) ∧ w'.cell? ⟨bx, 2, none⟩ = some (.int .i64 tt) ∧ w'.cell? ⟨bx, 3, none⟩ = some (.slice pb n2 kb))
              (first | with_reducible assumption | with_reducible exact keepE4 (by assumption) ((Ext.refl _).alloc _))
              (first
                | (go_at_call 55; refine (tup_row _ _ _ _ _ _ _ _ _).mono ?_; rintro e w5 ⟨rfl, g5⟩; have x5 := Gro.ext g5; have X5 := Lib.hid (show Ext (w4) w5 from (Ext.refl _).drew.trans x5); have K5 : Ext w2 w5 ∧ w5.cell? ⟨bx, 0, none⟩ = some (.slice pa n1 ka) ∧ w5.cell? ⟨bx, 1, none⟩ = some (.int .i64 tf) ∧ w5.cell? ⟨bx, 2, none⟩ = some (.int .i64 tt) ∧ w5.cell? ⟨bx, 3, none⟩ = some (.slice pb n2 kb) := keepE4 (hS0) x5)
                | (go_at_call 46; refine (during_any _ _ ⟨tv, tl⟩ tf tt _ (by exact G04.out.ext (HXq.out.trans X5.out).full) (by exact G14.out.ext (HXq.out.trans X5.out).full) HFK.out.1 HFK.out.2).mono ?_; rintro e w6 ⟨da, db, rfl, sa, sb, x6⟩; have SA := Lib.hid sa; have SB := Lib.hid sb; obtain ⟨pc, kc, rfl, _⟩ := sa.form; obtain ⟨pd, kd, rfl, _⟩ := sb.form; have X6 := Lib.hid (X5.out.trans x6); have K6 : Ext w2 w6 ∧ w6.cell? ⟨bx, 0, none⟩ = some (.slice pa n1 ka) ∧ w6.cell? ⟨bx, 1, none⟩ = some (.int .i64 tf) ∧ w6.cell? ⟨bx, 2, none⟩ = some (.int .i64 tt) ∧ w6.cell? ⟨bx, 3, none⟩ = some (.slice pb n2 kb) := keepE4 K5 x6; dsimp only; dsimp only at SA SB; rw [← HN1.out] at SA; rw [← HN2.out] at SB; rw [← HN1.out, ← HN2.out]; clear sa sb)
                | (refine step_append_one Rep.tup (fun _ => True) rfl _ _ 22 rfl w2.heap.size 77 i2 _ 64 Tryz.underlying22 hi2 hz20 hz21 hz22 rfl (by decide) (u) (ys0) rfl (by exact OUq.out.ext (X6.out.alloc _)) ⟨_, 0, none⟩ 1 ⟨tv, tf, tt, tl⟩ [.slice pc n1 kc, .int .i64 tf, .int .i64 tt, .slice pd n2 kd] rfl (by have hsub : ∀ (o : Obj), Sub (on w6 (since w5)) (on (w6.alloc o) (avoid (fun _ => True) (u))) := fun o => (on_mono w6 fun x _ hx => ⟨fun e => by (have h1 := (HUL.out x e.symm).2; have h2 := X5.out.size; simp [since] at hx; omega), trivial⟩).trans (((Ext.refl w6).alloc o).sub _); exact ⟨_, _, rfl, SA.out.ext (hsub _), SB.out.ext (hsub _), by have h := HFR.out; exact h.1, by have h := HFR.out; exact h.2⟩) (by exact cells_new _ [.slice pc n1 kc, .int .i64 tf, .int .i64 tt, .slice pd n2 kd] _) B1 B2 (by exact Nat.le_trans HW24.out (X6.out.alloc (.cells [.slice pc n1 kc, .int .i64 tf, .int .i64 tt, .slice pd n2 kd].toArray 77)).size) ?_; intro g8 cap8 w8 own8 gr8 hg8; have X6a := X6.out.alloc (.cells [.slice pc n1 kc, .int .i64 tf, .int .i64 tt, .slice pd n2 kd].toArray 77); have K8 : Ext w2 w8 ∧ w8.cell? ⟨bx, 0, none⟩ = some (.slice pa n1 ka) ∧ w8.cell? ⟨bx, 1, none⟩ = some (.int .i64 tf) ∧ w8.cell? ⟨bx, 2, none⟩ = some (.int .i64 tt) ∧ w8.cell? ⟨bx, 3, none⟩ = some (.slice pb n2 kb) := ⟨ext_grown (HXq.out.trans X6a) gr8 (fun x hx => (HUL.out x hx).1), cell_grown gr8 (((Ext.refl w6).alloc _).at K6.2.1) (fun x hx => HUXq.out x hx), cell_grown gr8 (((Ext.refl w6).alloc _).at K6.2.2.1) (fun x hx => HUXq.out x hx), cell_grown gr8 (((Ext.refl w6).alloc _).at K6.2.2.2.1) (fun x hx => HUXq.out x hx), cell_grown gr8 (((Ext.refl w6).alloc _).at K6.2.2.2.2) (fun x hx => HUXq.out x hx)⟩))
            all_goals
              have OU9 := Lib.hid (show OwnOf Rep.tup w8 (fun _ => True) w2.heap.size 77 (.slice (some ⟨g8, 0, none⟩) ((ys0).length + 1) cap8) (splitT (l.take (k + 1)) Q) from by rw [HFIN.out]; exact own8)
              have X9 := Lib.hid K8.1
              clear own8 gr8 hg8 K8 K6 K5 X6a hS0
              go_wp2_with fail
              go_roundg (N - (k + 1))
              case measure => omega
              case rel => exact ⟨k + 1, _, by omega, rfl, by go_num, rfl, OU9.out, X9.out⟩

        · obtain ⟨g, rfl⟩ : ∃ g, pq = some ⟨g, 0, none⟩ := by
            rcases HFM.out with ⟨_, h⟩ | h
            · exact absurd (show cq = m by omega) hcm
            · exact h
          have RST := Lib.hid (int_rest HNQ.out SQ.out m (by have := HNQ.out; omega))
          have hnrl : (Q.drop m).length = nq - m := by rw [List.length_drop, ← HNQ.out]
          obtain ⟨R, hR⟩ : ∃ R, R = Q.drop m := ⟨_, rfl⟩
          rw [← hR] at hdrop hnrl RST
          obtain ⟨nr, hnr⟩ : ∃ n, n = nq - m := ⟨_, rfl⟩
          rw [← hnr] at hnrl RST
          have HNR := Lib.hid hnrl
          have HFIN0 := Lib.hid (show splitT (l.take (k + 1)) Q = ys0 ++ cutT ⟨tv, tf, tt, tl⟩ tf R from by rw [HST2.out, hdrop])
          have hnrI : ((nq : Int) - (m : Int)) = (nr : Int) := by omega
          have HNRM := Lib.hid hnr
          have A := Lib.hid (show Ext w2 w4 ∧ w4.cell? ⟨bx, 0, none⟩ = some (.slice pa n1 ka) ∧ w4.cell? ⟨bx, 1, none⟩ = some (.int .i64 tf) ∧ w4.cell? ⟨bx, 2, none⟩ = some (.int .i64 tt) ∧ w4.cell? ⟨bx, 3, none⟩ = some (.slice pb n2 kb) from ⟨HX4.out, a0, a1, a2, a3⟩)
          clear hdrop hnrl hR hnr h0 h1 h2 hd
          go_wp2_with fail
          go_loopg [5, 8, 40] nr (fun gj vo vf vi wq => ∃ (j : Nat) (uq : Value) (ys : List Tup) (f : Int), j ≤ nr ∧ gj = nr - j ∧ vi = .int .i64 j ∧ uq = vo ∧ vf = .int .i64 f ∧ Hid (OwnOf Rep.tup wq (fun _ => True) w2.heap.size 77 uq ys) ∧ Hid (ys ++ cutT ⟨tv, tf, tt, tl⟩ f (R.drop j) = ys0 ++ cutT ⟨tv, tf, tt, tl⟩ tf R) ∧ Hid (f < tt) ∧ Hid (okI f) ∧ Hid (ys.length ≤ ys0.length + j) ∧ Hid (Ext w2 wq ∧ wq.cell? ⟨bx, 0, none⟩ = some (.slice pa n1 ka) ∧ wq.cell? ⟨bx, 1, none⟩ = some (.int .i64 tf) ∧ wq.cell? ⟨bx, 2, none⟩ = some (.int .i64 tt) ∧ wq.cell? ⟨bx, 3, none⟩ = some (.slice pb n2 kb)) ∧ Hid (∀ x, uq.ownBlock = some x → x ≠ bx))
          case atStart => exact ⟨0, u, ys0, tf, by omega, rfl, rfl, rfl, rfl, OU4.out, rfl, HVL.out.2.1, HRR.out.1, Nat.le_refl _, A.out, HUX.out⟩
          case round =>
            obtain ⟨j, uq, ys, f, hj, rfl, rfl, rfl, rfl, OUI, HCUT, HFT, HFO, HLEN, AI, HUXI⟩ := hrel
            clear OU4 HUX A a0 a1 a2 a3
            by_cases hjl : j < nr
            · have hjr : j < R.length := by have := HNR.out; omega
              have hyr : R.drop j = R[j] :: R.drop (j + 1) := List.drop_eq_getElem_cons hjr
              have hcut := HCUT.out
              rw [hyr] at hcut
              obtain ⟨c0, hpo⟩ := int_at RST.out j hjr
              generalize R[j] = p at c0 hpo hcut
              have hd : decide ((j : Int) < (nr : Int)) = true := by simp; omega
              replace c0 := AI.out.1.at c0
              by_cases hge : tt ≤ p
              · rw [cutT, if_pos hge] at hcut
                have HFIN := Lib.hid (show splitT (l.take (k + 1)) Q = ys ++ [⟨tv, f, tt, tl⟩] from by rw [HFIN0.out, ← hcut])
                have HFR := Lib.hid (show okI f ∧ okI tt from ⟨HFO.out, HRR.out.2⟩)
                clear hcut hpo hyr
                have OUq := OUI
                have HUXq := HUXI
                have HXq := Lib.hid AI.out.1
                obtain ⟨a0, a1, a2, a3⟩ := AI.out.2
                have HYB := Lib.hid (show ys.length ≤ 6000 from by have h1 := HYL.out; have h2 := HLEN.out; have h3 := HNR.out; have h4 := HQL.out; have h5 := HNRM.out; have h6 := HNQ.out; omega)
                clear OUI HUXI
                have eb := cell_lt a0
                have HUL := Lib.hid (show ∀ x, (uq).ownBlock = some x → w2.heap.size ≤ x ∧ x < (wr).heap.size from fun x hx => OUq.out.lt x hx)
                have B1 : (ys).length + 1 ≤ maxLen := by have := HYB.out; unfold maxLen; omega
                have B2 : ((ys).length + 1) * 64 ≤ 140737488355328 := by have := HYB.out; omega
                have HW24 := Lib.hid (show w2.heap.size ≤ (wr).heap.size from HXq.out.size)
                have hS0 : Ext w2 (wr).drew ∧ (wr).drew.cell? ⟨bx, 0, none⟩ = some (.slice pa n1 ka) ∧ (wr).drew.cell? ⟨bx, 1, none⟩ = some (.int .i64 tf) ∧ (wr).drew.cell? ⟨bx, 2, none⟩ = some (.int .i64 tt) ∧ (wr).drew.cell? ⟨bx, 3, none⟩ = some (.slice pb n2 kb) := ⟨HXq.out.drew, a0, a1, a2, a3⟩
                go_wp2_with fail
                go_upto_region 17 with fail
                clear a0 a1 a2 a3
                go_region_held3 (fun w' => Ext w2 w' ∧ w'.cell? ⟨bx, 0, none⟩ = some (.slice pa n1 ka) ∧ w'.cell? ⟨bx, 1, none⟩ = some (.int .i64 tf) ∧ w'.cell? ⟨bx, 2, none⟩ = some (.int .i64 tt) ∧ w'.cell? ⟨bx, 3, none⟩ = some (.slice pb n2 kb))
                  (first | with_reducible assumption | with_reducible exact keepE4 (by assumption) ((Ext.refl _).alloc _))
                  (first
                    | (go_at_call 55; refine (tup_row _ _ _ _ _ _ _ _ _).mono ?_; rintro e w5 ⟨rfl, g5⟩; have x5 := Gro.ext g5; have X5 := Lib.hid (show Ext (wr) w5 from (Ext.refl _).drew.trans x5); have K5 : Ext w2 w5 ∧ w5.cell? ⟨bx, 0, none⟩ = some (.slice pa n1 ka) ∧ w5.cell? ⟨bx, 1, none⟩ = some (.int .i64 tf) ∧ w5.cell? ⟨bx, 2, none⟩ = some (.int .i64 tt) ∧ w5.cell? ⟨bx, 3, none⟩ = some (.slice pb n2 kb) := keepE4 (hS0) x5)
                    | (go_at_call 46; refine (during_any _ _ ⟨tv, tl⟩ f tt _ (by exact G04.out.ext (HXq.out.trans X5.out).full) (by exact G14.out.ext (HXq.out.trans X5.out).full) HFK.out.1 HFK.out.2).mono ?_; rintro e w6 ⟨da, db, rfl, sa, sb, x6⟩; have SA := Lib.hid sa; have SB := Lib.hid sb; obtain ⟨pc, kc, rfl, _⟩ := sa.form; obtain ⟨pd, kd, rfl, _⟩ := sb.form; have X6 := Lib.hid (X5.out.trans x6); have K6 : Ext w2 w6 ∧ w6.cell? ⟨bx, 0, none⟩ = some (.slice pa n1 ka) ∧ w6.cell? ⟨bx, 1, none⟩ = some (.int .i64 tf) ∧ w6.cell? ⟨bx, 2, none⟩ = some (.int .i64 tt) ∧ w6.cell? ⟨bx, 3, none⟩ = some (.slice pb n2 kb) := keepE4 K5 x6; dsimp only; dsimp only at SA SB; rw [← HN1.out] at SA; rw [← HN2.out] at SB; rw [← HN1.out, ← HN2.out]; clear sa sb)
                    | (refine step_append_one Rep.tup (fun _ => True) rfl _ _ 22 rfl w2.heap.size 77 i2 _ 64 Tryz.underlying22 hi2 hz20 hz21 hz22 rfl (by decide) (uq) (ys) rfl (by exact OUq.out.ext (X6.out.alloc _)) ⟨_, 0, none⟩ 1 ⟨tv, f, tt, tl⟩ [.slice pc n1 kc, .int .i64 f, .int .i64 tt, .slice pd n2 kd] rfl (by have hsub : ∀ (o : Obj), Sub (on w6 (since w5)) (on (w6.alloc o) (avoid (fun _ => True) (uq))) := fun o => (on_mono w6 fun x _ hx => ⟨fun e => by (have h1 := (HUL.out x e.symm).2; have h2 := X5.out.size; simp [since] at hx; omega), trivial⟩).trans (((Ext.refl w6).alloc o).sub _); exact ⟨_, _, rfl, SA.out.ext (hsub _), SB.out.ext (hsub _), by have h := HFR.out; exact h.1, by have h := HFR.out; exact h.2⟩) (by exact cells_new _ [.slice pc n1 kc, .int .i64 f, .int .i64 tt, .slice pd n2 kd] _) B1 B2 (by exact Nat.le_trans HW24.out (X6.out.alloc (.cells [.slice pc n1 kc, .int .i64 f, .int .i64 tt, .slice pd n2 kd].toArray 77)).size) ?_; intro g8 cap8 w8 own8 gr8 hg8; have X6a := X6.out.alloc (.cells [.slice pc n1 kc, .int .i64 f, .int .i64 tt, .slice pd n2 kd].toArray 77); have K8 : Ext w2 w8 ∧ w8.cell? ⟨bx, 0, none⟩ = some (.slice pa n1 ka) ∧ w8.cell? ⟨bx, 1, none⟩ = some (.int .i64 tf) ∧ w8.cell? ⟨bx, 2, none⟩ = some (.int .i64 tt) ∧ w8.cell? ⟨bx, 3, none⟩ = some (.slice pb n2 kb) := ⟨ext_grown (HXq.out.trans X6a) gr8 (fun x hx => (HUL.out x hx).1), cell_grown gr8 (((Ext.refl w6).alloc _).at K6.2.1) (fun x hx => HUXq.out x hx), cell_grown gr8 (((Ext.refl w6).alloc _).at K6.2.2.1) (fun x hx => HUXq.out x hx), cell_grown gr8 (((Ext.refl w6).alloc _).at K6.2.2.2.1) (fun x hx => HUXq.out x hx), cell_grown gr8 (((Ext.refl w6).alloc _).at K6.2.2.2.2) (fun x hx => HUXq.out x hx)⟩))
                all_goals
                  have OU9 := Lib.hid (show OwnOf Rep.tup w8 (fun _ => True) w2.heap.size 77 (.slice (some ⟨g8, 0, none⟩) ((ys).length + 1) cap8) (splitT (l.take (k + 1)) Q) from by rw [HFIN.out]; exact own8)
                  have X9 := Lib.hid K8.1
                  clear own8 gr8 hg8 K8 K6 K5 X6a hS0
                  go_wp2_with fail
                  go_roundg (N - (k + 1))
                  case measure => omega
                  case rel => exact ⟨k + 1, _, by omega, rfl, by go_num, rfl, OU9.out, X9.out⟩
              · have hnge : ¬ tt ≤ p := hge
                by_cases hgt : f < p
                · rw [cutT, if_neg hge, if_pos hgt] at hcut
                  have HFIN := Lib.hid (show (ys ++ [⟨tv, f, p, tl⟩]) ++ cutT ⟨tv, tf, tt, tl⟩ p (R.drop (j + 1)) = ys0 ++ cutT ⟨tv, tf, tt, tl⟩ tf R from by rw [← hcut, List.append_assoc]; rfl)
                  have HFR := Lib.hid (show okI f ∧ okI p from ⟨HFO.out, hpo⟩)
                  have HPT2 := Lib.hid (show p < tt from by omega)
                  clear hcut hpo hyr
                  have OUq := OUI
                  have HUXq := HUXI
                  have HXq := Lib.hid AI.out.1
                  obtain ⟨a0, a1, a2, a3⟩ := AI.out.2
                  have HYB := Lib.hid (show ys.length ≤ 6000 from by have h1 := HYL.out; have h2 := HLEN.out; have h3 := HNR.out; have h4 := HQL.out; have h5 := HNRM.out; have h6 := HNQ.out; omega)
                  clear OUI HUXI
                  have eb := cell_lt a0
                  have HUL := Lib.hid (show ∀ x, (uq).ownBlock = some x → w2.heap.size ≤ x ∧ x < (wr).heap.size from fun x hx => OUq.out.lt x hx)
                  have B1 : (ys).length + 1 ≤ maxLen := by have := HYB.out; unfold maxLen; omega
                  have B2 : ((ys).length + 1) * 64 ≤ 140737488355328 := by have := HYB.out; omega
                  have HW24 := Lib.hid (show w2.heap.size ≤ (wr).heap.size from HXq.out.size)
                  have K4 := AI
                  go_wp2_with fail
                  refine (tup_row _ _ _ _ _ _ _ _ _).mono ?_
                  rintro e w5 ⟨rfl, g5⟩
                  have x5 := Gro.ext g5
                  have X5 := Lib.hid (show Ext (wr) w5 from x5)
                  have K5 : Ext w2 w5 ∧ w5.cell? ⟨bx, 0, none⟩ = some (.slice pa n1 ka) ∧ w5.cell? ⟨bx, 1, none⟩ = some (.int .i64 tf) ∧ w5.cell? ⟨bx, 2, none⟩ = some (.int .i64 tt) ∧ w5.cell? ⟨bx, 3, none⟩ = some (.slice pb n2 kb) := keepE4 (K4.out) x5
                  go_wp2_with fail
                  refine (during_any _ _ ⟨tv, tl⟩ f p _ (by exact G04.out.ext (HXq.out.trans X5.out).full) (by exact G14.out.ext (HXq.out.trans X5.out).full) HFK.out.1 HFK.out.2).mono ?_
                  rintro e w6 ⟨da, db, rfl, sa, sb, x6⟩
                  have SA := Lib.hid sa
                  have SB := Lib.hid sb
                  obtain ⟨pc, kc, rfl, _⟩ := sa.form
                  obtain ⟨pd, kd, rfl, _⟩ := sb.form
                  have X6 := Lib.hid (X5.out.trans x6)
                  have K6 : Ext w2 w6 ∧ w6.cell? ⟨bx, 0, none⟩ = some (.slice pa n1 ka) ∧ w6.cell? ⟨bx, 1, none⟩ = some (.int .i64 tf) ∧ w6.cell? ⟨bx, 2, none⟩ = some (.int .i64 tt) ∧ w6.cell? ⟨bx, 3, none⟩ = some (.slice pb n2 kb) := keepE4 K5 x6
                  dsimp only
                  dsimp only at SA SB
                  rw [← HN1.out] at SA
                  rw [← HN2.out] at SB
                  rw [← HN1.out, ← HN2.out]
                  clear sa sb
                  go_wp2_with (at_builtin; go_loud (refine wpList_append_one Rep.tup (fun _ => True) rfl _ _ 22 rfl w2.heap.size 77 i2 _ 64 Tryz.underlying22 hi2 hz20 hz21 hz22 rfl (by decide) (uq) (ys) rfl (by exact OUq.out.ext (X6.out.alloc _)) ⟨_, 0, none⟩ 1 ⟨tv, f, p, tl⟩ [.slice pc n1 kc, .int .i64 f, .int .i64 p, .slice pd n2 kd] rfl (by have hsub : ∀ (o : Obj), Sub (on w6 (since w5)) (on (w6.alloc o) (avoid (fun _ => True) (uq))) := fun o => (on_mono w6 fun x _ hx => ⟨fun e => by (have h1 := (HUL.out x e.symm).2; have h2 := X5.out.size; simp [since] at hx; omega), trivial⟩).trans (((Ext.refl w6).alloc o).sub _); exact ⟨_, _, rfl, SA.out.ext (hsub _), SB.out.ext (hsub _), by have h := HFR.out; exact h.1, by have h := HFR.out; exact h.2⟩) (by exact cells_new _ [.slice pc n1 kc, .int .i64 f, .int .i64 p, .slice pd n2 kd] _) B1 B2 (by exact Nat.le_trans HW24.out (X6.out.alloc (.cells [.slice pc n1 kc, .int .i64 f, .int .i64 p, .slice pd n2 kd].toArray 77)).size) ?_))
                  intro g8 cap8 w8 own8 gr8 hg8
                  have X6a := X6.out.alloc (.cells [.slice pc n1 kc, .int .i64 f, .int .i64 p, .slice pd n2 kd].toArray 77)
                  have K8 : Ext w2 w8 ∧ w8.cell? ⟨bx, 0, none⟩ = some (.slice pa n1 ka) ∧ w8.cell? ⟨bx, 1, none⟩ = some (.int .i64 tf) ∧ w8.cell? ⟨bx, 2, none⟩ = some (.int .i64 tt) ∧ w8.cell? ⟨bx, 3, none⟩ = some (.slice pb n2 kb) := ⟨ext_grown (HXq.out.trans X6a) gr8 (fun x hx => (HUL.out x hx).1), cell_grown gr8 (((Ext.refl w6).alloc _).at K6.2.1) (fun x hx => HUXq.out x hx), cell_grown gr8 (((Ext.refl w6).alloc _).at K6.2.2.1) (fun x hx => HUXq.out x hx), cell_grown gr8 (((Ext.refl w6).alloc _).at K6.2.2.2.1) (fun x hx => HUXq.out x hx), cell_grown gr8 (((Ext.refl w6).alloc _).at K6.2.2.2.2) (fun x hx => HUXq.out x hx)⟩
                  have OU9 := Lib.hid own8
                  have K9 := Lib.hid K8
                  have HU9 := Lib.hid (show ∀ x, (Value.slice (some ⟨g8, 0, none⟩) (ys.length + 1) cap8).ownBlock = some x → x ≠ bx from fun x hx => by
                    rcases hg8 with h | h
                    · exact HUXq.out x (h.trans hx)
                    · have h2 : g8 = x := Option.some.inj hx
                      have h3 : wr.heap.size ≤ g8 := by have h5 := X6.out.size; rw [h]; omega
                      intro h4
                      omega)
                  clear own8 gr8 hg8 K8 K6 K5 X6a a0 a1 a2 a3 c0
                  go_wp2_with fail
                  go_roundg (nr - (j + 1))
                  case measure => omega
                  case rel => exact ⟨j + 1, _, ys ++ [(⟨tv, f, p, tl⟩ : Tup)], p, by omega, rfl, by go_num, rfl, rfl, OU9.out, HFIN.out, HPT2.out, HFR.out.2, by have := HLEN.out; show (ys ++ [(⟨tv, f, p, tl⟩ : Tup)]).length ≤ ys0.length + (j + 1); simp; omega, K9.out, HU9.out⟩
                · rw [cutT, if_neg hge, if_neg hgt] at hcut
                  have HCUT2 := Lib.hid hcut
                  have AJ := AI
                  obtain ⟨_, a0, a1, a2, a3⟩ := AI.out
                  have eb := cell_lt a0
                  clear hcut hpo hyr HCUT
                  go_wp2_with fail
                  go_roundg (nr - (j + 1))
                  case measure => omega
                  case rel => exact ⟨j + 1, _, ys, f, by omega, rfl, by go_num, rfl, rfl, OUI.out, HCUT2.out, HFT.out, HFO.out, by have := HLEN.out; show ys.length ≤ ys0.length + (j + 1); omega, AJ.out, HUXI.out⟩
            · have hd : ¬ (j : Int) < (nr : Int) := by omega
              have hnil : R.drop j = [] := List.drop_eq_nil_of_le (by have := HNR.out; omega)
              have hcut := HCUT.out
              rw [hnil, cutT] at hcut
              have HFIN := Lib.hid (show splitT (l.take (k + 1)) Q = ys ++ [⟨tv, f, tt, tl⟩] from by rw [HFIN0.out, ← hcut])
              have HFR := Lib.hid (show okI f ∧ okI tt from ⟨HFO.out, HRR.out.2⟩)
              clear hcut hnil
              have OUq := OUI
              have HUXq := HUXI
              have HXq := Lib.hid AI.out.1
              obtain ⟨a0, a1, a2, a3⟩ := AI.out.2
              have HYB := Lib.hid (show ys.length ≤ 6000 from by have h1 := HYL.out; have h2 := HLEN.out; have h3 := HNR.out; have h4 := HQL.out; have h5 := HNRM.out; have h6 := HNQ.out; omega)
              clear OUI HUXI
              have eb := cell_lt a0
              have HUL := Lib.hid (show ∀ x, (uq).ownBlock = some x → w2.heap.size ≤ x ∧ x < (wr).heap.size from fun x hx => OUq.out.lt x hx)
              have B1 : (ys).length + 1 ≤ maxLen := by have := HYB.out; unfold maxLen; omega
              have B2 : ((ys).length + 1) * 64 ≤ 140737488355328 := by have := HYB.out; omega
              have HW24 := Lib.hid (show w2.heap.size ≤ (wr).heap.size from HXq.out.size)
              have hS0 : Ext w2 (wr).drew ∧ (wr).drew.cell? ⟨bx, 0, none⟩ = some (.slice pa n1 ka) ∧ (wr).drew.cell? ⟨bx, 1, none⟩ = some (.int .i64 tf) ∧ (wr).drew.cell? ⟨bx, 2, none⟩ = some (.int .i64 tt) ∧ (wr).drew.cell? ⟨bx, 3, none⟩ = some (.slice pb n2 kb) := ⟨HXq.out.drew, a0, a1, a2, a3⟩
              go_wp2_with fail
              go_upto_region 17 with fail
              clear a0 a1 a2 a3
              go_region_held3 (fun w' => Ext w2 w' ∧ w'.cell? ⟨bx, 0, none⟩ = some (.slice pa n1 ka) ∧ w'.cell? ⟨bx, 1, none⟩ = some (.int .i64 tf) ∧ w'.cell? ⟨bx, 2, none⟩ = some (.int .i64 tt) ∧ w'.cell? ⟨bx, 3, none⟩ = some (.slice pb n2 kb))
                (first | with_reducible assumption | with_reducible exact keepE4 (by assumption) ((Ext.refl _).alloc _))
                (first
                  | (go_at_call 55; refine (tup_row _ _ _ _ _ _ _ _ _).mono ?_; rintro e w5 ⟨rfl, g5⟩; have x5 := Gro.ext g5; have X5 := Lib.hid (show Ext (wr) w5 from (Ext.refl _).drew.trans x5); have K5 : Ext w2 w5 ∧ w5.cell? ⟨bx, 0, none⟩ = some (.slice pa n1 ka) ∧ w5.cell? ⟨bx, 1, none⟩ = some (.int .i64 tf) ∧ w5.cell? ⟨bx, 2, none⟩ = some (.int .i64 tt) ∧ w5.cell? ⟨bx, 3, none⟩ = some (.slice pb n2 kb) := keepE4 (hS0) x5)
                  | (go_at_call 46; refine (during_any _ _ ⟨tv, tl⟩ f tt _ (by exact G04.out.ext (HXq.out.trans X5.out).full) (by exact G14.out.ext (HXq.out.trans X5.out).full) HFK.out.1 HFK.out.2).mono ?_; rintro e w6 ⟨da, db, rfl, sa, sb, x6⟩; have SA := Lib.hid sa; have SB := Lib.hid sb; obtain ⟨pc, kc, rfl, _⟩ := sa.form; obtain ⟨pd, kd, rfl, _⟩ := sb.form; have X6 := Lib.hid (X5.out.trans x6); have K6 : Ext w2 w6 ∧ w6.cell? ⟨bx, 0, none⟩ = some (.slice pa n1 ka) ∧ w6.cell? ⟨bx, 1, none⟩ = some (.int .i64 tf) ∧ w6.cell? ⟨bx, 2, none⟩ = some (.int .i64 tt) ∧ w6.cell? ⟨bx, 3, none⟩ = some (.slice pb n2 kb) := keepE4 K5 x6; dsimp only; dsimp only at SA SB; rw [← HN1.out] at SA; rw [← HN2.out] at SB; rw [← HN1.out, ← HN2.out]; clear sa sb)
                  | (refine step_append_one Rep.tup (fun _ => True) rfl _ _ 22 rfl w2.heap.size 77 i2 _ 64 Tryz.underlying22 hi2 hz20 hz21 hz22 rfl (by decide) (uq) (ys) rfl (by exact OUq.out.ext (X6.out.alloc _)) ⟨_, 0, none⟩ 1 ⟨tv, f, tt, tl⟩ [.slice pc n1 kc, .int .i64 f, .int .i64 tt, .slice pd n2 kd] rfl (by have hsub : ∀ (o : Obj), Sub (on w6 (since w5)) (on (w6.alloc o) (avoid (fun _ => True) (uq))) := fun o => (on_mono w6 fun x _ hx => ⟨fun e => by (have h1 := (HUL.out x e.symm).2; have h2 := X5.out.size; simp [since] at hx; omega), trivial⟩).trans (((Ext.refl w6).alloc o).sub _); exact ⟨_, _, rfl, SA.out.ext (hsub _), SB.out.ext (hsub _), by have h := HFR.out; exact h.1, by have h := HFR.out; exact h.2⟩) (by exact cells_new _ [.slice pc n1 kc, .int .i64 f, .int .i64 tt, .slice pd n2 kd] _) B1 B2 (by exact Nat.le_trans HW24.out (X6.out.alloc (.cells [.slice pc n1 kc, .int .i64 f, .int .i64 tt, .slice pd n2 kd].toArray 77)).size) ?_; intro g8 cap8 w8 own8 gr8 hg8; have X6a := X6.out.alloc (.cells [.slice pc n1 kc, .int .i64 f, .int .i64 tt, .slice pd n2 kd].toArray 77); have K8 : Ext w2 w8 ∧ w8.cell? ⟨bx, 0, none⟩ = some (.slice pa n1 ka) ∧ w8.cell? ⟨bx, 1, none⟩ = some (.int .i64 tf) ∧ w8.cell? ⟨bx, 2, none⟩ = some (.int .i64 tt) ∧ w8.cell? ⟨bx, 3, none⟩ = some (.slice pb n2 kb) := ⟨ext_grown (HXq.out.trans X6a) gr8 (fun x hx => (HUL.out x hx).1), cell_grown gr8 (((Ext.refl w6).alloc _).at K6.2.1) (fun x hx => HUXq.out x hx), cell_grown gr8 (((Ext.refl w6).alloc _).at K6.2.2.1) (fun x hx => HUXq.out x hx), cell_grown gr8 (((Ext.refl w6).alloc _).at K6.2.2.2.1) (fun x hx => HUXq.out x hx), cell_grown gr8 (((Ext.refl w6).alloc _).at K6.2.2.2.2) (fun x hx => HUXq.out x hx)⟩))
              all_goals
                have OU9 := Lib.hid (show OwnOf Rep.tup w8 (fun _ => True) w2.heap.size 77 (.slice (some ⟨g8, 0, none⟩) ((ys).length + 1) cap8) (splitT (l.take (k + 1)) Q) from by rw [HFIN.out]; exact own8)
                have X9 := Lib.hid K8.1
                clear own8 gr8 hg8 K8 K6 K5 X6a hS0
                go_wp2_with fail
                go_roundg (N - (k + 1))
                case measure => omega
                case rel => exact ⟨k + 1, _, by omega, rfl, by go_num, rfl, OU9.out, X9.out⟩

    · have hkN : k = N := by omega
      have hd : ¬ (k : Int) < (N : Int) := by omega
      have HFI := Lib.hid (show l.take k = l from by rw [hkN, HN.out, List.take_length])
      have HX := Lib.hid (X2.out.trans hx)
      have HO := Lib.hid (OU.out.weak (S := fun _ => True) (T := fun _ => True) (fun _ _ h => h) X2.out.size)
      clear hkN hx OU
      go_wp2_with fail
      go_ret
      exact ⟨_, rfl, by have h := HO.out; rw [HFI.out] at h; exact h, HX.out⟩

end Go.Proofs.YtdgpbpbjlnlijaaGreatDoor

/- plain: the grouping of a day depends on that day's timeslice alone; no program in sight -/
namespace Go.Proofs.YtdgpbpbjlnlijaaGreatDoor
open Go.RowKit

def daySlice (l : List Tup) (t : Int) : List Row := if 0 ≤ t ∧ t < 1000000 then sliceRows l t else []
theorem clip_slice (l : List Tup) (t : Int) : sliceRows (clipT l) t = daySlice l t := by
  unfold daySlice
  induction l with
  | nil => split <;> rfl
  | cons x l ih =>
    have e1 : sliceRows (x :: l) t = sliceRows [x] t ++ sliceRows l t := sliceRows_append [x] l t
    have e2 : sliceRows (clipT (x :: l)) t = sliceRows (clipT [x]) t ++ sliceRows (clipT l) t := by
      rw [← sliceRows_append]
      unfold clipT
      rw [← List.filterMap_append]
      rfl
    have e3 : sliceRows (clipT [x]) t = if 0 ≤ t ∧ t < 1000000 then sliceRows [x] t else [] := by
      unfold clipT
      rw [List.filterMap_cons, List.filterMap_nil]
      have hx : sliceRows [x] t = if holdsAt t x = true then [tupRow x] else [] := by
        unfold sliceRows
        rw [List.filter_cons, List.filter_nil]
        split <;> rfl
      rw [hx]
      cases hc : clip1 x with
      | none =>
        unfold clip1 at hc
        split at hc
        · cases hc
        · rename_i c
          show ([] : List Row) = _
          split
          · rename_i c2
            rw [if_neg]
            intro hh
            unfold holdsAt at hh
            simp only [Bool.and_eq_true, decide_eq_true_eq] at hh
            apply c
            exact ⟨hh.1.1, by omega⟩
          · rfl
      | some y =>
        unfold clip1 at hc
        split at hc
        · rename_i c
          cases hc
          show sliceRows [_] t = _
          unfold sliceRows
          rw [List.filter_cons, List.filter_nil]
          have hv : validT (⟨x.vals, max x.from_ 0, min x.to_ 1000000, x.lin⟩ : Tup) = true := by
            have := validB_lt (show validB x.from_ x.to_ = true from c.1)
            unfold validT validB
            simp only [Bool.and_eq_true, decide_eq_true_eq]
            omega
          unfold holdsAt
          rw [hv, c.1, Bool.true_and, Bool.true_and]
          simp only [Bool.and_eq_true, decide_eq_true_eq]
          by_cases c2 : 0 ≤ t ∧ t < 1000000
          · rw [if_pos c2]
            by_cases c3 : x.from_ ≤ t ∧ t < x.to_
            · rw [if_pos c3, if_pos (by omega)]; rfl
            · rw [if_neg c3, if_neg (by omega)]; rfl
          · rw [if_neg c2, if_neg (by omega)]; rfl
        · cases hc
    rw [e2, e1, e3, ih]
    split <;> simp
theorem flat_single {α β : Type} (p : α → Prop) [DecidablePred p] (f : α → β) (l : List α) : (l.flatMap fun x => if p x then [f x] else []) = (l.filter fun x => decide (p x)).map f := by
  induction l with
  | nil => rfl
  | cons x l ih =>
    rw [List.flatMap_cons, ih, List.filter_cons]
    by_cases c : p x
    · rw [if_pos c, if_pos (by simpa using c)]; rfl
    · rw [if_neg c, if_neg (by simpa using c)]; rfl
section
open Classical
variable (proj : List Val → List Val) (aggV : List (List Val) → List Val)
def gRowS (kv : List Val) (S : List Row) : Row := ⟨kv ++ aggV (S.map Row.vals), mergeL (S.flatMap Row.lin) []⟩
theorem gRow_S (kv : List Val) (ms : List Tup) (t : Int) : gRow aggV kv ms t = gRowS aggV kv (sliceRows ms t) := by
  unfold gRow gRowS sliceRows
  rw [List.map_map, List.flatMap_map]
  rfl
noncomputable def selS (S : List Row) (kv : List Val) : List Row := S.filter fun r => decide (proj r.vals = kv)
theorem gMem_slice (l : List Tup) (kv : List Val) (t : Int) : sliceRows (gMem proj l kv) t = selS proj (daySlice l t) kv := by
  rw [← clip_slice]
  unfold gMem selS sliceRows
  rw [List.filter_map, List.filter_filter, List.filter_filter]
  congr 1
  refine List.filter_congr fun x _ => ?_
  rw [Bool.and_comm]
  rfl
/-- the snapshot grouping -/
noncomputable def gSnap (always : Bool) (S : List Row) : List Row := (if always = true then [[]] else once (S.map fun r => proj r.vals)).map fun kv => gRowS aggV kv (selS proj S kv)
theorem any_slice (ms : List Tup) (t : Int) : ms.any (holdsAt t) = true ↔ sliceRows ms t ≠ [] := by
  unfold sliceRows
  rw [List.any_eq_true, ne_eq, List.map_eq_nil_iff, List.filter_eq_nil_iff]
  constructor
  · rintro ⟨x, hx, h⟩ g; exact g x hx h
  · intro g
    rcases Classical.em (∃ x ∈ ms, holdsAt t x = true) with h | h
    · exact h
    · exact absurd (fun x hx hh => h ⟨x, hx, hh⟩) g
theorem rowsAt_snap (always : Bool) (l : List Tup) (t : Int) : (rowsAt proj aggV always l t).Perm (if always = true ∧ ¬ (0 ≤ t ∧ t < 1000000) then [] else gSnap proj aggV always (daySlice l t)) := by
  unfold rowsAt
  have e : ((gKeys proj always l).flatMap fun kv => if (always = true ∧ 0 ≤ t ∧ t < 1000000) ∨ (always = false ∧ (gMem proj l kv).any (holdsAt t) = true) then [gRow aggV kv (gMem proj l kv) t] else []) = ((gKeys proj always l).filter fun kv => decide ((always = true ∧ 0 ≤ t ∧ t < 1000000) ∨ (always = false ∧ (gMem proj l kv).any (holdsAt t) = true))).map fun kv => gRowS aggV kv (selS proj (daySlice l t) kv) := by
    rw [← flat_single (fun kv => (always = true ∧ 0 ≤ t ∧ t < 1000000) ∨ (always = false ∧ (gMem proj l kv).any (holdsAt t) = true))]
    refine flat_congr fun kv _ => ?_
    rw [gRow_S, gMem_slice]
  rw [e]
  cases always with
  | true =>
    unfold gKeys gSnap
    rw [if_pos rfl]
    by_cases c : 0 ≤ t ∧ t < 1000000
    · rw [if_neg (fun h => h.2 c), List.filter_cons, if_pos (by simp [c]), List.filter_nil]
      exact .refl _
    · rw [if_pos ⟨rfl, c⟩, List.filter_cons, if_neg (by simp; omega), List.filter_nil]
      exact .refl _
  | false =>
    rw [if_neg (by simp)]
    unfold gSnap
    rw [if_neg (by simp)]
    refine List.Perm.map _ ((List.perm_ext_iff_of_nodup ((gKeys_nodup proj false l).filter _) (once_nodup _)).2 fun kv => ?_)
    rw [List.mem_filter, mem_once, decide_eq_true_eq, any_slice, gMem_slice]
    have hk : (∃ r ∈ daySlice l t, proj r.vals = kv) ↔ selS proj (daySlice l t) kv ≠ [] := by
      unfold selS
      rw [ne_eq, List.filter_eq_nil_iff]
      constructor
      · rintro ⟨r, hr, h⟩ g; exact g r hr (by simpa using h)
      · intro g
        rcases Classical.em (∃ r ∈ daySlice l t, proj r.vals = kv) with h | h
        · exact h
        · exact absurd (fun r hr hh => h ⟨r, hr, by simpa using hh⟩) g
    rw [List.mem_map]
    constructor
    · rintro ⟨_, h | h⟩
      · exact absurd h.1 (by decide)
      · exact hk.2 h.2
    · intro h
      refine ⟨?_, .inr ⟨rfl, hk.1 h⟩⟩
      unfold gKeys
      rw [if_neg (by decide), mem_once, List.mem_map]
      obtain ⟨r, hr, hk2⟩ := h
      rw [← clip_slice] at hr
      unfold sliceRows at hr
      obtain ⟨x, hx, rfl⟩ := List.mem_map.1 hr
      exact ⟨x, (List.mem_filter.1 hx).1, hk2⟩
theorem agg_snap (always : Bool) (l : List Tup) (t : Int) : (sliceRows (aggT proj aggV always l) t).Perm (if always = true ∧ ¬ (0 ≤ t ∧ t < 1000000) then [] else gSnap proj aggV always (daySlice l t)) := (agg_rows proj aggV always l t).trans (rowsAt_snap proj aggV always l t)
theorem agg_congr (always : Bool) {a b : List Tup} (h : ∀ t, sliceRows a t = sliceRows b t) : aggT proj aggV always a = aggT proj aggV always b := by
  have hd : ∀ t, daySlice a t = daySlice b t := fun t => by unfold daySlice; rw [h]
  have key : ∀ t, (sliceRows (aggT proj aggV always a) t).Perm (sliceRows (aggT proj aggV always b) t) := fun t => by
    refine (agg_snap proj aggV always a t).trans ?_
    rw [hd]
    exact (agg_snap proj aggV always b t).symm
  have e1 : aggT proj aggV always a = normT (aggT proj aggV always a) := (normT_idem _).symm
  have e2 : aggT proj aggV always b = normT (aggT proj aggV always b) := (normT_idem _).symm
  rw [e1, e2]
  exact normT_congr key
theorem agg_normal (always : Bool) (l : List Tup) : normT (aggT proj aggV always l) = aggT proj aggV always l := normT_idem _
end

end Go.Proofs.YtdgpbpbjlnlijaaGreatDoor

/- plain: the aggregate of a few tuples is small; a cut tuple keeps its row -/
namespace Go.Proofs.YtdgpbpbjlnlijaaGreatDoor
open Go.RowKit

open Classical in
theorem filt_sum {α β : Type} (f : α → β) : ∀ (done : List β) (l : List α), done.Nodup → (done.map fun r => (l.filter fun t => decide (f t = r)).length).sum ≤ l.length := by
  intro done
  induction done with
  | nil => intro l _; exact Nat.zero_le _
  | cons r done ih =>
    intro l hnd
    obtain ⟨h1, h2⟩ := List.nodup_cons.1 hnd
    have h3 := ih (l.filter fun t => !decide (f t = r)) h2
    have h4 : (done.map fun s => ((l.filter fun t => !decide (f t = r)).filter fun t => decide (f t = s)).length) = done.map fun s => (l.filter fun t => decide (f t = s)).length := by
      refine List.map_congr_left fun s hs => ?_
      have hne : s ≠ r := fun e => h1 (e ▸ hs)
      rw [List.filter_filter]
      congr 2
      funext t
      by_cases h : f t = s
      · simp [h, hne]
      · simp [h]
    rw [h4] at h3
    have h5 : ∀ m : List α, (m.filter fun t => decide (f t = r)).length + (m.filter fun t => !decide (f t = r)).length = m.length := fun m => by
      induction m with
      | nil => rfl
      | cons y m ih =>
        rw [List.filter_cons, List.filter_cons]
        by_cases h : f y = r
        · simp only [h, decide_true, Bool.not_true, if_true, Bool.false_eq_true, if_false, List.length_cons]; omega
        · simp only [h, decide_false, Bool.not_false, if_true, Bool.false_eq_true, if_false, List.length_cons]; omega
    have h6 := h5 l
    rw [List.map_cons, List.sum_cons]
    omega
open Classical in
theorem normT_len2 (l : List Tup) : (normT l).length ≤ 2 * l.length * l.length := by
  unfold normT
  rw [sortBy_length]
  have h : ∀ ks : List Row, (normRaw ks l).length ≤ 2 * l.length * (ks.map fun r => (persOf r l).length).sum := fun ks => by
    induction ks with
    | nil => exact Nat.zero_le _
    | cons r ks ih =>
      unfold normRaw at *
      rw [List.flatMap_cons, List.length_append, List.length_map, List.map_cons, List.sum_cons, Nat.mul_add]
      have h1 := levels_len (persOf r l)
      have h2 := persOf_len r l
      have h3 : (persOf r l).length * (2 * (persOf r l).length) ≤ (2 * l.length) * (persOf r l).length := by
        rw [Nat.mul_comm]
        exact Nat.mul_le_mul_right _ (Nat.mul_le_mul_left _ h2)
      omega
  have h1 := h (rowsOf l)
  have h2 : ((rowsOf l).map fun r => (persOf r l).length).sum ≤ l.length := by
    have h3 := filt_sum tupRow (rowsOf l) (l.filter validT) (once_nodup _)
    have h4 : ((rowsOf l).map fun r => (persOf r l).length) = (rowsOf l).map fun r => ((l.filter validT).filter fun t => decide (tupRow t = r)).length := by
      refine List.map_congr_left fun r _ => ?_
      unfold persOf
      rw [List.length_map]
    rw [h4]
    exact Nat.le_trans h3 (List.length_filter_le _ _)
  exact Nat.le_trans h1 (Nat.mul_le_mul_left _ h2)
theorem normT_from {l : List Tup} {t : Tup} (h : t ∈ normT l) : ∃ u ∈ l, t.vals = u.vals ∧ t.lin = u.lin := by
  unfold normT at h
  have h := (sortBy_perm _ _).mem_iff.1 h
  unfold normRaw at h
  obtain ⟨r, h1, h2⟩ := List.mem_flatMap.1 h
  obtain ⟨p, _, rfl⟩ := List.mem_map.1 h2
  unfold rowsOf at h1
  rw [mem_once, List.mem_map] at h1
  obtain ⟨u, h3, rfl⟩ := h1
  exact ⟨u, (List.mem_filter.1 h3).1, rfl, rfl⟩
theorem agg_fitN {es : List ExprI} {keys : List Int} {aggV : List (List Val) → List Val} {l : List Tup} (hl : l.length ≤ 10) (hkl : keys.length ≤ 1000) (hf : ∀ t ∈ l, fitVals t.vals ∧ t.lin.length ≤ 256)
    (hfit : ∀ vss, (∀ vs ∈ vss, ∃ u ∈ l, vs = u.vals) → (aggV vss).length ≤ 1000 ∧ ∀ x ∈ aggV vss, x.s.size ≤ 1048576) (always : Bool) : fitN (aggT (projC es keys) aggV always l) := by
  have hraw : aggRaw (projC es keys) aggV always l = rawG (projC es keys) aggV always (clipT l) (gKeys (projC es keys) always l) := rfl
  have hkl2 := gKeys_len (projC es keys) always l
  have hnd : (gKeys (projC es keys) always l).Nodup := by
    unfold gKeys
    split
    · simp
    · exact once_nodup _
  have h1 : fitN (aggRaw (projC es keys) aggV always l) := by
    rw [hraw]
    refine rawG_fit (l := l) (fun y hy => clip_from hy) (Nat.le_trans (clip_len l) (by omega)) (by omega) hnd hf hfit fun kv hkv => ?_
    unfold gKeys at hkv
    split at hkv
    · rw [List.mem_singleton] at hkv; subst hkv; exact ⟨Nat.zero_le _, fun x hx => by cases hx⟩
    · obtain ⟨y, hy, rfl⟩ := List.mem_map.1 (mem_once.1 hkv)
      obtain ⟨u, hu, hv, _⟩ := clip_from hy
      refine ⟨by rw [proj_len]; exact hkl, ?_⟩
      rw [hv]
      exact proj_fit es keys (hf u hu).1.2
  have h2 := aggRaw_len (projC es keys) aggV always l
  unfold aggT
  refine ⟨?_, fun t ht => ?_⟩
  · have h3 := normT_len2 (aggRaw (projC es keys) aggV always l)
    have h4 : 2 * (aggRaw (projC es keys) aggV always l).length * (aggRaw (projC es keys) aggV always l).length ≤ 2 * 42 * 42 := Nat.mul_le_mul (by omega) (by omega)
    omega
  · obtain ⟨u, hu, e1, e2⟩ := normT_from ht
    rw [e1, e2]
    exact h1.2 u hu
theorem cutT_from (t : Tup) : ∀ (P : List Int) (f : Int), ∀ y ∈ cutT t f P, y.vals = t.vals ∧ y.lin = t.lin := by
  intro P
  induction P with
  | nil => intro f y hy; simp only [cutT, List.mem_singleton] at hy; subst hy; exact ⟨rfl, rfl⟩
  | cons p P ih =>
    intro f y hy
    unfold cutT at hy
    split at hy
    · simp only [List.mem_singleton] at hy; subst hy; exact ⟨rfl, rfl⟩
    split at hy
    · rcases List.mem_cons.1 hy with rfl | hy
      · exact ⟨rfl, rfl⟩
      · exact ih p y hy
    · exact ih f y hy
theorem splitT_from {l : List Tup} {P : List Int} {y : Tup} (h : y ∈ splitT l P) : ∃ u ∈ l, y.vals = u.vals ∧ y.lin = u.lin := by
  unfold splitT at h
  obtain ⟨u, h1, h2⟩ := List.mem_flatMap.1 h
  split at h2
  · exact ⟨u, h1, cutT_from u P _ y h2⟩
  · cases h2

end Go.Proofs.YtdgpbpbjlnlijaaGreatDoor

/- the reference's row, SameTuples of equal lists -/
namespace Go.Proofs.YtdgpbpbjlnlijaaGreatDoor
open Go.RowKit

set_option maxHeartbeats 1000000 in
theorem row_ref (p : Option Addr) (n c : Nat) (q : Option Addr) (m d : Nat) (f t : Int) (w : World) :
    Calls Tryz.prog 40 #[.agg #[.slice p n c, .int .i64 f, .int .i64 t, .slice q m d]] w fun e w' => e = .returned (.agg #[.slice p n c, .slice q m d]) ∧ Ext w w' := by
  go_enter Tryz.func40, Tryz.ntmps40
  go_wp2_with fail
  exact bodyPost_ret (v := .agg #[.slice p n c, .slice q m d]) (by simp [results, Tryz.results40, go_sem]) rfl ⟨rfl, ((Ext.refl w).alloc _).alloc _⟩

set_option maxRecDepth 100000 in
set_option maxHeartbeats 4000000 in
theorem same_tuples (va vb : Value) (l : List Tup) (w : World) (ha : SliceOf Rep.tup w.cell? va l) (hb : SliceOf Rep.tup w.cell? vb l) :
    Calls Tryz.prog 16 #[va, vb] w fun e w' => e = .returned (.bool true) ∧ Ext w w' := by
  obtain ⟨pa, ca, rfl, ha1, ha2, ha3⟩ := ha.form
  obtain ⟨pb, cb, rfl, hb1, hb2, hb3⟩ := hb.form
  unfold maxLen at ha2 hb2
  obtain ⟨N, hN⟩ : ∃ N, N = l.length := ⟨_, rfl⟩
  rw [← hN] at ha1 ha3 hb1 hb3 ha hb ⊢
  have HN := Lib.hid hN
  have HA := Lib.hid ha
  have HB := Lib.hid hb
  have HP := Lib.hid (And.intro ha3 hb3)
  clear ha hb hN ha3 hb3
  go_enter Tryz.func16, Tryz.ntmps16
  go_wp2_with fail
  go_loopg [5] N (fun gk i wr => ∃ k : Nat, k ≤ N ∧ gk = N - k ∧ i = .int .i64 k ∧ Ext w wr)
  case atStart => exact ⟨0, by omega, rfl, rfl, Ext.refl w⟩
  case round =>
    obtain ⟨k, hk, rfl, rfl, hx⟩ := hrel
    by_cases hlt : k < N
    · have hkl : k < l.length := by have := HN.out; omega
      obtain ⟨ba, oa, rfl⟩ := HP.out.1 (by decide) (by omega)
      obtain ⟨bb, ob, rfl⟩ := HP.out.2 (by decide) (by omega)
      have hva := HA.out
      have hvb := HB.out
      rw [HN.out] at hva hvb
      obtain ⟨u1, u2, c1, c2, c3, c4, s1, s2, _, _⟩ := tup_at hva k hkl
      obtain ⟨v1, v2, d1, d2, d3, d4, t1, t2, _, _⟩ := tup_at hvb k hkl
      generalize l[k] = x at c2 c3 d2 d3 s1 s2 t1 t2
      replace c1 := hx.at c1
      replace c2 := hx.at c2
      replace c3 := hx.at c3
      replace c4 := hx.at c4
      replace d1 := hx.at d1
      replace d2 := hx.at d2
      replace d3 := hx.at d3
      replace d4 := hx.at d4
      obtain ⟨p1, q1, rfl, _⟩ := s1.form
      obtain ⟨p2, q2, rfl, _⟩ := s2.form
      obtain ⟨p3, q3, rfl, _⟩ := t1.form
      obtain ⟨p4, q4, rfl, _⟩ := t2.form
      have S1 := Lib.hid (s1.ext hx.full)
      have S2 := Lib.hid (s2.ext hx.full)
      have T1 := Lib.hid (t1.ext hx.full)
      have T2 := Lib.hid (t2.ext hx.full)
      obtain ⟨xv, xf, xt, xl⟩ := x
      dsimp only at c2 c3 d2 d3 c1 c4 d1 d4 S1 S2 T1 T2
      obtain ⟨n1, hn1⟩ : ∃ n, n = xv.length := ⟨_, rfl⟩
      obtain ⟨n2, hn2⟩ : ∃ n, n = xl.length := ⟨_, rfl⟩
      have HX0 := Lib.hid hx
      rw [← hn1] at c1 d1 S1 T1
      rw [← hn2] at c4 d4 S2 T2
      have hd : decide ((k : Int) < (N : Int)) = true := by simp; omega
      have hd1 : (k : Int) < (N : Int) := by omega
      have hS0 : Ext wr wr.drew ∧ wr.drew.cell? ⟨ba, oa + k * 4, none⟩ = some (.slice p1 n1 q1) ∧ wr.drew.cell? ⟨ba, oa + k * 4 + 1, none⟩ = some (.int .i64 xf) ∧ wr.drew.cell? ⟨ba, oa + k * 4 + 2, none⟩ = some (.int .i64 xt) ∧ wr.drew.cell? ⟨ba, oa + k * 4 + 3, none⟩ = some (.slice p2 n2 q2) ∧ wr.drew.cell? ⟨bb, ob + k * 4, none⟩ = some (.slice p3 n1 q3) ∧ wr.drew.cell? ⟨bb, ob + k * 4 + 1, none⟩ = some (.int .i64 xf) ∧ wr.drew.cell? ⟨bb, ob + k * 4 + 2, none⟩ = some (.int .i64 xt) ∧ wr.drew.cell? ⟨bb, ob + k * 4 + 3, none⟩ = some (.slice p4 n2 q4) := ⟨(Ext.refl wr).drew, c1, c2, c3, c4, d1, d2, d3, d4⟩
      clear s1 s2 t1 t2 hn1 hn2 hva hvb hx c1 c2 c3 c4 d1 d2 d3 d4
      go_wp2_with fail
      go_region_held3 (fun w' => Ext wr w' ∧ w'.cell? ⟨ba, oa + k * 4, none⟩ = some (.slice p1 n1 q1) ∧ w'.cell? ⟨ba, oa + k * 4 + 1, none⟩ = some (.int .i64 xf) ∧ w'.cell? ⟨ba, oa + k * 4 + 2, none⟩ = some (.int .i64 xt) ∧ w'.cell? ⟨ba, oa + k * 4 + 3, none⟩ = some (.slice p2 n2 q2) ∧ w'.cell? ⟨bb, ob + k * 4, none⟩ = some (.slice p3 n1 q3) ∧ w'.cell? ⟨bb, ob + k * 4 + 1, none⟩ = some (.int .i64 xf) ∧ w'.cell? ⟨bb, ob + k * 4 + 2, none⟩ = some (.int .i64 xt) ∧ w'.cell? ⟨bb, ob + k * 4 + 3, none⟩ = some (.slice p4 n2 q4))
        (first | with_reducible assumption | with_reducible exact keepE8 (by assumption) hx2)
        (first
          | (go_at_call 40; refine (row_ref _ _ _ _ _ _ _ _ _).mono ?_; rintro e w2 ⟨rfl, hx2⟩)
          | (go_at_call 39; refine (ref_sameRow _ _ _ _ ⟨xv, xl⟩ ⟨xv, xl⟩ _ (by exact S1.out.ext (And.left ‹Ext wr _ ∧ _›).full) (by exact T1.out.ext (And.left ‹Ext wr _ ∧ _›).full) (by exact S2.out.ext (And.left ‹Ext wr _ ∧ _›).full) (by exact T2.out.ext (And.left ‹Ext wr _ ∧ _›).full)).mono ?_; rintro e w2 ⟨rfl, hg2⟩; have hx2 := Gro.ext hg2))
      all_goals (obtain ⟨hfin, _⟩ := ‹Ext wr _ ∧ _›)
      all_goals (have HF := Lib.hid (HX0.out.trans hfin))
      all_goals (have hq : eqB (⟨xv, xl⟩ : Row) ⟨xv, xl⟩ = true := eqB_iff.2 rfl)
      all_goals rw [hq]
      all_goals go_wp2_with fail
      all_goals
        go_roundg (N - (k + 1))
        case measure => omega
        case rel => exact ⟨k + 1, by omega, rfl, by go_num, HF.out⟩
    · have hd : ¬ (k : Int) < (N : Int) := by omega
      go_wp2_with fail
      go_ret
      exact ⟨rfl, hx⟩

end Go.Proofs.YtdgpbpbjlnlijaaGreatDoor

/- the walk of GroupSplits -/
namespace Go.Proofs.YtdgpbpbjlnlijaaGreatDoor
open Go.RowKit Go.Maps

set_option maxRecDepth 100000 in
set_option maxHeartbeats 8000000 in
theorem GroupSplits_walk (v0 : Value) (x : List Num5) (k c : Int) (v3 : Value) (P : List Int) {w : World} (s0 : SliceOf Rep.num w.cell? v0 x) (hk : (Lit.int .u8 k).wf = true) (hc : (Lit.int .u8 c).wf = true) (s3 : SliceOf Rep.int w.cell? v3 P) (hT : TabW w) (hD : DaysW w) :
    Calls Tryz.prog 7 #[v0, .int .u8 k, .int .u8 c, v3] w fun e w' => e = .returned (.bool true) ∧ Ext w w' := by
  have S0 := Lib.hid s0
  have S3 := Lib.hid s3
  obtain ⟨p0, q0, rfl, _⟩ := s0.form
  obtain ⟨p3, q3, rfl, _⟩ := s3.form
  have hcm : 0 ≤ c ∧ c ≤ 255 := by simpa [Lit.wf, IntKind.min, IntKind.max, IntKind.signed, IntKind.bits] using hc
  have hkm : 0 ≤ k ∧ k ≤ 255 := by simpa [Lit.wf, IntKind.min, IntKind.max, IntKind.signed, IntKind.bits] using hk
  have HCM := Lib.hid hcm
  have HKM := Lib.hid hkm
  have HT := Lib.hid (And.intro hT hD)
  obtain ⟨np, hnp⟩ : ∃ n, n = P.length := ⟨_, rfl⟩
  have HNP := Lib.hid hnp
  rw [← hnp]
  clear s0 s3 hk hc hT hD hcm hkm hnp
  by_cases hpl : np ≤ 12
  · have hpI : ¬ (12 : Int) < (np : Int) := by omega
    go_enter Tryz.func7, Tryz.ntmps7
    go_wp2_with fail
    refine (tuples_gen _ x 8 (by decide) _ S0.out).mono ?_
    rintro e w1 ⟨u1, rfl, t1, x1⟩
    have la := genTups_len x 8
    have fa := genTups_fit2 x 8
    generalize genTups x 8 = a at t1 la fa
    obtain ⟨r1, k1, rfl, _⟩ := t1.form
    have T1 := Lib.hid (t1.ext (on_sub _ _))
    have X1 := Lib.hid x1
    have HL := Lib.hid la
    have HFA := Lib.hid fa
    clear t1 x1 la fa S0
    go_wp2_with fail
    refine (exprs_any _).mono ?_
    rintro e w2 ⟨u2, rfl, t2, x2⟩
    obtain ⟨pe, ce, rfl, _⟩ := t2.form
    have HE := Lib.hid t2
    replace T1 := Lib.hid (T1.out.ext x2.full)
    have X2 := Lib.hid (X1.out.trans x2)
    clear t2 x2 X1
    go_wp2_with fail
    refine (keysOf_any k _ HKM.out.1 HKM.out.2).mono ?_
    rintro e w3 ⟨u3, rfl, t3, x3⟩
    have hkl := keysL_len k
    have hki := keysL_in k
    obtain ⟨ks, hks⟩ : ∃ z, z = keysL k := ⟨_, rfl⟩
    rw [← hks] at t3 hkl hki
    have HKS0 := Lib.hid hks
    obtain ⟨pk, ck, rfl, _⟩ := t3.form
    have HKS := Lib.hid t3
    have HKL := Lib.hid (And.intro hkl hki)
    have X23 := Lib.hid x3
    replace T1 := Lib.hid (T1.out.ext x3.full)
    replace HE := Lib.hid (HE.out.ext x3.full)
    have X3 := Lib.hid (X2.out.trans x3)
    clear t3 x3 X2 X23 hkl hki hks
    go_wp2_with fail
    refine (allAggs_any c _ HCM.out.1 HCM.out.2).mono ?_
    rintro e w4 ⟨u4, rfl, t4, x4⟩
    obtain ⟨cc, hcc⟩ : ∃ z, z = c % 2 := ⟨_, rfl⟩
    have hc2 : cc = 0 ∨ cc = 1 := by omega
    rw [← hcc] at t4
    have HCC := Lib.hid hcc
    obtain ⟨pg, cg, rfl, _⟩ := t4.form
    have HAG := Lib.hid t4
    have HC2 := Lib.hid hc2
    replace T1 := Lib.hid (T1.out.ext x4.full)
    replace HE := Lib.hid (HE.out.ext x4.full)
    replace HKS := Lib.hid (HKS.out.ext x4.full)
    have X4 := Lib.hid (X3.out.trans x4)
    clear t4 x4 X3 hcc hc2
    go_wp2_with fail
    refine (group_any _ a _ exC _ ks _ (allV cc) _ T1.out (by have := HL.out; omega) HFA.out HE.out exC_op (by simp [exC]) HKS.out HKL.out.2 (by have := HKL.out.1; omega) ⟨_, _, _, rfl⟩ (rowLaw_all HC2.out HE.out HAG.out (by have := HKL.out.1; omega) (by have := HL.out; omega) HFA.out) (all_fit HFA.out cc) (HT.out.1.ext X4.out) (HT.out.2.ext X4.out)).mono ?_
    rintro e w5 ⟨u5, rfl, t5, x5⟩
    have hgf := agg_fitN (es := exC) (keys := ks) (by have := HL.out; omega) (by have := HKL.out.1; omega) HFA.out (all_fit HFA.out cc) (decide (ks.length = 0))
    have hgn := agg_normal (projC exC ks) (allV cc) (decide (ks.length = 0)) a
    obtain ⟨g, hg⟩ : ∃ g, g = aggT (projC exC ks) (allV cc) (decide (ks.length = 0)) a := ⟨_, rfl⟩
    rw [← hg] at t5 hgf hgn
    have HG := Lib.hid hg
    have HGF := Lib.hid hgf
    have HGN := Lib.hid hgn
    obtain ⟨r5, k5, rfl, _⟩ := t5.form
    have T5 := Lib.hid (t5.ext (on_sub _ _))
    replace T1 := Lib.hid (T1.out.ext x5.full)
    have X5 := Lib.hid (X4.out.trans x5)
    clear t5 x5 X4 HE HAG HKS hg hgf hgn
    go_wp2_with fail
    refine (awake_group _ (HT.out.1.ext X5.out) (HT.out.2.ext X5.out)).mono ?_
    rintro e w6 ⟨rfl, x6⟩
    replace T1 := Lib.hid (T1.out.ext x6.full)
    replace T5 := Lib.hid (T5.out.ext x6.full)
    have X6 := Lib.hid (X5.out.trans x6)
    clear x6 X5
    go_wp2_with fail
    refine (split_any _ _ a P _ T1.out (by rw [HNP.out]; exact S3.out.ext X6.out.full) (by have := HL.out; omega) (by have := HNP.out; omega) (fun t ht => by have h := HFA.out t ht; exact ⟨h.1.1, by omega⟩)).mono ?_
    rintro e w7 ⟨u7, rfl, o7, x7⟩
    have t7 := o7.slice
    obtain ⟨Q, hQ⟩ : ∃ Q, Q = sortI P := ⟨_, rfl⟩
    rw [← hQ] at t7
    have hql : Q.length ≤ 12 := by rw [hQ, (sortI_perm P).length_eq, ← HNP.out]; exact hpl
    have hsl : (splitT a Q).length ≤ 400 := by
      have h1 := splitT_len a Q
      have h2 : a.length * (Q.length + 1) ≤ 8 * 13 := Nat.mul_le_mul HL.out (by omega)
      omega
    have hsf : ∀ t ∈ splitT a Q, fitVals t.vals ∧ t.lin.length ≤ 256 := fun t ht => by
      obtain ⟨u, h1, h2, h3⟩ := splitT_from ht
      rw [h2, h3]
      exact HFA.out u h1
    have hgs : aggT (projC exC ks) (allV cc) (decide (ks.length = 0)) (splitT a Q) = g := by
      rw [HG.out]
      exact agg_congr _ _ _ (fun t => split_slice a Q t)
    generalize splitT a Q = s at t7 hsl hsf hgs
    obtain ⟨r7, k7, rfl, _⟩ := t7.form
    have T7 := Lib.hid t7
    have HSL := Lib.hid hsl
    have HSF := Lib.hid hsf
    have HGS := Lib.hid hgs
    replace T5 := Lib.hid (T5.out.ext x7.full)
    have X7 := Lib.hid (X6.out.trans x7)
    clear o7 t7 hQ hql hsl hsf hgs x7 X6 T1
    go_wp2_with fail
    refine (exprs_any _).mono ?_
    rintro e w8 ⟨u8, rfl, t8, x8⟩
    obtain ⟨pe2, ce2, rfl, _⟩ := t8.form
    have HE := Lib.hid t8
    replace T5 := Lib.hid (T5.out.ext x8.full)
    replace T7 := Lib.hid (T7.out.ext x8.full)
    have X8 := Lib.hid (X7.out.trans x8)
    clear t8 x8 X7
    go_wp2_with fail
    refine (keysOf_any k _ HKM.out.1 HKM.out.2).mono ?_
    rintro e w9 ⟨u9, rfl, t9, x9⟩
    rw [← HKS0.out] at t9
    obtain ⟨pk2, ck2, rfl, _⟩ := t9.form
    have HKS := Lib.hid t9
    replace T5 := Lib.hid (T5.out.ext x9.full)
    replace T7 := Lib.hid (T7.out.ext x9.full)
    replace HE := Lib.hid (HE.out.ext x9.full)
    have X9 := Lib.hid (X8.out.trans x9)
    clear t9 x9 X8
    go_wp2_with fail
    refine (allAggs_any c _ HCM.out.1 HCM.out.2).mono ?_
    rintro e w10 ⟨u10, rfl, t10, x10⟩
    rw [← HCC.out] at t10
    obtain ⟨pg2, cg2, rfl, _⟩ := t10.form
    have HAG := Lib.hid t10
    replace T5 := Lib.hid (T5.out.ext x10.full)
    replace T7 := Lib.hid (T7.out.ext x10.full)
    replace HE := Lib.hid (HE.out.ext x10.full)
    replace HKS := Lib.hid (HKS.out.ext x10.full)
    have X10 := Lib.hid (X9.out.trans x10)
    clear t10 x10 X9
    go_wp2_with fail
    refine (group_any _ s _ exC _ ks _ (allV cc) _ T7.out HSL.out HSF.out HE.out exC_op (by simp [exC]) HKS.out HKL.out.2 (by have := HKL.out.1; omega) ⟨_, _, _, rfl⟩ (rowLaw_all HC2.out HE.out HAG.out (by have := HKL.out.1; omega) HSL.out HSF.out) (all_fit HSF.out cc) (HT.out.1.ext X10.out) (HT.out.2.ext X10.out)).mono ?_
    rintro e w11 ⟨u11, rfl, t11, x11⟩
    rw [HGS.out] at t11
    obtain ⟨r11, k11, rfl, _⟩ := t11.form
    have T11 := Lib.hid (t11.ext (on_sub _ _))
    replace T5 := Lib.hid (T5.out.ext x11.full)
    have X11 := Lib.hid (X10.out.trans x11)
    clear t11 x11 X10 HE HAG HKS T7
    go_wp2_with fail
    refine (same_tuples _ _ g _ T11.out T5.out).mono ?_
    rintro e w12 ⟨rfl, x12⟩
    replace T5 := Lib.hid (T5.out.ext x12.full)
    have X12 := Lib.hid (X11.out.trans x12)
    clear x12 X11 T11
    go_wp2_with fail
    refine (normalize_any _ g _ T5.out HGF.out (HT.out.1.ext X12.out)).mono ?_
    rintro e w13 ⟨u13, rfl, t13, x13⟩
    rw [HGN.out] at t13
    obtain ⟨r13, k13, rfl, _⟩ := t13.form
    have T13 := Lib.hid (t13.ext (on_sub _ _))
    replace T5 := Lib.hid (T5.out.ext x13.full)
    have X13 := Lib.hid (X12.out.trans x13)
    clear t13 x13 X12
    go_wp2_with fail
    refine (same_tuples _ _ g _ T13.out T5.out).mono ?_
    rintro e w14 ⟨rfl, x14⟩
    have X14 := Lib.hid (X13.out.trans x14)
    clear x14 X13
    go_wp2_with fail
    go_ret
    exact ⟨by simp, X14.out⟩
  · have hpI : (12 : Int) < (np : Int) := by omega
    go_enter Tryz.func7, Tryz.ntmps7
    go_wp2_with fail
    refine (awake_group _ HT.out.1 HT.out.2).mono ?_
    rintro e w9 ⟨rfl, x9⟩
    have X9 := Lib.hid x9
    clear x9
    go_wp2_with fail
    go_ret
    exact ⟨by simp, X9.out⟩

end Go.Proofs.YtdgpbpbjlnlijaaGreatDoor

/- what the listed variables give: the table of powers and the period of all days -/
namespace Go.Proofs.YtdgpbpbjlnlijaaGreatDoor
open Go.ChangeShapes Go.RowKit

def laid4 : List (String × DataW Unit) := [("math/bits.deBruijn32tab", Rows.laid_math_bits_deBruijn32tab), ("math/bits.deBruijn64tab", Rows.laid_math_bits_deBruijn64tab), ("internal/strconv.uint64pow10", Rows.laid_internal_strconv_uint64pow10), ("annalist/group.allDays", Rows.laid_annalist_group_allDays)]
theorem door_met (os : Os) (args : Array Value) : laidMetH Tryz.prog laid4 ((World.doorLaid Tryz.prog 29 os).forCall (fun _ _ => 0) ⟨#[], args, []⟩).memory :=
  laidMetH_of_parts3 (fuel := 8) (laidMet_of_run' 8 (by kernel_rfl) (by kernel_rfl)) (by kernel_rfl) (by kernel_rfl)
set_option maxRecDepth 100000 in
theorem days_head {W : World} (h : laidMet Tryz.prog [("annalist/group.allDays", Rows.laid_annalist_group_allDays)] W) : DaysW W := by
  obtain ⟨ps, ⟨g, t, cs, fuel, p, q, hg, ht, hv, hd, _, _⟩, _⟩ := h
  obtain rfl := Option.some.inj ((show Tryz.prog.globalNamed "annalist/group.allDays" = some 0 by kernel_rfl).symm.trans hg)
  obtain rfl := Option.some.inj ((show (Tryz.prog.globals[0]?).map (·.type) = some 52 by kernel_rfl).symm.trans ht)
  obtain ⟨y0, y1, n, hx, hl, h0, h1⟩ := trod_struct2 Tryz.underlying52 hd
  obtain ⟨z0, c0, rfl, _⟩ := DataW.trod_int Tryz.underlying3 h0
  obtain ⟨z1, c1, rfl, _⟩ := DataW.trod_int Tryz.underlying3 h1
  have e0 : z0 = 0 ∧ z1 = 1000000 := by
    have h := congrArg Prod.fst hx
    unfold Rows.laid_annalist_group_allDays at h
    simp only [DataW.agg.injEq, List.cons.injEq, DataW.lit.injEq, Lit.int.injEq, true_and, and_true] at h
    exact ⟨h.1.symm, h.2.symm⟩
  obtain ⟨rfl, rfl⟩ := e0
  have hc : Tryz.prog.cellsOf 52 = 2 := by kernel_rfl
  rw [hc] at hl
  unfold DaysW
  rw [hv]
  obtain ⟨l⟩ := cs
  match l, hl with
  | [a, b], _ =>
    have hci : Tryz.prog.cellsOf 3 = 1 := by kernel_rfl
    dsimp only at c0 c1
    rw [hci] at c0 c1
    simp at c0 c1
    rw [c0, c1]
set_option maxRecDepth 100000 in
theorem of_laid {W : World} (h : laidMetH Tryz.prog laid4 W) : TabW W ∧ DaysW W := by
  rw [MakeChecks.laidMetH_plain _ _ _ (by kernel_rfl)] at h
  have h3 := laidMet.tail (laidMet.tail h)
  exact ⟨Lib.tabIs_of_head (k := .u64) (zs := Lib.pow10Tab) (g := 1) (t := 287) (e := 205) (n := 20) (by kernel_rfl) (by kernel_rfl) Tryz.underlying287 Tryz.underlying205 (by kernel_rfl) (by kernel_rfl) h3, days_head (laidMet.tail h3)⟩

end Go.Proofs.YtdgpbpbjlnlijaaGreatDoor
