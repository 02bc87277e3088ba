/- joined texts of a proof: SplitW, MatW, InnW, PlainO -/
import Derived.Test.YtdgpbpbjlnlijaaGreatDoorKJ16
import Derived.Test.YtdgpbpbjlnlijaaGreatDoorKJ08
import Derived.Test.YtdgpbpbjlnlijaaGreatDoorKJ06
import Derived.Test.YtdgpbpbjlnlijaaGreatDoorKJ07
import Derived.Test.YtdgpbpbjlnlijaaGreatDoorKJ11
import Derived.Deep.DeepCutAuto
import Derived.Test.YtdgpbpbjlnlijaaGreatDoorKJ09
import Derived.Test.YtdgpbpbjlnlijaaGreatDoorKJ15

/- splitter.SplitAt; printed by gen_split.py -/
namespace Go.Proofs.YtdgpbpbjlnlijaaGreatDoor
open Go.RowKit

theorem sortI_perm (zs : List Int) : (sortI zs).Perm zs := List.mergeSort_perm _ _
theorem sortI_asc (zs : List Int) : (sortI zs).Pairwise (· ≤ ·) := by
  have := List.pairwise_mergeSort (le := fun x y : Int => decide (x ≤ y)) (fun a b c h1 h2 => by simp at *; omega) (fun a b => by simp; omega) zs
  exact this.imp fun h => by simpa using h
theorem cutT_len (t : Tup) : ∀ (P : List Int) (f : Int), (cutT t f P).length ≤ P.length + 1 := by
  intro P
  induction P with
  | nil => intro f; exact Nat.le_refl _
  | cons p P ih =>
    intro f
    unfold cutT
    split
    · simp
    split
    · have := ih p; simp; omega
    · have := ih f; simp; omega
theorem splitT_len (l : List Tup) (P : List Int) : (splitT l P).length ≤ l.length * (P.length + 1) := by
  unfold splitT
  induction l with
  | nil => simp
  | cons t l ih =>
    rw [List.flatMap_cons, List.length_append, List.length_cons, Nat.succ_mul]
    have : (if validT t = true then cutT t t.from_ P else []).length ≤ P.length + 1 := by
      split
      · exact cutT_len t P _
      · exact Nat.zero_le _
    omega
theorem splitT_snoc (l : List Tup) (P : List Int) (k : Nat) (h : k < l.length) : splitT (l.take (k + 1)) P = splitT (l.take k) P ++ if validT l[k] = true then cutT l[k] l[k].from_ P else [] := by
  unfold splitT
  rw [List.take_succ_eq_append_getElem h, List.flatMap_append, List.flatMap_cons, List.flatMap_nil, List.append_nil]
/-- points up to the start cut nothing -/
theorem cutT_drop (t : Tup) (f : Int) (hf : f < t.to_) : ∀ (P : List Int) (m : Nat), (∀ p ∈ P.take m, p ≤ f) → cutT t f P = cutT t f (P.drop m) := by
  intro P
  induction P with
  | nil => intro m _; rw [List.drop_nil]
  | cons p P ih =>
    intro m h
    cases m with
    | zero => rfl
    | succ m =>
      rw [List.take_succ_cons] at h
      have hp := h p (by simp)
      rw [List.drop_succ_cons, ← ih m fun q hq => h q (by simp [hq])]
      rw [cutT, if_neg (by omega), if_neg (by omega)]
/-- how many points lie below x, in a sorted list: they come first -/
theorem below_first {P : List Int} (h : P.Pairwise (· ≤ ·)) (x : Int) : ∀ p ∈ P.take (P.countP (· < x)), p < x := by
  induction P with
  | nil => intro p hp; simp at hp
  | cons a P ih =>
    obtain ⟨h1, h2⟩ := List.pairwise_cons.1 h
    intro p hp
    by_cases c : a < x
    · rw [List.countP_cons_of_pos (by simpa using c), List.take_succ_cons] at hp
      rcases List.mem_cons.1 hp with rfl | hp
      · exact c
      · exact ih h2 p hp
    · have h0 : P.countP (· < x) = 0 := List.countP_eq_zero.2 fun y hy => by have := h1 y hy; simp; omega
      rw [List.countP_cons_of_neg (by simpa using c), h0] at hp
      simp at hp

theorem int_rest {h : View} {g cap : Nat} {xs : List Int} {n : Nat} (hn : n = xs.length) (k : SliceOf Rep.int h (.slice (some ⟨g, 0, none⟩) n cap) xs) (m : Nat) (hm : m ≤ xs.length) : SliceOf Rep.int h (.slice (some ⟨g, m, none⟩) (n - m) (cap - m)) (xs.drop m) := by
  subst hn
  have := SliceOf.dropV k m hm
  simpa [Rep.int] using this
theorem bsearch_any (v : Value) (Q : List Int) (x : Int) (w : World) (hv : SliceOf Rep.int w.cell? v Q) (hs : Q.Pairwise (· ≤ ·)) (hl : Q.length ≤ 1048576) :
    Calls Tryz.prog 61 #[v, .int .i64 x] w fun e w' => ∃ r, e = .returned (.tuple #[.int .i64 (Q.countP (· < x) : Nat), .bool r]) ∧ Ext w w' := by
  obtain ⟨p, cap, rfl, h1, h2, h3⟩ := hv.form
  by_cases h0 : Q.length = 0
  · have hz : Q = [] := List.eq_nil_of_length_eq_zero h0
    subst hz
    refine (Tryz.slices_BinarySearch_int_empty p cap x w).mono ?_
    rintro e w' ⟨rfl, rfl⟩
    exact ⟨_, rfl, Ext.refl _⟩
  · obtain ⟨b, o, rfl⟩ := h3 (by decide) (by omega)
    refine (Tryz.slices_BinarySearch_int b o Q.length cap Q x w (Nat.le_refl _) (by omega) (fun j hj => by rw [List.getD_eq_getElem?_getD, List.getElem?_eq_getElem hj]; exact (int_at hv j hj).1) (by rw [List.take_length]; exact hs)).mono ?_
    rintro e w' ⟨rfl, q, rfl⟩
    rw [List.take_length]
    exact ⟨_, rfl, (Ext.refl w).drewN q⟩

set_option maxRecDepth 100000 in
set_option maxHeartbeats 8000000 in
theorem split_any (v pv : Value) (l : List Tup) (P : List Int) (w : World) (hv : SliceOf Rep.tup w.cell? v l) (hp : SliceOf Rep.int w.cell? pv P) (hl : l.length ≤ 50) (hpl : P.length ≤ 100) (hf : ∀ t ∈ l, t.vals.length ≤ 1048576 ∧ t.lin.length ≤ 1048576) :
    Calls Tryz.prog 26 #[v, pv] w fun e w' => ∃ v', e = .returned v' ∧ OwnOf Rep.tup w' (fun _ => True) w.heap.size 77 v' (splitT l (sortI P)) ∧ Ext w w' := by
  obtain ⟨i2, hi2, hz20, hz21, hz22⟩ := info_parts infoTup
  have mixed := mixedOrd
  obtain ⟨p, cap, rfl, hc1, hc2, hpt⟩ := hv.form
  obtain ⟨pp, pc, rfl, _⟩ := hp.form
  obtain ⟨N, hN⟩ : ∃ N, N = l.length := ⟨_, rfl⟩
  have HV := Lib.hid hv
  rw [← hN]
  have HN := Lib.hid hN
  have HP := Lib.hid hp
  have HPT := Lib.hid hpt
  have HF := Lib.hid hf
  have HPL := Lib.hid hpl
  have hasc0 := sortI_asc P
  have hql0 : (sortI P).length ≤ 100 := by rw [(sortI_perm P).length_eq]; exact hpl
  obtain ⟨Q, hQ⟩ : ∃ Q, Q = sortI P := ⟨_, rfl⟩
  rw [← hQ] at hasc0 hql0 ⊢
  have HASC := Lib.hid hasc0
  have HQL := Lib.hid hql0
  have HQQ := Lib.hid hQ
  clear hasc0 hql0 hQ
  have hNl : N ≤ 50 := by omega
  have hz0 : (w.alloc (.cells #[.slice pp P.length pc] 24)).cell? ⟨w.heap.size, 0, none⟩ = some (.slice pp P.length pc) := by go_simp
  have HZ0 := Lib.hid hz0
  clear hv hp hpt hf hN hl hpl hc1 hc2 hz0
  go_enter Tryz.func26, Tryz.ntmps26
  go_wp2_with fail
  refine (values_any pp _ pc _).mono ?_
  rintro e w1 ⟨rfl, rfl⟩
  go_wp2_with fail
  refine (sorted_any w.heap.size (.slice pp P.length pc) P _ HZ0.out (HP.out.ext ((Ext.refl w).alloc _).full) (by have := HPL.out; omega)).mono ?_
  rintro e w2 ⟨vs, rfl, o2, x2⟩
  rw [← HQQ.out] at o2
  have hql := HQL.out
  have X2 := Lib.hid (((Ext.refl w).alloc _).trans x2)
  have SQ := Lib.hid o2.slice
  have hfm : ∀ (pq : Option Addr) (n cq : Nat), vs = .slice pq n cq → (pq = none ∧ cq = 0) ∨ ∃ g, pq = some ⟨g, 0, none⟩ := fun pq n cq e => by
    rcases o2.form with ⟨h, _⟩ | ⟨g, c, h, _⟩
    · rw [h] at e; injection e with e1 e2 e3; exact .inl ⟨e1.symm, e3.symm⟩
    · rw [h] at e; injection e with e1 e2 e3; exact .inr ⟨g, e1.symm⟩
  obtain ⟨pq, cq, rfl, hq1, hq2, hq3⟩ := o2.slice.form
  have HFM := Lib.hid (hfm _ _ _ rfl)
  have HQ3 := Lib.hid hq3
  obtain ⟨nq, hnq⟩ : ∃ nq, nq = Q.length := ⟨_, rfl⟩
  have HNQ := Lib.hid hnq
  rw [← hnq] at SQ HQ3 hq1 hql ⊢
  clear o2 x2 hq3 hnq HZ0 HP HPL hfm
  go_wp2_with fail
  go_loopg [5, 18] N (fun gk vo vi wr => ∃ (k : Nat) (u : Value), k ≤ N ∧ gk = N - k ∧ vi = .int .i64 k ∧ u = vo ∧ Hid (OwnOf Rep.tup wr (fun _ => True) w2.heap.size 77 u (splitT (l.take k) Q)) ∧ Ext w2 wr)
  case atStart => exact ⟨0, _, by omega, rfl, rfl, rfl, OwnOf.nil _ _ _ _ _, Ext.refl w2⟩
  case round =>
    obtain ⟨k, u, hk, rfl, rfl, rfl, OU, hx⟩ := hrel
    by_cases hlt : k < N
    · have hkl : k < l.length := by have := HN.out; omega
      obtain ⟨b, o, rfl⟩ := HPT.out (by decide) (by omega)
      have hst := splitT_snoc l Q k hkl
      obtain ⟨ua, ub, c0, c1, c2, c3, g0, g1, r1, r2⟩ := tup_at HV.out k hkl
      have hfk := HF.out l[k] (List.getElem_mem hkl)
      have hlen := splitT_len (l.take k) Q
      generalize l[k] = t at c1 c2 g0 g1 r1 r2 hst hfk
      have hx0 := X2.out.trans hx
      replace c0 := hx0.at c0
      replace c1 := hx0.at c1
      replace c2 := hx0.at c2
      replace c3 := hx0.at c3
      obtain ⟨pa, ka, rfl, _⟩ := g0.form
      obtain ⟨pb, kb, rfl, _⟩ := g1.form
      have G0 := Lib.hid (g0.ext X2.out.full)
      have G1 := Lib.hid (g1.ext X2.out.full)
      have HFK := Lib.hid hfk
      have HST := Lib.hid hst
      have HRR := Lib.hid (And.intro r1 r2)
      have hyl : (splitT (l.take k) Q).length ≤ 50 * 101 := by
        have h1 : (l.take k).length ≤ 50 := by rw [List.length_take]; omega
        have h2 : Q.length + 1 ≤ 101 := by have := HNQ.out; omega
        exact Nat.le_trans hlen (Nat.mul_le_mul h1 h2)
      obtain ⟨ys0, hys0⟩ : ∃ ys, ys = splitT (l.take k) Q := ⟨_, rfl⟩
      rw [← hys0] at OU hyl HST
      have HYS0 := Lib.hid hys0
      have HYL := Lib.hid hyl
      have hd : decide ((k : Int) < (N : Int)) = true := by simp; omega
      have e0 := cell_lt c0
      obtain ⟨tv, tf, tt, tl⟩ := t
      dsimp only at c0 c1 c2 c3 G0 G1 HFK HRR
      obtain ⟨n1, hn1⟩ : ∃ n, n = tv.length := ⟨_, rfl⟩
      obtain ⟨n2, hn2⟩ : ∃ n, n = tl.length := ⟨_, rfl⟩
      rw [← hn1] at c0 G0
      rw [← hn2] at c3 G1
      have HN1 := Lib.hid hn1
      have HN2 := Lib.hid hn2
      clear hst g0 g1 r1 r2 hfk hx0 hlen hyl hys0 hn1 hn2
      go_wp2_with fail
      refine (valid_any tf tt _).mono ?_
      rintro e w3 ⟨rfl, x3⟩
      obtain ⟨bx, hbx⟩ : ∃ z, z = wr.heap.size := ⟨_, rfl⟩
      have a0 : w3.cell? ⟨bx, 0, none⟩ = some (.slice pa n1 ka) := by rw [hbx]; exact x3.at (by go_simp)
      have a1 : w3.cell? ⟨bx, 1, none⟩ = some (.int .i64 tf) := by rw [hbx]; exact x3.at (by go_simp)
      have a2 : w3.cell? ⟨bx, 2, none⟩ = some (.int .i64 tt) := by rw [hbx]; exact x3.at (by go_simp)
      have a3 : w3.cell? ⟨bx, 3, none⟩ = some (.slice pb n2 kb) := by rw [hbx]; exact x3.at (by go_simp)
      have X3 := Lib.hid (show Ext wr w3 from ((Ext.refl wr).alloc _).trans x3)
      have HBX := Lib.hid hbx
      rw [← hbx]
      have e1 := cell_lt a0
      clear x3 c0 c1 c2 c3 e0 hbx
      cases hvb : validB tf tt with
      | false =>
        have hnone : splitT (l.take (k + 1)) Q = ys0 := by
          rw [HST.out, if_neg (by show ¬ validB tf tt = true; rw [hvb]; decide), List.append_nil]
        have HNO := Lib.hid hnone
        have OU2 := Lib.hid (OU.out.ext X3.out)
        have HX := Lib.hid (hx.trans X3.out)
        clear hnone hvb OU hx
        go_wp2_with fail
        go_roundg (N - (k + 1))
        case measure => omega
        case rel => exact ⟨k + 1, u, by omega, rfl, by go_num, rfl, by show OwnOf _ _ _ _ _ _ _; rw [HNO.out]; exact OU2.out, HX.out⟩
      | true =>
        have hvl := validB_lt hvb
        have HST2 := Lib.hid (show splitT (l.take (k + 1)) Q = ys0 ++ cutT ⟨tv, tf, tt, tl⟩ tf Q from by rw [HST.out, if_pos (show validT ⟨tv, tf, tt, tl⟩ = true from hvb)])
        obtain ⟨h0, h1, h2⟩ := hvl
        have HVL := Lib.hid (And.intro h0 (And.intro h1 h2))
        have hw1 : IntKind.i64.wrap (tf + 1) = tf + 1 := by rw [IntKind.wrap_i64]; omega
        clear HST hvb
        go_wp2_with fail
        refine (bsearch_any _ Q (tf + 1) _ (SQ.out.ext (hx.trans X3.out).full) HASC.out (by have := HNQ.out; omega)).mono ?_
        rintro e w4 ⟨fr, rfl, x4⟩
        have hm1 : Q.countP (· < tf + 1) ≤ nq := by rw [HNQ.out]; exact List.countP_le_length
        have hdrop := cutT_drop ⟨tv, tf, tt, tl⟩ tf h1 Q (Q.countP (· < tf + 1)) (fun p hp => by have := below_first HASC.out (tf + 1) p hp; omega)
        generalize Q.countP (· < tf + 1) = m at hm1 hdrop
        have hmI : (m : Int) ≤ (nq : Int) := by omega
        have hmc : m ≤ cq := by omega
        have HX4 := Lib.hid (hx.trans (X3.out.trans x4))
        have G04 := Lib.hid (G0.out)
        have G14 := Lib.hid (G1.out)
        have OU4 := Lib.hid (OU.out.ext (X3.out.trans x4))
        have HUX := Lib.hid (show ∀ x, u.ownBlock = some x → x ≠ bx from fun x hx e => by have h1 := (OU.out.lt x hx).2; have h2 := HBX.out; omega)
        replace a0 := x4.at a0
        replace a1 := x4.at a1
        replace a2 := x4.at a2
        replace a3 := x4.at a3
        replace e1 := cell_lt a0
        clear x4 hx OU X3 G0 G1
        by_cases hcm : cq = m
        · have hnm : nq = m := by omega
          subst hcm
          subst hnm
          have hdr0 : Q.drop nq = [] := List.drop_eq_nil_of_le (by have := HNQ.out; omega)
          have HFIN := Lib.hid (show splitT (l.take (k + 1)) Q = ys0 ++ [⟨tv, tf, tt, tl⟩] from by rw [HST2.out, hdrop, hdr0]; rfl)
          have OUq := OU4
          have HUXq := HUX
          have HXq := HX4
          have HYB := Lib.hid (show ys0.length ≤ 6000 from by have := HYL.out; omega)
          have HFR := Lib.hid (show okI tf ∧ okI tt from HRR.out)
          clear hdr0 hdrop hm1 OU4 HUX HX4
          go_wp2_with fail
          go_loopg [5, 8, 40] 0 (fun gj vo vf vi wq => gj = 0 ∧ u = vo ∧ vf = .int .i64 tf ∧ vi = .int .i64 0 ∧ w4 = wq)
          case atStart => exact ⟨rfl, rfl, rfl, rfl, rfl⟩
          case round =>
            obtain ⟨rfl, rfl, rfl, rfl, rfl⟩ := hrel
            have eb := cell_lt a0
            have HUL := Lib.hid (show ∀ x, (u).ownBlock = some x → w2.heap.size ≤ x ∧ x < (w4).heap.size from fun x hx => OUq.out.lt x hx)
            have B1 : (ys0).length + 1 ≤ maxLen := by have := HYB.out; unfold maxLen; omega
            have B2 : ((ys0).length + 1) * 64 ≤ 140737488355328 := by have := HYB.out; omega
            have HW24 := Lib.hid (show w2.heap.size ≤ (w4).heap.size from HXq.out.size)
            have hS0 : Ext w2 (w4).drew ∧ (w4).drew.cell? ⟨bx, 0, none⟩ = some (.slice pa n1 ka) ∧ (w4).drew.cell? ⟨bx, 1, none⟩ = some (.int .i64 tf) ∧ (w4).drew.cell? ⟨bx, 2, none⟩ = some (.int .i64 tt) ∧ (w4).drew.cell? ⟨bx, 3, none⟩ = some (.slice pb n2 kb) := ⟨HXq.out.drew, a0, a1, a2, a3⟩
            go_wp2_with fail
            go_upto_region 17 with fail
            clear a0 a1 a2 a3
            go_region_held3 (fun w' => Ext w2 w' ∧ w'.cell? ⟨bx, 0, none⟩ = some (.slice pa n1 ka) ∧ w'.cell? ⟨bx, 1, none⟩ = some (.int .i64 tf) ∧ w'.cell? ⟨bx, 2, none⟩ = some (.int .i64 tt) ∧ w'.cell? ⟨bx, 3, none⟩ = some (.slice pb n2 kb))
              (first | with_reducible assumption | with_reducible exact keepE4 (by assumption) ((Ext.refl _).alloc _))
              (first
                | (go_at_call 55; refine (tup_row _ _ _ _ _ _ _ _ _).mono ?_; rintro e w5 ⟨rfl, g5⟩; have x5 := Gro.ext g5; have X5 := Lib.hid (show Ext (w4) w5 from (Ext.refl _).drew.trans x5); have K5 : Ext w2 w5 ∧ w5.cell? ⟨bx, 0, none⟩ = some (.slice pa n1 ka) ∧ w5.cell? ⟨bx, 1, none⟩ = some (.int .i64 tf) ∧ w5.cell? ⟨bx, 2, none⟩ = some (.int .i64 tt) ∧ w5.cell? ⟨bx, 3, none⟩ = some (.slice pb n2 kb) := keepE4 (hS0) x5)
                | (go_at_call 46; refine (during_any _ _ ⟨tv, tl⟩ tf tt _ (by exact G04.out.ext (HXq.out.trans X5.out).full) (by exact G14.out.ext (HXq.out.trans X5.out).full) HFK.out.1 HFK.out.2).mono ?_; rintro e w6 ⟨da, db, rfl, sa, sb, x6⟩; have SA := Lib.hid sa; have SB := Lib.hid sb; obtain ⟨pc, kc, rfl, _⟩ := sa.form; obtain ⟨pd, kd, rfl, _⟩ := sb.form; have X6 := Lib.hid (X5.out.trans x6); have K6 : Ext w2 w6 ∧ w6.cell? ⟨bx, 0, none⟩ = some (.slice pa n1 ka) ∧ w6.cell? ⟨bx, 1, none⟩ = some (.int .i64 tf) ∧ w6.cell? ⟨bx, 2, none⟩ = some (.int .i64 tt) ∧ w6.cell? ⟨bx, 3, none⟩ = some (.slice pb n2 kb) := keepE4 K5 x6; dsimp only; dsimp only at SA SB; rw [← HN1.out] at SA; rw [← HN2.out] at SB; rw [← HN1.out, ← HN2.out]; clear sa sb)
                | (refine step_append_one Rep.tup (fun _ => True) rfl _ _ 22 rfl w2.heap.size 77 i2 _ 64 Tryz.underlying22 hi2 hz20 hz21 hz22 rfl (by decide) (u) (ys0) rfl (by exact OUq.out.ext (X6.out.alloc _)) ⟨_, 0, none⟩ 1 ⟨tv, tf, tt, tl⟩ [.slice pc n1 kc, .int .i64 tf, .int .i64 tt, .slice pd n2 kd] rfl (by have hsub : ∀ (o : Obj), Sub (on w6 (since w5)) (on (w6.alloc o) (avoid (fun _ => True) (u))) := fun o => (on_mono w6 fun x _ hx => ⟨fun e => by (have h1 := (HUL.out x e.symm).2; have h2 := X5.out.size; simp [since] at hx; omega), trivial⟩).trans (((Ext.refl w6).alloc o).sub _); exact ⟨_, _, rfl, SA.out.ext (hsub _), SB.out.ext (hsub _), by have h := HFR.out; exact h.1, by have h := HFR.out; exact h.2⟩) (by exact cells_new _ [.slice pc n1 kc, .int .i64 tf, .int .i64 tt, .slice pd n2 kd] _) B1 B2 (by exact Nat.le_trans HW24.out (X6.out.alloc (.cells [.slice pc n1 kc, .int .i64 tf, .int .i64 tt, .slice pd n2 kd].toArray 77)).size) ?_; intro g8 cap8 w8 own8 gr8 hg8; have X6a := X6.out.alloc (.cells [.slice pc n1 kc, .int .i64 tf, .int .i64 tt, .slice pd n2 kd].toArray 77); have K8 : Ext w2 w8 ∧ w8.cell? ⟨bx, 0, none⟩ = some (.slice pa n1 ka) ∧ w8.cell? ⟨bx, 1, none⟩ = some (.int .i64 tf) ∧ w8.cell? ⟨bx, 2, none⟩ = some (.int .i64 tt) ∧ w8.cell? ⟨bx, 3, none⟩ = some (.slice pb n2 kb) := ⟨ext_grown (HXq.out.trans X6a) gr8 (fun x hx => (HUL.out x hx).1), cell_grown gr8 (((Ext.refl w6).alloc _).at K6.2.1) (fun x hx => HUXq.out x hx), cell_grown gr8 (((Ext.refl w6).alloc _).at K6.2.2.1) (fun x hx => HUXq.out x hx), cell_grown gr8 (((Ext.refl w6).alloc _).at K6.2.2.2.1) (fun x hx => HUXq.out x hx), cell_grown gr8 (((Ext.refl w6).alloc _).at K6.2.2.2.2) (fun x hx => HUXq.out x hx)⟩))
            all_goals
              have OU9 := Lib.hid (show OwnOf Rep.tup w8 (fun _ => True) w2.heap.size 77 (.slice (some ⟨g8, 0, none⟩) ((ys0).length + 1) cap8) (splitT (l.take (k + 1)) Q) from by rw [HFIN.out]; exact own8)
              have X9 := Lib.hid K8.1
              clear own8 gr8 hg8 K8 K6 K5 X6a hS0
              go_wp2_with fail
              go_roundg (N - (k + 1))
              case measure => omega
              case rel => exact ⟨k + 1, _, by omega, rfl, by go_num, rfl, OU9.out, X9.out⟩

        · obtain ⟨g, rfl⟩ : ∃ g, pq = some ⟨g, 0, none⟩ := by
            rcases HFM.out with ⟨_, h⟩ | h
            · exact absurd (show cq = m by omega) hcm
            · exact h
          have RST := Lib.hid (int_rest HNQ.out SQ.out m (by have := HNQ.out; omega))
          have hnrl : (Q.drop m).length = nq - m := by rw [List.length_drop, ← HNQ.out]
          obtain ⟨R, hR⟩ : ∃ R, R = Q.drop m := ⟨_, rfl⟩
          rw [← hR] at hdrop hnrl RST
          obtain ⟨nr, hnr⟩ : ∃ n, n = nq - m := ⟨_, rfl⟩
          rw [← hnr] at hnrl RST
          have HNR := Lib.hid hnrl
          have HFIN0 := Lib.hid (show splitT (l.take (k + 1)) Q = ys0 ++ cutT ⟨tv, tf, tt, tl⟩ tf R from by rw [HST2.out, hdrop])
          have hnrI : ((nq : Int) - (m : Int)) = (nr : Int) := by omega
          have HNRM := Lib.hid hnr
          have A := Lib.hid (show Ext w2 w4 ∧ w4.cell? ⟨bx, 0, none⟩ = some (.slice pa n1 ka) ∧ w4.cell? ⟨bx, 1, none⟩ = some (.int .i64 tf) ∧ w4.cell? ⟨bx, 2, none⟩ = some (.int .i64 tt) ∧ w4.cell? ⟨bx, 3, none⟩ = some (.slice pb n2 kb) from ⟨HX4.out, a0, a1, a2, a3⟩)
          clear hdrop hnrl hR hnr h0 h1 h2 hd
          go_wp2_with fail
          go_loopg [5, 8, 40] nr (fun gj vo vf vi wq => ∃ (j : Nat) (uq : Value) (ys : List Tup) (f : Int), j ≤ nr ∧ gj = nr - j ∧ vi = .int .i64 j ∧ uq = vo ∧ vf = .int .i64 f ∧ Hid (OwnOf Rep.tup wq (fun _ => True) w2.heap.size 77 uq ys) ∧ Hid (ys ++ cutT ⟨tv, tf, tt, tl⟩ f (R.drop j) = ys0 ++ cutT ⟨tv, tf, tt, tl⟩ tf R) ∧ Hid (f < tt) ∧ Hid (okI f) ∧ Hid (ys.length ≤ ys0.length + j) ∧ Hid (Ext w2 wq ∧ wq.cell? ⟨bx, 0, none⟩ = some (.slice pa n1 ka) ∧ wq.cell? ⟨bx, 1, none⟩ = some (.int .i64 tf) ∧ wq.cell? ⟨bx, 2, none⟩ = some (.int .i64 tt) ∧ wq.cell? ⟨bx, 3, none⟩ = some (.slice pb n2 kb)) ∧ Hid (∀ x, uq.ownBlock = some x → x ≠ bx))
          case atStart => exact ⟨0, u, ys0, tf, by omega, rfl, rfl, rfl, rfl, OU4.out, rfl, HVL.out.2.1, HRR.out.1, Nat.le_refl _, A.out, HUX.out⟩
          case round =>
            obtain ⟨j, uq, ys, f, hj, rfl, rfl, rfl, rfl, OUI, HCUT, HFT, HFO, HLEN, AI, HUXI⟩ := hrel
            clear OU4 HUX A a0 a1 a2 a3
            by_cases hjl : j < nr
            · have hjr : j < R.length := by have := HNR.out; omega
              have hyr : R.drop j = R[j] :: R.drop (j + 1) := List.drop_eq_getElem_cons hjr
              have hcut := HCUT.out
              rw [hyr] at hcut
              obtain ⟨c0, hpo⟩ := int_at RST.out j hjr
              generalize R[j] = p at c0 hpo hcut
              have hd : decide ((j : Int) < (nr : Int)) = true := by simp; omega
              replace c0 := AI.out.1.at c0
              by_cases hge : tt ≤ p
              · rw [cutT, if_pos hge] at hcut
                have HFIN := Lib.hid (show splitT (l.take (k + 1)) Q = ys ++ [⟨tv, f, tt, tl⟩] from by rw [HFIN0.out, ← hcut])
                have HFR := Lib.hid (show okI f ∧ okI tt from ⟨HFO.out, HRR.out.2⟩)
                clear hcut hpo hyr
                have OUq := OUI
                have HUXq := HUXI
                have HXq := Lib.hid AI.out.1
                obtain ⟨a0, a1, a2, a3⟩ := AI.out.2
                have HYB := Lib.hid (show ys.length ≤ 6000 from by have h1 := HYL.out; have h2 := HLEN.out; have h3 := HNR.out; have h4 := HQL.out; have h5 := HNRM.out; have h6 := HNQ.out; omega)
                clear OUI HUXI
                have eb := cell_lt a0
                have HUL := Lib.hid (show ∀ x, (uq).ownBlock = some x → w2.heap.size ≤ x ∧ x < (wr).heap.size from fun x hx => OUq.out.lt x hx)
                have B1 : (ys).length + 1 ≤ maxLen := by have := HYB.out; unfold maxLen; omega
                have B2 : ((ys).length + 1) * 64 ≤ 140737488355328 := by have := HYB.out; omega
                have HW24 := Lib.hid (show w2.heap.size ≤ (wr).heap.size from HXq.out.size)
                have hS0 : Ext w2 (wr).drew ∧ (wr).drew.cell? ⟨bx, 0, none⟩ = some (.slice pa n1 ka) ∧ (wr).drew.cell? ⟨bx, 1, none⟩ = some (.int .i64 tf) ∧ (wr).drew.cell? ⟨bx, 2, none⟩ = some (.int .i64 tt) ∧ (wr).drew.cell? ⟨bx, 3, none⟩ = some (.slice pb n2 kb) := ⟨HXq.out.drew, a0, a1, a2, a3⟩
                go_wp2_with fail
                go_upto_region 17 with fail
                clear a0 a1 a2 a3
                go_region_held3 (fun w' => Ext w2 w' ∧ w'.cell? ⟨bx, 0, none⟩ = some (.slice pa n1 ka) ∧ w'.cell? ⟨bx, 1, none⟩ = some (.int .i64 tf) ∧ w'.cell? ⟨bx, 2, none⟩ = some (.int .i64 tt) ∧ w'.cell? ⟨bx, 3, none⟩ = some (.slice pb n2 kb))
                  (first | with_reducible assumption | with_reducible exact keepE4 (by assumption) ((Ext.refl _).alloc _))
                  (first
                    | (go_at_call 55; refine (tup_row _ _ _ _ _ _ _ _ _).mono ?_; rintro e w5 ⟨rfl, g5⟩; have x5 := Gro.ext g5; have X5 := Lib.hid (show Ext (wr) w5 from (Ext.refl _).drew.trans x5); have K5 : Ext w2 w5 ∧ w5.cell? ⟨bx, 0, none⟩ = some (.slice pa n1 ka) ∧ w5.cell? ⟨bx, 1, none⟩ = some (.int .i64 tf) ∧ w5.cell? ⟨bx, 2, none⟩ = some (.int .i64 tt) ∧ w5.cell? ⟨bx, 3, none⟩ = some (.slice pb n2 kb) := keepE4 (hS0) x5)
                    | (go_at_call 46; refine (during_any _ _ ⟨tv, tl⟩ f tt _ (by exact G04.out.ext (HXq.out.trans X5.out).full) (by exact G14.out.ext (HXq.out.trans X5.out).full) HFK.out.1 HFK.out.2).mono ?_; rintro e w6 ⟨da, db, rfl, sa, sb, x6⟩; have SA := Lib.hid sa; have SB := Lib.hid sb; obtain ⟨pc, kc, rfl, _⟩ := sa.form; obtain ⟨pd, kd, rfl, _⟩ := sb.form; have X6 := Lib.hid (X5.out.trans x6); have K6 : Ext w2 w6 ∧ w6.cell? ⟨bx, 0, none⟩ = some (.slice pa n1 ka) ∧ w6.cell? ⟨bx, 1, none⟩ = some (.int .i64 tf) ∧ w6.cell? ⟨bx, 2, none⟩ = some (.int .i64 tt) ∧ w6.cell? ⟨bx, 3, none⟩ = some (.slice pb n2 kb) := keepE4 K5 x6; dsimp only; dsimp only at SA SB; rw [← HN1.out] at SA; rw [← HN2.out] at SB; rw [← HN1.out, ← HN2.out]; clear sa sb)
                    | (refine step_append_one Rep.tup (fun _ => True) rfl _ _ 22 rfl w2.heap.size 77 i2 _ 64 Tryz.underlying22 hi2 hz20 hz21 hz22 rfl (by decide) (uq) (ys) rfl (by exact OUq.out.ext (X6.out.alloc _)) ⟨_, 0, none⟩ 1 ⟨tv, f, tt, tl⟩ [.slice pc n1 kc, .int .i64 f, .int .i64 tt, .slice pd n2 kd] rfl (by have hsub : ∀ (o : Obj), Sub (on w6 (since w5)) (on (w6.alloc o) (avoid (fun _ => True) (uq))) := fun o => (on_mono w6 fun x _ hx => ⟨fun e => by (have h1 := (HUL.out x e.symm).2; have h2 := X5.out.size; simp [since] at hx; omega), trivial⟩).trans (((Ext.refl w6).alloc o).sub _); exact ⟨_, _, rfl, SA.out.ext (hsub _), SB.out.ext (hsub _), by have h := HFR.out; exact h.1, by have h := HFR.out; exact h.2⟩) (by exact cells_new _ [.slice pc n1 kc, .int .i64 f, .int .i64 tt, .slice pd n2 kd] _) B1 B2 (by exact Nat.le_trans HW24.out (X6.out.alloc (.cells [.slice pc n1 kc, .int .i64 f, .int .i64 tt, .slice pd n2 kd].toArray 77)).size) ?_; intro g8 cap8 w8 own8 gr8 hg8; have X6a := X6.out.alloc (.cells [.slice pc n1 kc, .int .i64 f, .int .i64 tt, .slice pd n2 kd].toArray 77); have K8 : Ext w2 w8 ∧ w8.cell? ⟨bx, 0, none⟩ = some (.slice pa n1 ka) ∧ w8.cell? ⟨bx, 1, none⟩ = some (.int .i64 tf) ∧ w8.cell? ⟨bx, 2, none⟩ = some (.int .i64 tt) ∧ w8.cell? ⟨bx, 3, none⟩ = some (.slice pb n2 kb) := ⟨ext_grown (HXq.out.trans X6a) gr8 (fun x hx => (HUL.out x hx).1), cell_grown gr8 (((Ext.refl w6).alloc _).at K6.2.1) (fun x hx => HUXq.out x hx), cell_grown gr8 (((Ext.refl w6).alloc _).at K6.2.2.1) (fun x hx => HUXq.out x hx), cell_grown gr8 (((Ext.refl w6).alloc _).at K6.2.2.2.1) (fun x hx => HUXq.out x hx), cell_grown gr8 (((Ext.refl w6).alloc _).at K6.2.2.2.2) (fun x hx => HUXq.out x hx)⟩))
                all_goals
                  have OU9 := Lib.hid (show OwnOf Rep.tup w8 (fun _ => True) w2.heap.size 77 (.slice (some ⟨g8, 0, none⟩) ((ys).length + 1) cap8) (splitT (l.take (k + 1)) Q) from by rw [HFIN.out]; exact own8)
                  have X9 := Lib.hid K8.1
                  clear own8 gr8 hg8 K8 K6 K5 X6a hS0
                  go_wp2_with fail
                  go_roundg (N - (k + 1))
                  case measure => omega
                  case rel => exact ⟨k + 1, _, by omega, rfl, by go_num, rfl, OU9.out, X9.out⟩
              · have hnge : ¬ tt ≤ p := hge
                by_cases hgt : f < p
                · rw [cutT, if_neg hge, if_pos hgt] at hcut
                  have HFIN := Lib.hid (show (ys ++ [⟨tv, f, p, tl⟩]) ++ cutT ⟨tv, tf, tt, tl⟩ p (R.drop (j + 1)) = ys0 ++ cutT ⟨tv, tf, tt, tl⟩ tf R from by rw [← hcut, List.append_assoc]; rfl)
                  have HFR := Lib.hid (show okI f ∧ okI p from ⟨HFO.out, hpo⟩)
                  have HPT2 := Lib.hid (show p < tt from by omega)
                  clear hcut hpo hyr
                  have OUq := OUI
                  have HUXq := HUXI
                  have HXq := Lib.hid AI.out.1
                  obtain ⟨a0, a1, a2, a3⟩ := AI.out.2
                  have HYB := Lib.hid (show ys.length ≤ 6000 from by have h1 := HYL.out; have h2 := HLEN.out; have h3 := HNR.out; have h4 := HQL.out; have h5 := HNRM.out; have h6 := HNQ.out; omega)
                  clear OUI HUXI
                  have eb := cell_lt a0
                  have HUL := Lib.hid (show ∀ x, (uq).ownBlock = some x → w2.heap.size ≤ x ∧ x < (wr).heap.size from fun x hx => OUq.out.lt x hx)
                  have B1 : (ys).length + 1 ≤ maxLen := by have := HYB.out; unfold maxLen; omega
                  have B2 : ((ys).length + 1) * 64 ≤ 140737488355328 := by have := HYB.out; omega
                  have HW24 := Lib.hid (show w2.heap.size ≤ (wr).heap.size from HXq.out.size)
                  have K4 := AI
                  go_wp2_with fail
                  refine (tup_row _ _ _ _ _ _ _ _ _).mono ?_
                  rintro e w5 ⟨rfl, g5⟩
                  have x5 := Gro.ext g5
                  have X5 := Lib.hid (show Ext (wr) w5 from x5)
                  have K5 : Ext w2 w5 ∧ w5.cell? ⟨bx, 0, none⟩ = some (.slice pa n1 ka) ∧ w5.cell? ⟨bx, 1, none⟩ = some (.int .i64 tf) ∧ w5.cell? ⟨bx, 2, none⟩ = some (.int .i64 tt) ∧ w5.cell? ⟨bx, 3, none⟩ = some (.slice pb n2 kb) := keepE4 (K4.out) x5
                  go_wp2_with fail
                  refine (during_any _ _ ⟨tv, tl⟩ f p _ (by exact G04.out.ext (HXq.out.trans X5.out).full) (by exact G14.out.ext (HXq.out.trans X5.out).full) HFK.out.1 HFK.out.2).mono ?_
                  rintro e w6 ⟨da, db, rfl, sa, sb, x6⟩
                  have SA := Lib.hid sa
                  have SB := Lib.hid sb
                  obtain ⟨pc, kc, rfl, _⟩ := sa.form
                  obtain ⟨pd, kd, rfl, _⟩ := sb.form
                  have X6 := Lib.hid (X5.out.trans x6)
                  have K6 : Ext w2 w6 ∧ w6.cell? ⟨bx, 0, none⟩ = some (.slice pa n1 ka) ∧ w6.cell? ⟨bx, 1, none⟩ = some (.int .i64 tf) ∧ w6.cell? ⟨bx, 2, none⟩ = some (.int .i64 tt) ∧ w6.cell? ⟨bx, 3, none⟩ = some (.slice pb n2 kb) := keepE4 K5 x6
                  dsimp only
                  dsimp only at SA SB
                  rw [← HN1.out] at SA
                  rw [← HN2.out] at SB
                  rw [← HN1.out, ← HN2.out]
                  clear sa sb
                  go_wp2_with (at_builtin; go_loud (refine wpList_append_one Rep.tup (fun _ => True) rfl _ _ 22 rfl w2.heap.size 77 i2 _ 64 Tryz.underlying22 hi2 hz20 hz21 hz22 rfl (by decide) (uq) (ys) rfl (by exact OUq.out.ext (X6.out.alloc _)) ⟨_, 0, none⟩ 1 ⟨tv, f, p, tl⟩ [.slice pc n1 kc, .int .i64 f, .int .i64 p, .slice pd n2 kd] rfl (by have hsub : ∀ (o : Obj), Sub (on w6 (since w5)) (on (w6.alloc o) (avoid (fun _ => True) (uq))) := fun o => (on_mono w6 fun x _ hx => ⟨fun e => by (have h1 := (HUL.out x e.symm).2; have h2 := X5.out.size; simp [since] at hx; omega), trivial⟩).trans (((Ext.refl w6).alloc o).sub _); exact ⟨_, _, rfl, SA.out.ext (hsub _), SB.out.ext (hsub _), by have h := HFR.out; exact h.1, by have h := HFR.out; exact h.2⟩) (by exact cells_new _ [.slice pc n1 kc, .int .i64 f, .int .i64 p, .slice pd n2 kd] _) B1 B2 (by exact Nat.le_trans HW24.out (X6.out.alloc (.cells [.slice pc n1 kc, .int .i64 f, .int .i64 p, .slice pd n2 kd].toArray 77)).size) ?_))
                  intro g8 cap8 w8 own8 gr8 hg8
                  have X6a := X6.out.alloc (.cells [.slice pc n1 kc, .int .i64 f, .int .i64 p, .slice pd n2 kd].toArray 77)
                  have K8 : Ext w2 w8 ∧ w8.cell? ⟨bx, 0, none⟩ = some (.slice pa n1 ka) ∧ w8.cell? ⟨bx, 1, none⟩ = some (.int .i64 tf) ∧ w8.cell? ⟨bx, 2, none⟩ = some (.int .i64 tt) ∧ w8.cell? ⟨bx, 3, none⟩ = some (.slice pb n2 kb) := ⟨ext_grown (HXq.out.trans X6a) gr8 (fun x hx => (HUL.out x hx).1), cell_grown gr8 (((Ext.refl w6).alloc _).at K6.2.1) (fun x hx => HUXq.out x hx), cell_grown gr8 (((Ext.refl w6).alloc _).at K6.2.2.1) (fun x hx => HUXq.out x hx), cell_grown gr8 (((Ext.refl w6).alloc _).at K6.2.2.2.1) (fun x hx => HUXq.out x hx), cell_grown gr8 (((Ext.refl w6).alloc _).at K6.2.2.2.2) (fun x hx => HUXq.out x hx)⟩
                  have OU9 := Lib.hid own8
                  have K9 := Lib.hid K8
                  have HU9 := Lib.hid (show ∀ x, (Value.slice (some ⟨g8, 0, none⟩) (ys.length + 1) cap8).ownBlock = some x → x ≠ bx from fun x hx => by
                    rcases hg8 with h | h
                    · exact HUXq.out x (h.trans hx)
                    · have h2 : g8 = x := Option.some.inj hx
                      have h3 : wr.heap.size ≤ g8 := by have h5 := X6.out.size; rw [h]; omega
                      intro h4
                      omega)
                  clear own8 gr8 hg8 K8 K6 K5 X6a a0 a1 a2 a3 c0
                  go_wp2_with fail
                  go_roundg (nr - (j + 1))
                  case measure => omega
                  case rel => exact ⟨j + 1, _, ys ++ [(⟨tv, f, p, tl⟩ : Tup)], p, by omega, rfl, by go_num, rfl, rfl, OU9.out, HFIN.out, HPT2.out, HFR.out.2, by have := HLEN.out; show (ys ++ [(⟨tv, f, p, tl⟩ : Tup)]).length ≤ ys0.length + (j + 1); simp; omega, K9.out, HU9.out⟩
                · rw [cutT, if_neg hge, if_neg hgt] at hcut
                  have HCUT2 := Lib.hid hcut
                  have AJ := AI
                  obtain ⟨_, a0, a1, a2, a3⟩ := AI.out
                  have eb := cell_lt a0
                  clear hcut hpo hyr HCUT
                  go_wp2_with fail
                  go_roundg (nr - (j + 1))
                  case measure => omega
                  case rel => exact ⟨j + 1, _, ys, f, by omega, rfl, by go_num, rfl, rfl, OUI.out, HCUT2.out, HFT.out, HFO.out, by have := HLEN.out; show ys.length ≤ ys0.length + (j + 1); omega, AJ.out, HUXI.out⟩
            · have hd : ¬ (j : Int) < (nr : Int) := by omega
              have hnil : R.drop j = [] := List.drop_eq_nil_of_le (by have := HNR.out; omega)
              have hcut := HCUT.out
              rw [hnil, cutT] at hcut
              have HFIN := Lib.hid (show splitT (l.take (k + 1)) Q = ys ++ [⟨tv, f, tt, tl⟩] from by rw [HFIN0.out, ← hcut])
              have HFR := Lib.hid (show okI f ∧ okI tt from ⟨HFO.out, HRR.out.2⟩)
              clear hcut hnil
              have OUq := OUI
              have HUXq := HUXI
              have HXq := Lib.hid AI.out.1
              obtain ⟨a0, a1, a2, a3⟩ := AI.out.2
              have HYB := Lib.hid (show ys.length ≤ 6000 from by have h1 := HYL.out; have h2 := HLEN.out; have h3 := HNR.out; have h4 := HQL.out; have h5 := HNRM.out; have h6 := HNQ.out; omega)
              clear OUI HUXI
              have eb := cell_lt a0
              have HUL := Lib.hid (show ∀ x, (uq).ownBlock = some x → w2.heap.size ≤ x ∧ x < (wr).heap.size from fun x hx => OUq.out.lt x hx)
              have B1 : (ys).length + 1 ≤ maxLen := by have := HYB.out; unfold maxLen; omega
              have B2 : ((ys).length + 1) * 64 ≤ 140737488355328 := by have := HYB.out; omega
              have HW24 := Lib.hid (show w2.heap.size ≤ (wr).heap.size from HXq.out.size)
              have hS0 : Ext w2 (wr).drew ∧ (wr).drew.cell? ⟨bx, 0, none⟩ = some (.slice pa n1 ka) ∧ (wr).drew.cell? ⟨bx, 1, none⟩ = some (.int .i64 tf) ∧ (wr).drew.cell? ⟨bx, 2, none⟩ = some (.int .i64 tt) ∧ (wr).drew.cell? ⟨bx, 3, none⟩ = some (.slice pb n2 kb) := ⟨HXq.out.drew, a0, a1, a2, a3⟩
              go_wp2_with fail
              go_upto_region 17 with fail
              clear a0 a1 a2 a3
              go_region_held3 (fun w' => Ext w2 w' ∧ w'.cell? ⟨bx, 0, none⟩ = some (.slice pa n1 ka) ∧ w'.cell? ⟨bx, 1, none⟩ = some (.int .i64 tf) ∧ w'.cell? ⟨bx, 2, none⟩ = some (.int .i64 tt) ∧ w'.cell? ⟨bx, 3, none⟩ = some (.slice pb n2 kb))
                (first | with_reducible assumption | with_reducible exact keepE4 (by assumption) ((Ext.refl _).alloc _))
                (first
                  | (go_at_call 55; refine (tup_row _ _ _ _ _ _ _ _ _).mono ?_; rintro e w5 ⟨rfl, g5⟩; have x5 := Gro.ext g5; have X5 := Lib.hid (show Ext (wr) w5 from (Ext.refl _).drew.trans x5); have K5 : Ext w2 w5 ∧ w5.cell? ⟨bx, 0, none⟩ = some (.slice pa n1 ka) ∧ w5.cell? ⟨bx, 1, none⟩ = some (.int .i64 tf) ∧ w5.cell? ⟨bx, 2, none⟩ = some (.int .i64 tt) ∧ w5.cell? ⟨bx, 3, none⟩ = some (.slice pb n2 kb) := keepE4 (hS0) x5)
                  | (go_at_call 46; refine (during_any _ _ ⟨tv, tl⟩ f tt _ (by exact G04.out.ext (HXq.out.trans X5.out).full) (by exact G14.out.ext (HXq.out.trans X5.out).full) HFK.out.1 HFK.out.2).mono ?_; rintro e w6 ⟨da, db, rfl, sa, sb, x6⟩; have SA := Lib.hid sa; have SB := Lib.hid sb; obtain ⟨pc, kc, rfl, _⟩ := sa.form; obtain ⟨pd, kd, rfl, _⟩ := sb.form; have X6 := Lib.hid (X5.out.trans x6); have K6 : Ext w2 w6 ∧ w6.cell? ⟨bx, 0, none⟩ = some (.slice pa n1 ka) ∧ w6.cell? ⟨bx, 1, none⟩ = some (.int .i64 tf) ∧ w6.cell? ⟨bx, 2, none⟩ = some (.int .i64 tt) ∧ w6.cell? ⟨bx, 3, none⟩ = some (.slice pb n2 kb) := keepE4 K5 x6; dsimp only; dsimp only at SA SB; rw [← HN1.out] at SA; rw [← HN2.out] at SB; rw [← HN1.out, ← HN2.out]; clear sa sb)
                  | (refine step_append_one Rep.tup (fun _ => True) rfl _ _ 22 rfl w2.heap.size 77 i2 _ 64 Tryz.underlying22 hi2 hz20 hz21 hz22 rfl (by decide) (uq) (ys) rfl (by exact OUq.out.ext (X6.out.alloc _)) ⟨_, 0, none⟩ 1 ⟨tv, f, tt, tl⟩ [.slice pc n1 kc, .int .i64 f, .int .i64 tt, .slice pd n2 kd] rfl (by have hsub : ∀ (o : Obj), Sub (on w6 (since w5)) (on (w6.alloc o) (avoid (fun _ => True) (uq))) := fun o => (on_mono w6 fun x _ hx => ⟨fun e => by (have h1 := (HUL.out x e.symm).2; have h2 := X5.out.size; simp [since] at hx; omega), trivial⟩).trans (((Ext.refl w6).alloc o).sub _); exact ⟨_, _, rfl, SA.out.ext (hsub _), SB.out.ext (hsub _), by have h := HFR.out; exact h.1, by have h := HFR.out; exact h.2⟩) (by exact cells_new _ [.slice pc n1 kc, .int .i64 f, .int .i64 tt, .slice pd n2 kd] _) B1 B2 (by exact Nat.le_trans HW24.out (X6.out.alloc (.cells [.slice pc n1 kc, .int .i64 f, .int .i64 tt, .slice pd n2 kd].toArray 77)).size) ?_; intro g8 cap8 w8 own8 gr8 hg8; have X6a := X6.out.alloc (.cells [.slice pc n1 kc, .int .i64 f, .int .i64 tt, .slice pd n2 kd].toArray 77); have K8 : Ext w2 w8 ∧ w8.cell? ⟨bx, 0, none⟩ = some (.slice pa n1 ka) ∧ w8.cell? ⟨bx, 1, none⟩ = some (.int .i64 tf) ∧ w8.cell? ⟨bx, 2, none⟩ = some (.int .i64 tt) ∧ w8.cell? ⟨bx, 3, none⟩ = some (.slice pb n2 kb) := ⟨ext_grown (HXq.out.trans X6a) gr8 (fun x hx => (HUL.out x hx).1), cell_grown gr8 (((Ext.refl w6).alloc _).at K6.2.1) (fun x hx => HUXq.out x hx), cell_grown gr8 (((Ext.refl w6).alloc _).at K6.2.2.1) (fun x hx => HUXq.out x hx), cell_grown gr8 (((Ext.refl w6).alloc _).at K6.2.2.2.1) (fun x hx => HUXq.out x hx), cell_grown gr8 (((Ext.refl w6).alloc _).at K6.2.2.2.2) (fun x hx => HUXq.out x hx)⟩))
              all_goals
                have OU9 := Lib.hid (show OwnOf Rep.tup w8 (fun _ => True) w2.heap.size 77 (.slice (some ⟨g8, 0, none⟩) ((ys).length + 1) cap8) (splitT (l.take (k + 1)) Q) from by rw [HFIN.out]; exact own8)
                have X9 := Lib.hid K8.1
                clear own8 gr8 hg8 K8 K6 K5 X6a hS0
                go_wp2_with fail
                go_roundg (N - (k + 1))
                case measure => omega
                case rel => exact ⟨k + 1, _, by omega, rfl, by go_num, rfl, OU9.out, X9.out⟩

    · have hkN : k = N := by omega
      have hd : ¬ (k : Int) < (N : Int) := by omega
      have HFI := Lib.hid (show l.take k = l from by rw [hkN, HN.out, List.take_length])
      have HX := Lib.hid (X2.out.trans hx)
      have HO := Lib.hid (OU.out.weak (S := fun _ => True) (T := fun _ => True) (fun _ _ h => h) X2.out.size)
      clear hkN hx OU
      go_wp2_with fail
      go_ret
      exact ⟨_, rfl, by have h := HO.out; rw [HFI.out] at h; exact h, HX.out⟩

end Go.Proofs.YtdgpbpbjlnlijaaGreatDoor

/- join.matches -/
namespace Go.Proofs.YtdgpbpbjlnlijaaGreatDoor
open Go.RowKit

theorem made1 (a : Value) (n j : Nat) (h : j < n) : (madeCells #[a] n).toList[j]? = some a := by
  unfold madeCells
  rw [Array.toList_map, List.getElem?_map, Array.toList_range, List.getElem?_range h]
  have e : j % (#[a] : Array Value).size = 0 := by
    show j % 1 = 0
    omega
  show some ((#[a])[j % (#[a] : Array Value).size]!) = _
  rw [e]
  rfl
theorem pair_rd {h : View} {b o n cap : Nat} {xs : List Pair} (k : SliceOf Rep.pair h (.slice (some ⟨b, o, none⟩) n cap) xs) (i : Nat) (hi : i < xs.length) :
    h ⟨b, o + i * 4, none⟩ = some (.int .i64 (xs[i].a : Nat)) ∧ h ⟨b, o + i * 4 + 1, none⟩ = some (.int .i64 (xs[i].b : Nat)) ∧ h ⟨b, o + i * 4 + 2, none⟩ = some (.int .i64 xs[i].from_) ∧ h ⟨b, o + i * 4 + 3, none⟩ = some (.int .i64 xs[i].to_) ∧ okP xs[i] := by
  obtain ⟨c, ⟨rfl, h1⟩, h2⟩ := k.at i hi
  exact ⟨h2 0 _ rfl, h2 1 _ rfl, h2 2 _ rfl, h2 3 _ rfl, h1⟩
theorem info_perS : (Tryz.prog.info? 112).map (fun i => (i.zero, i.size, i.bytes)) = some (some (.slice none 0 0), 1, 24) := by kernel_rfl

/-- what join.matches gives: the tuples, and a row of the partners' periods for each tuple of the left relation -/
def MatPost (w : World) (n : Nat) (js : List Tup) (ps : Nat → List Per) (e : Ending) (w' : World) : Prop :=
  ∃ u pb f S base, e = .returned (.tuple #[u, .slice (some ⟨pb, 0, none⟩) n n]) ∧ w.heap.size ≤ base ∧ OwnOf Rep.tup w' S base 77 u js ∧ MInv w' pb n base 52 77 f u js ps ∧ Ext w w'
set_option maxRecDepth 100000 in
set_option maxHeartbeats 8000000 in
theorem matches_any (va vb : Value) (a b : List Tup) (ve : Value) (es : List ExprI) (pred : Int) (w : World) (ha : SliceOf Rep.tup w.cell? va a) (hb : SliceOf Rep.tup w.cell? vb b) (hla : a.length ≤ 100) (hlb : b.length ≤ 100)
    (he : SliceOf Rep.expr w.cell? ve es) (hel : es.length ≤ 1000) (hfa : ∀ t ∈ a, t.vals.length ≤ 1048576 ∧ t.lin.length ≤ 1048576) (hfb : ∀ t ∈ b, t.vals.length ≤ 1048576 ∧ t.lin.length ≤ 1048576) :
    Calls Tryz.prog 72 #[va, vb, ve, .int .i64 pred] w (MatPost w a.length (joinRaw (trE es pred) a b) (partners (trE es pred) a b)) := by
  obtain ⟨i1, hi1, hz10, hz11, hz12⟩ := info_parts info_per
  obtain ⟨i2, hi2, hz20, hz21, hz22⟩ := info_parts infoTup
  obtain ⟨i4, hi4, hz40, hz41, hz42⟩ := info_parts info_perS
  obtain ⟨n, hn⟩ : ∃ n, n = a.length := ⟨_, rfl⟩
  have HA := Lib.hid ha
  have HB := Lib.hid hb
  have HE := Lib.hid he
  have HLB := Lib.hid hlb
  obtain ⟨pa, ca, rfl, ha1, ha2, ha3⟩ := ha.form
  obtain ⟨qb, cb, rfl, hb1, hb2, hb3⟩ := hb.form
  obtain ⟨pe, ce, rfl, _⟩ := he.form
  obtain ⟨m, hm⟩ : ∃ m, m = b.length := ⟨_, rfl⟩
  rw [← hn] at HA ha3 hla ⊢
  rw [← hm] at HB hb3 ⊢
  have HN := Lib.hid hn
  have HM := Lib.hid hm
  have HPA := Lib.hid ha3
  have HPB := Lib.hid hb3
  have HEL := Lib.hid hel
  have HFA := Lib.hid hfa
  have HFB := Lib.hid hfb
  obtain ⟨tr, htr⟩ : ∃ tr, tr = trE es pred := ⟨_, rfl⟩
  have HTR := Lib.hid htr
  rw [← htr]
  clear ha hb he hn hm ha1 ha2 ha3 hb1 hb2 hb3 hel hfa hfb hlb htr
  go_enter Tryz.func72, Tryz.ntmps72
  go_wp2_with (at_make; go_loud (refine wpList_make_full _ rfl _ _ 119 rfl w.heap.size 112 i4 _ 1 Tryz.underlying119 hi4 hz40 hz41 .i64 .i64 (n : Int) (n : Int) n rfl rfl rfl rfl (by rw [hz42]; omega) (by unfold maxLen; omega) (by simp) ?_))
  intro w1 own1 gr1
  obtain ⟨pb, hpb⟩ : ∃ z, z = w.heap.size := ⟨_, rfl⟩
  have HPB0 := Lib.hid hpb
  have hcells : pb < w1.heap.size ∧ ∀ i, i < n → w1.cell? ⟨pb, i, none⟩ = some (.slice none 0 0) ∧ w1.frozen? ⟨pb, i, none⟩ = false := by
    have hF := FreeN.made own1
    rw [Nat.mul_one] at hF
    refine ⟨?_, fun i hi => ⟨?_, ?_⟩⟩
    · rcases own1.2 with ⟨h1, _⟩ | ⟨g', cap', cur, he, _, hg, _⟩
      · cases h1
      · injection he with e1 _ _
        injection e1 with e1
        injection e1 with e1
        subst e1
        rw [hpb]
        exact (Array.getElem?_eq_some_iff.1 hg).1
    · obtain ⟨g', cap', e1, _, _, _, _, hc⟩ := own_cells own1 (by omega)
      injection e1 with e1
      injection e1 with e1
      injection e1 with e1
      subst e1
      rw [hpb]
      exact hc i _ (made1 _ n i hi)
    · rw [hpb]; exact (hF i hi).2
  have X1 := Lib.hid (ext_grown (Ext.refl w) gr1 (fun k hk => by cases hk))
  have HCE := Lib.hid hcells
  rw [← hpb]
  clear own1 gr1 hcells hpb
  go_wp2_with fail
  refine (overlap_any _ _ a b _ (HA.out.ext X1.out.full) (HB.out.ext X1.out.full) (by have := HN.out; omega) HLB.out).mono ?_
  rintro e w2 ⟨v2, rfl, t2, x2⟩
  obtain ⟨L, hL⟩ : ∃ L, L = pairsOf a b := ⟨_, rfl⟩
  have hLl : L.length ≤ 10000 := by rw [hL]; exact Nat.le_trans (pairs_len a b) (Nat.mul_le_mul (show a.length ≤ 100 by have := HN.out; omega) HLB.out)
  have hLat : ∀ p ∈ L, p.a < n ∧ p.b < m := fun p hp => by
    rw [hL] at hp
    have h := raw_at ((pairsOf_perm a b).mem_iff.1 hp)
    have h1 := HN.out
    have h2 := HM.out
    omega
  rw [← hL] at t2
  obtain ⟨pp, cp, rfl, _, _, hpp⟩ := t2.form
  obtain ⟨np, hnp⟩ : ∃ z, z = L.length := ⟨_, rfl⟩
  rw [← hnp] at t2 hpp hLl ⊢
  have HP := Lib.hid t2
  have HPP := Lib.hid hpp
  have HNP := Lib.hid hnp
  have HL := Lib.hid hL
  have HAT := Lib.hid hLat
  have ST2 := Lib.hid (show MInv w2 pb n w2.heap.size 52 77 (fun _ => .slice none 0 0) (.slice none 0 0) [] (fun _ => []) from
    ⟨⟨fun i _ => OwnOf.nil _ _ _ _ _, fun i j _ _ _ k e => (by cases e)⟩, OwnOf.nil _ _ _ _ _, fun i hi => x2.at (HCE.out.2 i hi).1, fun i hi => x2.unfrozen (HCE.out.2 i hi).1 (HCE.out.2 i hi).2, fun i _ k e => (by cases e), Nat.lt_of_lt_of_le HCE.out.1 x2.size, Nat.le_refl _⟩)
  have HPW := Lib.hid HCE.out.1
  have X2 := Lib.hid (X1.out.trans x2)
  have HSZ := Lib.hid (show w.heap.size ≤ w1.heap.size ∧ w1.heap.size ≤ w2.heap.size from ⟨X1.out.size, x2.size⟩)
  clear t2 hpp hnp hL hLat x2 X1 HCE
  go_wp2_with fail
  go_loopg [10, 22] np (fun gk vo vi wr => ∃ (k : Nat) (u : Value) (f : Nat → Value), k ≤ np ∧ gk = np - k ∧ vi = .int .i64 k ∧ u = vo ∧ Hid (MInv wr pb n w2.heap.size 52 77 f u (joinUpto tr a b L k) (partUpto tr a b L k)) ∧ Hid (Chg (fun x => x = pb) w2 wr))
  case atStart => exact ⟨0, _, _, by omega, rfl, rfl, rfl, ST2.out, Chg.refl _ _⟩
  case round =>
    clear ST2
    obtain ⟨k, u, f, hk, rfl, rfl, rfl, MI, HC⟩ := hrel
    have hxw : Ext w wr := Chg.below HC.out X2.out (fun x e => by rw [e, HPB0.out]; exact Nat.le_refl _)
    have HXW := Lib.hid hxw
    by_cases hlt : k < np
    · have hkl : k < L.length := by have := HNP.out; omega
      obtain ⟨bp, op, rfl⟩ := HPP.out (by decide) (by omega)
      have hd : decide ((k : Int) < (np : Int)) = true := by simp; omega
      obtain ⟨c0, c1, c2, c3, hok⟩ := pair_rd (by have h := HP.out; rw [HNP.out] at h; exact h) k hkl
      have hab := HAT.out L[k] (List.getElem_mem hkl)
      have hsn1 := joinUpto_no tr a b L k hkl
      have hsn0 := joinUpto_yes tr a b L k hkl
      have hsn2 := partUpto_no tr a b L k hkl
      have hsn3 := partUpto_yes tr a b L k hkl
      generalize L[k] = pr at c0 c1 c2 c3 hok hab hsn0 hsn1 hsn2 hsn3
      obtain ⟨A, B, F, T⟩ := pr
      dsimp only at c0 c1 c2 c3 hok hab hsn0 hsn1 hsn2 hsn3
      obtain ⟨hAn, hBm⟩ := hab
      have hne0 : bp ≠ pb := by
        have h1 := (on_some.1 c0).1
        have h2 := HPW.out
        have h1 : w1.heap.size ≤ bp := h1
        omega
      replace c0 := HC.out.at (on_some.1 c0).2 hne0
      replace c1 := HC.out.at (on_some.1 c1).2 hne0
      replace c2 := HC.out.at (on_some.1 c2).2 hne0
      replace c3 := HC.out.at (on_some.1 c3).2 hne0
      have e0 := cell_lt c0
      obtain ⟨ba, oa, rfl⟩ := HPA.out (by decide) (by omega)
      obtain ⟨bb, ob, rfl⟩ := HPB.out (by decide) (by omega)
      have hal : A < a.length := by have := HN.out; omega
      have hbl : B < b.length := by have := HM.out; omega
      obtain ⟨xa, xl, a0, a1, a2, a3, ga, gb, r5, r6⟩ := tup_at (by have h := HA.out; rw [HN.out] at h; exact h) A hal
      obtain ⟨ya, yl, b0, b1, b2, b3, gc, gd, r7, r8⟩ := tup_at (by have h := HB.out; rw [HM.out] at h; exact h) B hbl
      clear r5 r6 r7 r8
      have hfx := HFA.out a[A] (List.getElem_mem hal)
      have hfy := HFB.out b[B] (List.getElem_mem hbl)
      have hpt : pairT a b ⟨A, B, F, T⟩ = tupOf (pairRow (tupRow a[A]) (tupRow b[B])) ⟨F, T⟩ := by
        unfold pairT
        rw [getD_some (List.getElem?_eq_getElem hal), getD_some (List.getElem?_eq_getElem hbl)]
      rw [hpt] at hsn0 hsn1 hsn2 hsn3
      generalize a[A] = x at a1 a2 ga gb hfx hsn0 hsn1 hsn2 hsn3
      generalize b[B] = y at b1 b2 gc gd hfy hsn0 hsn1 hsn2 hsn3
      obtain ⟨xv, xf, xt, xn⟩ := x
      obtain ⟨yv, yf, yt, yn⟩ := y
      dsimp only [tupOf, pairRow, tupRow] at a1 a2 ga gb b1 b2 gc gd hfx hfy hsn0 hsn1 hsn2 hsn3
      replace a0 := hxw.at a0
      replace a1 := hxw.at a1
      replace a2 := hxw.at a2
      replace a3 := hxw.at a3
      replace b0 := hxw.at b0
      replace b1 := hxw.at b1
      replace b2 := hxw.at b2
      replace b3 := hxw.at b3
      obtain ⟨p1, k1, rfl, _⟩ := ga.form
      obtain ⟨p2, k2, rfl, _⟩ := gb.form
      obtain ⟨p3, k3, rfl, _⟩ := gc.form
      obtain ⟨p4, k4, rfl, _⟩ := gd.form
      have GA := Lib.hid ga
      have GB := Lib.hid gb
      have GC := Lib.hid gc
      have GD := Lib.hid gd
      have HFX := Lib.hid hfx
      have HFY := Lib.hid hfy
      have SN0 := Lib.hid hsn0
      have SN1 := Lib.hid hsn1
      have SN2 := Lib.hid hsn2
      have SN3 := Lib.hid hsn3
      have HOK := Lib.hid hok
      obtain ⟨zn, hzn⟩ : ∃ z, z = (xv ++ yv).length := ⟨_, rfl⟩
      have HZN := Lib.hid hzn
      clear hzn
      have hAI : (A : Int) < (n : Int) := by omega
      have hBI : (B : Int) < (m : Int) := by omega
      clear ga gb gc gd hfx hfy hsn0 hsn1 hsn2 hsn3 hpt hal hbl hkl hxw hok hne0
      go_wp2_with fail
      obtain ⟨tp, htp⟩ : ∃ z, z = wr.heap.size := ⟨_, rfl⟩
      obtain ⟨W3, hW3⟩ : ∃ W3, W3 = wr.alloc (.cells #[.int .i64 (A : Nat), .int .i64 (B : Nat), .int .i64 F, .int .i64 T] 181) := ⟨_, rfl⟩
      have x3 : Ext wr W3 := by rw [hW3]; exact (Ext.refl wr).alloc _
      have hS0 : Ext wr W3.drew ∧ W3.drew.cell? ⟨tp, 0, none⟩ = some (.int .i64 (A : Nat)) ∧ W3.drew.cell? ⟨tp, 1, none⟩ = some (.int .i64 (B : Nat)) ∧ W3.drew.cell? ⟨tp, 2, none⟩ = some (.int .i64 F) ∧ W3.drew.cell? ⟨tp, 3, none⟩ = some (.int .i64 T) ∧ W3.drew.cell? ⟨ba, oa + A * 4, none⟩ = some (.slice p1 xv.length k1) ∧ W3.drew.cell? ⟨ba, oa + A * 4 + 1, none⟩ = some (.int .i64 xf) ∧ W3.drew.cell? ⟨ba, oa + A * 4 + 2, none⟩ = some (.int .i64 xt) ∧ W3.drew.cell? ⟨ba, oa + A * 4 + 3, none⟩ = some (.slice p2 xn.length k2) ∧ W3.drew.cell? ⟨bb, ob + B * 4, none⟩ = some (.slice p3 yv.length k3) ∧ W3.drew.cell? ⟨bb, ob + B * 4 + 1, none⟩ = some (.int .i64 yf) ∧ W3.drew.cell? ⟨bb, ob + B * 4 + 2, none⟩ = some (.int .i64 yt) ∧ W3.drew.cell? ⟨bb, ob + B * 4 + 3, none⟩ = some (.slice p4 yn.length k4) := by
        rw [htp, hW3]
        exact ⟨((Ext.refl wr).alloc _).drew, (by go_simp), (by go_simp), (by go_simp), (by go_simp), ((Ext.refl wr).alloc _).drew.at a0, ((Ext.refl wr).alloc _).drew.at a1, ((Ext.refl wr).alloc _).drew.at a2, ((Ext.refl wr).alloc _).drew.at a3, ((Ext.refl wr).alloc _).drew.at b0, ((Ext.refl wr).alloc _).drew.at b1, ((Ext.refl wr).alloc _).drew.at b2, ((Ext.refl wr).alloc _).drew.at b3⟩
      have HTP := Lib.hid htp
      have X3 := Lib.hid x3
      try rw [← htp]
      try rw [← hW3]
      clear hW3 htp x3 c0 c1 c2 c3 a0 a1 a2 a3 b0 b1 b2 b3 e0 hd
      go_region_held3 (fun w' => Ext wr w' ∧ w'.cell? ⟨tp, 0, none⟩ = some (.int .i64 (A : Nat)) ∧ w'.cell? ⟨tp, 1, none⟩ = some (.int .i64 (B : Nat)) ∧ w'.cell? ⟨tp, 2, none⟩ = some (.int .i64 F) ∧ w'.cell? ⟨tp, 3, none⟩ = some (.int .i64 T) ∧ w'.cell? ⟨ba, oa + A * 4, none⟩ = some (.slice p1 xv.length k1) ∧ w'.cell? ⟨ba, oa + A * 4 + 1, none⟩ = some (.int .i64 xf) ∧ w'.cell? ⟨ba, oa + A * 4 + 2, none⟩ = some (.int .i64 xt) ∧ w'.cell? ⟨ba, oa + A * 4 + 3, none⟩ = some (.slice p2 xn.length k2) ∧ w'.cell? ⟨bb, ob + B * 4, none⟩ = some (.slice p3 yv.length k3) ∧ w'.cell? ⟨bb, ob + B * 4 + 1, none⟩ = some (.int .i64 yf) ∧ w'.cell? ⟨bb, ob + B * 4 + 2, none⟩ = some (.int .i64 yt) ∧ w'.cell? ⟨bb, ob + B * 4 + 3, none⟩ = some (.slice p4 yn.length k4))
        (first | with_reducible assumption | with_reducible exact K4 | exact keepE12 hS0 ((Ext.refl W3).alloc _).drew.ofDrew | exact keepE12 hS0 (ext_W4 x4a (Nat.le_refl _) _ _ _ _) | exact keepE12 K4 ((Ext.refl _).alloc _) | exact keepE12 K4 (ext_W4 ((Ext.refl _).alloc _) (Nat.le_refl _) _ _ _ _))
        (first
          | (go_at_call 75; refine (combine_any _ _ _ _ xv yv xn yn _ _ _ _ _ _ _ (GA.out.ext (HXW.out.trans X3.out.drew).full) (GC.out.ext (HXW.out.trans X3.out.drew).full) (GB.out.ext (HXW.out.trans X3.out.drew).full) (GD.out.ext (HXW.out.trans X3.out.drew).full) HFX.out.1 HFY.out.1 HFX.out.2 HFY.out.2).mono ?_; rintro e w4 ⟨va, la, rfl, sv, sl, x4⟩; obtain ⟨q1, j1, rfl, _⟩ := sv.form; obtain ⟨q2, j2, rfl, _⟩ := sl.form; rw [← HZN.out] at sv ⊢; have K4 := keepE12 hS0 x4)
          | (go_at_call 75; refine (combine_any _ _ _ _ xv yv xn yn _ _ _ _ _ _ _ (GA.out.ext (HXW.out.trans (X3.out.alloc _).drew).full) (GC.out.ext (HXW.out.trans (X3.out.alloc _).drew).full) (GB.out.ext (HXW.out.trans (X3.out.alloc _).drew).full) (GD.out.ext (HXW.out.trans (X3.out.alloc _).drew).full) HFX.out.1 HFY.out.1 HFX.out.2 HFY.out.2).mono ?_; rintro e w4 ⟨va, la, rfl, sv, sl, x4⟩; obtain ⟨q1, j1, rfl, _⟩ := sv.form; obtain ⟨q2, j2, rfl, _⟩ := sl.form; rw [← HZN.out] at sv ⊢; have x4a : Ext W3.drew w4 := ((Ext.refl W3).alloc _).drew.ofDrew.trans x4; have K4 := keepE12 hS0 x4a; obtain ⟨⟨m0, y0⟩, ⟨m1, y1⟩, ⟨m2, y2⟩, ⟨m3, y3⟩, y4, y5, y6, y7⟩ := (Free4.ext (free_new W3) (Ext.refl _).drew).ext x4; have z4 := cell_lt y0))
      all_goals
        have k5 := ‹Ext wr (_ : World) ∧ _›
        obtain ⟨W5, nb, hW5, hnb, TB⟩ : ∃ W5 nb, W5 = _ ∧ nb = _ ∧ TupBox wr W5 nb (.slice q1 zn j1) (.slice q2 (mergeL xn yn).length j2) F T (xv ++ yv) (mergeL xn yn) := ⟨_, _, rfl, rfl, by first | exact box_before X3.out x4 sv sl | exact box_alloc (T := 77) X3.out.drew x4 sv sl⟩
        rw [← hW5] at k5 ⊢
        try rw [← hnb]
        have d0 := k5.2.1
        have d2 := k5.2.2.2.1
        have d3 := k5.2.2.2.2.1
        have g0 := TB.c0
        have g1 := TB.c1
        have g2 := TB.c2
        have g3 := TB.c3
        have e0 := cell_lt d0
        have e1 := cell_lt g0
        have BX := Lib.hid TB
        have HAI := Lib.hid (And.intro hAn hAI)
        clear k5 TB K4 x4 sv sl hW5 hnb
        go_wp2_with fail
        refine (isTrueE_any _ es pred _ (xv ++ yv) _ (HE.out.ext (HXW.out.trans BX.out.ext).full) HEL.out (BX.out.sv.ext (on_sub _ _))).mono ?_
        rintro e w6 ⟨rfl, x6⟩
        rw [← HTR.out]
        have X6 := Lib.hid (BX.out.ext.trans x6)
        have MI6 := Lib.hid (MI.out.ext X6.out)
        have HC6 := Lib.hid (HC.out.ext X6.out)
        cases htv : tr (xv ++ yv) with
        | false =>
          have HJ := Lib.hid (show joinUpto tr a b L (k + 1) = joinUpto tr a b L k from SN1.out htv)
          have HP2 := Lib.hid (SN2.out htv)
          clear htv x6 MI HC
          go_wp2_with fail
          go_roundg (np - (k + 1))
          case measure => omega
          case rel => exact ⟨k + 1, u, f, by omega, rfl, by go_num, rfl, by rw [HJ.out, HP2.out]; exact MI6.out, HC6.out⟩
        | true =>
          have HJ := Lib.hid (show joinUpto tr a b L (k + 1) = joinUpto tr a b L k ++ [⟨xv ++ yv, F, T, mergeL xn yn⟩] from SN0.out htv)
          have HP2 := Lib.hid (SN3.out htv)
          have hys := joinUpto_len tr a b L k
          have hps := partUpto_len tr a b L k A
          obtain ⟨ys, hys0⟩ : ∃ z, z = joinUpto tr a b L k := ⟨_, rfl⟩
          obtain ⟨P, hP0⟩ : ∃ z, z = partUpto tr a b L k := ⟨_, rfl⟩
          rw [← hys0] at MI6 HJ hys
          rw [← hP0] at MI6 HP2 hps
          have hLn : L.length ≤ 10000 := by have := HNP.out; omega
          have B1 : ys.length + 1 ≤ maxLen := by unfold maxLen; omega
          have B2 : (ys.length + 1) * 64 ≤ 140737488355328 := by omega
          have HPS := Lib.hid (show (P A).length ≤ 10000 by omega)
          replace d0 := x6.at d0
          replace d2 := x6.at d2
          replace d3 := x6.at d3
          replace g0 := x6.at g0
          replace g1 := x6.at g1
          replace g2 := x6.at g2
          replace g3 := x6.at g3
          replace e0 := cell_lt d0
          replace e1 := cell_lt g0
          have HSUB := Lib.hid (show ∀ o, Sub (on W5 (fun k => k ≠ nb ∧ wr.heap.size ≤ k)) (on (w6.alloc o) (avoid (Off f n pb) u)) from fun o => (on_mono W5 (fun x _ hx => ⟨fun e => by have h1 := (MI.out.out.lt x e.symm).2; omega, fun e => by have h1 := MI.out.lo; have h2 := MI.out.hi; omega, fun i hi e => by have h1 := ((MI.out.fam.own i hi).lt x e).2; omega⟩)).trans ((x6.trans ((Ext.refl w6).alloc o)).sub _))
          have X66 := Lib.hid x6
          have HU6 := Lib.hid (show ∀ x, u.ownBlock = some x → x < wr.heap.size from fun x hx => (MI.out.out.lt x hx).2)
          have HFB := Lib.hid (show ∀ i, i < n → ∀ x, (f i).ownBlock = some x → x < wr.heap.size from fun i hi x hx => ((MI.out.fam.own i hi).lt x hx).2)
          have HTB := Lib.hid (show wr.heap.size ≤ tp from by rw [HTP.out]; exact Nat.le_refl _)
          clear htv x6 MI HC hys hps hys0 hP0 hLn
          go_wp2_with (at_builtin; go_loud (refine wpList_append_one Rep.tup (Off f n pb) rfl _ _ 22 rfl w2.heap.size 77 i2 _ 64 Tryz.underlying22 hi2 hz20 hz21 hz22 rfl (by decide) u ys rfl (MI6.out.out.ext ((Ext.refl w6).alloc _)) ⟨_, 0, none⟩ 1 ⟨xv ++ yv, F, T, mergeL xn yn⟩ [.slice q1 zn j1, .int .i64 F, .int .i64 T, .slice q2 (mergeL xn yn).length j2] rfl ⟨_, _, rfl, BX.out.sv.ext (HSUB.out _), BX.out.sl.ext (HSUB.out _), HOK.out.2.1, HOK.out.2.2⟩ (by exact cells_new w6 [.slice q1 zn j1, .int .i64 F, .int .i64 T, .slice q2 (mergeL xn yn).length j2] _) B1 B2 (Nat.le_trans MI6.out.hi ((Ext.refl w6).alloc _).size) ?_))
          intro g8 cap8 w8 own8 gr8 hg8
          have x68 : Ext w6 (w6.alloc (.cells #[.slice q1 zn j1, .int .i64 F, .int .i64 T, .slice q2 (mergeL xn yn).length j2] 77)) := (Ext.refl w6).alloc _
          have M8 := Lib.hid (MInv.push (MI6.out.ext x68) own8 gr8 (by rcases hg8 with h | h; exact .inl h; exact .inr (by rw [h]; simp)))
          have hut : ∀ x, u.ownBlock = some x → x ≠ tp := fun x hx => by have h1 := HU6.out x hx; have h2 := HTB.out; omega
          have hub : ∀ x, u.ownBlock = some x → w2.heap.size ≤ x := fun x hx => (MI6.out.out.lt x hx).1
          replace d0 := cell_grown gr8 (x68.at d0) hut
          replace d2 := cell_grown gr8 (x68.at d2) hut
          replace d3 := cell_grown gr8 (x68.at d3) hut
          have HC8 := Lib.hid ((HC6.out.ext x68).grown gr8 (fun x hx => .inr (hub x hx)))
          have hcA := M8.out.cell A HAI.out.1
          have hfr := M8.out.free A HAI.out.1
          have hoA := M8.out.fam.own A HAI.out.1
          have hlt := hoA.lt
          obtain ⟨pn, hpn⟩ : ∃ z, z = (P A).length := ⟨_, rfl⟩
          obtain ⟨p9, c9, hfa, _⟩ := hoA.shapeL
          rw [← hpn] at hfa
          have HPN := Lib.hid hpn
          have HFA9 := Lib.hid hfa
          rw [hfa] at hcA hoA hlt
          have OA := Lib.hid hoA
          have HLT := Lib.hid (show ∀ x, (Value.slice p9 pn c9).ownBlock = some x → w2.heap.size ≤ x ∧ x < w8.heap.size from hlt)
          have HTN := Lib.hid (show ∀ x, (Value.slice p9 pn c9).ownBlock = some x → x ≠ tp from fun x hx e => by
            have h1 := HFB.out A HAI.out.1 x (by rw [hfa]; exact hx)
            have h2 := HTB.out
            omega)
          have HPX := Lib.hid (show ∀ x, (Value.slice p9 pn c9).ownBlock = some x → x ≠ pb from fun x hx e => by have h1 := (hlt x hx).1; have h2 := M8.out.lo; omega)
          have C1 : (P A).length + 1 ≤ maxLen := by have := HPS.out; unfold maxLen; omega
          have C2 : ((P A).length + 1) * 16 ≤ 140737488355328 := by have := HPS.out; omega
          have e8 := cell_lt d0
          have e9 := cell_lt hcA
          have hAn' := HAI.out.1
          have hAI' := HAI.out.2
          clear x68 own8 gr8 hg8 g0 g1 g2 g3 e0 e1 hut hub MI6 HC6 hpn hfa hoA hlt HU6
          go_wp2_with fail
          go_region_law (first
            | (go_loud (refine step_append_one Rep.per (fun _ => False) rfl _ _ 112 rfl w2.heap.size 52 i1 _ 16 Tryz.underlying112 hi1 hz10 hz11 hz12 rfl (by decide) (.slice p9 pn c9) (P A) rfl (by exact OA.out.ext ((Ext.refl w8).alloc (.cells #[.int .i64 F, .int .i64 T] 52)).drew) ⟨_, 0, none⟩ 1 ⟨F, T⟩ [.int .i64 F, .int .i64 T] rfl ⟨rfl, HOK.out.2⟩ (by exact cells_new w8 [.int .i64 F, .int .i64 T] _) C1 C2 (by exact Nat.le_trans M8.out.hi ((Ext.refl w8).alloc (.cells #[.int .i64 F, .int .i64 T] 52)).drew.size) ?_); intro g9 cap9 w9 own9 gr9 hg9; have y0 := cell_grown gr9 (((Ext.refl w8).alloc (.cells #[.int .i64 F, .int .i64 T] 52)).drew.at d0) HTN.out; have y1 := cell_grown gr9 (((Ext.refl w8).alloc (.cells #[.int .i64 F, .int .i64 T] 52)).drew.at hcA) HPX.out; have y2 := frozen_grown gr9 (((Ext.refl w8).alloc (.cells #[.int .i64 F, .int .i64 T] 52)).drew.at hcA) (((Ext.refl w8).alloc (.cells #[.int .i64 F, .int .i64 T] 52)).drew.unfrozen hcA hfr) HPX.out; have y3 := cell_lt y1))
          all_goals
            have xl : Ext w8 (w8.alloc (.cells #[.int .i64 F, .int .i64 T] 52)).drew := ((Ext.refl w8).alloc _).drew
            have M10 := Lib.hid (MInv.part (M8.out.ext xl) HAI.out.1 own9 (by rw [HFA9.out]; exact gr9) (by rw [HFA9.out]; exact hg9))
            have HC10 := Lib.hid (((HC8.out.ext xl).grown gr9 (fun x hx => .inr (HLT.out x hx).1)).setCell (p := ⟨pb, A, none⟩) (.inl rfl) (.slice (some ⟨g9, 0, none⟩) ((P A).length + 1) cap9))
            clear xl own9 gr9 hg9 y0 y1 y2 y3 M8 HC8 d0 d2 d3 hcA hfr e8 e9
            go_wp2_with fail
            go_roundg (np - (k + 1))
            case measure => omega
            case rel => exact ⟨k + 1, _, _, by omega, rfl, by go_num, rfl, by rw [HJ.out, HP2.out]; exact M10.out, HC10.out⟩
    · have hkN : k = np := by omega
      have hd : ¬ (k : Int) < (np : Int) := by omega
      have HFI := Lib.hid (show joinUpto tr a b L k = joinRaw tr a b ∧ partUpto tr a b L k = partners tr a b from by
        unfold joinUpto joinRaw
        rw [hkN, HNP.out, List.take_length, ← HL.out]
        refine ⟨rfl, ?_⟩
        funext i
        unfold partUpto partners
        rw [List.take_length, ← HL.out])
      have hm := MI.out
      rw [HFI.out.1, HFI.out.2] at hm
      have MF := Lib.hid hm
      have HB2 := Lib.hid (show w.heap.size ≤ w2.heap.size from X2.out.size)
      clear hm hkN MI HC
      go_wp2_with fail
      refine bodyPost_ret (v := .tuple #[u, .slice (some ⟨pb, 0, none⟩) n n]) (by simp [results, Tryz.results72, go_sem]) rfl ⟨u, pb, f, _, _, rfl, HB2.out, MF.out.out, MF.out, HXW.out⟩

end Go.Proofs.YtdgpbpbjlnlijaaGreatDoor

/- join.Inner -/
namespace Go.Proofs.YtdgpbpbjlnlijaaGreatDoor
open Go.RowKit

/-- short rows of short texts -/
def fewT (l : List Tup) : Prop := ∀ t ∈ l, t.vals.length ≤ 1000 ∧ (∀ x ∈ t.vals, x.s.size ≤ 1048576) ∧ t.lin.length ≤ 1000
theorem fewT.long {l : List Tup} (h : fewT l) : ∀ t ∈ l, t.vals.length ≤ 1048576 ∧ t.lin.length ≤ 1048576 := fun t ht => by have := h t ht; omega
theorem fewT.getD {l : List Tup} (h : fewT l) (k : Nat) : (l.getD k tupD).vals.length ≤ 1000 ∧ (∀ x ∈ (l.getD k tupD).vals, x.s.size ≤ 1048576) ∧ (l.getD k tupD).lin.length ≤ 1000 := by
  rw [List.getD_eq_getElem?_getD]
  cases hk : l[k]? with
  | none => exact ⟨by show ([] : List Val).length ≤ _; simp, fun x hx => (by cases hx), by show ([] : List Int).length ≤ _; simp⟩
  | some t => exact h t (List.mem_of_getElem? hk)
theorem merge_len (a b : List Int) : (mergeL a b).length ≤ a.length + b.length := by
  have h := asc_len (mergeL_law a b).1 (xs := a ++ b) fun x hx => List.mem_append.2 (((mergeL_law a b).2 x).1 hx)
  rw [List.length_append] at h
  exact h
theorem join_fit {tr : List Val → Bool} {a b : List Tup} (ha : fewT a) (hb : fewT b) : ∀ t ∈ joinRaw tr a b, t.vals.length ≤ 2000 ∧ (∀ x ∈ t.vals, x.s.size ≤ 1048576) ∧ t.lin.length ≤ 2000 := by
  intro t ht
  unfold joinRaw at ht
  obtain ⟨p, _, rfl⟩ := List.mem_map.1 (List.mem_filter.1 ht).1
  obtain ⟨h1, h2, h3⟩ := ha.getD p.a
  obtain ⟨h4, h5, h6⟩ := hb.getD p.b
  refine ⟨?_, fun x hx => ?_, ?_⟩
  · show ((a.getD p.a tupD).vals ++ (b.getD p.b tupD).vals).length ≤ _
    rw [List.length_append]; omega
  · rcases List.mem_append.1 (show x ∈ (a.getD p.a tupD).vals ++ (b.getD p.b tupD).vals from hx) with hx | hx
    · exact h2 x hx
    · exact h5 x hx
  · show (mergeL (a.getD p.a tupD).lin (b.getD p.b tupD).lin).length ≤ _
    have := merge_len (a.getD p.a tupD).lin (b.getD p.b tupD).lin
    omega
theorem joinRaw_len (tr : List Val → Bool) (a b : List Tup) : (joinRaw tr a b).length ≤ a.length * b.length := by
  unfold joinRaw
  refine Nat.le_trans (List.length_filter_le _ _) ?_
  rw [List.length_map]
  exact pairs_len a b

set_option maxRecDepth 100000 in
set_option maxHeartbeats 4000000 in
theorem inner_any (va vb : Value) (a b : List Tup) (ve : Value) (es : List ExprI) (pred : Int) (w : World) (ha : SliceOf Rep.tup w.cell? va a) (hb : SliceOf Rep.tup w.cell? vb b) (hla : a.length ≤ 100) (hlb : b.length ≤ 100)
    (he : SliceOf Rep.expr w.cell? ve es) (hel : es.length ≤ 1000) (hfa : fewT a) (hfb : fewT b) (hT : TabW w) :
    Calls Tryz.prog 31 #[va, vb, ve, .int .i64 pred] w fun e w' => ∃ v', e = .returned v' ∧ SliceOf Rep.tup (on w' (since w)) v' (innerT (trE es pred) a b) ∧ Ext w w' := by
  have HM := Lib.hid (matches_any va vb a b ve es pred w ha hb hla hlb he hel hfa.long hfb.long)
  have HF := Lib.hid (show fitN (joinRaw (trE es pred) a b) from ⟨Nat.le_trans (joinRaw_len _ a b) (Nat.le_trans (Nat.mul_le_mul hla hlb) (by decide)), fun t ht => by
    obtain ⟨h1, h2, h3⟩ := join_fit hfa hfb t ht
    exact ⟨⟨by omega, h2⟩, by omega⟩⟩)
  obtain ⟨pa, ca, rfl, _⟩ := ha.form
  obtain ⟨pb, cb, rfl, _⟩ := hb.form
  obtain ⟨pe, ce, rfl, _⟩ := he.form
  have HT := Lib.hid hT
  obtain ⟨n, hn⟩ : ∃ n, n = a.length := ⟨_, rfl⟩
  rw [← hn] at HM ⊢
  obtain ⟨js, hjs⟩ : ∃ js, js = joinRaw (trE es pred) a b := ⟨_, rfl⟩
  have hin : innerT (trE es pred) a b = normT js := by rw [hjs]; rfl
  rw [hin]
  rw [← hjs] at HM HF
  clear ha hb he hT hn hjs hin
  go_enter Tryz.func31, Tryz.ntmps31
  go_wp2_with fail
  refine HM.out.mono ?_
  rintro e w1 ⟨u, pb2, f, S, base, rfl, hb2, ho, hm, x1⟩
  have s1 := ho.slice
  obtain ⟨p1, c1, rfl, _⟩ := s1.form
  have S1 := Lib.hid s1
  have X1 := Lib.hid x1
  clear s1 x1 ho hm hb2
  go_wp2_with fail
  refine (normalize_any _ js _ S1.out HF.out (HT.out.ext X1.out)).mono ?_
  rintro e w2 ⟨v2, rfl, t2, x2⟩
  have T2 := Lib.hid (show SliceOf Rep.tup (on w2 (since w)) v2 (normT js) from t2.ext (on_mono _ fun k _ hk => Nat.le_trans X1.out.size hk))
  obtain ⟨p2, c2, rfl, _⟩ := t2.form
  have X2 := Lib.hid (X1.out.trans x2)
  clear t2 x2 X1
  go_wp2_with fail
  go_ret
  exact ⟨_, rfl, T2.out, X2.out⟩

end Go.Proofs.YtdgpbpbjlnlijaaGreatDoor

/- plain: the reference's levels and normal form agree with the ones of tuple.Normalize; no program in sight -/
namespace Go.Proofs.YtdgpbpbjlnlijaaGreatDoor
open Go.RowKit

/-- one level: open at the first point where c holds, closed at the next where it does not -/
def oneStep (c : Bool) (x : Int) (q : Option Int × List Per) : Option Int × List Per :=
  match q.1 with
  | none => if c = true then (some x, q.2) else (none, q.2)
  | some s => if c = true then (some s, q.2) else (none, q.2 ++ [⟨s, x⟩])
def oneOf (P : List Int) (f : Nat → Nat) (j : Nat) : Nat → Option Int × List Per
  | 0 => (none, [])
  | m + 1 => oneStep (decide (j < f m)) P[m]! (oneOf P f j m)
def closeAt (st : List Int) (d : Nat) (x : Int) (j : Nat) : List Per := if d ≤ j then ((st[j]?).map fun s => (⟨s, x⟩ : Per)).toList else []
/-- the pieces between the points where more than j hold -/
def lvlSet (P : List Int) (f : Nat → Nat) (j : Nat) : Nat → List Per
  | 0 => []
  | i + 1 => lvlSet P f j i ++ if j < f i then [⟨P[i]!, P[i + 1]!⟩] else []
/-- periods by their starts, then their ends -/
def cmpPer2 (x y : Per) : Int := if cmpI x.from_ y.from_ = 0 then cmpI x.to_ y.to_ else cmpI x.from_ y.from_
def refLev (P : List Int) (f : Nat → Nat) : Nat → List Per
  | 0 => []
  | k + 1 => sortBy cmpPer2 (refLev P f k ++ refNorm (lvlSet P f k (P.length - 1)))
/-- the reference's levels of some tuples -/
def refLevels (l : List Tup) : List Per := refLev (pts l) (fun i => cntAt l (pts l)[i]!) l.length
open Classical in
/-- the reference's normal form, over the sorted rows -/
noncomputable def refNU (R : List Row) (l : List Tup) : Nat → List Tup
  | 0 => []
  | i + 1 => refNU R l i ++ if 0 < i ∧ R[i - 1]? = R[i]? then [] else ((R[i]?).map fun r => (refLevels (l.filter fun t => decide (tupRow t = r))).map (tupOf r)).getD []
open Classical in
/-- the first of each run -/
noncomputable def heads (R : List Row) : Nat → List Row
  | 0 => []
  | i + 1 => heads R i ++ if 0 < i ∧ R[i - 1]? = R[i]? then [] else (R[i]?).toList
end Go.Proofs.YtdgpbpbjlnlijaaGreatDoor
