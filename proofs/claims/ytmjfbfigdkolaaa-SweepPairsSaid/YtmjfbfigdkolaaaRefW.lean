/- the walk of the reference's OverlapPairs, and of SweepPairs; printed by gen_refw.py -/
import Derived.Test.YtmjfbfigdkolaaaRefO
namespace Go.Proofs.Ytmjfbfigdkolaaa
open Go.RowKit

set_option maxRecDepth 100000 in
set_option maxHeartbeats 8000000 in
theorem refOverlap_any (va vb : Value) (a b : List Tup) (w : World) (ha : SliceOf Rep.tup w.cell? va a) (hb : SliceOf Rep.tup w.cell? vb b) (hla : a.length ≤ 25) (hlb : b.length ≤ 25) :
    Calls Try.prog 32 #[va, vb] w fun e w' => ∃ v, e = .returned v ∧ SliceOf Rep.pair (on w' (fun k => w.heap.size ≤ k)) v (pairsOf a b) ∧ Ext w w' := by
  obtain ⟨i9, hi9, hz9, hz91, hz92⟩ := info_parts info_pair
  have mixed := mixedOrd
  have HA := Lib.hid ha
  have HB := Lib.hid hb
  obtain ⟨pa, ca, rfl, _, _, hpa⟩ := ha.form
  obtain ⟨pb, cb, rfl, _, _, hpb⟩ := hb.form
  have HPA := Lib.hid hpa
  have HPB := Lib.hid hpb
  obtain ⟨Na, hNa⟩ : ∃ N, N = a.length := ⟨_, rfl⟩
  obtain ⟨Nb, hNb⟩ : ∃ N, N = b.length := ⟨_, rfl⟩
  rw [← hNa, ← hNb]
  have HN := Lib.hid (And.intro hNa hNb)
  have hNa5 : Na ≤ 25 := by omega
  have hNb5 : Nb ≤ 25 := by omega
  clear ha hb hpa hpb hNa hNb hla hlb
  go_enter Try.func32, Try.ntmps32
  go_wp2_with fail
  go_loopg [5, 15] Na (fun gk vo vi wr => ∃ (i : Nat) (u : Value) (out : List Pair), i ≤ Na ∧ gk = Na - i ∧ vi = .int .i64 i ∧ u = vo ∧ Hid (OwnOf Rep.pair wr (fun _ => True) w.heap.size 59 u out) ∧ Hid (DoneAt a b i 0 out) ∧ Hid (Ext w wr))
  case atStart => exact ⟨0, _, [], by omega, rfl, rfl, rfl, OwnOf.nil _ _ _ _ _, DoneAt.nil a b, Ext.refl w⟩
  case round =>
    obtain ⟨i, u, out, hi, rfl, rfl, rfl, OW, DN, X1⟩ := hrel
    by_cases hlt : i < Na
    · have hil : i < a.length := by have := HN.out; omega
      have hd : decide ((i : Int) < (Na : Int)) = true := by simp; omega
      obtain ⟨ba, oa, rfl⟩ := HPA.out (by decide) (by have := HN.out; omega)
      have hv := HA.out
      rw [← HN.out.1] at hv
      obtain ⟨ta, tb, c0, c1, c2, c3, s0, s1, r1, r2⟩ := tup_at hv i hil
      obtain ⟨pc, kc, ta', _⟩ := s0.form
      obtain ⟨pd, kd, tb', _⟩ := s1.form
      subst ta' tb'
      replace c0 := X1.out.at c0
      replace c1 := X1.out.at c1
      replace c2 := X1.out.at c2
      replace c3 := X1.out.at c3
      obtain ⟨tx, htx⟩ : ∃ t, t = a[i] := ⟨_, rfl⟩
      have HTX := Lib.hid (show a[i]? = some tx from by rw [List.getElem?_eq_getElem hil, htx])
      rw [← htx] at c1 c2 r1 r2
      generalize a[i].vals.length = na at c0
      generalize a[i].lin.length = nb at c3
      obtain ⟨xf, hxf⟩ : ∃ x, x = tx.from_ := ⟨_, rfl⟩
      obtain ⟨xt, hxt⟩ : ∃ x, x = tx.to_ := ⟨_, rfl⟩
      rw [← hxf] at c1 r1
      rw [← hxt] at c2 r2
      have HXF := Lib.hid (show xf = tx.from_ ∧ xt = tx.to_ ∧ okI xf ∧ okI xt from ⟨hxf, hxt, r1, r2⟩)
      have e0 := cell_lt c0
      clear htx hxf hxt r1 r2 hv s0 s1
      go_wp2_with fail
      have X2 := Lib.hid (X1.out.alloc (.cells #[.slice pc na kc, .int .i64 xf, .int .i64 xt, .slice pd nb kd] 61))
      have OW2 := Lib.hid (OW.out.ext ((Ext.refl wr).alloc (.cells #[.slice pc na kc, .int .i64 xf, .int .i64 xt, .slice pd nb kd] 61)))
      have K2 := Lib.hid (show (wr.alloc (.cells #[.slice pc na kc, .int .i64 xf, .int .i64 xt, .slice pd nb kd] 61)).cell? ⟨wr.heap.size, 1, none⟩ = some (.int .i64 xf) ∧ (wr.alloc (.cells #[.slice pc na kc, .int .i64 xf, .int .i64 xt, .slice pd nb kd] 61)).cell? ⟨wr.heap.size, 2, none⟩ = some (.int .i64 xt) from ⟨by simp, by simp⟩)
      have Z2 := Lib.hid (show wr.heap.size < (wr.alloc (.cells #[.slice pc na kc, .int .i64 xf, .int .i64 xt, .slice pd nb kd] 61)).heap.size from by simp)
      have U2 := Lib.hid (show u.ownBlock ≠ some wr.heap.size from fun e => by have := (OW.out.lt _ e).2; omega)
      clear OW X1 c0 c1 c2 c3 e0
      generalize wr.alloc (.cells #[.slice pc na kc, .int .i64 xf, .int .i64 xt, .slice pd nb kd] 61) = W2 at X2 OW2 K2 Z2 ⊢
      generalize wr.heap.size = E1 at K2 Z2 U2 ⊢
      go_loopg [5, 22] Nb (fun gk vo vk wr => ∃ (k : Nat) (u : Value) (out : List Pair), k ≤ Nb ∧ gk = Nb - k ∧ vk = .int .i64 k ∧ u = vo ∧ Hid (OwnOf Rep.pair wr (fun _ => True) w.heap.size 59 u out) ∧ Hid (DoneAt a b i k out) ∧ Hid (Ext w wr) ∧ Hid (wr.cell? ⟨E1, 1, none⟩ = some (.int .i64 xf) ∧ wr.cell? ⟨E1, 2, none⟩ = some (.int .i64 xt)) ∧ Hid (u.ownBlock ≠ some E1) ∧ Hid (E1 < wr.heap.size))
      case atStart => exact ⟨0, _, out, by omega, rfl, rfl, rfl, OW2.out, DN.out, X2.out, K2.out, U2.out, Z2.out⟩
      case round =>
        clear OW2 X2 K2 U2 Z2 DN
        obtain ⟨k, u, out, hk, rfl, rfl, rfl, OW, DN, X3, K3, U3, Z3⟩ := hrel
        by_cases hlt2 : k < Nb
        · have hkl : k < b.length := by have := HN.out; omega
          have hd2 : decide ((k : Int) < (Nb : Int)) = true := by simp; omega
          obtain ⟨bb, ob, rfl⟩ := HPB.out (by decide) (by have := HN.out; omega)
          have hv := HB.out
          rw [← HN.out.2] at hv
          obtain ⟨ta, tb, c0, c1, c2, c3, s0, s1, r1, r2⟩ := tup_at hv k hkl
          obtain ⟨pe, ke, ta', _⟩ := s0.form
          obtain ⟨pg, kg, tb', _⟩ := s1.form
          subst ta' tb'
          replace c0 := X3.out.at c0
          replace c1 := X3.out.at c1
          replace c2 := X3.out.at c2
          replace c3 := X3.out.at c3
          obtain ⟨ty, hty⟩ : ∃ t, t = b[k] := ⟨_, rfl⟩
          have HTY := Lib.hid (show b[k]? = some ty from by rw [List.getElem?_eq_getElem hkl, hty])
          rw [← hty] at c1 c2 r1 r2
          generalize b[k].vals.length = ne at c0
          generalize b[k].lin.length = ng at c3
          obtain ⟨yf, hyf⟩ : ∃ x, x = ty.from_ := ⟨_, rfl⟩
          obtain ⟨yt, hyt⟩ : ∃ x, x = ty.to_ := ⟨_, rfl⟩
          rw [← hyf] at c1 r1
          rw [← hyt] at c2 r2
          have HYF := Lib.hid (show yf = ty.from_ ∧ yt = ty.to_ ∧ okI yf ∧ okI yt from ⟨hyf, hyt, r1, r2⟩)
          have e0 := cell_lt c0
          have m1 := K3.out.1
          have m2 := K3.out.2
          have e1 := cell_lt m1
          clear hty hyf hyt r1 r2 hv s0 s1
          go_wp2_with fail
          refine (rintersect_any xf xt yf yt _).mono ?_
          rintro e w4 ⟨rfl, x4⟩
          have X4 := Lib.hid (((Ext.refl wr).alloc _).trans x4)
          clear c0 c1 c2 c3 e0 m1 m2 x4
          cases hI : interB xf xt yf yt with
          | false =>
            have HI := Lib.hid hI
            have HVN := Lib.hid (interV_no hI)
            rw [HVN.out]
            have DN2 := Lib.hid (DN.out.skip HTX.out HTY.out (by
              have h1 := HI.out
              rintro ⟨h2, h3, h4⟩
              rw [← HXF.out.1, ← HXF.out.2.1] at h2
              rw [← HYF.out.1, ← HYF.out.2.1] at h3
              rw [← HXF.out.1, ← HXF.out.2.1, ← HYF.out.1, ← HYF.out.2.1] at h4
              simp [interB, h2, h3] at h1
              omega))
            clear hI
            go_wp2_with fail
            go_roundg (Nb - (k + 1))
            case measure => omega
            case rel => exact ⟨k + 1, u, out, by omega, rfl, by go_num, rfl, OW.out.ext (X4.out.alloc _), DN2.out, X3.out.trans (X4.out.alloc _), ⟨(X4.out.alloc _).at K3.out.1, (X4.out.alloc _).at K3.out.2⟩, U3.out, Nat.lt_of_lt_of_le Z3.out (X4.out.alloc _).size⟩
          | true =>
            obtain ⟨pf, hpf⟩ : ∃ x, x = max xf yf := ⟨_, rfl⟩
            obtain ⟨pt, hpt⟩ : ∃ x, x = min xt yt := ⟨_, rfl⟩
            have HVY := Lib.hid (show interV xf xt yf yt = .tuple #[.agg #[.int .i64 pf, .int .i64 pt], .bool true] from interV_yes hI hpf hpt)
            rw [HVY.out]
            have hI2 : validB xf xt = true ∧ validB yf yt = true ∧ max xf yf < min xt yt := by simpa [interB, and_assoc] using hI
            have HXY := Lib.hid (show a[i]? = some tx ∧ b[k]? = some ty ∧ (⟨i, k, pf, pt⟩ : Pair) = ⟨i, k, max tx.from_ ty.from_, min tx.to_ ty.to_⟩ ∧ (validB tx.from_ tx.to_ = true ∧ validB ty.from_ ty.to_ = true ∧ max tx.from_ ty.from_ < min tx.to_ ty.to_) from by
              have h1 := HXF.out
              have h2 := HYF.out
              rw [h1.1, h1.2.1, h2.1, h2.2.1] at hI2
              exact ⟨HTX.out, HTY.out, by rw [hpf, hpt, h1.1, h1.2.1, h2.1, h2.2.1], hI2⟩)
            have HOKP := Lib.hid (show okP ⟨i, k, pf, pt⟩ from by
              have h1 := HXF.out.2.2
              have h2 := HYF.out.2.2
              simp only [okI] at h1 h2
              simp only [okP]
              omega)
            have hol : out.length ≤ 700 := by
              have h1 := DN.out.len
              have h2 := Nat.mul_le_mul (show a.length ≤ 25 by have := HN.out; omega) (show b.length ≤ 25 by have := HN.out; omega)
              omega
            clear hI hI2 hpf hpt
            obtain ⟨pu, cu, rfl, _⟩ := OW.out.shapeLen
            obtain ⟨n, hn⟩ : ∃ n, n = out.length := ⟨_, rfl⟩
            have HUL := Lib.hid (show ∀ q, (Value.slice pu out.length cu).ownBlock = some q → w.heap.size ≤ q ∧ q < wr.heap.size from fun q hq => OW.out.lt q hq)
            have HU3 := Lib.hid (show ∀ q, (Value.slice pu out.length cu).ownBlock = some q → q ≠ E1 from fun q hq e => U3.out (by rw [hq, e]))
            rw [← hn] at OW HUL HU3 ⊢
            have HNO := Lib.hid hn
            have hn7 : n ≤ 700 := by omega
            have B1 : out.length + [(⟨0, 0, 0, 0⟩ : Pair)].length ≤ maxLen := by simp only [List.length_singleton, maxLen]; omega
            have B2 : (out.length + [(⟨0, 0, 0, 0⟩ : Pair)].length) * 32 ≤ 140737488355328 := by simp only [List.length_singleton]; omega
            clear hn hol U3
            go_wp2_with (at_builtin; refine wpList_append_all Rep.pair (fun _ => True) rfl _ _ 45 rfl w.heap.size 59 i9 _ 32 Try.underlying45 hi9 hz9 hz91 hz92 rfl (by decide) (.slice pu n cu) out rfl (by exact OW.out.ext ((X4.out.alloc _).alloc _)) _ [⟨0, 0, 0, 0⟩] rfl (by have h := lone_flat (T := 59) (cs := [.int .i64 0, .int .i64 0, .int .i64 0, .int .i64 0]) flat_pair (x := ⟨0, 0, 0, 0⟩) ⟨rfl, by simp [okP]⟩ (OW.out.ext (X4.out.alloc (.cells #[.int .i64 pf, .int .i64 pt] 57))); rw [alloc_size] at h; exact h) B1 B2 (by exact Nat.le_trans X3.out.size ((X4.out.alloc (.cells #[.int .i64 pf, .int .i64 pt] 57)).alloc (.cells #[.int .i64 0, .int .i64 0, .int .i64 0, .int .i64 0] 59)).size) ?_)
            intro v' w6 own gr hat
            have XA := (X4.out.alloc (.cells #[.int .i64 pf, .int .i64 pt] 57)).alloc (.cells #[.int .i64 0, .int .i64 0, .int .i64 0, .int .i64 0] 59)
            have hz4 := X4.out.size
            obtain ⟨pv, co, rfl, hpv⟩ := own.shapeLen
            obtain ⟨go, rfl, hgo⟩ := hpv (by simp)
            have hll : (out ++ [(⟨0, 0, 0, 0⟩ : Pair)]).length = n + 1 := by simp only [List.length_append, List.length_singleton]; rw [← HNO.out]
            have hatt : (∃ q, (Value.slice pu n cu).ownBlock = some q ∧ go = q) ∨ go = w4.heap.size + 2 := by
              rcases hat with h | h
              · exact .inl ⟨go, h.symm, rfl⟩
              · injection h with h
                exact .inr h
            have HGO := Lib.hid (show w.heap.size ≤ go ∧ go ≠ E1 ∧ go ≠ w4.heap.size from by
              refine ⟨hgo, ?_, ?_⟩
              · rcases hatt with ⟨q, h1, h2⟩ | h
                · rw [h2]; exact HU3.out q h1
                · have := Z3.out; omega
              · rcases hatt with ⟨q, h1, h2⟩ | h
                · have := (HUL.out q h1).2; omega
                · omega)
            have hnu : ∀ q, q < w4.heap.size + 1 → (q = E1 ∨ q = w4.heap.size) → some q ≠ (Value.slice pu n cu).ownBlock := fun q _ hq e => by
              rcases hq with rfl | rfl
              · exact HU3.out _ e.symm rfl
              · have := (HUL.out _ e.symm).2; omega
            have KK := Lib.hid (show w6.cell? ⟨E1, 1, none⟩ = some (.int .i64 xf) ∧ w6.cell? ⟨E1, 2, none⟩ = some (.int .i64 xt) ∧ w6.cell? ⟨w4.heap.size, 0, none⟩ = some (.int .i64 pf) ∧ w6.cell? ⟨w4.heap.size, 1, none⟩ = some (.int .i64 pt) from
              ⟨gr.cell (XA.at K3.out.1) (hnu E1 (by have := Z3.out; omega) (.inl rfl)), gr.cell (XA.at K3.out.2) (hnu E1 (by have := Z3.out; omega) (.inl rfl)), gr.cell (((Ext.refl _).alloc _).at (by simp)) (hnu w4.heap.size (Nat.lt_succ_self _) (.inr rfl)), gr.cell (((Ext.refl _).alloc _).at (by simp)) (hnu w4.heap.size (Nat.lt_succ_self _) (.inr rfl))⟩)
            have X6 := Lib.hid (Chg.below (chg_grown gr) (X3.out.trans XA) fun q hq => (HUL.out q hq).1)
            have Z6 := Lib.hid (Nat.lt_of_lt_of_le (Nat.lt_of_lt_of_le Z3.out XA.size) gr.size)
            have OC0 := Lib.hid (show OwnOf Rep.pair w6 (fun _ => True) w.heap.size 59 (.slice (some ⟨go, 0, none⟩) (n + 1) co) (out.take n ++ (⟨0, 0, 0, 0⟩ : Pair) :: out.drop n) from by
              rw [hll] at own
              rw [HNO.out, List.take_length, List.drop_length, ← HNO.out]
              exact own)
            rw [hll]
            clear own gr hat XA hz4 hpv hgo hll hatt hnu OW X4 X3 K3 HUL HU3 Z3
            generalize w4.heap.size = E3 at HGO KK ⊢
            go_wp2_with fail
            go_loopg [12] n (fun gk vj wr => ∃ (j : Nat) (hole : Pair), j ≤ n ∧ j = gk ∧ vj = .int .i64 j ∧ Hid (OwnOf Rep.pair wr (fun _ => True) w.heap.size 59 (.slice (some ⟨go, 0, none⟩) (n + 1) co) (out.take j ++ hole :: out.drop j)) ∧ Hid (∀ m (hm : m < out.length), j ≤ m → pf < out[m].from_) ∧
              Hid (Ext w wr) ∧ Hid (wr.cell? ⟨E1, 1, none⟩ = some (.int .i64 xf) ∧ wr.cell? ⟨E1, 2, none⟩ = some (.int .i64 xt) ∧ wr.cell? ⟨E3, 0, none⟩ = some (.int .i64 pf) ∧ wr.cell? ⟨E3, 1, none⟩ = some (.int .i64 pt)) ∧ Hid (E1 < wr.heap.size))
            case atStart => exact ⟨n, _, Nat.le_refl _, rfl, rfl, OC0.out, (fun m hm h => by have := HNO.out; omega), X6.out, KK.out, Z6.out⟩
            case round =>
              clear OC0 X6 KK Z6
              obtain ⟨j, hole, hj, rfl, rfl, OC, HHI, X8, KK, HZ8⟩ := hrel
              have hcl : (out.take j ++ hole :: out.drop j).length = n + 1 := by simp; have := HNO.out; omega
              have HFR := Lib.hid (show ∀ m, m < (n + 1) * 4 → wr.frozen? ⟨go, m, none⟩ = false from fun m _ => by obtain ⟨css, _, q2⟩ := OC.out; rw [hcl] at q2; exact q2.frozenAt m)
              have HCE := Lib.hid (show ∀ m, m < n + 1 → (∃ v, wr.cell? ⟨go, m * 4, none⟩ = some v) ∧ (∃ v, wr.cell? ⟨go, m * 4 + 1, none⟩ = some v) ∧ (∃ v, wr.cell? ⟨go, m * 4 + 2, none⟩ = some v) ∧ (∃ v, wr.cell? ⟨go, m * 4 + 3, none⟩ = some v) from fun m hm => by
                have h1 := pair_at (by have h := OC.out.slice; exact h) m (by rw [hcl]; exact hm)
                simp only [Nat.zero_add] at h1
                exact ⟨⟨_, h1.1⟩, ⟨_, h1.2.1⟩, ⟨_, h1.2.2.1⟩, ⟨_, h1.2.2.2⟩⟩)
              have hjz : (j : Int) < ((n : Int) + 1) := by omega
              by_cases hj0 : j = 0
              · have hnz0 : decide ((0 : Int) < (j : Int)) = false := decide_eq_false (by omega)
                have hnz1 : decide (0 < j) = false := decide_eq_false (by omega)
                have hnz3 : ¬ 0 < j := by omega
                have HLOW : ∀ (h0 : 0 < j), ¬ pf < (out[j - 1]'(by have := HNO.out; clear hj0 hnz0 hnz1 hnz3; omega)).from_ := fun h => absurd h hnz3
                have HLO := Lib.hid HLOW
                clear hj0 HLOW
                have hput := OwnOf.put4 (x := hole) (i := j) OC.out ⟨by rw [hcl], by rw [hcl]; omega⟩ (by rw [List.getElem?_append_right (by simp; omega)]; simp [show j - min j out.length = 0 by omega]) ⟨i, k, pf, pt⟩ HOKP.out
                have hfin := Lib.hid (show DoneAt a b i (k + 1) (out.take j ++ (⟨i, k, pf, pt⟩ : Pair) :: out.drop j) from DN.out.put HXY.out.1 HXY.out.2.1 HXY.out.2.2.1 HXY.out.2.2.2 (by have := HNO.out; omega) HLO.out HHI.out)
                rw [hole_fill (by have := HNO.out; omega)] at hput
                have OF := Lib.hid hput.1
                have X9 := Lib.hid (Chg.below hput.2 X8.out fun q hq => by have h1 := HGO.out.1; omega)
                have K9 := Lib.hid (And.intro (hput.2.at KK.out.1 (fun e => HGO.out.2.1 e.symm)) (hput.2.at KK.out.2.1 (fun e => HGO.out.2.1 e.symm)))
                have Z9 := Lib.hid (Nat.lt_of_lt_of_le HZ8.out hput.2.size)
                clear hput
                have f0 := HFR.out (j * 4) (by omega)
                have f1 := HFR.out (j * 4 + 1) (by omega)
                have f2 := HFR.out (j * 4 + 2) (by omega)
                have f3 := HFR.out (j * 4 + 3) (by omega)
                obtain ⟨⟨v0, g0⟩, ⟨v1, g1⟩, ⟨v2, g2⟩, ⟨v3, g3⟩⟩ := HCE.out j (by omega)
                have m2 := KK.out.2.2.1
                have m3 := KK.out.2.2.2
                have ej := cell_lt g0
                have ek := cell_lt m2
                have hnz : ¬ E3 = go := fun e => HGO.out.2.2 e.symm
                have hnz2 : ¬ go = E3 := HGO.out.2.2
                go_wp2_with fail
                go_big_region_o
                all_goals go_wp2_with fail
                all_goals go_roundg (Nb - (k + 1))
                all_goals first
                  | (case measure => omega)
                  | (case rel => exact ⟨k + 1, .slice (some ⟨go, 0, none⟩) (n + 1) co, out.take j ++ (⟨i, k, pf, pt⟩ : Pair) :: out.drop j, by omega, rfl, by go_num, rfl, OF.out.ext (Ext.refl _).drew, hfin, X9.out.drew, ⟨(Ext.refl _).drew.at K9.out.1, (Ext.refl _).drew.at K9.out.2⟩, fun e => HGO.out.2.1 (by injection e), Z9.out⟩)
              · have hnz0 : decide ((0 : Int) < (j : Int)) = true := decide_eq_true (by omega)
                have hnz1 : decide (0 < j) = true := decide_eq_true (by omega)
                have hnz3 : 0 < j := by omega
                obtain ⟨m, hm⟩ : ∃ m, j = m + 1 := ⟨j - 1, by omega⟩
                have hmo : m < out.length := by have := HNO.out; omega
                have em : (j : Int) - 1 = (m : Int) := by omega
                have hmn : m < n + 1 := by omega
                have hmz : (m : Int) < ((n : Int) + 1) := by omega
                have hgm := pair_at (by have h := OC.out.slice; exact h) m (by rw [hcl]; exact hmn)
                have hgg : (out.take j ++ hole :: out.drop j)[m]'(by rw [hcl]; exact hmn) = out[m] := by subst hm; exact hole_get hmo
                rw [hgg] at hgm
                simp only [Nat.zero_add] at hgm
                have HMJ := Lib.hid hm
                have hok : okP out[m] := by
                  obtain ⟨css, q1, _⟩ := OC.out
                  obtain ⟨d, ⟨_, g1⟩, _⟩ := q1.at m (by rw [hcl]; exact hmn)
                  rw [hgg] at g1
                  exact g1
                obtain ⟨q, hq⟩ : ∃ q, q = out[m] := ⟨_, rfl⟩
                rw [← hq] at hgm hok
                have HQ := Lib.hid hq
                have HOKQ := Lib.hid hok
                obtain ⟨qa, qb, qf, qt⟩ := q
                obtain ⟨l0, l1, l2, l3⟩ := hgm
                dsimp only at l0 l1 l2 l3
                clear hm hq hgg hok hj0
                by_cases hlf : pf < qf
                · have hbl : decide (pf < qf) = true := decide_eq_true hlf
                  have HLF := Lib.hid hlf
                  clear hlf
                  have hput := OwnOf.put4 (x := hole) (i := j) OC.out ⟨by rw [hcl], by rw [hcl]; omega⟩ (by rw [List.getElem?_append_right (by simp; omega)]; simp [show j - min j out.length = 0 by have := HNO.out; omega]) ⟨qa, qb, qf, qt⟩ HOKQ.out
                  have hdn : (out.take j ++ hole :: out.drop j).set j ⟨qa, qb, qf, qt⟩ = out.take m ++ (⟨qa, qb, qf, qt⟩ : Pair) :: out.drop m := by
                    have h1 := HMJ.out
                    subst h1
                    rw [HQ.out]
                    exact hole_down hmo
                  rw [hdn] at hput
                  have OF := Lib.hid hput.1
                  have X9 := Lib.hid (Chg.below hput.2 X8.out fun q hq => by have h1 := HGO.out.1; omega)
                  have K9 := Lib.hid (And.intro (hput.2.at KK.out.1 (fun e => HGO.out.2.1 e.symm)) (And.intro (hput.2.at KK.out.2.1 (fun e => HGO.out.2.1 e.symm)) (And.intro (hput.2.at KK.out.2.2.1 (fun e => HGO.out.2.2 e.symm)) (hput.2.at KK.out.2.2.2 (fun e => HGO.out.2.2 e.symm)))))
                  have Z9 := Lib.hid (Nat.lt_of_lt_of_le HZ8.out hput.2.size)
                  clear hput hdn
                  have f0 := HFR.out (j * 4) (by omega)
                  have f1 := HFR.out (j * 4 + 1) (by omega)
                  have f2 := HFR.out (j * 4 + 2) (by omega)
                  have f3 := HFR.out (j * 4 + 3) (by omega)
                  obtain ⟨⟨v0, g0⟩, ⟨v1, g1⟩, ⟨v2, g2⟩, ⟨v3, g3⟩⟩ := HCE.out j (by omega)
                  have m2 := KK.out.2.2.1
                  have ej := cell_lt g0
                  have ek := cell_lt m2
                  go_wp2_with fail
                  go_big_region_o
                  all_goals go_wp2_with fail
                  all_goals go_roundg m
                  all_goals first
                    | (case measure => have := HMJ.out; omega)
                    | (case rel => exact ⟨m, ⟨qa, qb, qf, qt⟩, by omega, rfl, rfl, OF.out.ext (Ext.refl _).drew, (fun i hi hmi => by
                        by_cases e : i = m
                        · subst e; rw [← HQ.out]; exact HLF.out
                        · exact HHI.out i hi (by have := HMJ.out; omega)), X9.out.drew, ⟨(Ext.refl _).drew.at K9.out.1, (Ext.refl _).drew.at K9.out.2.1, (Ext.refl _).drew.at K9.out.2.2.1, (Ext.refl _).drew.at K9.out.2.2.2⟩, Z9.out⟩)
                · have hbl : decide (pf < qf) = false := decide_eq_false hlf
                  have HLOW : ∀ (h0 : 0 < j), ¬ pf < (out[j - 1]'(by have := HNO.out; omega)).from_ := fun h => by
                    have h1 := HMJ.out
                    subst h1
                    simp only [Nat.add_sub_cancel]
                    rw [← HQ.out]
                    exact hlf
                  have HLO := Lib.hid HLOW
                  clear hlf HLOW
                  have hput := OwnOf.put4 (x := hole) (i := j) OC.out ⟨by rw [hcl], by rw [hcl]; omega⟩ (by rw [List.getElem?_append_right (by simp; omega)]; simp [show j - min j out.length = 0 by omega]) ⟨i, k, pf, pt⟩ HOKP.out
                  have hfin := Lib.hid (show DoneAt a b i (k + 1) (out.take j ++ (⟨i, k, pf, pt⟩ : Pair) :: out.drop j) from DN.out.put HXY.out.1 HXY.out.2.1 HXY.out.2.2.1 HXY.out.2.2.2 (by have := HNO.out; omega) HLO.out HHI.out)
                  rw [hole_fill (by have := HNO.out; omega)] at hput
                  have OF := Lib.hid hput.1
                  have X9 := Lib.hid (Chg.below hput.2 X8.out fun q hq => by have h1 := HGO.out.1; omega)
                  have K9 := Lib.hid (And.intro (hput.2.at KK.out.1 (fun e => HGO.out.2.1 e.symm)) (hput.2.at KK.out.2.1 (fun e => HGO.out.2.1 e.symm)))
                  have Z9 := Lib.hid (Nat.lt_of_lt_of_le HZ8.out hput.2.size)
                  clear hput
                  have f0 := HFR.out (j * 4) (by omega)
                  have f1 := HFR.out (j * 4 + 1) (by omega)
                  have f2 := HFR.out (j * 4 + 2) (by omega)
                  have f3 := HFR.out (j * 4 + 3) (by omega)
                  obtain ⟨⟨v0, g0⟩, ⟨v1, g1⟩, ⟨v2, g2⟩, ⟨v3, g3⟩⟩ := HCE.out j (by omega)
                  have m2 := KK.out.2.2.1
                  have m3 := KK.out.2.2.2
                  have ej := cell_lt g0
                  have ek := cell_lt m2
                  have hnz : ¬ E3 = go := fun e => HGO.out.2.2 e.symm
                  have hnz2 : ¬ go = E3 := HGO.out.2.2
                  go_wp2_with fail
                  go_big_region_o
                  all_goals go_wp2_with fail
                  all_goals go_roundg (Nb - (k + 1))
                  all_goals first
                    | (case measure => omega)
                    | (case rel => exact ⟨k + 1, .slice (some ⟨go, 0, none⟩) (n + 1) co, out.take j ++ (⟨i, k, pf, pt⟩ : Pair) :: out.drop j, by omega, rfl, by go_num, rfl, OF.out.ext (Ext.refl _).drew, hfin, X9.out.drew, ⟨(Ext.refl _).drew.at K9.out.1, (Ext.refl _).drew.at K9.out.2⟩, fun e => HGO.out.2.1 (by injection e), Z9.out⟩)
        · have hkN : k = Nb := by omega
          have hd2 : ¬ (k : Int) < (Nb : Int) := by omega
          have DN2 := Lib.hid (show DoneAt a b (i + 1) 0 out from DoneAt.row (by have h := DN.out; rwa [hkN, HN.out.2] at h))
          clear hkN
          go_wp2_with fail
          go_roundg (Na - (i + 1))
          case measure => omega
          case rel => exact ⟨i + 1, u, out, by omega, rfl, by go_num, rfl, OW.out, DN2.out, X3.out⟩
    · have hiN : i = Na := by omega
      have hd : ¬ (i : Int) < (Na : Int) := by omega
      have HF := Lib.hid (show out = pairsOf a b from DoneAt.all (by have h := DN.out; rwa [hiN, HN.out.1] at h))
      clear hiN
      go_wp2_with fail
      go_ret
      exact ⟨u, rfl, by have h := OW.out.fresh flat_pair; rwa [HF.out] at h, X1.out⟩

set_option maxRecDepth 100000 in
set_option maxHeartbeats 4000000 in
theorem SweepPairs_walk (v0 : Value) (a : List Tup) (v1 : Value) (b : List Tup) {w : World} (s0 : SliceOf Rep.tup w.cell? v0 a) (s1 : SliceOf Rep.tup w.cell? v1 b) :
    Calls Try.prog 9 #[v0, v1] w fun e w' => e = .returned (.bool true) ∧ Ext w w' := by
  have S0 := Lib.hid s0
  have S1 := Lib.hid s1
  obtain ⟨p0, q0, rfl, _⟩ := s0.form
  obtain ⟨p1, q1, rfl, _⟩ := s1.form
  clear s0 s1
  go_enter Try.func9, Try.ntmps9
  go_wp2_with fail
  refine (fewTuples_any _ 25 (by decide) a _ S0.out).mono ?_
  rintro e w1 ⟨b1, rfl, h1, rfl⟩
  have H1 := Lib.hid h1
  clear h1
  cases b1 with
  | false =>
    go_wp2_with fail
    refine (awake_sweep _).mono ?_
    rintro e w2 ⟨rfl, x2⟩
    have X2 := Lib.hid x2
    clear x2
    go_wp2_with fail
    go_ret
    exact ⟨rfl, X2.out⟩
  | true =>
    go_wp2_with fail
    refine (fewTuples_any _ 25 (by decide) b _ S1.out).mono ?_
    rintro e w1 ⟨b2, rfl, h2, rfl⟩
    have H2 := Lib.hid h2
    clear h2
    cases b2 with
    | false =>
      go_wp2_with fail
      refine (awake_sweep _).mono ?_
      rintro e w2 ⟨rfl, x2⟩
      have X2 := Lib.hid x2
      clear x2
      go_wp2_with fail
      go_ret
      exact ⟨rfl, X2.out⟩
    | true =>
      have HL := Lib.hid (And.intro (show a.length ≤ 25 by first | exact H1.out trivial | exact H1.out rfl | exact H1.out) (show b.length ≤ 25 by first | exact H2.out trivial | exact H2.out rfl | exact H2.out))
      go_wp2_with fail
      refine (awake_sweep _).mono ?_
      rintro e w2 ⟨rfl, x2⟩
      have X2 := Lib.hid x2
      clear x2
      go_wp2_with fail
      refine (overlap_any _ _ a b _ (S0.out.ext X2.out.full) (S1.out.ext X2.out.full) HL.out.1 HL.out.2).mono ?_
      rintro e w3 ⟨u3, rfl, t3, x3⟩
      have T3 := Lib.hid (t3.ext (on_sub _ _))
      have X3 := Lib.hid (X2.out.trans x3)
      obtain ⟨r3, k3, rfl, _⟩ := t3.form
      clear t3 x3 X2
      go_wp2_with fail
      refine (refOverlap_any _ _ a b _ (S0.out.ext X3.out.full) (S1.out.ext X3.out.full) HL.out.1 HL.out.2).mono ?_
      rintro e w4 ⟨u4, rfl, t4, x4⟩
      have T4 := Lib.hid (t4.ext (on_sub _ _))
      have T5 := Lib.hid (T3.out.ext x4.full)
      have X4 := Lib.hid (X3.out.trans x4)
      obtain ⟨r4, k4, rfl, _⟩ := t4.form
      clear t4 x4 X3 T3
      go_wp2_with fail
      refine (samePairs_any _ _ (pairsOf a b) _ T5.out T4.out (by
        have h1 := pairs_len a b
        have h2 := Nat.mul_le_mul HL.out.1 HL.out.2
        omega)).mono ?_
      rintro e w5 ⟨rfl, x5⟩
      have X5 := Lib.hid (X4.out.trans x5)
      clear x5
      go_wp2_with fail
      go_ret
      exact ⟨rfl, X5.out⟩

end Go.Proofs.Ytmjfbfigdkolaaa
