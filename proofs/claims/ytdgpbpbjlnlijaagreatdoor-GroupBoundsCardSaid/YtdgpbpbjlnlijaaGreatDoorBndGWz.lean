/- the walk of GroupBounds -/
import Derived.Test.YtdgpbpbjlnlijaaGreatDoorGrpYz
import Derived.Test.YtdgpbpbjlnlijaaGreatDoorKC14
import Derived.Test.YtdgpbpbjlnlijaaGreatDoorKC19
import Derived.Test.YtdgpbpbjlnlijaaGreatDoorKC04
namespace Go.Proofs.YtdgpbpbjlnlijaaGreatDoor
open Go.RowKit Go.Maps

theorem genV0_small (z : Int) : genV0 z = nV ∨ ∃ n, -1 ≤ n ∧ n ≤ 1 ∧ genV0 z = intVal n := by
  unfold genV0
  split
  · exact .inl rfl
  · exact .inr ⟨z % 3 - 1, by omega, by omega, rfl⟩
theorem genTups_small (x : List Num5) (m : Nat) : ∀ t ∈ genTups x m, colAt t.vals 0 = nV ∨ ∃ n, -1 ≤ n ∧ n ≤ 1 ∧ colAt t.vals 0 = intVal n := fun t ht => by
  obtain ⟨y, _, rfl⟩ := List.mem_map.1 ht
  exact genV0_small y.c
/-- what a row of the groups holds -/
theorem row_bounds {K : Nat} {l : List Tup} {r : Row} (hl : l.length ≤ 10) (hs : ∀ t ∈ l, colAt t.vals 0 = nV ∨ ∃ n, -1 ≤ n ∧ n ≤ 1 ∧ colAt t.vals 0 = intVal n)
    (h : ∃ (kv : List Val) (vss : List (List Val)), r.vals = kv ++ allV 0 vss ∧ kv.length = K ∧ 0 < vss.length ∧ vss.length ≤ l.length ∧ ∀ vs ∈ vss, ∃ u ∈ l, vs = u.vals) :
    ∃ (kv : List Val) (c : Nat) (y1 y2 y3 : Val), r.vals = kv ++ [intVal c, y1, y2, y3] ∧ kv.length = K ∧ 1 ≤ c ∧ c ≤ 10 ∧ cmpVal y2 y3 ≤ 0 ∧ (y2.kind = 0 ↔ y1.kind = 0) ∧ y1.n ≤ c ∧ -(c : Int) ≤ y1.n := by
  obtain ⟨kv, vss, h1, h2, h3, h4, h5⟩ := h
  have hb := agg_bounds (vss := vss) (by omega) (fun vs hvs => by obtain ⟨u, hu, rfl⟩ := h5 vs hvs; exact hs u hu)
  exact ⟨kv, vss.length, aggVal 2 0 vss, aggVal 3 0 vss, aggVal 4 0 vss, h1, h2, h3, by omega, hb.1, hb.2.1, hb.2.2.1, hb.2.2.2⟩

set_option maxRecDepth 100000 in
set_option maxHeartbeats 8000000 in
theorem GroupBounds_walk (v0 : Value) (x : List Num5) (k tm : Int) {w : World} (s0 : SliceOf Rep.num w.cell? v0 x) (hk : (Lit.int .u8 k).wf = true) (ht : (Lit.int .u16 tm).wf = true) (hT : TabW w) (hD : DaysW w) :
    Calls Tryz.prog 5 #[v0, .int .u8 k, .int .u16 tm] w fun e w' => e = .returned (.bool true) ∧ Ext w w' := by
  have S0 := Lib.hid s0
  obtain ⟨p0, q0, rfl, _⟩ := s0.form
  have htm : 0 ≤ tm ∧ tm ≤ 65535 := by simpa [Lit.wf, IntKind.min, IntKind.max, IntKind.signed, IntKind.bits] using ht
  have hkm : 0 ≤ k ∧ k ≤ 255 := by simpa [Lit.wf, IntKind.min, IntKind.max, IntKind.signed, IntKind.bits] using hk
  have HT := Lib.hid (And.intro hT hD)
  obtain ⟨kk, hkk⟩ : ∃ z, (1 + k.tmod 3) % 256 = z := ⟨_, rfl⟩
  have hkk2 : kk = 1 + k % 3 := by rw [← hkk, Int.tmod_eq_emod_of_nonneg hkm.1]; omega
  have HKK := Lib.hid (show 1 ≤ kk ∧ kk ≤ 3 from by omega)
  clear s0 ht hk hT hD hkm hkk2
  obtain ⟨h0, h1⟩ := htm
  go_enter Tryz.func5, Tryz.ntmps5
  go_wp2_with fail
  refine (tuples_gen _ x 10 (by decide) _ S0.out).mono ?_
  rintro e w1 ⟨u1, rfl, t1, x1⟩
  have la := genTups_len x 10
  have fa := genTups_fit2 x 10
  have sa := genTups_small x 10
  generalize genTups x 10 = a at t1 la fa sa
  obtain ⟨r1, k1, rfl, _⟩ := t1.form
  have T1 := Lib.hid (t1.ext (on_sub _ _))
  have X1 := Lib.hid x1
  have HL := Lib.hid la
  have HFA := Lib.hid fa
  have HSA := Lib.hid sa
  clear t1 x1 la fa S0 sa
  go_wp2_with fail
  refine (keysOf_any kk _ (by have := HKK.out; omega) (by have := HKK.out; omega)).mono ?_
  rintro e w3 ⟨u3, rfl, t3, x3⟩
  have hkl := keysL_len kk
  have hki := keysL_in kk
  have hk0 : 0 < (keysL kk).length := by
    have := HKK.out
    unfold keysL
    rw [if_neg (by omega)]
    split
    · simp
    · split <;> simp
  generalize keysL kk = ks at t3 hkl hki hk0
  obtain ⟨n, hn⟩ : ∃ n, n = ks.length := ⟨_, rfl⟩
  have HN0 := Lib.hid hn
  obtain ⟨pk, ck, rfl, _⟩ := t3.form
  rw [← hn] at hkl hk0
  have HKS := Lib.hid t3
  have HKL := Lib.hid (And.intro hk0 hki)
  replace T1 := Lib.hid (T1.out.ext x3.full)
  have X3 := Lib.hid (X1.out.trans x3)
  rw [← hn]
  clear t3 x3 X1 hki hn hk0 hkk
  obtain ⟨at_, hat⟩ : ∃ z, z = tm % 60 := ⟨_, rfl⟩
  have eA : tm % 60 = at_ := hat.symm
  have hA0 : 0 ≤ at_ ∧ at_ < 60 := by omega
  have HAT := Lib.hid hA0
  clear hat hA0
  go_wp2_with fail
  refine (exprs_any _).mono ?_
  rintro e w2 ⟨u2, rfl, t2, x2⟩
  obtain ⟨pe, ce, rfl, _⟩ := t2.form
  have HE := Lib.hid t2
  replace T1 := Lib.hid (T1.out.ext x2.full)
  replace HKS := Lib.hid (HKS.out.ext x2.full)
  have X2 := Lib.hid (X3.out.trans x2)
  clear t2 x2 X3
  go_wp2_with fail
  refine (allAggs_any 0 _ (by decide) (by decide)).mono ?_
  rintro e w4 ⟨u4, rfl, t4, x4⟩
  replace t4 : SliceOf Rep.agg w4.cell? u4 (aggsL 0) := t4
  obtain ⟨pg, cg, rfl, _⟩ := t4.form
  have HAG := Lib.hid t4
  replace T1 := Lib.hid (T1.out.ext x4.full)
  replace HE := Lib.hid (HE.out.ext x4.full)
  replace HKS := Lib.hid (HKS.out.ext x4.full)
  have X4 := Lib.hid (X2.out.trans x4)
  clear t4 x4 X2
  go_wp2_with fail
  have HKS2 := Lib.hid (show SliceOf Rep.int w4.cell? (.slice pk n ck) ks from by rw [HN0.out]; exact HKS.out)
  refine (group_any _ a _ exC _ ks _ (allV 0) _ T1.out (by have := HL.out; omega) HFA.out HE.out exC_op (by simp [exC]) HKS2.out HKL.out.2 (by rw [← HN0.out]; omega) ⟨_, _, _, rfl⟩ (rowLaw_all (.inl rfl) HE.out HAG.out (by rw [← HN0.out]; omega) (by have := HL.out; omega) HFA.out) (all_fit HFA.out 0) (HT.out.1.ext X4.out) (HT.out.2.ext X4.out)).mono ?_
  rintro e w5 ⟨u5, rfl, t5, x5⟩
  have ht0 : decide (ks.length = 0) = false := decide_eq_false (by have := HKL.out.1; have := HN0.out; omega)
  rw [ht0] at t5
  have hal := agg_len (projC exC ks) (allV 0) false a (by have := HL.out; omega)
  have haf := agg_fit (projC exC ks) (allV 0) false a at_ (by have := HL.out; omega) HFA.out (all_fit HFA.out 0) (fun vs => by rw [proj_len, ← HN0.out]; omega)
  have hrows := group_rows (projC exC ks) (allV 0) (K := n) (fun vs => by rw [proj_len, HN0.out]) a at_
  generalize aggT (projC exC ks) (allV 0) false a = g at t5 hal haf hrows
  obtain ⟨r5, k5, rfl, _⟩ := t5.form
  have T5 := Lib.hid (t5.ext (on_sub _ _))
  have X5 := Lib.hid (X4.out.trans x5)
  have HAL := Lib.hid (And.intro hal haf)
  have HROWS := Lib.hid hrows
  clear t5 x5 X4 HE HKS HKS2 HAG hal haf hrows ht0 T1
  go_wp2_with fail
  try rw [eA]
  refine (timeslice_gen _ g at_ _ T5.out HAL.out.1 HAL.out.2).mono ?_
  rintro e w6 ⟨u6, rfl, t6, x6⟩
  obtain ⟨R, hR⟩ : ∃ R, R = sortBy cmpRow (sliceRows g at_) := ⟨_, rfl⟩
  rw [← hR] at t6
  have hrows2 : ∀ r ∈ R, ∃ (kv : List Val) (c : Nat) (y1 y2 y3 : Val), r.vals = kv ++ [intVal c, y1, y2, y3] ∧ kv.length = n ∧ 1 ≤ c ∧ c ≤ 10 ∧ cmpVal y2 y3 ≤ 0 ∧ (y2.kind = 0 ↔ y1.kind = 0) ∧ y1.n ≤ c ∧ -(c : Int) ≤ y1.n := fun r hr => row_bounds HL.out HSA.out (HROWS.out r (by rw [hR] at hr; exact (sortBy_perm _ _).mem_iff.1 hr))
  have hlen : R.length ≤ 1048576 := by rw [hR, sortBy_length]; exact HAL.out.2.1
  obtain ⟨r6, k6, rfl, _, _, hp6⟩ := t6.form
  have T6 := Lib.hid (t6.ext (on_sub _ _))
  have X6 := Lib.hid (X5.out.trans x6)
  have HP6 := Lib.hid hp6
  have HR2 := Lib.hid hrows2
  obtain ⟨N, hN⟩ : ∃ N, N = R.length := ⟨_, rfl⟩
  rw [← hN] at hlen
  have HN := Lib.hid hN
  rw [← hN] at T6 HP6 ⊢
  clear t6 x6 hR hrows2 hp6 hN X5 T5 HAL HROWS h0 h1 eA
  go_wp2_with fail
  go_loopg [32] N (fun gk vi wr => ∃ (k : Nat), k ≤ N ∧ gk = N - k ∧ vi = .int .i64 k ∧ Hid (Ext w6 wr))
  case atStart => exact ⟨0, by omega, rfl, rfl, Ext.refl w6⟩
  case round =>
    obtain ⟨k, hk, rfl, rfl, X7⟩ := hrel
    by_cases hlt : k < N
    · have hkl : k < R.length := by have := HN.out; omega
      have hd : decide ((k : Int) < (N : Int)) = true := by simp; omega
      obtain ⟨b0, o, rfl⟩ := HP6.out (by decide) (by omega)
      have hv := T6.out
      rw [HN.out] at hv
      obtain ⟨ua, ub, c0, c1, g0, g1⟩ := row_at hv k hkl
      obtain ⟨kv, c, y1, y2, y3, hvs, hkv, hc1, hc2, hcm, hkd, hs1, hs2⟩ := HR2.out R[k] (List.getElem_mem hkl)
      rw [hvs] at g0
      obtain ⟨pa, ka, rfl, _, _, hpa⟩ := g0.form
      obtain ⟨pb, kb, rfl, _⟩ := g1.form
      obtain ⟨b2, o2, rfl⟩ := hpa (by decide) (by simp)
      have hq4 : (kv ++ [intVal c, y1, y2, y3]).length = n + 4 := by simp [hkv]
      obtain ⟨m0, m1, m2, rr⟩ := val_cells g0 n (by omega)
      clear rr
      obtain ⟨m3, m4, m5, rr⟩ := val_cells g0 (n + 1) (by omega)
      clear rr
      obtain ⟨m6, m7, m8, rr⟩ := val_cells g0 (n + 2) (by omega)
      clear rr
      obtain ⟨m9, m10, m11, rr⟩ := val_cells g0 (n + 3) (by omega)
      clear rr
      have i0 : (kv ++ [intVal c, y1, y2, y3])[n]'(by omega) = intVal c := by rw [List.getElem_append_right (by omega)]; simp [hkv]
      have i1 : (kv ++ [intVal c, y1, y2, y3])[n + 1]'(by omega) = y1 := by rw [List.getElem_append_right (by omega)]; simp [hkv]
      have i2 : (kv ++ [intVal c, y1, y2, y3])[n + 2]'(by omega) = y2 := by rw [List.getElem_append_right (by omega)]; simp [hkv]
      have i3 : (kv ++ [intVal c, y1, y2, y3])[n + 3]'(by omega) = y3 := by rw [List.getElem_append_right (by omega)]; simp [hkv]
      rw [i0] at m0 m1 m2
      rw [i1] at m3 m4 m5
      rw [i2] at m6 m7 m8
      rw [i3] at m9 m10 m11
      rw [hq4] at c0
      simp only [intVal] at m0 m1 m2
      obtain ⟨yk1, yn1, ys1⟩ := y1
      obtain ⟨yk2, yn2, ys2⟩ := y2
      obtain ⟨yk3, yn3, ys3⟩ := y3
      dsimp only at m3 m4 m5 m6 m7 m8 m9 m10 m11 hkd hs1 hs2
      replace c0 := X7.out.at c0
      replace c1 := X7.out.at c1
      replace m0 := X7.out.at m0
      replace m1 := X7.out.at m1
      replace m2 := X7.out.at m2
      replace m3 := X7.out.at m3
      replace m4 := X7.out.at m4
      replace m5 := X7.out.at m5
      replace m6 := X7.out.at m6
      replace m7 := X7.out.at m7
      replace m8 := X7.out.at m8
      replace m9 := X7.out.at m9
      replace m10 := X7.out.at m10
      replace m11 := X7.out.at m11
      obtain ⟨q, hq⟩ : ∃ q, q = n + 4 := ⟨_, rfl⟩
      rw [← hq] at c0
      generalize R[k].lin.length = ll at c1
      have e0 := cell_lt c0
      have e1 := cell_lt m0
      have e1a : b2 < wr.heap.size + 1 := by have h : b2 < wr.heap.size := e1; omega
      have e1b : b2 < wr.heap.size + 1 + 1 := by have h : b2 < wr.heap.size := e1; omega
      have e1c : b2 < wr.heap.size + 1 + 1 + 1 := by have h : b2 < wr.heap.size := e1; omega
      have e1d : b2 < wr.heap.size + 1 + 1 + 1 + 1 := by have h : b2 < wr.heap.size := e1; omega
      have e1e : b2 < wr.heap.size + 1 + 1 + 1 + 1 + 1 := by have h : b2 < wr.heap.size := e1; omega
      have hn2 : n ≤ 2 := by assumption
      have w1' : IntKind.i64.wrap ((n : Int) + 1) = (n : Int) + 1 := by rw [IntKind.wrap_i64]; omega
      have w2' : IntKind.i64.wrap ((n : Int) + 2) = (n : Int) + 2 := by rw [IntKind.wrap_i64]; omega
      have w3' : IntKind.i64.wrap ((n : Int) + 3) = (n : Int) + 3 := by rw [IntKind.wrap_i64]; omega
      have w4' : IntKind.i64.wrap ((n : Int) + 4) = (n : Int) + 4 := by rw [IntKind.wrap_i64]; omega
      have w5' : IntKind.i64.wrap (-(c : Int)) = -(c : Int) := by rw [IntKind.wrap_i64]; omega
      have hne : ((q : Int) != (n : Int) + 4) = false := by simp; omega
      have l0 : n < q := by omega
      have l1 : n + 1 < q := by omega
      have l2 : n + 2 < q := by omega
      have l3 : n + 3 < q := by omega
      have l0' : (n : Int) < (q : Int) := by omega
      have l1' : (n : Int) + 1 < (q : Int) := by omega
      have l2' : (n : Int) + 2 < (q : Int) := by omega
      have l3' : (n : Int) + 3 < (q : Int) := by omega
      have p1' : 0 ≤ (n : Int) + 1 := by omega
      have p2' : 0 ≤ (n : Int) + 2 := by omega
      have p3' : 0 ≤ (n : Int) + 3 := by omega
      have t2n : ((n : Int) + 2).toNat = n + 2 := by omega
      have t3n : ((n : Int) + 3).toNat = n + 3 := by omega
      have b1 : decide ((c : Int) < 1) = false := by simp; omega
      have b2' : decide ((c : Int) < yn1) = false := by simp; omega
      have b3 : decide (yn1 < -(c : Int)) = false := by simp; omega
      obtain ⟨bz, hz1, hz2⟩ : ∃ bz, (yk1 == 0) = bz ∧ (yk2 == 0) = bz := ⟨_, rfl, by rw [Bool.eq_iff_iff, beq_iff_eq, beq_iff_eq]; exact hkd⟩
      have HCM := Lib.hid hcm
      clear hq hq4 i0 i1 i2 i3 hvs hkv hc1 hc2 hcm hkd hs1 hs2 g0 g1 hpa hv hn2
      go_upto_region 9 with fail
      obtain ⟨Q, hQ⟩ : ∃ q, q = wr.heap.size := ⟨_, rfl⟩
      have r0 : (wr.alloc (.cells #[.slice (some ⟨b2, o2, none⟩) q ka, .slice pb ll kb] 42)).cell? ⟨Q, 0, none⟩ = some (.slice (some ⟨b2, o2, none⟩) q ka) := by rw [hQ]; go_simp
      have xw : Ext wr (wr.alloc (.cells #[.slice (some ⟨b2, o2, none⟩) q ka, .slice pb ll kb] 42)) := (Ext.refl wr).alloc _
      have HW0 := Lib.hid xw
      rw [← hQ]
      replace m0 := xw.at m0
      replace m1 := xw.at m1
      replace m2 := xw.at m2
      replace m3 := xw.at m3
      replace m4 := xw.at m4
      replace m5 := xw.at m5
      replace m6 := xw.at m6
      replace m7 := xw.at m7
      replace m8 := xw.at m8
      replace m9 := xw.at m9
      replace m10 := xw.at m10
      replace m11 := xw.at m11
      clear xw hQ c0 c1 e0 e1 e1a e1b e1c e1d e1e
      generalize (wr.alloc (.cells #[.slice (some ⟨b2, o2, none⟩) q ka, .slice pb ll kb] 42)) = W at r0 HW0 m0 m1 m2 m3 m4 m5 m6 m7 m8 m9 m10 m11 ⊢
      have mkS : ∀ w', Ext W w' → Ext W w' ∧ w'.cell? ⟨Q, 0, none⟩ = some (.slice (some ⟨b2, o2, none⟩) q ka) ∧
          (w'.cell? ⟨b2, o2 + n * 3, none⟩ = some (.int .i64 1) ∧ w'.cell? ⟨b2, o2 + n * 3 + 1, none⟩ = some (.int .i64 c) ∧ w'.cell? ⟨b2, o2 + n * 3 + 2, none⟩ = some (.string ByteArray.empty)) ∧
          (w'.cell? ⟨b2, o2 + (n + 1) * 3, none⟩ = some (.int .i64 yk1) ∧ w'.cell? ⟨b2, o2 + (n + 1) * 3 + 1, none⟩ = some (.int .i64 yn1) ∧ w'.cell? ⟨b2, o2 + (n + 1) * 3 + 2, none⟩ = some (.string ys1)) ∧
          (w'.cell? ⟨b2, o2 + (n + 2) * 3, none⟩ = some (.int .i64 yk2) ∧ w'.cell? ⟨b2, o2 + (n + 2) * 3 + 1, none⟩ = some (.int .i64 yn2) ∧ w'.cell? ⟨b2, o2 + (n + 2) * 3 + 2, none⟩ = some (.string ys2)) ∧
          (w'.cell? ⟨b2, o2 + (n + 3) * 3, none⟩ = some (.int .i64 yk3) ∧ w'.cell? ⟨b2, o2 + (n + 3) * 3 + 1, none⟩ = some (.int .i64 yn3) ∧ w'.cell? ⟨b2, o2 + (n + 3) * 3 + 2, none⟩ = some (.string ys3)) :=
        fun w' h => ⟨h, h.at r0, ⟨h.at m0, h.at m1, h.at m2⟩, ⟨h.at m3, h.at m4, h.at m5⟩, ⟨h.at m6, h.at m7, h.at m8⟩, ⟨h.at m9, h.at m10, h.at m11⟩⟩
      have MK := Lib.hid mkS
      have hS0 := mkS _ (Ext.refl W).drew
      clear mkS r0 m0 m1 m2 m3 m4 m5 m6 m7 m8 m9 m10 m11
      go_cut [12, 13, 14, 15] (fun s12 s13 s14 s15 wx => ∃ p12 p13 p14 p15 : Nat, s12 = .pointer (some ⟨p12, 0, none⟩) ∧ s13 = .pointer (some ⟨p13, 0, none⟩) ∧ s14 = .pointer (some ⟨p14, 0, none⟩) ∧ s15 = .pointer (some ⟨p15, 0, none⟩) ∧
        Hid (wx.cell? ⟨p12, 0, none⟩ = some (.int .i64 1) ∧ wx.cell? ⟨p12, 1, none⟩ = some (.int .i64 c) ∧ wx.cell? ⟨p12, 2, none⟩ = some (.string ByteArray.empty)) ∧
        Hid (wx.cell? ⟨p13, 0, none⟩ = some (.int .i64 yk1) ∧ wx.cell? ⟨p13, 1, none⟩ = some (.int .i64 yn1) ∧ wx.cell? ⟨p13, 2, none⟩ = some (.string ys1)) ∧
        Hid (wx.cell? ⟨p14, 0, none⟩ = some (.int .i64 yk2) ∧ wx.cell? ⟨p14, 1, none⟩ = some (.int .i64 yn2) ∧ wx.cell? ⟨p14, 2, none⟩ = some (.string ys2)) ∧
        Hid (wx.cell? ⟨p15, 0, none⟩ = some (.int .i64 yk3) ∧ wx.cell? ⟨p15, 1, none⟩ = some (.int .i64 yn3) ∧ wx.cell? ⟨p15, 2, none⟩ = some (.string ys3)) ∧ Hid (Ext W wx))
      case first =>
        go_region_held3 (fun w' => Ext W w' ∧ w'.cell? ⟨Q, 0, none⟩ = some (.slice (some ⟨b2, o2, none⟩) q ka) ∧
          (w'.cell? ⟨b2, o2 + n * 3, none⟩ = some (.int .i64 1) ∧ w'.cell? ⟨b2, o2 + n * 3 + 1, none⟩ = some (.int .i64 c) ∧ w'.cell? ⟨b2, o2 + n * 3 + 2, none⟩ = some (.string ByteArray.empty)) ∧
          (w'.cell? ⟨b2, o2 + (n + 1) * 3, none⟩ = some (.int .i64 yk1) ∧ w'.cell? ⟨b2, o2 + (n + 1) * 3 + 1, none⟩ = some (.int .i64 yn1) ∧ w'.cell? ⟨b2, o2 + (n + 1) * 3 + 2, none⟩ = some (.string ys1)) ∧
          (w'.cell? ⟨b2, o2 + (n + 2) * 3, none⟩ = some (.int .i64 yk2) ∧ w'.cell? ⟨b2, o2 + (n + 2) * 3 + 1, none⟩ = some (.int .i64 yn2) ∧ w'.cell? ⟨b2, o2 + (n + 2) * 3 + 2, none⟩ = some (.string ys2)) ∧
          (w'.cell? ⟨b2, o2 + (n + 3) * 3, none⟩ = some (.int .i64 yk3) ∧ w'.cell? ⟨b2, o2 + (n + 3) * 3 + 1, none⟩ = some (.int .i64 yn3) ∧ w'.cell? ⟨b2, o2 + (n + 3) * 3 + 2, none⟩ = some (.string ys3)))
          (first | with_reducible assumption | with_reducible exact MK.out _ (((((Ext.refl W).alloc _).alloc _).alloc _).alloc _).drew | with_reducible exact MK.out _ ((((Ext.refl W).alloc _).alloc _).alloc _).drew | with_reducible exact MK.out _ (((Ext.refl W).alloc _).alloc _).drew | with_reducible exact MK.out _ ((Ext.refl W).alloc _).drew | with_reducible exact MK.out _ (((((Ext.refl W).alloc _).alloc _).alloc _).alloc _))
          (fail)
        all_goals go_wp2_with fail
        all_goals go_meet
        all_goals exact ⟨_, _, _, _, rfl, rfl, rfl, rfl, Lib.hid ⟨by go_simp, by go_simp, by go_simp⟩, Lib.hid ⟨by go_simp, by go_simp, by go_simp⟩, Lib.hid ⟨by go_simp, by go_simp, by go_simp⟩, Lib.hid ⟨by go_simp, by go_simp, by go_simp⟩, Lib.hid (((((Ext.refl W).alloc _).alloc _).alloc _).alloc _).drew⟩
      case rest =>
        obtain ⟨p12, p13, p14, p15, rfl, rfl, rfl, rfl, CA, CB, CC, CD, XW⟩ := hcut
        clear hS0
        obtain ⟨a0, a1, a2⟩ := CA.out
        obtain ⟨a3, a4, a5⟩ := CB.out
        obtain ⟨a6, a7, a8⟩ := CC.out
        obtain ⟨a9, a10, a11⟩ := CD.out
        have e1 := cell_lt a0
        have e2 := cell_lt a3
        have e3 := cell_lt a6
        have e4 := cell_lt a9
        have HCB2 := Lib.hid (And.intro CB.out (And.intro CC.out CD.out))
        cases bz
        all_goals
          go_wp2_with fail
          refine (ref_compare ⟨yk2, yn2, ys2⟩ ⟨yk3, yn3, ys3⟩ _).mono ?_
          rintro e w9 ⟨rfl, x9⟩
          obtain ⟨qq, hqq⟩ : ∃ z, cmpVal ⟨yk2, yn2, ys2⟩ ⟨yk3, yn3, ys3⟩ = z := ⟨_, rfl⟩
          have bq : decide (0 < qq) = false := by rw [← hqq]; simp; exact HCM.out
          rw [hqq]
          replace a0 := x9.ext.at a0
          replace a1 := x9.ext.at a1
          replace a2 := x9.ext.at a2
          replace a3 := x9.ext.at a3
          replace a4 := x9.ext.at a4
          replace a5 := x9.ext.at a5
          replace a6 := x9.ext.at a6
          replace a7 := x9.ext.at a7
          replace a8 := x9.ext.at a8
          replace a9 := x9.ext.at a9
          replace a10 := x9.ext.at a10
          replace a11 := x9.ext.at a11
          have X9 := Lib.hid (X7.out.trans (HW0.out.trans (XW.out.trans x9.ext)))
          clear x9 hqq e1 e2 e3 e4
          have e1 := cell_lt a0
          have e2 := cell_lt a3
          have e3 := cell_lt a6
          have e4 := cell_lt a9
          go_wp2_with fail
          all_goals
            go_roundg (N - (k + 1))
            case measure => omega
            case rel => exact ⟨k + 1, by omega, rfl, by go_num, X9.out⟩
    · have hkN : k = N := by omega
      have hd : ¬ (k : Int) < (N : Int) := by omega
      have X8 := Lib.hid (X6.out.trans X7.out)
      clear hkN X7 X6
      go_wp2_with fail
      refine (awake_group _ (HT.out.1.ext X8.out) (HT.out.2.ext X8.out)).mono ?_
      rintro e w9 ⟨rfl, x9⟩
      have X9 := Lib.hid (X8.out.trans x9)
      clear x9 X8
      go_wp2_with fail
      go_ret
      exact ⟨by simp, X9.out⟩

end Go.Proofs.YtdgpbpbjlnlijaaGreatDoor
