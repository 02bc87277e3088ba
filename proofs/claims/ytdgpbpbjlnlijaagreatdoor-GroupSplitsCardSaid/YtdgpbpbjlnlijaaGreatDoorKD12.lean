/- joined texts of a proof: RowW, GrpF -/
import Derived.Test.YtdgpbpbjlnlijaaGreatDoorKD11
import Derived.Test.YtdgpbpbjlnlijaaGreatDoorKD10

/- grouping.row with counts -/
namespace Go.Proofs.YtdgpbpbjlnlijaaGreatDoor
open Go.RowKit

structure AggI where
  kind : Int
  arg : Int
def Rep.agg : Rep AggI where
  size := 2
  holds _ cs x := cs = [.int .i64 x.kind, .int .i64 x.arg] ∧ okI x.kind ∧ okI x.arg
  len := by rintro w cs x ⟨rfl, _⟩; rfl
  ext := by rintro w w' cs x h _; exact h
  one := by rintro w cs x ⟨rfl, _⟩; simp [Value.oneCell']
theorem flat_agg : Rep.agg.flat := fun _ _ _ _ h => h
theorem agg_at {h : View} {b o n cap : Nat} {xs : List AggI} (k : SliceOf Rep.agg h (.slice (some ⟨b, o, none⟩) n cap) xs) (i : Nat) (hi : i < xs.length) :
    h ⟨b, o + i * 2, none⟩ = some (.int .i64 xs[i].kind) ∧ h ⟨b, o + i * 2 + 1, none⟩ = some (.int .i64 xs[i].arg) := by
  obtain ⟨c, ⟨rfl, _⟩, h2⟩ := k.at i hi
  exact ⟨h2 0 _ rfl, h2 1 _ rfl⟩
theorem info_vals : (Tryz.prog.info? 40).map (fun i => (i.zero, i.size, i.bytes)) = some (some (.slice none 0 0), (Rep.slice Rep.val).size, 24) := by kernel_rfl
theorem FreeN.grown {w w' : World} {g n : Nat} {row : Option Nat} (h : FreeN w g n) (gr : w.grownBy w' row) (hne : row ≠ some g) : FreeN w' g n := fun j hj => by
  obtain ⟨⟨z, h1⟩, h2⟩ := h j hj
  have hb := gr.block g (cell_lt h1) (fun e => hne e.symm)
  exact ⟨⟨z, (World.cell?_of_block (w := w) hb).trans h1⟩, (World.frozen?_of_block (w := w) hb).trans h2⟩
/-- what n counts give -/
def cntV (n : Nat) (vs : List (List Val)) : List Val := List.replicate n (intVal vs.length)
def memV (ms : List Tup) (t : Int) : List (List Val) := (ms.filter (holdsAt t)).map Tup.vals
def memL (ms : List Tup) (t : Int) : List Int := (ms.filter (holdsAt t)).flatMap Tup.lin
theorem mem_take (l : List Tup) (x : Int) (k : Nat) (h : k < l.length) : memV (l.take (k + 1)) x = memV (l.take k) x ++ (if (validB l[k].from_ l[k].to_ && decide (l[k].from_ ≤ x) && decide (x < l[k].to_)) = true then [l[k].vals] else []) ∧ memL (l.take (k + 1)) x = memL (l.take k) x ++ (if (validB l[k].from_ l[k].to_ && decide (l[k].from_ ≤ x) && decide (x < l[k].to_)) = true then l[k].lin else []) := by
  rw [List.take_succ_eq_append_getElem h]
  unfold memV memL
  rw [List.filter_append, List.map_append, List.flatMap_append, List.filter_cons, List.filter_nil]
  rw [show holdsAt x l[k] = (validB l[k].from_ l[k].to_ && decide (l[k].from_ ≤ x) && decide (x < l[k].to_)) from rfl]
  split <;> simp
theorem memL_len {l : List Tup} {n : Nat} (h : ∀ t ∈ l, t.lin.length ≤ n) (x : Int) : (memL l x).length ≤ n * l.length := by
  induction l with
  | nil => exact Nat.zero_le _
  | cons t l ih =>
    have h1 := ih fun u hu => h u (by simp [hu])
    have h2 := h t (by simp)
    unfold memL at *
    rw [List.filter_cons, List.length_cons, Nat.mul_succ]
    split
    · rw [List.flatMap_cons, List.length_append]; omega
    · omega

theorem FreeN.chg {C : Nat → Prop} {w w' : World} {g n : Nat} (h : FreeN w g n) (hx : Chg C w w') (hn : ¬ C g) : FreeN w' g n := fun j hj => by
  obtain ⟨⟨z, h1⟩, h2⟩ := h j hj
  exact ⟨⟨z, hx.at h1 hn⟩, hx.free h1 h2 hn⟩

set_option maxRecDepth 100000 in
set_option maxHeartbeats 8000000 in
theorem row_count (G : Nat) (ve : Value) (va : Value) (aggs : List AggI) (kv : Value) (key : List Val) (tv : Value) (ms : List Tup) (t : Int) (w : World) (hg0 : w.cell? ⟨G, 0, none⟩ = some ve) (hve : ShSl ve) (hg1 : w.cell? ⟨G, 1, none⟩ = some va) (ha : SliceOf Rep.agg w.cell? va aggs) (hak : ∀ a ∈ aggs, a.kind = 1) (hal : aggs.length ≤ 1000)
    (hk : SliceOf Rep.val w.cell? kv key) (hkl : key.length ≤ 1000) (hm : SliceOf Rep.tup w.cell? tv ms) (hml : ms.length ≤ 4096) (hmf : ∀ m ∈ ms, m.lin.length ≤ 256) :
    Calls Tryz.prog 45 #[.pointer (some ⟨G, 0, none⟩), kv, tv, .int .i64 t] w fun e w' => ∃ a b, e = .returned (.tuple #[.agg #[a, b], .bool (decide (0 < (memV ms t).length))]) ∧ SliceOf Rep.val (on w' (since w)) a (gRow (cntV aggs.length) key ms t).vals ∧ SliceOf Rep.int (on w' (since w)) b (gRow (cntV aggs.length) key ms t).lin ∧ Ext w w' := by
  obtain ⟨i2, hi2, hz20, hz21, hz22⟩ := info_parts info_ints
  obtain ⟨i3, hi3, hz30, hz31, hz32⟩ := info_parts info_val3
  obtain ⟨i4, hi4, hz40, hz41, hz42⟩ := info_parts info_vals
  obtain ⟨pe, ne, ce, rfl⟩ := hve
  obtain ⟨pa, ca, rfl, _, _, hpa⟩ := ha.form
  obtain ⟨pk, ck, rfl, _⟩ := hk.form
  obtain ⟨p, cap, rfl, hc1, hc2, hp⟩ := hm.form
  obtain ⟨N, hN⟩ : ∃ N, N = ms.length := ⟨_, rfl⟩
  have HV := Lib.hid hm
  rw [← hN]
  have HN := Lib.hid hN
  have HP := Lib.hid hp
  have HA := Lib.hid ha
  have HAK := Lib.hid hak
  have HPA := Lib.hid hpa
  have HK := Lib.hid hk
  have HMF := Lib.hid hmf
  have HAL := Lib.hid hal
  have HKL := Lib.hid hkl
  have HG := Lib.hid (And.intro hg0 hg1)
  have hNl : N ≤ 4096 := by omega
  clear hm hN hp hc1 hc2 ha hak hpa hk hmf hg0 hg1 hml hal hkl
  go_enter Tryz.func45, Tryz.ntmps45
  go_wp2_with fail
  go_loopg [10, 11, 19] N (fun gk vm vl vi wr => ∃ (k : Nat) (um ul : Value), k ≤ N ∧ gk = N - k ∧ vi = .int .i64 k ∧ um = vm ∧ ul = vl ∧ Hid (OwnOf (Rep.slice Rep.val) wr (fun x => x < w.heap.size) (w.heap.size + 1) 40 um (memV (ms.take k) t)) ∧ Hid (OwnOf Rep.int wr (fun _ => True) (w.heap.size + 1) 3 ul (memL (ms.take k) t)) ∧ Hid (Apart um ul) ∧ Hid (FreeN wr w.heap.size 2) ∧ Hid (w.heap.size + 1 ≤ wr.heap.size) ∧ Ext w wr)
  case atStart => exact ⟨0, _, _, by omega, rfl, rfl, rfl, rfl, OwnOf.nil _ _ _ _ _, OwnOf.nil _ _ _ _ _, fun k hk => (by cases hk), (fun j hj => by
    rcases (by omega : j = 0 ∨ j = 1) with rfl | rfl
    · exact ⟨⟨_, by go_simp; rfl⟩, by go_simp⟩
    · exact ⟨⟨_, by go_simp; rfl⟩, by go_simp⟩), by show w.heap.size + 1 ≤ _; simp, (Ext.refl w).alloc _⟩
  case round =>
    obtain ⟨k, um, ul, hk, rfl, rfl, rfl, rfl, OM, OL, AP, FR, HSZ, hx⟩ := hrel
    by_cases hlt : k < N
    · have hkl : k < ms.length := by have := HN.out; omega
      have hd : decide ((k : Int) < (N : Int)) = true := by simp; omega
      obtain ⟨b, o', rfl⟩ := HP.out (by decide) (by omega)
      have hv := HV.out
      rw [← HN.out] at hv
      obtain ⟨ta, tb, c0, c1, c2, c3, g0, g1, r1, r2⟩ := tup_at hv k hkl
      obtain ⟨pv, kv', ta', _⟩ := g0.form
      obtain ⟨pl, kl, tb', _⟩ := g1.form
      subst ta' tb'
      replace c0 := hx.at c0
      replace c1 := hx.at c1
      replace c2 := hx.at c2
      replace c3 := hx.at c3
      obtain ⟨hst1, hst2⟩ := mem_take ms t k hkl
      have hml : (memV (ms.take k) t).length ≤ 4096 := by unfold memV; rw [List.length_map]; exact Nat.le_trans (List.length_filter_le _ _) (Nat.le_trans (List.length_take_le _ _) (by omega))
      have hll : (memL (ms.take k) t).length ≤ 1048576 := by
        have h1 := memL_len (l := ms.take k) (n := 256) (fun u hu => HMF.out u (List.mem_of_mem_take hu)) t
        have h2 := List.length_take_le k ms
        omega
      have hlk := HMF.out ms[k] (List.getElem_mem hkl)
      generalize ms[k] = y at c0 c1 c2 c3 g0 g1 r1 r2 hst1 hst2 hlk
      obtain ⟨vs, f, tt, ln⟩ := y
      dsimp only at c0 c1 c2 c3 g0 g1 r1 r2 hst1 hst2 hlk
      have HST1 := Lib.hid hst1
      have HST2 := Lib.hid hst2
      have G0 := Lib.hid g0
      have G1 := Lib.hid g1
      have e0 := cell_lt c0
      obtain ⟨mv, hmv⟩ : ∃ x, x = memV (ms.take k) t := ⟨_, rfl⟩
      obtain ⟨ml, hml2⟩ : ∃ x, x = memL (ms.take k) t := ⟨_, rfl⟩
      rw [← hmv] at OM hml hst1
      rw [← hml2] at OL hll hst2
      have HST1 := Lib.hid hst1
      have HST2 := Lib.hid hst2
      have HLK := Lib.hid hlk
      clear hst1 hst2 g0 g1 r1 r2 hv hmv hml2 hlk
      go_wp2_with fail
      refine (includes_day f tt t _).mono ?_
      rintro e w1 ⟨rfl, x1⟩
      have d0 : w1.cell? ⟨wr.heap.size, 0, none⟩ = some (.slice pv vs.length kv') := x1.at (by go_simp)
      have d3 : w1.cell? ⟨wr.heap.size, 3, none⟩ = some (.slice pl ln.length kl) := x1.at (by go_simp)
      have X1 := Lib.hid (show Ext wr w1 from ((Ext.refl wr).alloc _).trans x1)
      have e1 := cell_lt d0
      clear x1 c0 c1 c2 c3 e0
      cases hvb : (validB f tt && decide (f ≤ t) && decide (t < tt)) with
      | true =>
        have HVB := Lib.hid hvb
        clear hvb
        have B1 : mv.length + 1 ≤ maxLen := by unfold maxLen; omega
        have B2 : (mv.length + 1) * 24 ≤ 140737488355328 := by omega
        go_wp2_with (at_builtin; go_loud (refine wpList_append_one (Rep.slice Rep.val) (fun x => x < w.heap.size) rfl _ _ 147 rfl (w.heap.size + 1) 40 i4 _ 24 Tryz.underlying147 hi4 hz40 hz41 hz42 rfl (by decide) um mv rfl (OM.out.ext (X1.out.alloc _)) ⟨w1.heap.size, 0, none⟩ 1 vs [.slice pv vs.length kv'] rfl ?c1 (by exact cells_new w1 [.slice pv vs.length kv'] _) B1 B2 (Nat.le_trans HSZ.out (X1.out.alloc _).size) ?_))
        case c1 =>
          have hs : Sub w.cell? (on (w1.alloc (.cells #[.slice pv vs.length kv'] 40)) (avoid (fun x => x < w.heap.size) um)) := (full_on w _ fun _ h => h).trans (old_avoid (hx.trans (X1.out.alloc _)) ((OM.out.ext (X1.out.alloc _)).weak (fun _ _ h => h) (Nat.le_succ _)))
          exact ⟨_, rfl, G0.out.ext hs⟩
        intro g2 cap2 w2 own2 gr2 hg2
        have X1a := X1.out.alloc (.cells #[.slice pv vs.length kv'] 40)
        have hub : ∀ x, um.ownBlock = some x → w.heap.size + 1 ≤ x ∧ x < wr.heap.size := fun x hx => OM.out.lt x hx
        have hlb : ∀ x, ul.ownBlock = some x → w.heap.size + 1 ≤ x ∧ x < wr.heap.size := fun x hx => OL.out.lt x hx
        have D3 := cell_grown gr2 (((Ext.refl w1).alloc (.cells #[.slice pv vs.length kv'] 40)).at d3) (fun x hx => by have := (hub x hx).2; omega)
        have hg2' : um.ownBlock = some g2 ∨ g2 = (w1.alloc (.cells #[.slice pv vs.length kv'] 40)).heap.size := by rcases hg2 with h | h; exact .inl h; exact .inr (by rw [h]; simp)
        have OL2 := Lib.hid (own_apart flat_int' (OL.out.ext X1a) gr2 AP.out.symm)
        have OM2 := Lib.hid own2
        have AP2 := Lib.hid (show Apart ul (.slice (some ⟨g2, 0, none⟩) (mv.length + 1) cap2) from AP.out.symm.grow (fun x hx => ((OL.out.ext X1a).lt x hx).2) hg2')
        have FR2 := Lib.hid ((FR.out.ext X1a).grown gr2 (fun e => by have := (hub _ e).1; omega))
        have HX2 := Lib.hid (ext_grown (hx.trans X1a) gr2 (fun x hx => by have := (hub x hx).1; omega))
        have HS2 := Lib.hid (show w.heap.size + 1 ≤ w2.heap.size from Nat.le_trans HSZ.out (Nat.le_trans X1a.size gr2.size))
        have HLB := Lib.hid hlb
        have B3 : ml.length + ln.length ≤ maxLen := by have := HLK.out; unfold maxLen; omega
        have B4 : (ml.length + ln.length) * 8 ≤ 140737488355328 := by have := HLK.out; omega
        have e2 := cell_lt D3
        clear own2 gr2 hg2 hg2' X1a hub hlb d0 d3 e1 OM OL AP FR hx HSZ
        go_wp2_with (at_builtin; go_loud (refine wpList_append_all Rep.int (fun _ => True) rfl _ _ 24 rfl (w.heap.size + 1) 3 i2 _ 8 Tryz.underlying24 hi2 hz20 hz21 hz22 rfl (by decide) ul ml rfl OL2.out (.slice pl ln.length kl) ln rfl (G1.out.away flat_int' HX2.out (fun x hx => by have := (HLB.out x hx).1; omega)) B3 B4 HS2.out ?_))
        intro v3 w3 own3 gr3 hg3
        have hlb2 : ∀ x, ul.ownBlock = some x → w.heap.size + 1 ≤ x := fun x hx => (HLB.out x hx).1
        have OM3 := Lib.hid (own_grown OM2.out gr3 (fun x hx e => by have := hlb2 x e; omega) (fun x hx e => AP2.out x e hx))
        have AP3 := Lib.hid (show Apart (.slice (some ⟨g2, 0, none⟩) (mv.length + 1) cap2) v3 from fun x hx e => by
          rcases hg3 with h | h
          · rw [h] at e; exact AP2.out x e hx
          · rw [h] at e
            have := (OM2.out.lt x hx).2
            have := Option.some.inj e
            omega)
        have FR3 := Lib.hid (FR2.out.grown gr3 (fun e => by have := hlb2 _ e; omega))
        have HX3 := Lib.hid (ext_grown HX2.out gr3 (fun x hx => by have := hlb2 x hx; omega))
        have HS3 := Lib.hid (Nat.le_trans HS2.out gr3.size)
        have OL3 := Lib.hid own3
        clear own3 gr3 hg3 hlb2 OM2 OL2 AP2 FR2 HX2 HS2 HLB D3 e2
        go_wp2_with fail
        go_roundg (N - (k + 1))
        case measure => omega
        case rel => exact ⟨k + 1, _, v3, by omega, rfl, by go_num, rfl, rfl, by rw [HST1.out, if_pos HVB.out]; exact OM3.out, by rw [HST2.out, if_pos HVB.out]; exact OL3.out, AP3.out, FR3.out, HS3.out, HX3.out⟩
      | false =>
        have HVB := Lib.hid hvb
        clear hvb d0 d3 e1
        go_wp2_with fail
        go_roundg (N - (k + 1))
        case measure => omega
        case rel => exact ⟨k + 1, um, ul, by omega, rfl, by go_num, rfl, rfl, by rw [HST1.out, HVB.out, if_neg (by decide), List.append_nil]; exact OM.out.ext X1.out, by rw [HST2.out, HVB.out, if_neg (by decide), List.append_nil]; exact OL.out.ext X1.out, AP.out, FR.out.ext X1.out, Nat.le_trans HSZ.out X1.out.size, hx.trans X1.out⟩
    · have hkN : k = N := by omega
      have hd : ¬ (k : Int) < (N : Int) := by omega
      obtain ⟨mv, hmv⟩ : ∃ x, x = memV ms t := ⟨_, rfl⟩
      obtain ⟨ml, hml⟩ : ∃ x, x = memL ms t := ⟨_, rfl⟩
      have hte : ms.take k = ms := by rw [hkN, HN.out, List.take_length]
      rw [hte] at OM OL
      rw [← hmv] at OM
      rw [← hml] at OL
      have hmvl : mv.length ≤ 4096 := by rw [hmv]; unfold memV; rw [List.length_map]; exact Nat.le_trans (List.length_filter_le _ _) (by have := HN.out; omega)
      have hmll : ml.length ≤ 1048576 := by rw [hml]; have h1 := memL_len (l := ms) (n := 256) HMF.out t; have := HN.out; omega
      have HMV := Lib.hid hmv
      have HML := Lib.hid hml
      obtain ⟨pm, cm, rfl, _⟩ := OM.out.shapeL
      have B5 : ([] : List Val).length + key.length ≤ maxLen := by have := HKL.out; simp [maxLen]; omega
      have B6 : (([] : List Val).length + key.length) * 32 ≤ 140737488355328 := by have := HKL.out; simp; omega
      clear hkN hte hmv hml
      go_wp2_with (at_builtin; go_loud (refine wpList_append_all Rep.val (fun _ => True) rfl _ _ 40 rfl (w.heap.size + 1) 44 i3 _ 32 Tryz.underlying40 hi3 hz30 hz31 hz32 rfl (by decide) (.slice none 0 0) ([] : List Val) rfl (OwnOf.nil _ _ _ _ _) (.slice pk key.length ck) key rfl (HK.out.away (fun _ _ _ _ h => h) hx (fun x e => by cases e)) B5 B6 HSZ.out ?_))
      intro v4 w4 own4 gr4 _
      obtain ⟨p4, c4, rfl, _⟩ := own4.shapeL
      have X4 : Ext wr w4 := ext_grown (Ext.refl wr) gr4 (fun x e => by cases e)
      have SL4 := Lib.hid ((OL.out.ext X4).slice)
      obtain ⟨pl4, cl4, rfl, _⟩ := OL.out.shapeL
      have OV4 := Lib.hid own4
      have HX4 := Lib.hid (hx.trans X4)
      have FR4 := Lib.hid (FR.out.ext X4)
      have HS4 := Lib.hid (show w.heap.size + 1 ≤ wr.heap.size ∧ wr.heap.size ≤ w4.heap.size from ⟨HSZ.out, X4.size⟩)
      have HML5 := Lib.hid hmll
      clear own4 gr4 X4 OL OM AP FR HSZ hx hmll
      go_wp2_with fail
      refine (merge_lineage _ _ ml [] _ SL4.out (SliceOf.nil _ _) HML5.out (by simp)).mono ?_
      rintro e w5 ⟨v5, rfl, s5, x5⟩
      obtain ⟨p5, c5, rfl, _⟩ := s5.form
      obtain ⟨lg, hlg⟩ : ∃ x, x = mergeL ml [] := ⟨_, rfl⟩
      rw [← hlg] at s5 ⊢
      have HLG := Lib.hid hlg
      have OV5 := Lib.hid (OV4.out.ext x5)
      have HUV5 := Lib.hid (show ∀ x, (Value.slice p4 key.length c4).ownBlock = some x → x < w4.heap.size from fun x hx => (OV4.out.lt x hx).2)
      have FR5 := Lib.hid (FR4.out.ext x5)
      have HX5 := Lib.hid (HX4.out.trans x5)
      have HW45 := Lib.hid (show w.heap.size + 1 ≤ w4.heap.size ∧ w4.heap.size ≤ w5.heap.size from ⟨by have := HS4.out; omega, x5.size⟩)
      obtain ⟨Q4, hQ4⟩ : ∃ q, q = w4.heap.size := ⟨_, rfl⟩
      have S5 := Lib.hid (show SliceOf Rep.int (on w5 (fun x => Q4 ≤ x ∧ x < w5.heap.size)) (.slice p5 lg.length c5) lg from s5.ext (on_mono w5 fun x h1 h2 => ⟨by rw [hQ4]; exact h2, h1⟩))
      rw [← hQ4] at HUV5 HW45
      clear s5 x5 hlg hQ4 OV4 FR4 HX4 HS4 SL4
      obtain ⟨K, hK⟩ : ∃ K, K = aggs.length := ⟨_, rfl⟩
      have HKK := Lib.hid hK
      have hK1 : K ≤ 1000 := by rw [hK]; exact HAL.out
      have HKL2 := Lib.hid HKL.out
      obtain ⟨ng, hng⟩ : ∃ n, n = mv.length := ⟨_, rfl⟩
      have HNG := Lib.hid hng
      have hngl : ng ≤ 4096 := by omega
      rw [← hng]
      try rw [← hK]
      have g1' := HX5.out.at HG.out.2
      try rw [← hK] at g1'
      have e5 := cell_lt g1'
      clear hK hng hmvl
      go_wp2_with fail
      go_loopg [47] K (fun gk vi wr => ∃ (j : Nat) (pu : Option Addr) (nu cu : Nat), j ≤ K ∧ gk = K - j ∧ vi = .int .i64 j ∧ Hid (wr.cell? ⟨w5.heap.size, 0, none⟩ = some (.slice pu nu cu) ∧ wr.cell? ⟨w5.heap.size, 1, none⟩ = some (.slice p5 lg.length c5) ∧ wr.frozen? ⟨w5.heap.size, 0, none⟩ = false) ∧ Hid (OwnOf Rep.val wr (fun _ => True) (w.heap.size + 1) 44 (.slice pu nu cu) (key ++ List.replicate j (intVal ng))) ∧ Hid (∀ x, (Value.slice pu nu cu).ownBlock = some x → x < Q4 ∨ w5.heap.size < x) ∧ Hid (SliceOf Rep.int (on wr (fun x => Q4 ≤ x ∧ x < w5.heap.size)) (.slice p5 lg.length c5) lg) ∧ Hid (FreeN wr w.heap.size 2) ∧ Hid (Ext w wr))
      case atStart =>
        refine ⟨0, p4, key.length, c4, by omega, rfl, rfl, ⟨by exact cells_new w5 [_, _] 42 0 _ rfl, by exact cells_new w5 [_, _] 42 1 _ rfl, by go_simp⟩, by show OwnOf Rep.val _ _ _ _ _ (key ++ []); rw [List.append_nil]; exact OV5.out.ext ((Ext.refl w5).alloc _), fun x hx => .inl (HUV5.out x hx), S5.out.ext (((Ext.refl w5).alloc _).sub _), FR5.out.ext ((Ext.refl w5).alloc _), HX5.out.alloc _⟩
      case round =>
        clear OV5 S5 FR5 HX5 HUV5
        obtain ⟨j, pu, nu, cu, hj, rfl, rfl, HC, OU, HU, SL, FR, HX⟩ := hrel
        by_cases hlt2 : j < K
        · have hjl : j < aggs.length := by have := HKK.out; omega
          have hdj : decide ((j : Int) < (K : Int)) = true := by simp; omega
          obtain ⟨ba, oa, rfl⟩ := HPA.out (by decide) (by omega)
          obtain ⟨b0, b1⟩ := agg_at HA.out j hjl
          rw [HAK.out _ (List.getElem_mem hjl)] at b0
          replace b0 := HX.out.at b0
          replace b1 := HX.out.at b1
          have g0 := HX.out.at HG.out.1
          have g1 := HX.out.at HG.out.2
          generalize aggs[j].arg = ar at b1
          obtain ⟨q0, q1, q2⟩ := HC.out
          obtain ⟨xs, hxs⟩ : ∃ x, x = key ++ List.replicate j (intVal ng) := ⟨_, rfl⟩
          rw [← hxs] at OU
          have hxl : xs.length ≤ 2000 := by rw [hxs, List.length_append, List.length_replicate]; have := HKL2.out; omega
          have HXS := Lib.hid hxs
          have B1 : xs.length + [intVal (ng : Int)].length ≤ maxLen := by simp [maxLen]; omega
          have B2 : (xs.length + [intVal (ng : Int)].length) * 32 ≤ 140737488355328 := by simp; omega
          have e0 := cell_lt b0
          have e1 := cell_lt q0
          have e2 := cell_lt g0
          have HUL := Lib.hid (show ∀ x, (Value.slice pu nu cu).ownBlock = some x → x < wr.heap.size from fun x hx => (OU.out.lt x hx).2)
          have HOKN := Lib.hid (show okVal (intVal (ng : Int)) from ⟨⟨by simp [intVal], by simp [intVal]⟩, ⟨by simp [intVal] <;> omega, by simp [intVal]; omega⟩, by simp [intVal, maxLen]⟩)
          clear hxs hxl hjl
          go_wp2_with fail
          have k0 : (wr.alloc (.cells #[.int .i64 1, .int .i64 ar] 48)).cell? ⟨wr.heap.size, 0, none⟩ = some (.int .i64 1) := by go_simp
          have k1 : (wr.alloc (.cells #[.int .i64 1, .int .i64 ar] 48)).cell? ⟨wr.heap.size, 1, none⟩ = some (.int .i64 ar) := by go_simp
          have x0 : Ext wr (wr.alloc (.cells #[.int .i64 1, .int .i64 ar] 48)) := (Ext.refl wr).alloc _
          generalize (wr.alloc (.cells #[.int .i64 1, .int .i64 ar] 48)) = W at k0 k1 x0 ⊢
          have HR4 := Lib.hid (show ∀ k, (Value.slice pu nu cu).ownBlock = some k → w.heap.size ≤ k ∧ k ≠ w5.heap.size from fun k e => by
            have h1 := HU.out k e
            have h3 := (OU.out.lt k e).1
            have h4 := HW45.out
            omega)
          have m0 := x0.at q0
          have m1 := x0.at g0
          have X0 := Lib.hid x0.drew
          have HQ := Lib.hid (And.intro q0 q2)
          clear b0 b1 g1 q0 q2 g0 x0
          go_region_law (first
            | ((with_reducible refine key_op 59 ?_); go_simp; refine (aggregate_count _ _ _ _ _ _).mono ?_; rintro e w2 ⟨rfl, hx2⟩; have hy2 := Lib.hid (X0.out.trans hx2); have m2 := hy2.out.at HQ.out.1; have e9 := cell_lt m2)
            | ((with_reducible refine key_op 61 ?_); (try simp only [Act.put, List.setIfInBounds_toArray, List.set_cons_zero, List.set_cons_succ]); refine step_append_all Rep.val (fun _ => True) rfl _ _ 40 rfl (w.heap.size + 1) 44 i3 _ 32 Tryz.underlying40 hi3 hz30 hz31 hz32 rfl (by decide) (.slice pu nu cu) xs rfl (OU.out.ext (hy2.out.alloc _)) _ [intVal ng] rfl (lit_new (R := Rep.val) w2 [.int .i64 1, .int .i64 ng, .string ByteArray.empty] 44 [[.int .i64 1, .int .i64 ng, .string ByteArray.empty]] [intVal ng] rfl (fun _ => ⟨⟨rfl, HOKN.out⟩, trivial⟩) (by simp [maxLen]) (fun x hx => Nat.lt_of_lt_of_le (HUL.out x hx) hy2.out.size)) B1 B2 (Nat.le_trans (by have := (HX.out).size; have := HW45.out; omega) (hy2.out.alloc _).size) ?_; intro v8 w8 own8 gr8 hg8; obtain ⟨p8, n8, c8, rfl⟩ : ∃ p n c, v8 = .slice p n c := (by obtain ⟨pz, cz, hz, _⟩ := own8.shapeL; exact ⟨_, _, _, hz⟩); have m8 := cell_grown gr8 (((Ext.refl w2).alloc _).at m2) (fun k e => (HR4.out k e).2); have f8 : w8.frozen? ⟨w5.heap.size, 0, none⟩ = false := (World.frozen?_of_block (w := w2.alloc _) (gr8.block _ (cell_lt (((Ext.refl w2).alloc (.cells #[.int .i64 1, .int .i64 ng, .string ByteArray.empty] 44)).at m2)) (fun e => (HR4.out _ e.symm).2 rfl))).trans ((hy2.out.alloc _).unfrozen HQ.out.1 HQ.out.2)))
          all_goals
            have CH : Chg (fun k => k = w5.heap.size ∨ (Value.slice pu nu cu).ownBlock = some k) wr (w8.setCell ⟨w5.heap.size, 0, none⟩ (.slice p8 n8 c8)) := (((hy2.out.alloc (.cells #[.int .i64 1, .int .i64 ng, .string ByteArray.empty] 44)).chg _).grown gr8 (fun k e => .inl (.inr e))).setCell (.inl (.inl rfl)) _
            have HU8 : ∀ x, (Value.slice p8 n8 c8).ownBlock = some x → x < Q4 ∨ w5.heap.size < x := fun x hx => by
              rcases hg8 with h | h
              · exact HU.out x (h ▸ hx)
              · have h2 : wr.heap.size ≤ x := by
                  have h1 := Option.some.inj (h.symm.trans hx)
                  rw [← h1]
                  exact (hy2.out.alloc _).size
                have h3 := cell_lt HQ.out.1
                omega
            have OU8 : OwnOf Rep.val (w8.setCell ⟨w5.heap.size, 0, none⟩ (.slice p8 n8 c8)) (fun _ => True) (w.heap.size + 1) 44 (.slice p8 n8 c8) (key ++ List.replicate (j + 1) (intVal ng)) := by
              rw [List.replicate_succ', ← List.append_assoc, ← HXS.out]
              exact own8.chg (fun _ _ _ _ h => h) (chg_set w8 ⟨w5.heap.size, 0, none⟩ _) (fun k h e => by have := HU8 k h; have := HW45.out; simp only at e; omega)
            have Q8 : (w8.setCell ⟨w5.heap.size, 0, none⟩ (.slice p8 n8 c8)).cell? ⟨w5.heap.size, 0, none⟩ = some (.slice p8 n8 c8) ∧ (w8.setCell ⟨w5.heap.size, 0, none⟩ (.slice p8 n8 c8)).cell? ⟨w5.heap.size, 1, none⟩ = some (.slice p5 lg.length c5) ∧ (w8.setCell ⟨w5.heap.size, 0, none⟩ (.slice p8 n8 c8)).frozen? ⟨w5.heap.size, 0, none⟩ = false := by
              have h1 := cell_grown gr8 ((hy2.out.alloc (.cells #[.int .i64 1, .int .i64 ng, .string ByteArray.empty] 44)).at q1) (fun k e => (HR4.out k e).2)
              exact ⟨by go_simp, by rw [World.cell?_setCell_other _ _ _ _ (by simp)]; exact h1, by go_simp⟩
            have hnC : ∀ x, (Q4 ≤ x ∧ x < w5.heap.size) → ¬ (x = w5.heap.size ∨ (Value.slice pu nu cu).ownBlock = some x) := fun x hx e => by
              rcases e with e | e
              · omega
              · have := HU.out x e; omega
            have hgC : ¬ (w.heap.size = w5.heap.size ∨ (Value.slice pu nu cu).ownBlock = some w.heap.size) := fun e => by
              rcases e with e | e
              · have := HW45.out; omega
              · have := (OU.out.lt _ e).1; omega
            have SL8 := Lib.hid (SL.out.chg CH hnC)
            have FR8 := Lib.hid (FR.out.chg CH hgC)
            have HX8 := Lib.hid (show Ext w (w8.setCell ⟨w5.heap.size, 0, none⟩ (.slice p8 n8 c8)) from CH.below HX.out (fun k e => by
              rcases e with e | e
              · have := HW45.out; omega
              · exact Nat.le_of_succ_le (OU.out.lt k e).1))
            have HU9 := Lib.hid HU8
            have OU9 := Lib.hid OU8
            have Q9 := Lib.hid Q8
            clear CH HU8 OU8 Q8 hnC hgC own8 gr8 hg8 m8 f8 hy2 m2 q1
            go_wp2_with fail
            go_roundg (K - (j + 1))
            case measure => omega
            case rel => exact ⟨j + 1, p8, n8, c8, by omega, rfl, by go_num, Q9.out, OU9.out, HU9.out, SL8.out, FR8.out, HX8.out⟩
        · have hjK : j = K := by omega
          have hdj : decide ((j : Int) < (K : Int)) = false := by simp; omega
          subst hjK
          obtain ⟨q0, q1, q2⟩ := HC.out
          obtain ⟨⟨z0, f0⟩, g0⟩ := FR.out 0 (by omega)
          obtain ⟨⟨z1, f1⟩, g1⟩ := FR.out 1 (by omega)
          have e0 := cell_lt f0
          have e1 := cell_lt q0
          clear hlt2
          go_wp2_with fail
          have CH : Chg (fun k => k = w.heap.size) wr ((wr.setCell ⟨w.heap.size, 0, none⟩ (.slice pu nu cu)).setCell ⟨w.heap.size, 1, none⟩ (.slice p5 lg.length c5)) := (chg_set wr ⟨w.heap.size, 0, none⟩ _).setCell (p := ⟨w.heap.size, 1, none⟩) (.inl rfl) _
          refine bodyPost_ret (v := .tuple #[.agg #[.slice pu nu cu, .slice p5 lg.length c5], .bool (decide (0 < ng))]) (by simp [results, Tryz.results45, go_sem, f0, f1]) rfl ⟨_, _, by rw [← HMV.out, ← HNG.out], ?_, ?_, CH.below HX.out fun k e => Nat.le_of_eq e.symm⟩
          · have h1 := ((OU.out.chg (fun _ _ _ _ h => h) CH (fun k h e => by have := (OU.out.lt k h).1; omega)).fresh (fun _ _ _ _ h => h)).ext (on_mono _ (T := since w) fun k _ hk => Nat.le_of_succ_le hk)
            show SliceOf Rep.val _ _ (key ++ List.replicate aggs.length (intVal (memV ms t).length))
            rw [← HMV.out, ← HNG.out, ← HKK.out]
            exact h1
          · have h1 := (SL.out.chg CH (fun k hk e => by have := HW45.out; omega)).ext (on_mono _ (T := since w) fun k _ hk => Nat.le_trans (Nat.le_of_succ_le HW45.out.1) hk.1)
            show SliceOf Rep.int _ _ (mergeL (memL ms t) [])
            rw [← HML.out, ← HLG.out]
            exact h1

end Go.Proofs.YtdgpbpbjlnlijaaGreatDoor

/- plain: what the rows of the groups make is small; no program in sight -/
namespace Go.Proofs.YtdgpbpbjlnlijaaGreatDoor
open Go.RowKit

theorem clip_from {l : List Tup} {t : Tup} (h : t ∈ clipT l) : ∃ u ∈ l, t.vals = u.vals ∧ t.lin = u.lin := by
  obtain ⟨u, h1, h2⟩ := List.mem_filterMap.1 h
  unfold clip1 at h2
  split at h2
  · cases h2; exact ⟨u, h1, rfl, rfl⟩
  · cases h2
theorem gUpto_mem {aggV : List (List Val) → List Val} {always : Bool} {P : List Int} {kv : List Val} {ms : List Tup} {k : Nat} {t : Tup} (h : t ∈ gUpto aggV always P kv ms k) : ∃ i j : Int, t = tupOf (gRow aggV kv ms i) ⟨i, j⟩ := by
  induction k with
  | zero => cases h
  | succ k ih =>
    unfold gUpto at h
    rcases List.mem_append.1 h with h | h
    · exact ih h
    · split at h
      · rw [List.mem_singleton] at h
        exact ⟨_, _, h⟩
      · cases h
theorem rawG_fit {proj : List Val → List Val} {aggV : List (List Val) → List Val} {always : Bool} {l L : List Tup} {done : List (List Val)} (hL : ∀ y ∈ L, ∃ u ∈ l, y.vals = u.vals ∧ y.lin = u.lin) (hn : L.length ≤ 400) (hdl : done.length ≤ 401) (hnd : done.Nodup) (hf : ∀ t ∈ l, fitVals t.vals ∧ t.lin.length ≤ 256)
    (hfit : ∀ vss, (∀ vs ∈ vss, ∃ u ∈ l, vs = u.vals) → (aggV vss).length ≤ 1000 ∧ ∀ x ∈ aggV vss, x.s.size ≤ 1048576) (hkv : ∀ kv ∈ done, kv.length ≤ 1000 ∧ ∀ x ∈ kv, x.s.size ≤ 1048576) : fitN (rawG proj aggV always L done) := by
  refine ⟨?_, fun t ht => ?_⟩
  · have h1 := rawG_len2 proj aggV always L done hnd
    omega
  · unfold rawG at ht
    obtain ⟨kv, h1, h2⟩ := List.mem_flatMap.1 ht
    obtain ⟨i, j, rfl⟩ := gUpto_mem h2
    have h3 := hkv kv h1
    have hm : ∀ y ∈ memOf proj kv L, ∃ u ∈ l, y.vals = u.vals ∧ y.lin = u.lin := fun y hy => hL y (List.mem_filter.1 hy).1
    have h4 := hfit (((memOf proj kv L).filter (holdsAt i)).map Tup.vals) fun vs hvs => by
      obtain ⟨y, hy, rfl⟩ := List.mem_map.1 hvs
      obtain ⟨u, a, b, _⟩ := hm y (List.mem_filter.1 hy).1
      exact ⟨u, a, b⟩
    refine ⟨⟨?_, fun v hv => ?_⟩, ?_⟩
    · show (kv ++ aggV _).length ≤ _
      rw [List.length_append]
      omega
    · have hv : v ∈ kv ++ aggV (((memOf proj kv L).filter (holdsAt i)).map Tup.vals) := hv
      rcases List.mem_append.1 hv with hv | hv
      · exact h3.2 v hv
      · exact h4.2 v hv
    · show (mergeL (memL (memOf proj kv L) i) []).length ≤ _
      obtain ⟨a1, a2⟩ := mergeL_law (memL (memOf proj kv L) i) []
      have h5 := asc_len a1 (xs := memL (memOf proj kv L) i) fun x hx => by
        rcases (a2 x).1 hx with h | h
        · exact h
        · cases h
      have h6 := memL_len (l := memOf proj kv L) (n := 256) (fun y hy => by
        obtain ⟨u, a, _, b⟩ := hm y hy
        rw [b]
        exact (hf u a).2) i
      have h7 := memOf_len proj kv L
      omega
theorem gRow_fit {proj : List Val → List Val} {aggV : List (List Val) → List Val} {l L : List Tup} {kv : List Val} (hL : ∀ y ∈ L, ∃ u ∈ l, y.vals = u.vals ∧ y.lin = u.lin) (hn : L.length ≤ 400) (hf : ∀ t ∈ l, fitVals t.vals ∧ t.lin.length ≤ 256)
    (hfit : ∀ vss, (∀ vs ∈ vss, ∃ u ∈ l, vs = u.vals) → (aggV vss).length ≤ 1000 ∧ ∀ x ∈ aggV vss, x.s.size ≤ 1048576) (hkv : kv.length ≤ 1000) (t : Int) : (gRow aggV kv (memOf proj kv L) t).vals.length ≤ 1048576 ∧ (gRow aggV kv (memOf proj kv L) t).lin.length ≤ 1048576 := by
  have hm : ∀ y ∈ memOf proj kv L, ∃ u ∈ l, y.vals = u.vals ∧ y.lin = u.lin := fun y hy => hL y (List.mem_filter.1 hy).1
  have h4 := hfit (((memOf proj kv L).filter (holdsAt t)).map Tup.vals) fun vs hvs => by
    obtain ⟨y, hy, rfl⟩ := List.mem_map.1 hvs
    obtain ⟨u, a, b, _⟩ := hm y (List.mem_filter.1 hy).1
    exact ⟨u, a, b⟩
  refine ⟨?_, ?_⟩
  · show (kv ++ aggV _).length ≤ _
    rw [List.length_append]
    omega
  · show (mergeL (memL (memOf proj kv L) t) []).length ≤ _
    obtain ⟨a1, a2⟩ := mergeL_law (memL (memOf proj kv L) t) []
    have h5 := asc_len a1 (xs := memL (memOf proj kv L) t) fun x hx => by
      rcases (a2 x).1 hx with h | h
      · exact h
      · cases h
    have h6 := memL_len (l := memOf proj kv L) (n := 256) (fun y hy => by
      obtain ⟨u, a, _, b⟩ := hm y hy
      rw [b]
      exact (hf u a).2) t
    have h7 := memOf_len proj kv L
    omega
theorem gHas_eq (always : Bool) (ms : List Tup) (t : Int) : gHas always ms t = (always || decide (0 < (memV ms t).length)) := by
  unfold gHas memV
  congr 1
  rw [List.length_map, Bool.eq_iff_iff, decide_eq_true_eq, List.any_eq_true, List.length_pos_iff_exists_mem]
  constructor
  · rintro ⟨x, h1, h2⟩; exact ⟨x, List.mem_filter.2 ⟨h1, h2⟩⟩
  · rintro ⟨x, hx⟩; exact ⟨x, List.mem_filter.1 hx⟩

end Go.Proofs.YtdgpbpbjlnlijaaGreatDoor
