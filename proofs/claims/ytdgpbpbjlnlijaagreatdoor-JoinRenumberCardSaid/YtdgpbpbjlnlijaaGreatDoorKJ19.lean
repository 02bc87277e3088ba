/- joined texts of a proof: LeftW, AwkP, AwkW, Pick, Pred -/
import Derived.Test.YtdgpbpbjlnlijaaGreatDoorKJ17
import Derived.Test.YtdgpbpbjlnlijaaGreatDoorKJ16
import Derived.Test.YtdgpbpbjlnlijaaGreatDoorKJ18
import Derived.Test.YtdgpbpbjlnlijaaGreatDoorKJ07
import Derived.Test.YtdgpbpbjlnlijaaGreatDoorKJ01
import Derived.Laws.OwnMore
import Derived.Test.YtdgpbpbjlnlijaaGreatDoorKJ09
import Derived.Test.YtdgpbpbjlnlijaaGreatDoorKJ05
import Derived.Deep.QuietTactic
import Derived.BigQuiet

/- join.LeftOuter -/
namespace Go.Proofs.YtdgpbpbjlnlijaaGreatDoor
open Go.RowKit

def nullW (width : Int) : Nat := (min (max width 0) 64).toNat
theorem nullW_le (width : Int) : nullW width ≤ 64 := by unfold nullW; omega
theorem nullW_int (width : Int) : min (max width 0) 64 = (nullW width : Int) := by unfold nullW; omega
theorem subs_len (t : Tup) (ps : List Per) (n : Nat) (h : ps.length ≤ n) : (subPs [tupPer t] ps).length ≤ n + 1 := by
  unfold subPs
  have h1 := refNorm_len ps
  have h2 := refNorm_len [tupPer t]
  have h3 : ∀ l : List Per, (l.flatMap fun p => subP1 p.to_ p.from_ (refNorm ps)).length ≤ l.length * (n + 1) := fun l => by
    induction l with
    | nil => simp
    | cons p l ih =>
      rw [List.flatMap_cons, List.length_append, List.length_cons, Nat.succ_mul]
      have := subP1_len p.to_ (refNorm ps) p.from_
      omega
  have h4 := h3 (refNorm [tupPer t])
  have h5 : (refNorm [tupPer t]).length * (n + 1) ≤ 1 * (n + 1) := Nat.mul_le_mul_right _ h2
  omega
theorem partners_len (tr : List Val → Bool) (a b : List Tup) (k : Nat) : (partners tr a b k).length ≤ a.length * b.length := by
  unfold partners
  rw [List.length_map]
  exact Nat.le_trans (List.length_filter_le _ _) (pairs_len a b)

theorem padAt_len (tr : List Val → Bool) (W : Nat) (a b : List Tup) (k : Nat) : (padAt tr W a b k).length ≤ (partners tr a b k).length + 1 := by
  unfold padAt
  rw [List.length_map]
  exact subs_len _ _ _ (Nat.le_refl _)
theorem padUpto_len (tr : List Val → Bool) (W : Nat) (a b : List Tup) (k : Nat) : (padUpto tr W a b k).length ≤ k + ((List.range k).map fun i => (partners tr a b i).length).sum := by
  induction k with
  | zero => exact Nat.zero_le _
  | succ k ih =>
    show (padUpto tr W a b k ++ padAt tr W a b k).length ≤ _
    rw [List.length_append, List.range_succ, List.map_append, List.sum_append, List.map_cons, List.map_nil, List.sum_cons, List.sum_nil]
    have := padAt_len tr W a b k
    omega
open Classical in
theorem partners_sum (tr : List Val → Bool) (a b : List Tup) (k : Nat) : ((List.range k).map fun i => (partners tr a b i).length).sum ≤ a.length * b.length := by
  have h1 := filt_sum Pair.a (List.range k) (pairsOf a b) List.nodup_range
  have h2 := pairs_len a b
  have h3 : ∀ l : List Nat, (l.map fun i => (partners tr a b i).length).sum ≤ (l.map fun r => ((pairsOf a b).filter fun t => @decide (t.a = r) (Classical.propDecidable _)).length).sum := fun l => by
    induction l with
    | nil => exact Nat.le_refl _
    | cons i l ih =>
      rw [List.map_cons, List.sum_cons, List.map_cons, List.sum_cons]
      have : (partners tr a b i).length ≤ ((pairsOf a b).filter fun t => @decide (t.a = i) (Classical.propDecidable _)).length := by
        unfold partners
        rw [List.length_map, ← List.countP_eq_length_filter, ← List.countP_eq_length_filter]
        refine List.countP_mono_left fun x _ h => ?_
        simp only [Bool.and_eq_true, decide_eq_true_eq] at h
        exact @decide_eq_true _ (Classical.propDecidable _) h.1
      omega
  exact Nat.le_trans (h3 _) (Nat.le_trans h1 h2)
theorem pad_len (tr : List Val → Bool) (W : Nat) (a b : List Tup) (k : Nat) (ha : a.length ≤ 100) (hb : b.length ≤ 100) (hk : k ≤ 100) : (padUpto tr W a b k).length ≤ 10100 := by
  have h1 := padUpto_len tr W a b k
  have h2 := partners_sum tr a b k
  have h3 : a.length * b.length ≤ 100 * 100 := Nat.mul_le_mul ha hb
  omega
theorem nulls_flat (x y z : Value) (N : Nat) : (madeCells #[x, y, z] (N * 3)).toList = (List.replicate N [x, y, z]).flatten := by
  induction N with
  | zero => simp [madeCells]
  | succ N ih =>
    rw [List.replicate_succ', List.flatten_append, ← ih]
    unfold madeCells
    rw [Array.toList_map, Array.toList_map, Array.toList_range, Array.toList_range, show (N + 1) * 3 = N * 3 + 1 + 1 + 1 by omega, List.range_succ, List.range_succ, List.range_succ, List.map_append, List.map_append, List.map_append, List.append_assoc, List.append_assoc]
    congr 1
    have e0 : (N * 3) % 3 = 0 := by omega
    have e1 : (N * 3 + 1) % 3 = 1 := by omega
    have e2 : (N * 3 + 1 + 1) % 3 = 2 := by omega
    simp [e0, e1, e2]
theorem rep_replicate {α : Type} {R : Rep α} {h : View} {c : List Value} {x : α} (hc : R.holds h c x) (n : Nat) : RepAll R h (List.replicate n c) (List.replicate n x) := by
  induction n with
  | zero => trivial
  | succ n ih => exact ⟨hc, ih⟩
theorem left_fit {tr : List Val → Bool} {W : Nat} {a b : List Tup} (ha : fewT a) (hb : fewT b) (hW : W ≤ 64) : ∀ t ∈ leftRaw tr W a b, t.vals.length ≤ 2000 ∧ (∀ x ∈ t.vals, x.s.size ≤ 1048576) ∧ t.lin.length ≤ 2000 := by
  intro t ht
  unfold leftRaw at ht
  rcases List.mem_append.1 ht with ht | ht
  · exact join_fit ha hb t ht
  · have key : ∀ k, t ∈ padUpto tr W a b k → t.vals.length ≤ 2000 ∧ (∀ x ∈ t.vals, x.s.size ≤ 1048576) ∧ t.lin.length ≤ 2000 := fun k => by
      induction k with
      | zero => intro h; cases h
      | succ k ih =>
        intro h
        rcases List.mem_append.1 (show t ∈ padUpto tr W a b k ++ padAt tr W a b k from h) with h | h
        · exact ih h
        · unfold padAt at h
          obtain ⟨p, _, rfl⟩ := List.mem_map.1 h
          obtain ⟨h1, h2, h3⟩ := ha.getD k
          refine ⟨?_, fun x hx => ?_, ?_⟩
          · show ((a.getD k tupD).vals ++ List.replicate W nV).length ≤ _
            rw [List.length_append, List.length_replicate]; omega
          · rcases List.mem_append.1 (show x ∈ (a.getD k tupD).vals ++ List.replicate W nV from hx) with hx | hx
            · exact h2 x hx
            · rw [List.eq_of_mem_replicate hx]; exact Nat.zero_le _
          · show (a.getD k tupD).lin.length ≤ _
            omega
    exact key _ ht

set_option maxRecDepth 100000 in
set_option maxHeartbeats 8000000 in
theorem leftOuter_any (va vb : Value) (a b : List Tup) (ve : Value) (es : List ExprI) (pred width : Int) (w : World) (ha : SliceOf Rep.tup w.cell? va a) (hb : SliceOf Rep.tup w.cell? vb b) (hla : a.length ≤ 100) (hlb : b.length ≤ 100)
    (he : SliceOf Rep.expr w.cell? ve es) (hel : es.length ≤ 1000) (hfa : fewT a) (hfb : fewT b) (hT : TabW w) :
    Calls Tryz.prog 33 #[va, vb, ve, .int .i64 pred, .int .i64 width] w fun e w' => ∃ v', e = .returned v' ∧ SliceOf Rep.tup (on w' (since w)) v' (leftT (trE es pred) (nullW width) a b) ∧ Ext w w' := by
  obtain ⟨i1, hi1, hz10, hz11, hz12⟩ := info_parts info_per
  obtain ⟨i2, hi2, hz20, hz21, hz22⟩ := info_parts infoTup
  obtain ⟨i3, hi3, hz30, hz31, hz32⟩ := info_parts info_val3
  have HM := Lib.hid (matches_any va vb a b ve es pred w ha hb hla hlb he hel hfa.long hfb.long)
  obtain ⟨pa, ca, rfl, ha1, ha2, ha3⟩ := ha.form
  obtain ⟨pb, cb, rfl, _⟩ := hb.form
  obtain ⟨pe, ce, rfl, _⟩ := he.form
  have HT := Lib.hid hT
  have HA := Lib.hid ha
  obtain ⟨n, hn⟩ : ∃ n, n = a.length := ⟨_, rfl⟩
  rw [← hn] at HM HA ha3 hla ⊢
  have HN := Lib.hid hn
  have HPA := Lib.hid ha3
  have HFA := Lib.hid hfa
  have HFB := Lib.hid hfb
  have HLB := Lib.hid hlb
  obtain ⟨tr, htr⟩ : ∃ tr, tr = trE es pred := ⟨_, rfl⟩
  rw [← htr] at HM ⊢
  obtain ⟨js, hjs⟩ : ∃ js, js = joinRaw tr a b := ⟨_, rfl⟩
  rw [← hjs] at HM
  have HJS := Lib.hid hjs
  have hjl : js.length ≤ 10000 := by rw [hjs]; exact Nat.le_trans (joinRaw_len tr a b) (Nat.mul_le_mul (show a.length ≤ 100 by omega) hlb)
  have hwi := nullW_int width
  have hwl := nullW_le width
  obtain ⟨N, hN⟩ : ∃ N, N = nullW width := ⟨_, rfl⟩
  rw [← hN] at hwi hwl ⊢
  have HJL := Lib.hid hjl
  have HWI := Lib.hid hwi
  clear ha hb he hT hn ha1 ha2 ha3 hfa hfb hlb htr hjs hjl hwi hN
  go_enter Tryz.func33, Tryz.ntmps33
  go_wp2_with fail
  refine HM.out.mono ?_
  rintro e w1 ⟨u1, qb, f1, S1, base, rfl, hbase, ho1, hm1, x1⟩
  have hparts := hm1.parts (by unfold maxLen; omega)
  have OW1 := Lib.hid (ho1.weak (S := S1) (T := fun _ => True) (base' := base) (fun _ _ _ => trivial) (Nat.le_refl _))
  have PW1 := Lib.hid hparts
  have HUB := Lib.hid (show ∀ x, u1.ownBlock = some x → w.heap.size ≤ x from fun x hx => Nat.le_trans hbase (ho1.base x hx))
  have HQB := Lib.hid (show u1.ownBlock ≠ some qb from fun e => by have h1 := hm1.out.base qb e; have h2 := hm1.lo; omega)
  have HBW := Lib.hid (show w.heap.size ≤ base ∧ base ≤ w1.heap.size from ⟨hbase, hm1.hi⟩)
  have X1 := Lib.hid x1
  clear hparts ho1 hm1 x1 hbase HM
  go_wp2_with (at_make; go_loud (refine wpList_make_full _ rfl _ _ 40 rfl w1.heap.size 44 i3 _ 3 Tryz.underlying40 hi3 hz30 hz31 .i64 .i64 _ _ N rfl rfl HWI.out HWI.out (by rw [hz32]; omega) (by unfold maxLen; omega) (by simp) ?_))
  intro w2 own2 gr2
  have X12 := Lib.hid (show Ext w1 w2 from ext_grown (Ext.refl w1) gr2 (fun k hk => by cases hk))
  obtain ⟨nb, hnb⟩ : ∃ z, z = w1.heap.size := ⟨_, rfl⟩
  have hnul : SliceOf Rep.val (on w2 (fun k => w1.heap.size ≤ k)) (.slice (some ⟨w1.heap.size, 0, none⟩) N N) (List.replicate N nV) := by
    have hval : Rep.val.holds w2.cell? [.int .i64 0, .int .i64 0, .string ByteArray.empty] nV := ⟨rfl, ok_nV⟩
    have h : OwnOf Rep.val w2 (fun _ => True) w1.heap.size 44 (.slice (some ⟨w1.heap.size, 0, none⟩) N N) (List.replicate N nV) := ⟨_, (rep_replicate hval N).flatView flat_val, by rw [List.length_replicate, ← nulls_flat]; exact own2⟩
    exact h.fresh flat_val
  have NUL := Lib.hid (show SliceOf Rep.val (on w2 (fun k => u1.ownBlock ≠ some k)) (.slice (some ⟨nb, 0, none⟩) N N) (List.replicate N nV) from by
    rw [hnb]
    exact hnul.ext (on_mono w2 fun k _ hk e => by have := (OW1.out.lt k e).2; have hk : w1.heap.size ≤ k := hk; omega))
  have OW2 := Lib.hid (OW1.out.ext X12.out)
  have PW2 := Lib.hid (PW1.out.ext (X12.out.sub _))
  have X2 := Lib.hid (X1.out.trans X12.out)
  have HB2 := Lib.hid (show w.heap.size ≤ base ∧ base ≤ w2.heap.size from ⟨HBW.out.1, Nat.le_trans HBW.out.2 X12.out.size⟩)
  rw [← hnb]
  clear own2 gr2 hnul hnb OW1 PW1 X1 X12 HBW HWI
  go_wp2_with fail
  go_loopg [11, 32] n (fun gk vo vi wr => ∃ (k : Nat) (u : Value), k ≤ n ∧ gk = n - k ∧ vi = .int .i64 k ∧ u = vo ∧ Hid (OwnOf Rep.tup wr (fun _ => True) base 77 u (js ++ padUpto tr N a b k)) ∧ Hid (Chg (fun x => u1.ownBlock = some x) w2 wr) ∧ Hid (∀ x, u.ownBlock = some x → u1.ownBlock = some x ∨ w2.heap.size ≤ x))
  case atStart => exact ⟨0, _, by omega, rfl, rfl, rfl, by show OwnOf _ _ _ _ _ _ (js ++ []); rw [List.append_nil]; exact OW2.out, Chg.refl _ _, fun x hx => .inl hx⟩
  case round =>
    clear OW2
    obtain ⟨k, u, hk, rfl, rfl, rfl, OU, HC, HU⟩ := hrel
    have hxw : Ext w wr := Chg.below HC.out X2.out (fun x e => HUB.out x e)
    have HXW := Lib.hid hxw
    by_cases hlt : k < n
    · have hkl : k < a.length := by have := HN.out; omega
      obtain ⟨ba, oa, rfl⟩ := HPA.out (by decide) (by omega)
      have hd : decide ((k : Int) < (n : Int)) = true := by simp; omega
      have hkI : (k : Int) < (n : Int) := by omega
      obtain ⟨xa, xb, c0, c1, c2, c3, ga, gb, r1, r2⟩ := tup_at (by have h := HA.out; rw [HN.out] at h; exact h) k hkl
      have hfx := HFA.out a[k] (List.getElem_mem hkl)
      have hpa : padAt tr N a b k = (subPs [tupPer a[k]] (partners tr a b k)).map (tupOf (padRow N (tupRow a[k]))) := by
        unfold padAt
        rw [getD_some (List.getElem?_eq_getElem hkl)]
      have hst : padUpto tr N a b (k + 1) = padUpto tr N a b k ++ padAt tr N a b k := rfl
      rw [hpa] at hst
      have hyl := pad_len tr N a b k (by have := HN.out; omega) HLB.out (by omega)
      have hpl := partners_len tr a b k
      have hpl2 : a.length * b.length ≤ 100 * 100 := Nat.mul_le_mul (by have := HN.out; omega) HLB.out
      obtain ⟨cp, hcp1, hcp2, hcp3⟩ := (show ∃ cp, (on w2 fun k => u1.ownBlock ≠ some k) ⟨qb, k, none⟩ = some cp ∧ SliceOf Rep.per (on w2 fun k => u1.ownBlock ≠ some k) cp (partners tr a b k) ∧ True from by
        have h := PW2.out
        have hl : ((List.range n).map (partners tr a b)).length = n := by simp
        obtain ⟨c, ⟨v, rfl, hv⟩, h2⟩ := SliceOf.at (by have h2 := h; rwa [← hl] at h2) k (by rw [hl]; omega)
        refine ⟨v, ?_, ?_, trivial⟩
        · have := h2 0 v rfl
          simpa [Rep.slice] using this
        · simpa using hv)
      clear hcp3 hpa
      generalize partners tr a b k = P9 at hcp2 hst hpl
      generalize a[k] = x at c1 c2 ga gb r1 r2 hfx hst
      obtain ⟨xv, xf, xt, xl⟩ := x
      dsimp only [tupPer, tupRow] at c0 c1 c2 c3 ga gb r1 r2 hfx hst
      replace c0 := hxw.at c0
      replace c1 := hxw.at c1
      replace c2 := hxw.at c2
      replace c3 := hxw.at c3
      obtain ⟨hcn, hcp1⟩ := on_some.1 hcp1
      replace hcp1 := HC.out.at hcp1 (fun e => hcn e)
      obtain ⟨p9, c9, rfl, _⟩ := hcp2.form
      obtain ⟨n9, hn9⟩ : ∃ z, z = P9.length := ⟨_, rfl⟩
      rw [← hn9] at hcp1 hcp2
      obtain ⟨p1, k1, rfl, _⟩ := ga.form
      obtain ⟨p2, k2, rfl, _⟩ := gb.form
      obtain ⟨xn, hxn⟩ : ∃ z, z = xv.length := ⟨_, rfl⟩
      obtain ⟨ln, hln⟩ : ∃ z, z = xl.length := ⟨_, rfl⟩
      rw [← hxn] at c0 ga
      rw [← hln] at c3 gb
      have GA := Lib.hid ga
      have GB := Lib.hid gb
      have HXN := Lib.hid hxn
      have HPS := Lib.hid (hcp2.chg HC.out (fun k hk e => hk e))
      have HPL := Lib.hid (show P9.length ≤ 10000 from by omega)
      have HRR := Lib.hid (And.intro r1 r2)
      have HFX := Lib.hid hfx
      have HST := Lib.hid hst
      obtain ⟨ys0, hys0⟩ : ∃ z, z = js ++ padUpto tr N a b k := ⟨_, rfl⟩
      have hys1 : ys0.length ≤ 20100 := by rw [hys0, List.length_append]; have := HJL.out; omega
      rw [← hys0] at OU
      have HYS := Lib.hid hys0
      have HYL := Lib.hid hys1
      have e0 := cell_lt c0
      have e1 := cell_lt hcp1
      clear ga gb hfx hst hyl hpl hpl2 hcn hcp2 hn9 hxn hln hys0 hys1 r1 r2 hkl hxw
      go_wp2_with fail
      obtain ⟨tp, htp⟩ : ∃ z, z = wr.heap.size := ⟨_, rfl⟩
      obtain ⟨W3, hW3⟩ : ∃ W3, W3 = wr.alloc (.cells #[.slice p1 xn k1, .int .i64 xf, .int .i64 xt, .slice p2 ln k2] 77) := ⟨_, rfl⟩
      have x3 : Ext wr W3 := by rw [hW3]; exact (Ext.refl wr).alloc _
      have hS0 : Ext wr W3.drew ∧ W3.drew.cell? ⟨tp, 0, none⟩ = some (.slice p1 xn k1) ∧ W3.drew.cell? ⟨tp, 1, none⟩ = some (.int .i64 xf) ∧ W3.drew.cell? ⟨tp, 2, none⟩ = some (.int .i64 xt) ∧ W3.drew.cell? ⟨tp, 3, none⟩ = some (.slice p2 ln k2) ∧ W3.drew.cell? ⟨qb, k, none⟩ = some (.slice p9 n9 c9) := by
        rw [htp, hW3]
        exact ⟨((Ext.refl wr).alloc _).drew, (by go_simp), (by go_simp), (by go_simp), (by go_simp), ((Ext.refl wr).alloc _).drew.at hcp1⟩
      have HTP := Lib.hid htp
      have X3 := Lib.hid x3
      have HLIT := Lib.hid (show SliceOf Rep.per (W3.alloc (.cells #[.int .i64 xf, .int .i64 xt] 52)).drew.cell? (.slice (some ⟨W3.heap.size, 0, none⟩) 1 1) [⟨xf, xt⟩] from (slice_lit Rep.per W3 [.int .i64 xf, .int .i64 xt] 52 [[.int .i64 xf, .int .i64 xt]] [⟨xf, xt⟩] rfl ⟨⟨rfl, HRR.out⟩, trivial⟩ (by simp [maxLen])).ext (Ext.refl _).drew.full)
      try rw [← htp]
      try rw [← hW3]
      have hknI := hkI
      clear hW3 htp x3 c0 c1 c2 c3 hcp1 e0 e1 hd
      go_region_held3 (fun w' => Ext wr w' ∧ w'.cell? ⟨tp, 0, none⟩ = some (.slice p1 xn k1) ∧ w'.cell? ⟨tp, 1, none⟩ = some (.int .i64 xf) ∧ w'.cell? ⟨tp, 2, none⟩ = some (.int .i64 xt) ∧ w'.cell? ⟨tp, 3, none⟩ = some (.slice p2 ln k2) ∧ w'.cell? ⟨qb, k, none⟩ = some (.slice p9 n9 c9))
        (first | with_reducible assumption | with_reducible exact keepE5 (by assumption) x5 | exact keepE5 hS0 ((Ext.refl W3).alloc _).drew.ofDrew | with_reducible exact keepE5 (by assumption) ((Ext.refl _).alloc _))
        (first
          | (go_at_call 77; refine (subtract_any _ _ [⟨xf, xt⟩] P9 _ HLIT.out (by first | exact (HPS.out.ext (on_sub _ _)).ext (X3.out.alloc _).drew.full) (by simp) (by have := HPL.out; omega)).mono ?_; rintro e w5 ⟨v5, rfl, o5, x5⟩; obtain ⟨p5, c5, rfl, _⟩ := o5.slice.form))
      all_goals
        have k5 := ‹Ext wr (_ : World) ∧ _›
        obtain ⟨D, hD⟩ : ∃ z, z = subPs [⟨xf, xt⟩] P9 := ⟨_, rfl⟩
        have hDl : D.length ≤ 10001 := by rw [hD]; exact subs_len ⟨xv, xf, xt, xl⟩ P9 10000 HPL.out
        rw [← hD] at o5 ⊢
        obtain ⟨nd, hnd⟩ : ∃ z, z = D.length := ⟨_, rfl⟩
        have hfr5 := o5.fresh flat_per
        have hsz5 : (W3.alloc (.cells #[.int .i64 xf, .int .i64 xt] 52)).drew.heap.size = W3.heap.size + 1 := by simp
        rw [hsz5] at hfr5
        rw [← hnd] at hfr5
        rw [← hnd] at hDl ⊢
        have hDS : SliceOf Rep.per (on w5 (fun k => wr.heap.size ≤ k)) (.slice p5 nd c5) D := hfr5.ext (on_mono w5 fun k _ hk => by have h1 := X3.out.size; have hk : W3.heap.size + 1 ≤ k := hk; show wr.heap.size ≤ k; omega)
        have hDF := hDS.form
        have DS := Lib.hid hDS
        have HD := Lib.hid hD
        have HND := Lib.hid hnd
        have HDB := Lib.hid (show 0 < nd → ∃ b o, p5 = some ⟨b, o, none⟩ from fun h => by
          obtain ⟨a', c', e, _, _, hp⟩ := hDF
          injection e with e1 _ _
          obtain ⟨b, o, hbo⟩ := hp (by decide) (by omega)
          exact ⟨b, o, by rw [e1]; exact hbo⟩)
        have BX := Lib.hid (show w5.cell? ⟨tp, 0, none⟩ = some (.slice p1 xn k1) ∧ w5.cell? ⟨tp, 3, none⟩ = some (.slice p2 ln k2) from ⟨k5.2.1, k5.2.2.2.2.1⟩)
        have X5 := Lib.hid k5.1
        have OU5 := Lib.hid (OU.out.ext X5.out)
        have HC5 := Lib.hid (HC.out.ext X5.out)
        have HU5 := Lib.hid (show ∀ x, u.ownBlock = some x → x < wr.heap.size from fun x hx => (OU.out.lt x hx).2)
        clear k5 o5 x5 hfr5 hsz5 hDS hDF hD hnd HPS OU HC HLIT X3
        go_wp2_with fail
        obtain ⟨wo, rfl⟩ : ∃ z, z = wr := ⟨_, rfl⟩
        go_loopg [11, 46] nd (fun gj vo vi wq => ∃ (j : Nat) (uq : Value), j ≤ nd ∧ gj = nd - j ∧ vi = .int .i64 j ∧ uq = vo ∧ Hid (OwnOf Rep.tup wq (fun _ => True) base 77 uq (ys0 ++ (D.take j).map (tupOf (padRow N ⟨xv, xl⟩)))) ∧ Hid (Chg (fun x => u1.ownBlock = some x) w2 wq) ∧ Hid (Chg (fun x => x < wo.heap.size) w5 wq) ∧ Hid (∀ x, uq.ownBlock = some x → (u1.ownBlock = some x ∨ w2.heap.size ≤ x) ∧ (x < wo.heap.size ∨ w5.heap.size ≤ x)))
        case atStart => exact ⟨0, u, by omega, rfl, rfl, rfl, by rw [List.take_zero, List.map_nil, List.append_nil]; exact OU5.out, HC5.out, Chg.refl _ _, fun x hx => ⟨HU.out x hx, .inl (HU5.out x hx)⟩⟩
        case round =>
          clear OU5 HC5 HU5
          obtain ⟨j, uq, hj, rfl, rfl, rfl, OI, HCI, HCJ, HUI⟩ := hrel
          have hxq : Ext w wr := Chg.below HCI.out X2.out (fun x e => HUB.out x e)
          have HXQ := Lib.hid hxq
          have htw : wo.heap.size ≤ tp := by rw [HTP.out]; exact Nat.le_refl _
          have b0 := HCJ.out.at BX.out.1 (fun h => by have h : tp < wo.heap.size := h; omega)
          have b3 := HCJ.out.at BX.out.2 (fun h => by have h : tp < wo.heap.size := h; omega)
          have eb := cell_lt b0
          by_cases hjl : j < nd
          · have hjr : j < D.length := by have := HND.out; omega
            obtain ⟨bd, od, rfl⟩ := HDB.out (by omega)
            have htk : D.take (j + 1) = D.take j ++ [D[j]] := List.take_succ_eq_append_getElem hjr
            obtain ⟨c0, c1, rq1, rq2⟩ := per_at (by have h := DS.out; rw [HND.out] at h; exact h) j hjr
            generalize D[j] = q at c0 c1 rq1 rq2 htk
            obtain ⟨pf, pt⟩ := q
            dsimp only at c0 c1 rq1 rq2
            obtain ⟨s0, c0⟩ := on_some.1 c0
            obtain ⟨s1, c1⟩ := on_some.1 c1
            replace c0 := HCJ.out.at c0 (fun h => by have h : bd < wo.heap.size := h; have s0 : wo.heap.size ≤ bd := s0; omega)
            replace c1 := HCJ.out.at c1 (fun h => by have h : bd < wo.heap.size := h; have s0 : wo.heap.size ≤ bd := s0; omega)
            have hd : decide ((j : Int) < (nd : Int)) = true := by simp; omega
            have e0 := cell_lt c0
            have HTK := Lib.hid htk
            have HQQ := Lib.hid (And.intro rq1 rq2)
            have hyj : (ys0 ++ (D.take j).map (tupOf (padRow N ⟨xv, xl⟩))).length ≤ 30200 := by
              rw [List.length_append, List.length_map, List.length_take]
              have := HYL.out
              omega
            obtain ⟨ys, hys⟩ : ∃ z, z = ys0 ++ (D.take j).map (tupOf (padRow N ⟨xv, xl⟩)) := ⟨_, rfl⟩
            rw [← hys] at OI hyj
            have HYJ := Lib.hid hys
            have HUL := Lib.hid (show ∀ x, uq.ownBlock = some x → w.heap.size ≤ x ∧ x < wr.heap.size from fun x hx => ⟨Nat.le_trans HB2.out.1 (OI.out.lt x hx).1, (OI.out.lt x hx).2⟩)
            have B1 : ys.length + 1 ≤ maxLen := by unfold maxLen; omega
            have B2 : (ys.length + 1) * 64 ≤ 140737488355328 := by omega
            have HUT := Lib.hid (show ∀ x, uq.ownBlock = some x → x ≠ tp from fun x hx e => by have h1 := (HUI.out x hx).2; have h2 := HTP.out; have h3 := X5.out.size; have h4 := cell_lt BX.out.1; omega)
            clear htk rq1 rq2 s0 s1 hyj hys hxq hjr hknI
            go_wp2_with fail
            obtain ⟨bq, hbq⟩ : ∃ z, z = wr.heap.size := ⟨_, rfl⟩
            obtain ⟨W6, hW6⟩ : ∃ W6, W6 = wr.alloc (.cells #[.int .i64 pf, .int .i64 pt] 52) := ⟨_, rfl⟩
            have x6 : Ext wr W6 := by rw [hW6]; exact (Ext.refl wr).alloc _
            have hS0 : Ext w W6.drew ∧ W6.drew.cell? ⟨tp, 0, none⟩ = some (.slice p1 xn k1) ∧ W6.drew.cell? ⟨tp, 3, none⟩ = some (.slice p2 ln k2) ∧ W6.drew.cell? ⟨bq, 0, none⟩ = some (.int .i64 pf) ∧ W6.drew.cell? ⟨bq, 1, none⟩ = some (.int .i64 pt) := by
              rw [hbq, hW6]
              exact ⟨(HXQ.out.alloc _).drew, ((Ext.refl wr).alloc _).drew.at b0, ((Ext.refl wr).alloc _).drew.at b3, (by go_simp), (by go_simp)⟩
            have HBQ := Lib.hid hbq
            have X6 := Lib.hid x6
            have HLV := Lib.hid (show SliceOf (Rep.slice Rep.val) (W6.alloc (.cells #[.slice p1 xn k1, .slice (some ⟨nb, 0, none⟩) N N] 40)).drew.cell? (.slice (some ⟨W6.heap.size, 0, none⟩) 2 2) [xv, List.replicate N nV] from
              (slice_lit (Rep.slice Rep.val) W6 [.slice p1 xn k1, .slice (some ⟨nb, 0, none⟩) N N] 40 [[.slice p1 xn k1], [.slice (some ⟨nb, 0, none⟩) N N]] [xv, List.replicate N nV] rfl ⟨⟨_, rfl, GA.out.ext (HXQ.out.trans (X6.out.alloc _)).full⟩, ⟨_, rfl, ((NUL.out.chg HCI.out (fun k hk e => hk e)).ext (on_sub _ _)).ext (X6.out.alloc _).full⟩, trivial⟩ (by simp [maxLen])).ext (Ext.refl _).drew.full)
            obtain ⟨zn, hzn⟩ : ∃ z, z = (xv ++ List.replicate N nV).length := ⟨_, rfl⟩
            have HZN := Lib.hid hzn
            have HFL := Lib.hid (show ([xv, List.replicate N nV] : List (List Val)).flatten = xv ++ List.replicate N nV from by simp)
            try rw [← hbq]
            try rw [← hW6]
            clear hW6 hbq x6 c0 c1 b0 b3 e0 eb hd hzn
            go_region_held3 (fun w' => Ext w w' ∧ w'.cell? ⟨tp, 0, none⟩ = some (.slice p1 xn k1) ∧ w'.cell? ⟨tp, 3, none⟩ = some (.slice p2 ln k2) ∧ w'.cell? ⟨bq, 0, none⟩ = some (.int .i64 pf) ∧ w'.cell? ⟨bq, 1, none⟩ = some (.int .i64 pt))
              (first | with_reducible assumption | with_reducible exact keepE4 (by assumption) x7 | exact keepE4 hS0 ((Ext.refl W6).alloc _).drew.ofDrew | with_reducible exact keepE4 (by assumption) ((Ext.refl _).alloc _) | with_reducible exact K8)
              (first
                | (go_at_call 78; refine (concat_val _ [xv, List.replicate N nV] _ HLV.out (by rw [HFL.out, List.length_append, List.length_replicate]; have := HFX.out.1; omega)).mono ?_; rintro e w7 ⟨v7, rfl, o7, x7⟩; rw [HFL.out] at o7; have S7 := Lib.hid (o7.fresh flat_val); obtain ⟨q6, j6, rfl, _⟩ := o7.slice.form; rw [← HZN.out] at S7 ⊢; have X7 := Lib.hid (show Ext W6 w7 from ((Ext.refl W6).alloc _).drew.trans x7); have K7 : Ext w w7 ∧ w7.cell? ⟨tp, 0, none⟩ = some (.slice p1 xn k1) ∧ w7.cell? ⟨tp, 3, none⟩ = some (.slice p2 ln k2) ∧ w7.cell? ⟨bq, 0, none⟩ = some (.int .i64 pf) ∧ w7.cell? ⟨bq, 1, none⟩ = some (.int .i64 pt) := keepE4 hS0 (((Ext.refl W6).alloc _).drew.ofDrew.trans x7); clear o7)
                | (refine step_append_one Rep.tup (fun _ => True) rfl _ _ 22 rfl base 77 i2 _ 64 Tryz.underlying22 hi2 hz20 hz21 hz22 rfl (by decide) uq ys rfl (by exact OI.out.ext ((X6.out.trans X7.out).alloc _)) ⟨_, 0, none⟩ 1 ⟨xv ++ List.replicate N nV, pf, pt, xl⟩ [.slice q6 zn j6, .int .i64 pf, .int .i64 pt, .slice p2 ln k2] rfl (by exact ⟨_, _, rfl, S7.out.ext ((on_mono w7 fun x _ hx => ⟨fun e => by (have h1 := (HUL.out x e.symm).2; have h2 := X6.out.size; simp at hx; omega), trivial⟩).trans (((Ext.refl w7).alloc _).sub _)), GB.out.away flat_int (HXQ.out.trans ((X6.out.trans X7.out).alloc _)) (fun x hx => (HUL.out x hx).1), HQQ.out.1, HQQ.out.2⟩) (by exact cells_new _ [.slice q6 zn j6, .int .i64 pf, .int .i64 pt, .slice p2 ln k2] _) B1 B2 (by exact Nat.le_trans HB2.out.2 (Nat.le_trans HCI.out.size ((X6.out.trans X7.out).alloc (.cells [.slice q6 zn j6, .int .i64 pf, .int .i64 pt, .slice p2 ln k2].toArray 77)).size)) ?_; intro g8 cap8 w8 own8 gr8 hg8; have X7a := (X6.out.trans X7.out).alloc (.cells [.slice q6 zn j6, .int .i64 pf, .int .i64 pt, .slice p2 ln k2].toArray 77); have hub8 : ∀ x, uq.ownBlock = some x → x ≠ bq := (fun x hx e => by have h1 := (HUL.out x hx).2; have h2 := HBQ.out; omega); have K8 : Ext w w8 ∧ w8.cell? ⟨tp, 0, none⟩ = some (.slice p1 xn k1) ∧ w8.cell? ⟨tp, 3, none⟩ = some (.slice p2 ln k2) ∧ w8.cell? ⟨bq, 0, none⟩ = some (.int .i64 pf) ∧ w8.cell? ⟨bq, 1, none⟩ = some (.int .i64 pt) := ⟨ext_grown (HXQ.out.trans X7a) gr8 (fun x hx => (HUL.out x hx).1), cell_grown gr8 (((Ext.refl w7).alloc _).at K7.2.1) HUT.out, cell_grown gr8 (((Ext.refl w7).alloc _).at K7.2.2.1) HUT.out, cell_grown gr8 (((Ext.refl w7).alloc _).at K7.2.2.2.1) hub8, cell_grown gr8 (((Ext.refl w7).alloc _).at K7.2.2.2.2) hub8⟩))
            all_goals
              have OU9 := Lib.hid (show OwnOf Rep.tup w8 (fun _ => True) base 77 (.slice (some ⟨g8, 0, none⟩) (ys.length + 1) cap8) (ys0 ++ (D.take (j + 1)).map (tupOf (padRow N ⟨xv, xl⟩))) from by rw [HTK.out, List.map_append, ← List.append_assoc, ← HYJ.out]; exact own8)
              have C9 := Lib.hid ((HCI.out.ext X7a).grown gr8 (fun x hx => (HUI.out x hx).1))
              have D9 := Lib.hid ((HCJ.out.ext X7a).grown gr8 (fun x hx => (HUI.out x hx).2))
              have U9 := Lib.hid (show ∀ x, (Value.slice (some ⟨g8, 0, none⟩) (ys.length + 1) cap8).ownBlock = some x → (u1.ownBlock = some x ∨ w2.heap.size ≤ x) ∧ (x < wo.heap.size ∨ w5.heap.size ≤ x) from fun x hx => by
                rcases hg8 with h | h
                · exact HUI.out x (h.trans hx)
                · have h2 : g8 = x := Option.some.inj hx
                  have h3 : wr.heap.size ≤ g8 := by rw [h]; exact X7a.size
                  have h4 := HCI.out.size
                  have h5 := HCJ.out.size
                  exact ⟨.inr (by omega), .inr (by omega)⟩)
              clear own8 gr8 hg8 K8 K7 X7a hS0 hub8 x7
              go_wp2_with fail
              go_roundg (nd - (j + 1))
              case measure => omega
              case rel => exact ⟨j + 1, _, by omega, rfl, by go_num, rfl, OU9.out, C9.out, D9.out, U9.out⟩
          · have hd : ¬ (j : Int) < (nd : Int) := by omega
            have HFIN := Lib.hid (show js ++ padUpto tr N a b (k + 1) = ys0 ++ (D.take j).map (tupOf (padRow N ⟨xv, xl⟩)) from by
              rw [HST.out, ← List.append_assoc, ← HYS.out, ← HD.out, List.take_of_length_le (by have := HND.out; omega)])
            have OF := Lib.hid (show OwnOf Rep.tup wr (fun _ => True) base 77 uq (js ++ padUpto tr N a b (k + 1)) from by rw [HFIN.out]; exact OI.out)
            clear OI b0 b3 eb hxq HCJ hknI
            go_wp2_with fail
            go_roundg (n - (k + 1))
            case measure => omega
            case rel => exact ⟨k + 1, uq, by omega, rfl, by go_num, rfl, OF.out, HCI.out, fun x hx => (HUI.out x hx).1⟩
    · have hkN : k = n := by omega
      have hd : ¬ (k : Int) < (n : Int) := by omega
      have HFI := Lib.hid (show js ++ padUpto tr N a b k = leftRaw tr N a b from by unfold leftRaw; rw [hkN, HN.out, HJS.out])
      have HLN := Lib.hid (show (leftRaw tr N a b).length ≤ 65536 from by
        have h1 := pad_len tr N a b k (by have := HN.out; omega) HLB.out (by omega)
        have h2 := HJL.out
        rw [← HFI.out, List.length_append]
        omega)
      have s1 := OU.out.slice
      rw [HFI.out] at s1
      obtain ⟨p1, c1, hv1, _⟩ := s1.form
      subst hv1
      have S1' := Lib.hid s1
      clear s1 hkN OU HC HU
      go_wp2_with fail
      refine (normalize_any _ (leftRaw tr N a b) _ S1'.out ⟨HLN.out, fun t ht => by obtain ⟨h1, h2, h3⟩ := left_fit HFA.out HFB.out (by omega) t ht; exact ⟨⟨by omega, h2⟩, by omega⟩⟩ (HT.out.ext HXW.out)).mono ?_
      rintro e w4 ⟨v4, rfl, t4, x4⟩
      have T4 := Lib.hid (show SliceOf Rep.tup (on w4 (since w)) v4 (leftT tr N a b) from t4.ext (on_mono _ fun k _ hk => Nat.le_trans HXW.out.size hk))
      obtain ⟨p4, c4, rfl, _⟩ := t4.form
      have X4 := Lib.hid (HXW.out.trans x4)
      clear t4 x4
      go_wp2_with fail
      go_ret
      exact ⟨_, rfl, T4.out, X4.out⟩

end Go.Proofs.YtdgpbpbjlnlijaaGreatDoor

/- plain: the joins of two single tuples; no program in sight -/
namespace Go.Proofs.YtdgpbpbjlnlijaaGreatDoor
open Go.RowKit

theorem levels_oneJ (f t : Int) (h : validB f t = true) : levels [⟨f, t⟩] = [⟨f, t⟩] := by
  have hv := validB_lt h
  have hb : bnd [perT ⟨f, t⟩] = [f, t] := by
    unfold bnd
    rw [List.flatMap_cons, List.flatMap_nil, List.append_nil, if_pos (show validT (perT ⟨f, t⟩) = true from h)]
    rfl
  have hp : pts [perT ⟨f, t⟩] = [f, t] := by
    obtain ⟨a1, a2, _⟩ := pts_law [perT ⟨f, t⟩]
    refine List.Perm.eq_of_pairwise (le := (· < ·)) (fun x y _ _ h1 h2 => by omega) a1 (by simp; omega) ((List.perm_ext_iff_of_nodup (a1.imp fun h => by omega) (by simp; omega)).2 fun x => by rw [a2, hb])
  have hl : levPts [⟨f, t⟩] = [f, t] := hp
  have hc : ∀ x, cntAt [perT ⟨f, t⟩] x = if f ≤ x ∧ x < t then 1 else 0 := fun x => by
    unfold cntAt
    rw [List.filter_cons, List.filter_nil]
    have e : holdsAt x (perT ⟨f, t⟩) = (decide (f ≤ x) && decide (x < t)) := by
      unfold holdsAt
      rw [show validT (perT ⟨f, t⟩) = true from h, Bool.true_and]
      rfl
    rw [e]
    by_cases c : f ≤ x ∧ x < t
    · rw [if_pos c, if_pos (by simp [c])]; rfl
    · rw [if_neg c, if_neg (by simpa using c)]; rfl
  have f0 : levF [⟨f, t⟩] 0 = 1 := by
    unfold levF
    rw [hl]
    show cntAt [perT ⟨f, t⟩] f = 1
    rw [hc, if_pos (by omega)]
  have f1 : levF [⟨f, t⟩] 1 = 0 := by
    unfold levF
    rw [hl]
    show cntAt [perT ⟨f, t⟩] t = 0
    rw [hc, if_neg (by omega)]
  unfold levels
  rw [hl]
  show (levStep (levF [⟨f, t⟩] 1) t (levStep (levF [⟨f, t⟩] 0) f ([], []))).2 = _
  rw [f0, f1]
  rfl
theorem norm_oneJ (x : Tup) (h : validT x = true) : normT [x] = [x] := by
  have h1 : rowsOf [x] = [tupRow x] := by
    unfold rowsOf
    rw [List.filter_cons, if_pos h]
    show once [tupRow x] = _
    unfold once
    rw [if_neg (by simp)]
    rfl
  have h2 : persOf (tupRow x) [x] = [⟨x.from_, x.to_⟩] := by
    unfold persOf
    rw [List.filter_cons, if_pos h, List.filter_nil, List.filter_cons, if_pos (by simp)]
    rfl
  unfold normT normRaw
  rw [h1, List.flatMap_cons, List.flatMap_nil, List.append_nil, h2, levels_oneJ _ _ h]
  exact sortBy_short _ _ (by simp)

def awkE : List ExprI := [⟨1, 0, 0, 0, ⟨3, 1, ByteArray.empty⟩⟩]
theorem awk_tr (row : List Val) : trE awkE 0 row = true := rfl
def awkA (v : List Val) : Tup := ⟨v, 0, 9, [1]⟩
def awkB (v : List Val) : Tup := ⟨v, 5, 20, [2]⟩
theorem awk_pairs (v u : List Val) : pairsOf [awkA v] [awkB u] = [⟨0, 0, 5, 9⟩] := by
  unfold pairsOf
  rw [show rawPairs [awkA v] [awkB u] = [⟨0, 0, 5, 9⟩] from rfl]
  exact sortBy_short _ _ (by simp)
theorem awk_merge : mergeL [1] [2] = [1, 2] := by
  obtain ⟨a1, a2⟩ := mergeL_law [1] [2]
  refine List.Perm.eq_of_pairwise (le := (· < ·)) (fun x y _ _ h1 h2 => by omega) a1 (by simp) ((List.perm_ext_iff_of_nodup (a1.imp fun h => by omega) (by simp)).2 fun x => ?_)
  rw [a2]
  simp
theorem awk_join (v u : List Val) : joinRaw (trE awkE 0) [awkA v] [awkB u] = [⟨v ++ u, 5, 9, [1, 2]⟩] := by
  unfold joinRaw
  rw [awk_pairs, List.map_cons, List.map_nil, List.filter_cons, if_pos (awk_tr _), List.filter_nil]
  unfold pairT pairRow tupOf tupRow
  show [(⟨v ++ u, 5, 9, mergeL [1] [2]⟩ : Tup)] = _
  rw [awk_merge]
theorem awk_inner (v u : List Val) : innerT (trE awkE 0) [awkA v] [awkB u] = [⟨v ++ u, 5, 9, [1, 2]⟩] := by
  unfold innerT
  rw [awk_join]
  exact norm_oneJ _ (show validB 5 9 = true by decide)
theorem awk_pad (v u : List Val) : padUpto (trE awkE 0) 2 [awkA v] [awkB u] 1 = [⟨v ++ List.replicate 2 nV, 0, 5, [1]⟩] := by
  show [] ++ padAt (trE awkE 0) 2 [awkA v] [awkB u] 0 = _
  rw [List.nil_append]
  unfold padAt
  have hp : partners (trE awkE 0) [awkA v] [awkB u] 0 = [⟨5, 9⟩] := by
    unfold partners
    rw [awk_pairs]
    rfl
  rw [hp]
  have hs : subPs [tupPer ([awkA v].getD 0 tupD)] [⟨5, 9⟩] = [⟨0, 5⟩] := by
    show subPs [⟨0, 9⟩] [⟨5, 9⟩] = _
    rfl
  rw [hs]
  rfl
theorem awk_left (v u : List Val) : (leftT (trE awkE 0) 2 [awkA v] [awkB u]).length = 2 := by
  unfold leftT leftRaw
  rw [awk_join, show [awkA v].length = 1 from rfl, awk_pad]
  obtain ⟨x, hx⟩ : ∃ x : Tup, x = ⟨v ++ u, 5, 9, [1, 2]⟩ := ⟨_, rfl⟩
  obtain ⟨y, hy⟩ : ∃ y : Tup, y = ⟨v ++ List.replicate 2 nV, 0, 5, [1]⟩ := ⟨_, rfl⟩
  have hvx : validT x = true := by rw [hx]; exact (show validB 5 9 = true by decide)
  have hvy : validT y = true := by rw [hy]; exact (show validB 0 5 = true by decide)
  have hne : tupRow x ≠ tupRow y := fun e => by
    have := congrArg Row.lin e
    rw [hx, hy] at this
    exact absurd this (by simp [tupRow])
  rw [← hx, ← hy, List.singleton_append]
  have hn : ([tupRow x, tupRow y] : List Row).Nodup := by simp [hne]
  rw [← normT_of (l := [x, y]) hn (fun r => by
    constructor
    · intro h
      rcases List.mem_cons.1 h with rfl | h
      · exact ⟨x, by simp, hvx, rfl⟩
      · rw [List.mem_singleton] at h
        subst h
        exact ⟨y, by simp, hvy, rfl⟩
    · rintro ⟨t, h, _, rfl⟩
      rcases List.mem_cons.1 h with rfl | h
      · simp
      · rw [List.mem_singleton] at h
        subst h
        simp) (List.Perm.refl _), sortBy_length]
  have hf : [x, y].filter validT = [x, y] := by simp [hvx, hvy]
  have p1 : persOf (tupRow x) [x, y] = [tupPer x] := by
    unfold persOf
    rw [hf, List.filter_cons, if_pos (by simp), List.filter_cons, if_neg (by simpa using fun e => hne e.symm)]
    rfl
  have p2 : persOf (tupRow y) [x, y] = [tupPer y] := by
    unfold persOf
    rw [hf, List.filter_cons, if_neg (by simpa using hne), List.filter_cons, if_pos (by simp)]
    rfl
  unfold normRaw
  rw [List.flatMap_cons, List.flatMap_cons, List.flatMap_nil, p1, p2]
  unfold tupPer
  rw [levels_oneJ _ _ hvx, levels_oneJ _ _ hvy]
  rfl
theorem nullW_two : nullW 2 = 2 := by unfold nullW; omega
end Go.Proofs.YtdgpbpbjlnlijaaGreatDoor

/- annalistlaw14.awake -/
namespace Go.Proofs.YtdgpbpbjlnlijaaGreatDoor
open Go.RowKit

theorem genVals_few (x y : Int) : (genVals x y).length ≤ 1000 ∧ ∀ z ∈ genVals x y, z.s.size ≤ 1048576 := by
  refine ⟨by simp [genVals], fun v hv => ?_⟩
  have hv : v ∈ [genV0 x, genV1 y] := hv
  have h : ∀ z, (genStr z).size ≤ 2 := fun z => by unfold genStr; split; exact Nat.zero_le _; split <;> decide
  simp only [List.mem_cons, List.not_mem_nil, or_false] at hv
  rcases hv with rfl | rfl
  · unfold genV0; split
    · exact Nat.zero_le _
    · exact Nat.zero_le _
  · unfold genV1; split
    · exact Nat.zero_le _
    · exact Nat.le_trans (h _) (by decide)
set_option maxRecDepth 100000 in
set_option maxHeartbeats 1000000 in
theorem awake_join (w : World) (ht : TabW w) : Calls Tryz.prog 29 #[] w fun e w' => e = .returned (.bool true) ∧ Ext w w' := by
  have HT := Lib.hid ht
  clear ht
  go_enter Tryz.func29, Tryz.ntmps29
  go_wp2_with fail
  have HE0 := Lib.hid (show SliceOf Rep.expr (w.alloc (.cells #[.int .i64 1, .int .i64 0, .int .i64 0, .int .i64 0, .int .i64 3, .int .i64 1, .string ⟨#[]⟩] 73)).cell? (.slice (some ⟨w.heap.size, 0, none⟩) 1 1) awkE from
    slice_lit Rep.expr w [.int .i64 1, .int .i64 0, .int .i64 0, .int .i64 0, .int .i64 3, .int .i64 1, .string ⟨#[]⟩] 73 [[.int .i64 1, .int .i64 0, .int .i64 0, .int .i64 0, .int .i64 3, .int .i64 1, .string ⟨#[]⟩]] awkE rfl ⟨⟨rfl, by unfold okI; dsimp only; omega, ⟨by dsimp only; omega, by dsimp only; omega, Nat.zero_le _⟩⟩, trivial⟩ (by simp [maxLen, awkE]))
  have X0 := Lib.hid ((Ext.refl w).alloc (.cells #[.int .i64 1, .int .i64 0, .int .i64 0, .int .i64 0, .int .i64 3, .int .i64 1, .string ⟨#[]⟩] 73))
  obtain ⟨be, hbe⟩ : ∃ z, z = w.heap.size := ⟨_, rfl⟩
  obtain ⟨w0, hw0⟩ : ∃ z, z = w.alloc (.cells #[.int .i64 1, .int .i64 0, .int .i64 0, .int .i64 0, .int .i64 3, .int .i64 1, .string ⟨#[]⟩] 73) := ⟨_, rfl⟩
  rw [← hbe, ← hw0] at HE0
  rw [← hw0] at X0
  try rw [← hbe]
  try rw [← hw0]
  clear hbe hw0
  refine (vals_gen 0 0 _ (by omega) (by omega) (by omega) (by omega)).mono ?_
  rintro e w1 ⟨u1, rfl, t1, x1⟩
  obtain ⟨p1, c1, rfl, _⟩ := t1.form
  have hl1 : (genVals 0 0).length = 2 := rfl
  rw [hl1] at t1 ⊢
  have hf1 := genVals_few 0 0
  obtain ⟨g1, hg1⟩ : ∃ g, g = genVals 0 0 := ⟨_, rfl⟩
  rw [← hg1] at t1 hf1
  have xl1 : Ext w1 ((w1.alloc (.cells #[.int .i64 1] 3)).alloc (.cells #[.slice p1 2 c1, .int .i64 0, .int .i64 9, .slice (some ⟨w1.heap.size, 0, none⟩) 1 1] 77)) := ((Ext.refl _).alloc _).alloc _
  have l1 := slice_lit Rep.int w1 [.int .i64 1] 3 [[.int .i64 1]] [1] rfl ⟨⟨rfl, by omega⟩, trivial⟩ (by simp [maxLen])
  have a1 : SliceOf Rep.tup ((w1.alloc (.cells #[.int .i64 1] 3)).alloc (.cells #[.slice p1 2 c1, .int .i64 0, .int .i64 9, .slice (some ⟨w1.heap.size, 0, none⟩) 1 1] 77)).cell? (.slice (some ⟨(w1.alloc (.cells #[.int .i64 1] 3)).heap.size, 0, none⟩) 1 1) [awkA g1] := slice_lit Rep.tup (w1.alloc (.cells #[.int .i64 1] 3)) [.slice p1 2 c1, .int .i64 0, .int .i64 9, .slice (some ⟨w1.heap.size, 0, none⟩) 1 1] 77 [[.slice p1 2 c1, .int .i64 0, .int .i64 9, .slice (some ⟨w1.heap.size, 0, none⟩) 1 1]] [awkA g1] rfl ⟨⟨_, _, rfl, (t1.ext (on_sub _ _)).ext xl1.full, l1.ext ((Ext.refl _).alloc _).full, (show okI 0 by unfold okI; omega), (show okI 9 by unfold okI; omega)⟩, trivial⟩ (by simp [maxLen])
  go_wp2_with fail
  have hz1 : (w1.alloc (.cells #[.int .i64 1] 3)).heap.size = w1.heap.size + 1 := by simp
  rw [hz1] at a1
  obtain ⟨b1, hb1⟩ : ∃ z, z = w1.heap.size + 1 := ⟨_, rfl⟩
  obtain ⟨v1, hv1⟩ : ∃ z, z = (w1.alloc (.cells #[.int .i64 1] 3)).alloc (.cells #[.slice p1 2 c1, .int .i64 0, .int .i64 9, .slice (some ⟨w1.heap.size, 0, none⟩) 1 1] 77) := ⟨_, rfl⟩
  rw [← hb1, ← hv1] at a1
  rw [← hv1] at xl1
  try rw [← hb1]
  try rw [← hv1]
  have A1 := Lib.hid a1
  have F1 := Lib.hid (show fewT [awkA g1] from fun t ht => by rw [List.mem_singleton] at ht; subst ht; exact ⟨hf1.1, hf1.2, by simp [awkA]⟩)
  have E1 := Lib.hid (HE0.out.ext (x1.trans xl1).full)
  have X1 := Lib.hid (X0.out.trans (x1.trans xl1))
  clear x1 xl1 t1 hl1 hf1 hg1 l1 a1 hb1 hv1 hz1 HE0 X0
  refine (vals_gen 1 1 _ (by omega) (by omega) (by omega) (by omega)).mono ?_
  rintro e w2 ⟨u2, rfl, t2, x2⟩
  obtain ⟨p2, c2, rfl, _⟩ := t2.form
  have hl2 : (genVals 1 1).length = 2 := rfl
  rw [hl2] at t2 ⊢
  have hf2 := genVals_few 1 1
  obtain ⟨g2, hg2⟩ : ∃ g, g = genVals 1 1 := ⟨_, rfl⟩
  rw [← hg2] at t2 hf2
  have xl2 : Ext w2 ((w2.alloc (.cells #[.int .i64 2] 3)).alloc (.cells #[.slice p2 2 c2, .int .i64 5, .int .i64 20, .slice (some ⟨w2.heap.size, 0, none⟩) 1 1] 77)) := ((Ext.refl _).alloc _).alloc _
  have l2 := slice_lit Rep.int w2 [.int .i64 2] 3 [[.int .i64 2]] [2] rfl ⟨⟨rfl, by omega⟩, trivial⟩ (by simp [maxLen])
  have a2 : SliceOf Rep.tup ((w2.alloc (.cells #[.int .i64 2] 3)).alloc (.cells #[.slice p2 2 c2, .int .i64 5, .int .i64 20, .slice (some ⟨w2.heap.size, 0, none⟩) 1 1] 77)).cell? (.slice (some ⟨(w2.alloc (.cells #[.int .i64 2] 3)).heap.size, 0, none⟩) 1 1) [awkB g2] := slice_lit Rep.tup (w2.alloc (.cells #[.int .i64 2] 3)) [.slice p2 2 c2, .int .i64 5, .int .i64 20, .slice (some ⟨w2.heap.size, 0, none⟩) 1 1] 77 [[.slice p2 2 c2, .int .i64 5, .int .i64 20, .slice (some ⟨w2.heap.size, 0, none⟩) 1 1]] [awkB g2] rfl ⟨⟨_, _, rfl, (t2.ext (on_sub _ _)).ext xl2.full, l2.ext ((Ext.refl _).alloc _).full, (show okI 5 by unfold okI; omega), (show okI 20 by unfold okI; omega)⟩, trivial⟩ (by simp [maxLen])
  go_wp2_with fail
  have hz2 : (w2.alloc (.cells #[.int .i64 2] 3)).heap.size = w2.heap.size + 1 := by simp
  rw [hz2] at a2
  obtain ⟨b2, hb2⟩ : ∃ z, z = w2.heap.size + 1 := ⟨_, rfl⟩
  obtain ⟨v2, hv2⟩ : ∃ z, z = (w2.alloc (.cells #[.int .i64 2] 3)).alloc (.cells #[.slice p2 2 c2, .int .i64 5, .int .i64 20, .slice (some ⟨w2.heap.size, 0, none⟩) 1 1] 77) := ⟨_, rfl⟩
  rw [← hb2, ← hv2] at a2
  rw [← hv2] at xl2
  try rw [← hb2]
  try rw [← hv2]
  have A2 := Lib.hid a2
  have F2 := Lib.hid (show fewT [awkB g2] from fun t ht => by rw [List.mem_singleton] at ht; subst ht; exact ⟨hf2.1, hf2.2, by simp [awkB]⟩)
  have E2 := Lib.hid (E1.out.ext (x2.trans xl2).full)
  have X2 := Lib.hid (X1.out.trans (x2.trans xl2))
  have A1' := Lib.hid (A1.out.ext (x2.trans xl2).full)
  clear x2 xl2 t2 hl2 hf2 hg2 l2 a2 hb2 hv2 hz2 E1 X1 A1
  refine (inner_any _ _ [awkA g1] [awkB g2] _ awkE 0 _ A1'.out A2.out (by simp) (by simp) E2.out (by simp [awkE]) F1.out F2.out (HT.out.ext X2.out)).mono ?_
  rintro e w3 ⟨u3, rfl, t3, x3⟩
  rw [awk_inner] at t3
  have s3 := t3.ext (on_sub _ _)
  obtain ⟨p3, c3, rfl, _, _, hp3⟩ := s3.form
  have hl3 : ([⟨g1 ++ g2, 5, 9, [1, 2]⟩] : List Tup).length = 1 := rfl
  obtain ⟨b3, o3, rfl⟩ := hp3 (by decide) (by simp)
  rw [hl3] at s3 ⊢
  have S3 := Lib.hid s3
  have E3 := Lib.hid (E2.out.ext x3.full)
  have X3 := Lib.hid (X2.out.trans x3)
  have A13 := Lib.hid (A1'.out.ext x3.full)
  have A23 := Lib.hid (A2.out.ext x3.full)
  clear t3 x3 s3 hp3 E2 X2 A1' A2 hl3
  go_wp2_with fail
  refine (leftOuter_any _ _ [awkA g1] [awkB g2] _ awkE 0 2 _ A13.out A23.out (by simp) (by simp) E3.out (by simp [awkE]) F1.out F2.out (HT.out.ext X3.out)).mono ?_
  rintro e w4 ⟨u4, rfl, t4, x4⟩
  rw [nullW_two] at t4
  obtain ⟨p4, c4, rfl, _⟩ := t4.form
  rw [awk_left g1 g2]
  have E4 := Lib.hid (E3.out.ext x4.full)
  have X4 := Lib.hid (X3.out.trans x4)
  have A14 := Lib.hid (A13.out.ext x4.full)
  have A24 := Lib.hid (A23.out.ext x4.full)
  have s4 := S3.out.ext x4.full
  obtain ⟨ta, tb, c0, c1', c2, c3', h0, h1, _, _⟩ := tup_at s4 0 (by simp)
  simp only [Nat.zero_mul, Nat.add_zero, List.getElem_cons_zero] at c0 c1' c2 c3' h0 h1
  obtain ⟨p5, c5, rfl, _⟩ := h0.form
  obtain ⟨p6, c6, rfl, _⟩ := h1.form
  have hl6 : ([1, 2] : List Int).length = 2 := rfl
  rw [hl6] at c3'
  have e0 := cell_lt c0
  clear t4 x4 h0 h1 hl6 s4 S3 E3 X3 A13 A23
  go_wp2_with fail
  refine (innerAligned_any _ _ [awkA g1] [awkB g2] _ awkE 0 _ A14.out A24.out (by simp) (by simp) E4.out (by simp [awkE]) F1.out F2.out (HT.out.ext X4.out)).mono ?_
  rintro e w5 ⟨u5, rfl, t5, x5⟩
  rw [awk_inner] at t5
  obtain ⟨p7, c7, rfl, _⟩ := t5.form
  have hl5 : ([⟨g1 ++ g2, 5, 9, [1, 2]⟩] : List Tup).length = 1 := rfl
  rw [hl5]
  have X5 := Lib.hid (X4.out.trans x5)
  clear t5 x5 c0 c1' c2 c3' e0 hl5
  go_wp2_with fail
  go_ret
  exact ⟨rfl, X5.out⟩
end Go.Proofs.YtdgpbpbjlnlijaaGreatDoor

/- annalistlaw0.Pick, Kinds; annalistlaw14.predicate's parts -/
namespace Go.Proofs.YtdgpbpbjlnlijaaGreatDoor
open Go.RowKit

/-- a literal is a row of one's own -/
theorem OwnOf.lit {α : Type} {R : Rep α} (hR : R.flat) (w : World) (S : Nat → Prop) (cells : List Value) (T : TypeId) (css : List (List Value)) (xs : List α) (hc : css.flatten = cells) (h : RepAll R w.cell? css xs) (hl : xs.length ≤ maxLen) :
    OwnOf R (w.alloc (.cells cells.toArray T)) S w.heap.size T (.slice (some ⟨w.heap.size, 0, none⟩) xs.length xs.length) xs := by
  refine ⟨css, h.flatView hR, ?_⟩
  have := World.ownsRow_lit (base := w.heap.size) (e := T) (size := R.size) w cells.toArray xs.length (Nat.le_refl _) hl (by rw [List.size_toArray, ← hc, h.flat])
  rw [hc]
  simpa using this
def pickI (k n : Int) : Int := if n ≤ 0 then 0 else (k % n + n) % n
theorem pickI_nat {k n : Int} (hn : 0 < n) : pickI k n = k % n := by
  unfold pickI
  rw [if_neg (by omega), Int.add_emod_right, Int.emod_emod_of_dvd _ (Int.dvd_refl n)]
theorem pick_rng {k n : Int} (hn : 0 < n) : 0 ≤ pickI k n ∧ pickI k n < n := by
  rw [pickI_nat hn]
  exact ⟨Int.emod_nonneg _ (by omega), Int.emod_lt_of_pos _ hn⟩
theorem pick_any (k n : Int) (w : World) (hk : 0 ≤ k) (hk2 : k ≤ 4294967295) (hn : 0 < n) (hn2 : n ≤ 1048576) :
    Calls Tryz.prog 124 #[.int .i64 k, .int .i64 n] w fun e w' => e = .returned (.int .i64 (pickI k n)) ∧ w = w' := by
  have h1 := pickI_nat (k := k) hn
  have h2 := Int.emod_nonneg k (show n ≠ 0 by omega)
  have h3 := Int.emod_lt_of_pos k hn
  have h4 : (k % n + n) % n = k % n := by rw [Int.add_emod_right, Int.emod_emod_of_dvd _ (Int.dvd_refl n)]
  rw [h1]
  have H4 := Lib.hid h4
  have hn0 : ¬ n ≤ 0 := by omega
  have hd : decide (n ≤ 0) = false := by simp; omega
  clear h1 h4
  go_enter Tryz.func124, Tryz.ntmps124
  go_wp2_with fail
  go_ret
  exact ⟨rfl, rfl⟩
theorem kinds_own (S : Nat → Prop) (w : World) : Calls Tryz.prog 80 #[] w fun e w' => ∃ g, e = .returned (.slice (some ⟨g, 0, none⟩) 2 2) ∧ OwnOf Rep.int w' S w.heap.size 3 (.slice (some ⟨g, 0, none⟩) 2 2) [1, 2] ∧ Ext w w' := by
  go_enter Tryz.func80, Tryz.ntmps80
  go_wp2_with fail
  go_ret
  exact ⟨_, rfl, OwnOf.lit flat_int w S [.int .i64 1, .int .i64 2] _ [[.int .i64 1], [.int .i64 2]] [1, 2] rfl ⟨⟨rfl, by omega⟩, ⟨rfl, by omega⟩, trivial⟩ (by simp [maxLen]), (Ext.refl w).alloc _⟩
end Go.Proofs.YtdgpbpbjlnlijaaGreatDoor

/- annalistlaw0.constant, Predicate -/
namespace Go.Proofs.YtdgpbpbjlnlijaaGreatDoor
open Go.RowKit

def constV (kind x : Int) : Val := if kind = 1 then genV0 (x % 6) else if kind = 2 then genV1 (x % 6) else if kind = 3 then ⟨3, x % 2, ByteArray.empty⟩ else nV
theorem ok_constV (kind x : Int) : okVal (constV kind x) := by
  unfold constV
  split
  · exact ok_genV0 _
  split
  · exact ok_genV1 _
  split
  · exact ⟨⟨by dsimp only; omega, by dsimp only; omega⟩, by dsimp only; omega, by simp [maxLen]⟩
  · exact ok_nV
theorem box3 {w w1 : World} {T : TypeId} (x1 : Ext (w.alloc (.cells #[.int .i64 0, .int .i64 0, .string ⟨#[]⟩] T)) w1) :
    (w1.cell? ⟨w.heap.size, 0, none⟩ = some (.int .i64 0) ∧ w1.cell? ⟨w.heap.size, 1, none⟩ = some (.int .i64 0) ∧ w1.cell? ⟨w.heap.size, 2, none⟩ = some (.string ⟨#[]⟩)) ∧ (w1.frozen? ⟨w.heap.size, 0, none⟩ = false ∧ w1.frozen? ⟨w.heap.size, 1, none⟩ = false ∧ w1.frozen? ⟨w.heap.size, 2, none⟩ = false) ∧ w.heap.size < w1.heap.size := by
  have c0 := x1.at (p := ⟨w.heap.size, 0, none⟩) (v := .int .i64 0) (by go_simp)
  have c1 := x1.at (p := ⟨w.heap.size, 1, none⟩) (v := .int .i64 0) (by go_simp)
  have c2 := x1.at (p := ⟨w.heap.size, 2, none⟩) (v := .string ⟨#[]⟩) (by go_simp)
  have f0 := x1.unfrozen (p := ⟨w.heap.size, 0, none⟩) (v := .int .i64 0) (by go_simp) (by go_simp)
  have f1 := x1.unfrozen (p := ⟨w.heap.size, 1, none⟩) (v := .int .i64 0) (by go_simp) (by go_simp)
  have f2 := x1.unfrozen (p := ⟨w.heap.size, 2, none⟩) (v := .string ⟨#[]⟩) (by go_simp) (by go_simp)
  exact ⟨⟨c0, c1, c2⟩, ⟨f0, f1, f2⟩, cell_lt c0⟩
theorem ext_W3 {W wa : World} {B : Nat} (h : Ext W wa) (hB : W.heap.size ≤ B) (u0 u1 u2 : Value) : Ext W (((wa.setCell ⟨B, 0, none⟩ u0).setCell ⟨B, 1, none⟩ u1).setCell ⟨B, 2, none⟩ u2) :=
  Below.setCell (Below.setCell (Below.setCell h hB u0) hB u1) hB u2
set_option maxRecDepth 100000 in
set_option maxHeartbeats 2000000 in
theorem constant_any (kind x : Int) (w : World) (h0 : 0 ≤ x) (h1 : x ≤ 65535) :
    Calls Tryz.prog 125 #[.int .i64 kind, .int .u16 x] w fun e w' => e = .returned (valV (constV kind x)) ∧ Ext w w' := by
  have h6 : 0 ≤ x % 6 ∧ x % 6 ≤ 65535 := by omega
  have h2 : 0 ≤ x % 2 ∧ x % 2 ≤ 65535 := by omega
  by_cases c1 : kind = 1
  · subst c1
    have hc : constV 1 x = genV0 (x % 6) := rfl
    rw [hc]
    have HV := Lib.hid (fun wz => value_0 (x % 6) wz h6.1 h6.2)
    generalize genV0 (x % 6) = y at HV ⊢
    obtain ⟨yk, yn, ys⟩ := y
    clear hc h2 h6
    go_enter Tryz.func125, Tryz.ntmps125
    go_wp2_with fail
    refine (HV.out _).mono ?_
    rintro e w1 ⟨rfl, x1⟩
    unfold valV
    dsimp only
    obtain ⟨⟨c0, c1, c2⟩, ⟨f0, f1, f2⟩, z1⟩ := box3 x1
    go_wp2_with fail
    exact bodyPost_ret (v := valV ⟨yk, yn, ys⟩) (by simp [results, Tryz.results125, go_sem, valV, c0, c1, c2]) rfl ⟨rfl, ext_W3 (((Ext.refl w).alloc _).trans x1) (Nat.le_refl _) _ _ _⟩
  by_cases c2 : kind = 2
  · subst c2
    clear c1
    have hc : constV 2 x = genV1 (x % 6) := rfl
    rw [hc]
    have HV := Lib.hid (fun wz => value_1 (x % 6) wz h6.1 h6.2)
    generalize genV1 (x % 6) = y at HV ⊢
    obtain ⟨yk, yn, ys⟩ := y
    clear hc h2 h6
    go_enter Tryz.func125, Tryz.ntmps125
    go_wp2_with fail
    refine (HV.out _).mono ?_
    rintro e w1 ⟨rfl, x1⟩
    unfold valV
    dsimp only
    obtain ⟨⟨c0, c1, c2⟩, ⟨f0, f1, f2⟩, z1⟩ := box3 x1
    go_wp2_with fail
    exact bodyPost_ret (v := valV ⟨yk, yn, ys⟩) (by simp [results, Tryz.results125, go_sem, valV, c0, c1, c2]) rfl ⟨rfl, ext_W3 (((Ext.refl w).alloc _).trans x1) (Nat.le_refl _) _ _ _⟩
  by_cases c3 : kind = 3
  · subst c3
    have hc : constV 3 x = ⟨3, x % 2, ByteArray.empty⟩ := rfl
    have HC := Lib.hid hc
    clear hc h6 c1 c2
    go_enter Tryz.func125, Tryz.ntmps125
    go_wp2_with fail
    exact bodyPost_ret (v := valV (constV 3 x)) (by rw [HC.out]; simp [results, Tryz.results125, go_sem, valV]; try rfl) rfl ⟨rfl, (Ext.refl w).alloc _⟩
  · have hc : constV kind x = nV := by unfold constV; rw [if_neg c1, if_neg c2, if_neg c3]
    have HC := Lib.hid hc
    have d1 : (kind == 1) = false := by simp [c1]
    have d2 : (kind == 2) = false := by simp [c2]
    have d3 : (kind == 3) = false := by simp [c3]
    clear hc h6 h2 c1 c2 c3
    go_enter Tryz.func125, Tryz.ntmps125
    go_wp2_with fail
    exact bodyPost_ret (v := valV (constV kind x)) (by rw [HC.out]; simp [results, Tryz.results125, go_sem, valV, nV]; try rfl) rfl ⟨rfl, (Ext.refl w).alloc _⟩

end Go.Proofs.YtdgpbpbjlnlijaaGreatDoor
