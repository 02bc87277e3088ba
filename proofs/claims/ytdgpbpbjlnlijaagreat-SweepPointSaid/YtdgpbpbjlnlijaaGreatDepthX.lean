/- DepthA, DepthB, joined -/
import Derived.Test.YtdgpbpbjlnlijaaGreatPlainD
import Derived.Test.YtdgpbpbjlnlijaaGreatPairX
import Derived.Test.YtdgpbpbjlnlijaaGreatChg
import Derived.Maps.Own
import Derived.Maps.OwnOps
import Derived.Maps.RangeWalk
import Derived.Maps.Views
import Derived.Test.YtdgpbpbjlnlijaaGreatBagL
import Derived.Test.YtdgpbpbjlnlijaaGreatOpen

/- the steps of a function of time as a row of cells; the map of changes; no walk -/
namespace Go.Proofs.YtdgpbpbjlnlijaaGreat
open Go.RowKit Go.Maps

def stepEnc (s : StepI) : List Value := [.int .i64 s.from_, .int .i64 s.to_, .int .i64 1, .int .i64 s.n, .string ByteArray.empty]
def okI (x : Int) : Prop := -9223372036854775808 ≤ x ∧ x ≤ 9223372036854775807
def Rep.step : Rep StepI where
  size := 5
  holds _ cs x := cs = stepEnc x ∧ okI x.from_ ∧ okI x.to_ ∧ okI x.n
  len := by rintro w cs x ⟨rfl, _⟩; rfl
  ext := by rintro w w' cs x h _; exact h
  one := by rintro w cs x ⟨rfl, _⟩; simp [stepEnc, Value.oneCell']
theorem flat_step : Rep.step.flat := fun _ _ _ _ h => h
theorem info_step : (Tryz.prog.info? 37).map (fun i => (i.zero, i.size, i.bytes)) = some (some (.agg #[.int .i64 0, .int .i64 0, .int .i64 0, .int .i64 0, .string ByteArray.empty]), Rep.step.size, 48) := by kernel_rfl

theorem flatten_set {u : Value} : ∀ (css : List (List Value)) (k i r : Nat), (∀ c ∈ css, c.length = k) → (hi : i < css.length) → r < k → css.flatten.set (i * k + r) u = (css.set i (css[i].set r u)).flatten := by
  intro css
  induction css with
  | nil => intro k i r _ hi; simp at hi
  | cons c css ih =>
    intro k i r hl hi hr
    have hc := hl c (by simp)
    cases i with
    | zero => simp only [Nat.zero_mul, Nat.zero_add, List.flatten_cons, List.set_cons_zero, List.getElem_cons_zero]; rw [List.set_append_left _ _ (by omega)]
    | succ i =>
      simp only [List.flatten_cons, List.set_cons_succ, List.getElem_cons_succ]
      rw [List.set_append_right _ _ (by rw [Nat.succ_mul]; omega), hc, show (i + 1) * k + r - k = i * k + r by rw [Nat.succ_mul]; omega, ih k i r (fun d hd => hl d (by simp [hd])) (by simpa using hi) hr]
theorem RepAll.set {α : Type} {R : Rep α} {h : View} {css : List (List Value)} {xs : List α} (k : RepAll R h css xs) {c : List Value} {y : α} (hy : R.holds h c y) : ∀ i, RepAll R h (css.set i c) (xs.set i y) := by
  induction css generalizing xs with
  | nil =>
    cases xs with
    | nil => intro i; simpa using k
    | cons x xs => exact k.elim
  | cons d css ih =>
    cases xs with
    | nil => exact k.elim
    | cons x xs =>
      intro i
      cases i with
      | zero => exact ⟨hy, k.2⟩
      | succ i => exact ⟨k.1, ih k.2 i⟩
/-- a store into one field of a datum of the call's own row -/
theorem OwnOf.store {α : Type} {R : Rep α} (hR : R.flat) {w : World} {S : Nat → Prop} {base : Nat} {e : TypeId} {g cap : Nat} {xs : List α} (h : OwnOf R w S base e (.slice (some ⟨g, 0, none⟩) xs.length cap) xs) (i r : Nat) (hi : i < xs.length) (hr : r < R.size) (u : Value) (y : α)
    (hy : ∀ cs, R.holds w.cell? cs xs[i] → R.holds w.cell? (cs.set r u) y) :
    OwnOf R (w.setCell ⟨g, i * R.size + r, none⟩ u) S base e (.slice (some ⟨g, 0, none⟩) xs.length cap) (xs.set i y) ∧ w.grownBy (w.setCell ⟨g, i * R.size + r, none⟩ u) (some g) := by
  obtain ⟨css, h1, h2⟩ := h
  have hcl := h1.length
  obtain ⟨h3, h4⟩ := h2.stored (i * R.size + r) u
  refine ⟨⟨css.set i ((css[i]'(by omega)).set r u), ?_, ?_⟩, h4⟩
  · have h5 : RepAll R w.cell? css xs := h1.flatView hR
    obtain ⟨c, g1, g2, _⟩ := h5.at i hi
    rw [List.getElem?_eq_getElem (by omega)] at g2
    injection g2 with g2
    rw [g2]
    exact RepAll.flatView hR (RepAll.set h5 (hy c g1) i)
  · rw [List.length_set, ← flatten_set css R.size i r (repAll_len' h1) (by omega) hr]
    exact h3

theorem chg_rng (l : List Tup) (x : Int) : -(l.length : Int) ≤ chg l x ∧ chg l x ≤ l.length := by
  induction l with
  | nil => simp [chg]
  | cons t l ih =>
    simp only [chg, chg1, List.length_cons]
    (repeat' split) <;> omega
theorem key_lit (x : Int) : WideAt.IsKeyLit (Lit.int .i64 x) := trivial
/-- the map of changes, key by key -/
structure MapIs (D : DataW Unit) (l : List Tup) : Prop where
  map : IsMap D
  val : ∀ x, D.atKey (.int .i64 x) (.lit (.int .i64 0)) = .lit (.int .i64 (chg l x))
  has : ∀ x, Maps.has D (.int .i64 x) = true ↔ x ∈ bnd l
theorem MapIs.nil : MapIs (.map []) [] := ⟨isMap_empty, fun _ => rfl, fun x => by simp [Maps.has, bnd]⟩
theorem isMap_put {D : DataW Unit} (h : IsMap D) (k : Lit) (d : DataW Unit) : IsMap (D.put k d) := by
  obtain ⟨es, rfl⟩ := h
  exact ⟨_, rfl⟩
theorem MapIs.skip {D : DataW Unit} {l : List Tup} (h : MapIs D l) {t : Tup} (hv : validT t = false) : MapIs D (l ++ [t]) :=
  ⟨h.map, fun x => by rw [h.val, chg_append]; simp [chg, chg1, hv], fun x => by rw [h.has, bnd_append]; simp [bnd, hv]⟩
theorem lit_ne {x y : Int} (h : x ≠ y) : (Lit.int .i64 x) ≠ .int .i64 y := fun e => by injection e with _ e; exact h e
theorem MapIs.step {D : DataW Unit} {l : List Tup} (h : MapIs D l) {t : Tup} (hv : validT t = true) :
    (D.put (.int .i64 t.from_) (.lit (.int .i64 (chg l t.from_ + 1)))).atKey (.int .i64 t.to_) (.lit (.int .i64 0)) = .lit (.int .i64 (chg l t.to_)) ∧
    MapIs ((D.put (.int .i64 t.from_) (.lit (.int .i64 (chg l t.from_ + 1)))).put (.int .i64 t.to_) (.lit (.int .i64 (chg l t.to_ - 1)))) (l ++ [t]) := by
  have hlt := validB_lt hv
  have hm := isMap_put h.map (.int .i64 t.from_) (.lit (.int .i64 (chg l t.from_ + 1)))
  refine ⟨by rw [atKey_put_other (lit_ne (by omega)), h.val], isMap_put hm _ _, fun x => ?_, fun x => ?_⟩
  · rw [chg_append]
    simp only [chg, chg1, hv, if_true]
    by_cases e1 : x = t.to_
    · subst e1
      rw [atKey_put_same hm (key_lit _), if_neg (by omega), if_pos rfl]
      congr 2
    · rw [atKey_put_other (lit_ne e1)]
      by_cases e2 : x = t.from_
      · subst e2
        rw [atKey_put_same h.map (key_lit _), if_pos rfl, if_neg (by omega)]
        congr 2
      · rw [atKey_put_other (lit_ne e2), h.val, if_neg (by omega), if_neg (by omega)]
        congr 2; omega
  · rw [bnd_append]
    have hb : bnd [t] = [t.from_, t.to_] := by simp [bnd, hv]
    rw [hb]
    by_cases e1 : x = t.to_
    · subst e1
      simp [has_put_same hm (k := Lit.int .i64 t.to_) trivial]
    · rw [has_put_other (lit_ne e1)]
      by_cases e2 : x = t.from_
      · subst e2
        simp [has_put_same h.map (k := Lit.int .i64 t.from_) trivial]
      · rw [has_put_other (lit_ne e2), h.has]
        simp [e1, e2]
/-- the keys that have been drawn so far -/
def ColI (D : DataW Unit) (left : Lit → Bool) (ss : List Int) : Prop := ss.Nodup ∧ ∀ x, x ∈ ss ↔ (Maps.has D (.int .i64 x) = true ∧ left (.int .i64 x) = false)
theorem ColI.start (D : DataW Unit) : ColI D (Maps.has D) [] := ⟨List.nodup_nil, fun x => by cases Maps.has D (.int .i64 x) <;> simp⟩
theorem sameKey_int (x y : Int) : (Lit.int .i64 y).sameKey (.int .i64 x) = decide (y = x) := by
  by_cases h : y = x
  · subst h; rw [WideAt.sameKey_self (key_lit _)]; simp
  · rw [sameKey_ne (lit_ne h)]; simp [h]
theorem ColI.step {D : DataW Unit} {left : Lit → Bool} {ss : List Int} (h : ColI D left ss) {x : Int} {y : DataW Unit} (hlk : left (.int .i64 x) = true) (hat : ∀ zd, D.atKey (.int .i64 x) zd = y) : ColI D (fun z => left z && !z.sameKey (.int .i64 x)) (ss ++ [x]) := by
  have hhas : Maps.has D (.int .i64 x) = true := has_true_of_atKey hat
  have hnew : x ∉ ss := fun hx => by have := ((h.2 x).1 hx).2; rw [hlk] at this; cases this
  refine ⟨List.nodup_append.2 ⟨h.1, by simp, fun a ha b hb => by simp at hb; subst hb; exact fun e => hnew (e ▸ ha)⟩, fun y => ?_⟩
  by_cases hy : y = x
  · subst hy; simp [hhas, sameKey_int]
  · simp [h.2 y, hy, sameKey_int]
theorem ColI.sorted {D : DataW Unit} {left : Lit → Bool} {ss : List Int} {l : List Tup} (h : ColI D left ss) (hD : MapIs D l) (hl : ∀ kl, left kl = false) : (ss.mergeSort fun x y => decide (x ≤ y)) = pts l := by
  have hp := List.mergeSort_perm ss fun x y => decide (x ≤ y)
  have hs : (ss.mergeSort fun x y => decide (x ≤ y)).Pairwise (· ≤ ·) := by
    have := List.pairwise_mergeSort (le := fun x y : Int => decide (x ≤ y)) (fun a b c h1 h2 => by simp only [decide_eq_true_eq] at *; omega) (fun a b => by simp only [Bool.or_eq_true, decide_eq_true_eq]; omega) ss
    exact this.imp (by simp)
  have hnd : (ss.mergeSort fun x y => decide (x ≤ y)).Nodup := hp.nodup_iff.2 h.1
  have hlt : (ss.mergeSort fun x y => decide (x ≤ y)).Pairwise (· < ·) := by
    have := hs.and hnd
    exact this.imp fun {a b} ⟨h1, h2⟩ => by omega
  obtain ⟨p1, p2, _⟩ := pts_law l
  refine asc_unique hlt p1 fun x => ?_
  rw [hp.mem_iff, h.2 x, hl, p2, ← hD.has x]
  simp
theorem pts_rng (l : List Tup) : ∀ x ∈ pts l, okI x := by
  intro x hx
  obtain ⟨_, p2, _⟩ := pts_law l
  have h := (p2 x).1 hx
  unfold bnd at h
  obtain ⟨t, _, ht⟩ := List.mem_flatMap.1 h
  split at ht
  · rename_i hv
    have h1 := validB_lt hv
    unfold okI
    simp at ht
    omega
  · simp at ht
theorem pts_len (l : List Tup) : (pts l).length ≤ 2 * l.length := by
  obtain ⟨_, _, p3⟩ := pts_law l
  exact Nat.le_trans p3 (bnd_len l)
theorem cnt_len (l : List Tup) (x : Int) : cntAt l x ≤ l.length := List.length_filter_le _ _
theorem size_le {w : World} {P : Program} {k : TypeId} {R : Value → Option (DataW Unit × List MemPlace)} {b n : Nat} {D : DataW Unit} (h : w.ownsMap P k R b n D) : Maps.size D ≤ n := by
  obtain ⟨es, clock, hb, F, hs, rfl⟩ := h
  simpa [Maps.size, length_sorted] using hs
theorem wf_of {x : Int} (h1 : -9223372036854775808 ≤ x) (h2 : x ≤ 9223372036854775807) : (Lit.int .i64 x).wf = true := by
  simp [Lit.wf, IntKind.min, IntKind.max, IntKind.signed, IntKind.bits]; omega
theorem key_int (x : Int) (h : okI x) : keyOf Tryz.prog 3 (.int .i64 x) = some (.int .i64 x) := by
  unfold okI at h
  have hw : (Lit.int .i64 x).wf = true := by simp [Lit.wf, IntKind.min, IntKind.max, IntKind.signed, IntKind.bits]; omega
  simp [keyOf, mapKey, Tryz.underlying3, hw]

end Go.Proofs.YtdgpbpbjlnlijaaGreat

/- sweep.Depth -/
namespace Go.Proofs.YtdgpbpbjlnlijaaGreat
open Go.RowKit Go.Maps

def fDep (l : List Tup) (i : Nat) : Int := cntAt l (pts l)[i]!
theorem depthOf_eq (l : List Tup) : depthOf l = stepsOf (pts l) (fDep l) ((pts l).length - 1) := rfl
theorem steps_rng (l : List Tup) (hl : l.length ≤ 50) : ∀ k, k < (pts l).length → ∀ s ∈ stepsOf (pts l) (fDep l) k, okI s.from_ ∧ okI s.to_ ∧ okI s.n := by
  have hp : ∀ i, i < (pts l).length → okI (pts l)[i]! := fun i hi => by rw [getElem!_pos (pts l) i hi]; exact pts_rng l _ (List.getElem_mem _)
  have hn : ∀ i, okI (fDep l i) := fun i => by have := cnt_len l (pts l)[i]!; unfold fDep okI; omega
  intro k
  induction k with
  | zero => intro _ s hs; simp [stepsOf] at hs
  | succ k ih =>
    intro hk s hs
    have ih' := ih (by omega)
    rw [stepsOf] at hs
    unfold addStep at hs
    split at hs
    · rename_i p hp'
      have hpm := List.mem_of_getLast? hp'
      split at hs
      · rcases List.mem_append.1 hs with h | h
        · exact ih' s (List.dropLast_subset _ h)
        · rw [List.mem_singleton] at h
          subst h
          exact ⟨(ih' p hpm).1, hp (k + 1) (by omega), (ih' p hpm).2.2⟩
      · rcases List.mem_append.1 hs with h | h
        · exact ih' s h
        · rw [List.mem_singleton] at h
          subst h
          exact ⟨hp k (by omega), hp (k + 1) (by omega), hn k⟩
    · rw [List.mem_singleton] at hs
      subst hs
      exact ⟨hp k (by omega), hp (k + 1) (by omega), hn k⟩
theorem step_at {h : View} {g n cap : Nat} {xs : List StepI} (k : SliceOf Rep.step h (.slice (some ⟨g, 0, none⟩) n cap) xs) (i : Nat) (hi : i < xs.length) :
    h ⟨g, i * 5, none⟩ = some (.int .i64 xs[i].from_) ∧ h ⟨g, i * 5 + 1, none⟩ = some (.int .i64 xs[i].to_) ∧ h ⟨g, i * 5 + 2, none⟩ = some (.int .i64 1) ∧ h ⟨g, i * 5 + 3, none⟩ = some (.int .i64 xs[i].n) ∧ h ⟨g, i * 5 + 4, none⟩ = some (.string ByteArray.empty) := by
  obtain ⟨c, ⟨rfl, _⟩, h2⟩ := k.at i hi
  have a0 := h2 0 _ rfl
  have a1 := h2 1 _ rfl
  have a2 := h2 2 _ rfl
  have a3 := h2 3 _ rfl
  have a4 := h2 4 _ rfl
  rw [show Rep.step.size = 5 from rfl, Nat.zero_add] at a0 a1 a2 a3 a4
  exact ⟨a0, a1, a2, a3, a4⟩

set_option maxRecDepth 100000 in
set_option maxHeartbeats 8000000 in
theorem depth_any (v : Value) (l : List Tup) (w : World) (hv : SliceOf Rep.tup w.cell? v l) (hl : l.length ≤ 50) :
    Calls Tryz.prog 6 #[v] w fun e w' => ∃ v', e = .returned v' ∧ SliceOf Rep.step (on w' (fun k => w.heap.size ≤ k)) v' (depthOf l) ∧ Ext w w' := by
  obtain ⟨i0, hi, hz0, hz1, hz2⟩ := info_parts info_ints
  obtain ⟨i9, hi9, hz90, hz91, hz92⟩ := info_parts info_step
  obtain ⟨p, cap, rfl, hc1, hc2, hp⟩ := hv.form
  obtain ⟨N, hN⟩ : ∃ N, N = l.length := ⟨_, rfl⟩
  have HV := Lib.hid hv
  rw [← hN]
  have HN := Lib.hid hN
  have HP := Lib.hid hp
  have hNl : N ≤ 50 := by omega
  clear hv hN hp hc1 hc2
  have hmk : (Instr.makeMap 70 none).run Tryz.prog w = .ok (.map (some w.heap.size)) (w.alloc (.map #[] 0)) := by kernel_rfl
  go_enter Tryz.func6, Tryz.ntmps6
  go_wp2_with fail
  have HM := Lib.hid (World.ownsMap_made (H := Unit) w Tryz.prog 3 (plainElem Tryz.prog 2))
  have HX := Lib.hid ((Ext.refl w).alloc (.map #[] 0))
  generalize w.alloc (.map #[] 0) = w0 at HM HX ⊢
  obtain ⟨mb, hmb⟩ : ∃ mb, mb = w.heap.size := ⟨_, rfl⟩
  rw [← hmb] at HM ⊢
  have HMB := Lib.hid (show w.heap.size ≤ mb from Nat.le_of_eq hmb.symm)
  clear hmb
  go_loopg [16] N (fun gk vi wr => ∃ (k : Nat) (D : DataW Unit), k ≤ N ∧ gk = N - k ∧ vi = .int .i64 k ∧ Hid (wr.ownsMap Tryz.prog 3 (plainElem Tryz.prog 2) mb (2 * k) D) ∧ Hid (MapIs D (l.take k)) ∧ Hid (Ext w wr))
  case atStart => exact ⟨0, _, by omega, rfl, rfl, HM.out, MapIs.nil, HX.out⟩
  case round =>
    clear HM HX
    obtain ⟨k, D, hk, rfl, rfl, OM, MI, X1⟩ := hrel
    by_cases hlt : k < N
    · have hkl : k < l.length := by have := HN.out; omega
      obtain ⟨b, o, rfl⟩ := HP.out (by decide) (by omega)
      have hv := HV.out
      rw [← HN.out] at hv
      obtain ⟨ta, tb, c0, c1, c2, c3, g0, g1, r1, r2⟩ := tup_at hv k hkl
      obtain ⟨pa, ka, ta', _⟩ := g0.form
      obtain ⟨pb, kb, tb', _⟩ := g1.form
      subst ta' tb'
      replace c0 := X1.out.at c0
      replace c1 := X1.out.at c1
      replace c2 := X1.out.at c2
      replace c3 := X1.out.at c3
      obtain ⟨tt, htt⟩ : ∃ tt, tt = l[k] := ⟨_, rfl⟩
      have htk : l.take (k + 1) = l.take k ++ [tt] := by rw [List.take_succ_eq_append_getElem hkl, htt]
      rw [← htt] at c1 c2 r1 r2
      have HTK := Lib.hid htk
      have hcr1 := chg_rng (l.take k) tt.from_
      have hcr2 := chg_rng (l.take k) tt.to_
      generalize l[k].vals.length = na at c0
      generalize l[k].lin.length = nb at c3
      have hll : (l.take k).length ≤ 50 := by rw [List.length_take]; omega
      have hd : decide ((k : Int) < (N : Int)) = true := by simp; omega
      have e0 := cell_lt c0
      have HST := Lib.hid (fun (h : validT tt = true) => MI.out.step h)
      have HVAL := Lib.hid MI.out.val
      obtain ⟨f, hf⟩ : ∃ f, f = tt.from_ := ⟨_, rfl⟩
      obtain ⟨t, ht⟩ : ∃ t, t = tt.to_ := ⟨_, rfl⟩
      rw [← hf] at c1 r1 hcr1
      rw [← ht] at c2 r2 hcr2
      have HF := Lib.hid hf
      have HT := Lib.hid ht
      clear htt htk g0 g1 hv hf ht
      go_wp2_with fail
      refine (valid_any f t _).mono ?_
      rintro e w1 ⟨rfl, hx1⟩
      have d1 : w1.cell? ⟨wr.heap.size, 1, none⟩ = some (.int .i64 f) := hx1.at (by go_simp)
      have d2 : w1.cell? ⟨wr.heap.size, 2, none⟩ = some (.int .i64 t) := hx1.at (by go_simp)
      have hx2 : Ext wr w1 := ((Ext.refl wr).alloc _).trans hx1
      have X2 := Lib.hid (X1.out.trans hx2)
      have hz : wr.heap.size < w1.heap.size := by have := hx1.size; simp at this; omega
      have hmz : mb < wr.heap.size := OM.out.lt
      have OM1 := Lib.hid (show w1.ownsMap Tryz.prog 3 (plainElem Tryz.prog 2) mb (2 * k) D from OM.out.kept (row := none) ⟨hx2.os, hx2.tape, hx2.output, hx2.size, fun i hi _ => hx2.block i hi⟩ (by simp))
      clear hx1 hx2 c0 c1 c2 c3 e0 X1 OM
      cases hvb : validB f t with
      | true =>
        have hvt : validT tt = true := by unfold validT; rw [← HF.out, ← HT.out]; exact hvb
        obtain ⟨hstep1, hstep2⟩ := HST.out hvt
        have HS1 := Lib.hid hstep1
        have HS2 := Lib.hid hstep2
        clear hvb hstep1 hstep2 hvt
        generalize hbb : wr.heap.size = bb at d1 d2 hz hmz ⊢
        have hne : bb ≠ mb := by omega
        clear hbb
        go_wp2_with (first
          | (at_lookup; refine wpList_lookup_own_int _ rfl _ _ 70 rfl 3 2 .i64 (int_keyed Tryz.underlying3) Tryz.underlying70 Tryz.underlying2 (Tryz.zeroValue2 _) mb _ D rfl OM1.out _ _ rfl (key_int f r1) ?_))
        intro c hat _
        have hc : c = chg (l.take k) f := by rw [HVAL.out] at hat; injection hat with hat; injection hat with _ hat; exact hat.symm
        subst hc
        have hc1 : IntKind.i64.wrap (chg (l.take k) f + 1) = chg (l.take k) f + 1 := by rw [IntKind.wrap_i64]; omega
        clear hat
        go_wp2_with (first
          | (at_mapUpdate; refine wpList_mapUpdate_own _ rfl _ _ _ 70 rfl 3 2 (int_keyed Tryz.underlying3) Tryz.underlying70 (plainElem Tryz.prog 2) mb _ D rfl OM1.out (by unfold maxLen; omega) _ _ _ rfl rfl (key_int f r1) _ _ (plainElem_int Tryz.underlying2 (wf_of (by omega) (by omega))) ?_))
        intro w2 om2 gr2
        have OM2 := Lib.hid om2
        have hxx2 := Lib.hid (Chg.below (chg_grown gr2) X2.out fun b hb => by injection hb with hb; have := HMB.out; omega)
        have d1' := gr2.cell d1 (by simpa using hne)
        have d2' := gr2.cell d2 (by simpa using hne)
        have hz2 : bb < w2.heap.size := cell_lt d1'
        clear om2 gr2 d1 d2 OM1 X2 hz
        go_wp2_with (first
          | (at_lookup; refine wpList_lookup_own_int _ rfl _ _ 70 rfl 3 2 .i64 (int_keyed Tryz.underlying3) Tryz.underlying70 Tryz.underlying2 (Tryz.zeroValue2 _) mb _ _ rfl OM2.out _ _ rfl (key_int t r2) ?_))
        intro c hat _
        have hc : c = chg (l.take k) t := by rw [HF.out, HT.out, HS1.out] at hat; injection hat with hat; injection hat with _ hat; rw [HT.out]; exact hat.symm
        subst hc
        have hc2 : IntKind.i64.wrap (chg (l.take k) t - 1) = chg (l.take k) t - 1 := by rw [IntKind.wrap_i64]; omega
        clear hat
        go_wp2_with (first
          | (at_mapUpdate; refine wpList_mapUpdate_own _ rfl _ _ _ 70 rfl 3 2 (int_keyed Tryz.underlying3) Tryz.underlying70 (plainElem Tryz.prog 2) mb _ _ rfl OM2.out (by unfold maxLen; omega) _ _ _ rfl rfl (key_int t r2) _ _ (plainElem_int Tryz.underlying2 (wf_of (by omega) (by omega))) ?_))
        intro w3 om3 gr3
        have OM3 := Lib.hid om3
        have hxx3 := Lib.hid (Chg.below (chg_grown gr3) hxx2.out fun b hb => by injection hb with hb; have := HMB.out; omega)
        clear om3 gr3 d1' d2' OM2 hxx2
        go_wp2_with fail
        go_roundg (N - (k + 1))
        case measure => omega
        case rel => exact ⟨k + 1, _, by omega, rfl, by go_num, OM3.out, by show MapIs _ _; rw [HTK.out, HF.out, HT.out]; exact HS2.out, hxx3⟩
      | false =>
        have hvt : validT tt = false := by unfold validT; rw [← HF.out, ← HT.out]; exact hvb
        have HSK := Lib.hid (MI.out.skip hvt)
        clear hvb hvt
        go_wp2_with fail
        go_roundg (N - (k + 1))
        case measure => omega
        case rel => exact ⟨k + 1, D, by omega, rfl, by go_num, OM1.out.mono (by omega), by show MapIs _ _; rw [HTK.out]; exact HSK.out, X2⟩
    · have hkN : k = N := by omega
      have hd : ¬ (k : Int) < (N : Int) := by omega
      have MI2 := Lib.hid (show MapIs D l from by have h := MI.out; rwa [hkN, HN.out, List.take_length] at h)
      have OM2 := Lib.hid (OM.out.mono (show 2 * k ≤ 100 by omega))
      have HWM := Lib.hid OM.out.lt
      clear hkN MI OM
      go_wp2_with (first | (at_range; refine wpList_range_own _ rfl _ 70 rfl 3 2 (int_keyed Tryz.underlying3) Tryz.underlying70 _ mb _ D rfl OM2.out ?_))
      intro w2 rg2 gr2 sz2
      have X2 := Lib.hid (Chg.below (chg_grown gr2) X1.out fun b hb => by cases hb)
      have HRB := Lib.hid (show w.heap.size ≤ wr.heap.size ∧ mb < wr.heap.size ∧ wr.heap.size < w2.heap.size from ⟨X1.out.size, HWM.out, by omega⟩)
      have hs0 := size_le OM2.out
      clear OM2 X1 gr2 sz2 HWM
      generalize wr.heap.size = rb at rg2 HRB ⊢
      obtain ⟨B, hB⟩ : ∃ B, B = w2.heap.size := ⟨_, rfl⟩
      have HB := Lib.hid (show w.heap.size ≤ rb ∧ mb < rb ∧ rb < B ∧ B = w2.heap.size from ⟨HRB.out.1, HRB.out.2.1, by rw [hB]; exact HRB.out.2.2, hB⟩)
      have RG2 := Lib.hid rg2
      clear rg2 hB HRB
      generalize hsz : Maps.size D = s0 at hs0 RG2
      clear hsz
      go_wp2_with fail
      go_loopg [6] s0 (fun gk vu wr => ∃ (left : Lit → Bool) (cnt : Nat) (ss : List Int) (u : Value), cnt ≤ gk ∧ u = vu ∧ Hid (wr.ranges Tryz.prog 3 (plainElem Tryz.prog 2) mb rb 100 D left cnt) ∧ Hid (ColI D left ss) ∧ Hid (OwnOf Rep.int wr (fun _ => True) B 3 u ss) ∧ ss.length + cnt ≤ s0 ∧ Hid (Ext w wr) ∧ Hid (B ≤ wr.heap.size))
      case atStart => exact ⟨_, _, [], _, Nat.le_refl _, rfl, RG2.out, ColI.start D, OwnOf.nil _ _ _ _ _, by simp, X2.out, by show B ≤ w2.heap.size; have := HB.out; omega⟩
      case round =>
        clear RG2 X2
        obtain ⟨left, cnt, ss, u, hgk, rfl, RG, CO, OU, hlen, X3, HW⟩ := hrel
        have HUB := Lib.hid (show ∀ k, u.ownBlock = some k → B ≤ k from fun k hk => (OU.out.lt k hk).1)
        go_wp2_with (first | (at_next; refine wpList_next_ranges_ii _ rfl _ rfl 3 2 .i64 .i64 (int_keyed Tryz.underlying3) Tryz.underlying3 Tryz.underlying2 mb rb _ _ _ _ rfl RG.out ?_ ?_))
        · intro hc0 hl0
          have hs := CO.out.sorted MI2.out hl0
          have OM3 := Lib.hid RG.out.owns
          have HSL := Lib.hid (show ss.length < 4611686018427387904 from by omega)
          have HS := Lib.hid hs
          clear hs hl0 hc0 RG CO hgk
          go_wp2_with fail
          refine (sort_ints (fun _ => True) _ _ _ B 3 OU.out HSL.out).mono ?_
          rintro e w4 ⟨rfl, own4, gr4⟩
          rw [HS.out] at own4
          have hum : some mb ≠ u.ownBlock := fun e => by have h1 := HUB.out mb e.symm; have h2 := HB.out; omega
          have OM4 := Lib.hid (OM3.out.kept gr4 hum)
          have X4 := Lib.hid (Chg.below (chg_grown gr4) X3.out fun b hb => by have h1 := HUB.out b hb; have h2 := HB.out; omega)
          obtain ⟨B2, hB2⟩ : ∃ B2, B2 = w4.heap.size := ⟨_, rfl⟩
          have HB2 := Lib.hid (show B ≤ B2 ∧ B2 = w4.heap.size from ⟨by rw [hB2]; exact Nat.le_trans HW.out gr4.size, hB2⟩)
          obtain ⟨P, hP⟩ : ∃ P, P = pts l := ⟨_, rfl⟩
          rw [← hP] at own4
          have HPL := Lib.hid hP
          have HML := Lib.hid (show P.length ≤ 100 from by rw [hP]; have h1 := pts_len l; have h2 := HN.out; omega)
          have HSUM := Lib.hid (show ∀ (i : Nat) (hi : i < P.length), sumL ((P.take (i + 1)).map (chg l)) = cntAt l P[i] from fun i hi => sum_chg l P (by rw [hP]; exact (pts_law l).1) (fun x hx => by rw [hP]; exact ((pts_law l).2.1 x).2 hx) i hi)
          have HRNG := Lib.hid (show ∀ x ∈ P, okI x from by rw [hP]; exact pts_rng l)
          obtain ⟨pu, cu, rfl, hpu⟩ := own4.shapeLen
          have HPU := Lib.hid hpu
          obtain ⟨M, hM⟩ : ∃ M, M = P.length := ⟨_, rfl⟩
          have HUP := Lib.hid (show ∀ j, (Value.slice pu M cu).ownBlock = some j → j < B2 from fun j hj => by have h1 := (own4.lt j (by cases pu <;> exact hj)).2; have h2 := HB2.out; omega)
          have OP4 := Lib.hid own4
          rw [← hM] at OP4 ⊢
          have HM := Lib.hid (show M = P.length ∧ M ≤ 100 from ⟨hM, by rw [hM]; exact HML.out⟩)
          have hM100 : M ≤ 100 := HM.out.2
          clear own4 gr4 hum hB2 hP hpu hM OU OM3 X3 HS HSL hlen
          go_wp2_with fail
          go_loopg [8, 9, 50] M (fun gk vo vd vi wr => ∃ (k : Nat) (uo : Value) (out : List StepI) (d : Int), k ≤ M ∧ gk = M - k ∧ vi = .int .i64 k ∧ vd = .int .i64 d ∧ uo = vo ∧ Hid (d = sumL ((P.take k).map (chg l))) ∧ 0 ≤ d ∧ d ≤ 50 ∧ Hid (out = stepsOf P (fDep l) (min k (M - 1))) ∧ out.length ≤ k ∧
            Hid (OwnOf Rep.step wr (fun _ => True) B2 37 uo out) ∧ Hid (wr.ownsMap Tryz.prog 3 (plainElem Tryz.prog 2) mb 100 D) ∧ Hid (OwnOf Rep.int wr (fun _ => True) B 3 (.slice pu M cu) P) ∧ Hid (Ext w wr) ∧ Hid (B2 ≤ wr.heap.size))
          case atStart => exact ⟨0, _, [], 0, by omega, rfl, rfl, rfl, rfl, rfl, by omega, by omega, (by show _ = _; rw [Nat.zero_min]; rfl), by simp, OwnOf.nil _ _ _ _ _, OM4.out, OP4.out, X4.out, (by show B2 ≤ w4.heap.size; have := HB2.out; omega)⟩
          case round =>
            clear OM4 OP4 X4
            obtain ⟨k, uo, out, d, hk, rfl, rfl, rfl, rfl, HD, hd0, hd1, HOUT, hol, OO, OM, OP, X5, HW5⟩ := hrel
            by_cases hlt : k < M
            · have hkl : k < P.length := by have := HM.out; omega
              have hdt : decide ((k : Int) < (M : Int)) = true := by simp; omega
              obtain ⟨gp, rfl, hgp⟩ := HPU.out (by omega)
              have c0 := (int_at OP.out.slice k hkl).1
              rw [Nat.zero_add] at c0
              have hsum := HSUM.out k hkl
              have hcl := cnt_len l P[k]
              have hxr := HRNG.out _ (List.getElem_mem hkl)
              obtain ⟨x, hx⟩ : ∃ x, x = P[k] := ⟨_, rfl⟩
              rw [← hx] at c0 hsum hcl hxr
              obtain ⟨dn, hdn⟩ : ∃ dn : Int, dn = cntAt l x := ⟨_, rfl⟩
              have hdn0 : 0 ≤ dn ∧ dn ≤ 50 := by have h1 := HN.out; omega
              have hdx : d + chg l x = dn := by
                have h1 := HD.out
                rw [List.take_succ_eq_append_getElem hkl, List.map_append, sumL_append, ← h1] at hsum
                rw [← hx] at hsum
                simp [sumL] at hsum
                omega
              have HDN := Lib.hid (show dn = sumL ((P.take (k + 1)).map (chg l)) from by rw [HSUM.out k hkl, ← hx]; exact hdn)
              have HDX := Lib.hid (show dn = fDep l k from by unfold fDep; rw [← HPL.out, getElem!_pos P k hkl, ← hx]; exact hdn)
              have HXX := Lib.hid hx
              have HVAL := Lib.hid MI2.out.val
              obtain ⟨po, co, rfl, hpo⟩ := OO.out.shapeLen
              have HPO := Lib.hid hpo
              obtain ⟨n, hn⟩ : ∃ n, n = out.length := ⟨_, rfl⟩
              have HNN := Lib.hid hn
              have hn100 : n ≤ 100 := by omega
              clear hsum hcl hdn hx hpo
              generalize hcx : chg l x = cx at hdx
              have HCX := Lib.hid hcx
              have hwr : IntKind.i64.wrap (d + cx) = dn := by rw [hdx, IntKind.wrap_i64]; omega
              have HDD := Lib.hid hdx
              clear hcx
              rw [← hn] at OO ⊢
              clear hn
              go_wp2_with (first
                | (at_lookup; refine wpList_lookup_own_int _ rfl _ _ 70 rfl 3 2 .i64 (int_keyed Tryz.underlying3) Tryz.underlying70 Tryz.underlying2 (Tryz.zeroValue2 _) mb _ _ rfl OM.out _ _ rfl (key_int x hxr) ?_))
              intro c hat _
              have hc : c = cx := by rw [HVAL.out, HCX.out] at hat; injection hat with hat; injection hat with _ hat; exact hat.symm
              subst hc
              clear hat
              obtain ⟨k1, hk1⟩ : ∃ u, u = k + 1 := ⟨_, rfl⟩
              have ek : (k : Int) + 1 = (k1 : Int) := by omega
              have HK1 := Lib.hid hk1
              by_cases hkM : k1 = M
              · have hb1 : ((k1 : Int) == (M : Int)) = true := by simp; omega
                have hkk : k < k1 := by omega
                have HKM := Lib.hid hkM
                have HO2 := Lib.hid (show out = stepsOf P (fDep l) (min k1 (M - 1)) from by rw [HOUT.out]; congr 1; omega)
                clear hk1 hkM
                go_wp2_with fail
                go_roundg (M - k1)
                case measure => omega
                case rel => exact ⟨k1, .slice po n co, out, dn, Nat.le_of_eq HKM.out, rfl, rfl, rfl, rfl, (by show dn = _; rw [HK1.out]; exact HDN.out), hdn0.1, hdn0.2, HO2.out, by omega, OO.out, OM.out, OP.out, X5.out, HW5.out⟩
              · have hb1 : ((k1 : Int) == (M : Int)) = false := by simp; omega
                have hk1M : k1 < M := by omega
                have hk1l : k1 < P.length := by have := HM.out; omega
                have c1 := (int_at OP.out.slice k1 hk1l).1
                rw [Nat.zero_add] at c1
                have hyr := HRNG.out _ (List.getElem_mem hk1l)
                obtain ⟨y2, hy2⟩ : ∃ y, y = P[k1] := ⟨_, rfl⟩
                rw [← hy2] at c1 hyr
                have hdok : okI dn := by unfold okI; omega
                have HSK := Lib.hid (show out = stepsOf P (fDep l) k from by rw [HOUT.out, Nat.min_eq_left (by omega)])
                have HSS := Lib.hid (show (⟨x, y2, dn⟩ : StepI) = ⟨P[k]!, P[k + 1]!, fDep l k⟩ from by rw [getElem!_pos P k hkl, getElem!_pos P (k + 1) (by omega), ← HXX.out, ← HDX.out, hy2]; simp [hk1])
                have hkk : k < k1 := by omega
                clear hkM hk1 hy2 HOUT
                by_cases hn0 : n = 0
                · have hnz : ¬ (0 : Int) < (n : Int) := by omega
                  have HN0 := Lib.hid hn0
                  have hn1 : n ≤ 0 := by omega
                  clear hn0
                  have B1 : out.length + [(⟨x, y2, dn⟩ : StepI)].length ≤ maxLen := by simp [maxLen]; omega
                  have B3 : (out.length + [(⟨x, y2, dn⟩ : StepI)].length) * 48 ≤ 140737488355328 := by simp; omega
                  go_wp2_with (at_builtin; refine wpList_append_all Rep.step (fun _ => True) rfl _ _ 32 rfl B2 37 i9 _ 48 Tryz.underlying32 hi9 hz90 hz91 hz92 rfl (by decide) (.slice po n co) out rfl (by exact OO.out.ext ((Ext.refl wr).alloc _)) _ [⟨x, y2, dn⟩] rfl (by exact lone_flat (T := 37) (cs := stepEnc ⟨x, y2, dn⟩) flat_step ⟨rfl, hxr, hyr, hdok⟩ OO.out) B1 B3 (by exact Nat.le_trans HW5.out ((Ext.refl wr).alloc _).size) ?_)
                  intro v' w6 own gr _
                  have hob := fun j hj => (OO.out.lt j hj).1
                  have OM6 := Lib.hid ((OM.out.alloc (.cells (stepEnc ⟨x, y2, dn⟩).toArray 37)).kept gr (fun e => by have h1 := hob mb e.symm; have h2 := HB.out; have h3 := HB2.out; omega))
                  have OP6 := Lib.hid ((OP.out.ext ((Ext.refl wr).alloc (.cells (stepEnc ⟨x, y2, dn⟩).toArray 37))).chg flat_int (chg_grown gr) fun j hj e => by have h1 := hob j e; have h2 := HUP.out j hj; omega)
                  have X6 := Lib.hid (Chg.below (chg_grown gr) (X5.out.alloc (.cells (stepEnc ⟨x, y2, dn⟩).toArray 37)) fun b hb => by have h1 := hob b hb; have h2 := HB.out; have h3 := HB2.out; omega)
                  have HW6 := Lib.hid (Nat.le_trans (Nat.le_trans HW5.out ((Ext.refl wr).alloc (.cells (stepEnc ⟨x, y2, dn⟩).toArray 37)).size) gr.size)
                  have OW := Lib.hid own
                  clear own gr hob OM OP X5
                  go_wp2_with fail
                  go_roundg (M - k1)
                  case measure => have := HK1.out; omega
                  case rel => exact ⟨k1, v', out ++ [(⟨x, y2, dn⟩ : StepI)], dn, by omega, rfl, rfl, rfl, rfl, (by show dn = _; rw [HK1.out]; exact HDN.out), hdn0.1, hdn0.2, (by
                    show _ = _
                    rw [Nat.min_eq_left (by omega), HK1.out, stepsOf, ← HSK.out, ← HSS.out, addStep_new (fun hn => absurd hn (by have h1 := HN0.out; have h2 := HNN.out; omega))]), (by have := HK1.out; simp; omega), OW.out, OM6.out, OP6.out, X6.out, HW6.out⟩
                · have hnz : (0 : Int) < (n : Int) := by omega
                  obtain ⟨go, rfl, hgo⟩ := HPO.out (by rw [← HNN.out]; omega)
                  obtain ⟨m, hm⟩ : ∃ m, m = n - 1 := ⟨_, rfl⟩
                  have em : (n : Int) - 1 = (m : Int) := by omega
                  have hmo : m < out.length := by rw [← HNN.out]; omega
                  obtain ⟨s0, s1, s2, s3, s4⟩ := step_at OO.out.slice m hmo
                  have hf1 : wr.frozen? ⟨go, m * 5 + 1, none⟩ = false := by
                    obtain ⟨css, _, q2⟩ := OO.out
                    rw [← HNN.out] at q2
                    exact q2.frozenAt _
                  have hmn : (m : Int) < (n : Int) := by omega
                  have hmn2 : m < n := by omega
                  have HMM := Lib.hid hm
                  have HOM := Lib.hid hmo
                  have hem : m = out.length - 1 := by have := HNN.out; omega
                  have HEM := Lib.hid hem
                  obtain ⟨ln, hln⟩ : ∃ z, z = (out[m]'hmo).n := ⟨_, rfl⟩
                  rw [← hln] at s3
                  have HLN := Lib.hid hln
                  clear hn0 hm hem s0 s2 s4
                  by_cases hld : ln = dn
                  · have hb2 : (ln == dn) = true := by simp [hld]
                    have HLD := Lib.hid hld
                    clear hln hld
                    have hst := OwnOf.store flat_step (by have h := OO.out; rw [HNN.out] at h; exact h) m 1 hmo (by decide) (.int .i64 y2) ⟨out[m].from_, y2, dn⟩ (fun cs hcs => by
                      obtain ⟨rfl, h1, h2, h3⟩ := hcs
                      exact ⟨by simp [stepEnc, ← HLN.out, HLD.out]; rfl, h1, hyr, hdok⟩)
                    rw [show Rep.step.size = 5 from rfl] at hst
                    have hob := fun j hj => (OO.out.lt j hj).1
                    have OM6 := Lib.hid (OM.out.kept hst.2 (fun e => by have h1 := hob mb e.symm; have h2 := HB.out; have h3 := HB2.out; omega))
                    have OP6 := Lib.hid (OP.out.chg flat_int (chg_grown hst.2) fun j hj e => by have h1 := hob j e; have h2 := HUP.out j hj; omega)
                    have X6 := Lib.hid (Chg.below (chg_grown hst.2) X5.out fun b hb => by have h1 := hob b hb; have h2 := HB.out; have h3 := HB2.out; omega)
                    have HW6 := Lib.hid (Nat.le_trans HW5.out hst.2.size)
                    have OW := Lib.hid hst.1
                    rw [← HNN.out] at OW
                    clear hst hob OM OP X5
                    go_wp2_with fail
                    go_roundg (M - k1)
                    case measure => have := HK1.out; omega
                    case rel => exact ⟨k1, .slice (some ⟨go, 0, none⟩) n co, out.set m ⟨out[m].from_, y2, dn⟩, dn, by omega, rfl, rfl, rfl, rfl, (by show dn = _; rw [HK1.out]; exact HDN.out), hdn0.1, hdn0.2, (by
                      show _ = _
                      rw [Nat.min_eq_left (by omega), HK1.out, stepsOf, ← HSK.out, ← HSS.out, addStep_old (by omega) (by simp only [← HEM.out]; rw [← HLN.out]; exact HLD.out)]
                      simp only [← HEM.out]
                      rfl), (by have := HK1.out; simp; omega), OW.out, OM6.out, OP6.out, X6.out, HW6.out⟩
                  · have hb2 : (ln == dn) = false := by simp [hld]
                    have HLD := Lib.hid hld
                    clear hln hld
                    have B1 : out.length + [(⟨x, y2, dn⟩ : StepI)].length ≤ maxLen := by simp [maxLen]; omega
                    have B3 : (out.length + [(⟨x, y2, dn⟩ : StepI)].length) * 48 ≤ 140737488355328 := by simp; omega
                    go_wp2_with (at_builtin; refine wpList_append_all Rep.step (fun _ => True) rfl _ _ 32 rfl B2 37 i9 _ 48 Tryz.underlying32 hi9 hz90 hz91 hz92 rfl (by decide) (.slice (some ⟨go, 0, none⟩) n co) out rfl (by exact OO.out.ext ((Ext.refl wr).alloc _)) _ [⟨x, y2, dn⟩] rfl (by exact lone_flat (T := 37) (cs := stepEnc ⟨x, y2, dn⟩) flat_step ⟨rfl, hxr, hyr, hdok⟩ OO.out) B1 B3 (by exact Nat.le_trans HW5.out ((Ext.refl wr).alloc _).size) ?_)
                    intro v' w6 own gr _
                    have hob := fun j hj => (OO.out.lt j hj).1
                    have OM6 := Lib.hid ((OM.out.alloc (.cells (stepEnc ⟨x, y2, dn⟩).toArray 37)).kept gr (fun e => by have h1 := hob mb e.symm; have h2 := HB.out; have h3 := HB2.out; omega))
                    have OP6 := Lib.hid ((OP.out.ext ((Ext.refl wr).alloc (.cells (stepEnc ⟨x, y2, dn⟩).toArray 37))).chg flat_int (chg_grown gr) fun j hj e => by have h1 := hob j e; have h2 := HUP.out j hj; omega)
                    have X6 := Lib.hid (Chg.below (chg_grown gr) (X5.out.alloc (.cells (stepEnc ⟨x, y2, dn⟩).toArray 37)) fun b hb => by have h1 := hob b hb; have h2 := HB.out; have h3 := HB2.out; omega)
                    have HW6 := Lib.hid (Nat.le_trans (Nat.le_trans HW5.out ((Ext.refl wr).alloc (.cells (stepEnc ⟨x, y2, dn⟩).toArray 37)).size) gr.size)
                    have OW := Lib.hid own
                    clear own gr hob OM OP X5
                    go_wp2_with fail
                    go_roundg (M - k1)
                    case measure => have := HK1.out; omega
                    case rel => exact ⟨k1, v', out ++ [(⟨x, y2, dn⟩ : StepI)], dn, by omega, rfl, rfl, rfl, rfl, (by show dn = _; rw [HK1.out]; exact HDN.out), hdn0.1, hdn0.2, (by
                      show _ = _
                      rw [Nat.min_eq_left (by omega), HK1.out, stepsOf, ← HSK.out, ← HSS.out, addStep_new (fun hn => by simp only [← HEM.out]; rw [← HLN.out]; exact HLD.out)]), (by have := HK1.out; simp; omega), OW.out, OM6.out, OP6.out, X6.out, HW6.out⟩
            · have hkM : k = M := by omega
              have hdt : ¬ (k : Int) < (M : Int) := by omega
              have HF := Lib.hid (show out = depthOf l from by rw [HOUT.out, depthOf_eq, ← HPL.out, ← HM.out.1, hkM, Nat.min_eq_right (Nat.sub_le M 1)])
              have HWB := Lib.hid (show w.heap.size ≤ B2 from by have h1 := HB.out; have h2 := HB2.out; omega)
              obtain ⟨po, co, rfl, _⟩ := OO.out.shapeLen
              clear hkM
              go_wp2_with fail
              go_ret
              exact ⟨_, rfl, by have h := (OO.out.weak (T := fun _ => True) (fun _ _ h => h) HWB.out).fresh flat_step; rw [HF.out] at h; rw [HF.out]; exact h, X5.out⟩
        · intro x c w1 cnt1 hwx hwc hlx hat hrg1 hlt hg1 hs1 hen
          have RG1 := Lib.hid hrg1
          have CO1 := Lib.hid (CO.out.step hlx hat)
          have OU1 := Lib.hid (OU.out.chg flat_int (chg_grown hg1) fun k hk e => by injection e with e; have h1 := HUB.out k hk; have h2 := HB.out; omega)
          have X4 := Lib.hid (Chg.below (chg_grown hg1) X3.out fun b hb => by injection hb with hb; have h2 := HB.out; omega)
          have hwx' := wf_i64 hwx
          have B1 : ss.length + [x].length ≤ maxLen := by simp [maxLen]; omega
          have B3 : (ss.length + [x].length) * 8 ≤ 140737488355328 := by simp; omega
          have HW1 := Lib.hid (Nat.le_trans HW.out hg1.size)
          clear hrg1 hat hlx hg1 hs1 CO OU RG X3 hwx hwc
          go_wp2_with (at_builtin; refine wpList_append_all Rep.int (fun _ => True) rfl _ _ 43 rfl B 3 i0 _ 8 Tryz.underlying43 hi hz0 hz1 hz2 rfl (by decide) u ss rfl (by exact OU1.out.ext ((Ext.refl w1).alloc _)) _ [x] rfl (by exact lone_new (T := 3) hwx' OU1.out) B1 B3 (by exact Nat.le_trans HW1.out ((Ext.refl w1).alloc _).size) ?_)
          intro v' w3 own gr hat
          have RG3 := Lib.hid ((RG1.out.alloc _).kept gr (fun e => by have h1 := HUB.out mb e.symm; have h2 := HB.out; omega) (fun e => by have h1 := HUB.out rb e.symm; have h2 := HB.out; omega))
          have X6 := Lib.hid (Chg.below (chg_grown gr) (X4.out.alloc _) fun b hb => by have h1 := HUB.out b hb; have h2 := HB.out; omega)
          have HW3 := Lib.hid (Nat.le_trans (Nat.le_trans HW1.out ((Ext.refl w1).alloc (.cells #[.int .i64 x] 3)).size) gr.size)
          have OW := Lib.hid own
          clear own gr hat RG1 OU1 X4 hen
          go_wp2_with fail
          go_roundg cnt1
          case measure => omega
          case rel => exact ⟨_, cnt1, ss ++ [x], v', Nat.le_refl _, rfl, RG3.out, CO1.out, OW.out, by simp; omega, X6.out, HW3.out⟩

end Go.Proofs.YtdgpbpbjlnlijaaGreat
