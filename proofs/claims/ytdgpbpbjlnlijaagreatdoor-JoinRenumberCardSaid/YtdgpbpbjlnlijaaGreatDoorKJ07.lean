/- joined texts of a proof: NormW, Fam, PlainM, PlainG, GenA -/
import Derived.Test.YtdgpbpbjlnlijaaGreatDoorKJ06
import Derived.Maps.Own
import Derived.Test.YtdgpbpbjlnlijaaGreatDoorKJ01
import Derived.Test.YtdgpbpbjlnlijaaGreatDoorKJ04
import Derived.Test.YtdgpbpbjlnlijaaGreatDoorKJ02
import Derived.Test.YtdgpbpbjlnlijaaGreatDoorKJ05

/- tuple.Normalize -/
namespace Go.Proofs.YtdgpbpbjlnlijaaGreatDoor
open Go.RowKit Go.Maps

theorem MapV.ext {w w' : World} {P : Program} {k : TypeId} {S : Value → Prop} {b n : Nat} {m : Lit → Option Value} (h : MapV w P k S b n m) (hx : Ext w w') : MapV w' P k S b n m := h.kept (Ext.grows hx) (by simp)
theorem NInv.ext {w w' w'' : World} {base : Nat} {T : TypeId} {l : List Tup} {m1 m2 : Lit → Option Value} (h : NInv w w' base T l m1 m2) (hx : Ext w' w'') : NInv w w'' base T l m1 m2 := h.keep (Ext.grows hx) (fun k hk => by cases hk)
theorem RangeV.ext {w w' : World} {P : Program} {k : TypeId} {S : Value → Prop} {b r n : Nat} {m : Lit → Option Value} {left : Lit → Bool} {cnt : Nat} (h : RangeV w P k S b r n m left cnt) (hx : Ext w w') : RangeV w' P k S b r n m left cnt := h.kept (Ext.grows hx) (by simp) (by simp)
theorem ext_grown {a w w' : World} {row : Option Nat} (h : Ext a w) (gr : w.grownBy w' row) (hr : ∀ k, row = some k → a.heap.size ≤ k) : Ext a w' := Below.grown h gr h.size hr
theorem cell_grown {w w' : World} {row : Option Nat} {b o : Nat} {v : Value} (gr : w.grownBy w' row) (hc : w.cell? ⟨b, o, none⟩ = some v) (hne : ∀ k, row = some k → k ≠ b) : w'.cell? ⟨b, o, none⟩ = some v :=
  (World.cell?_of_block (w := w) (gr.block b (cell_lt hc) (fun e => hne b e.symm rfl))).trans hc
theorem off_grow {w w' : World} {u : Value} {g a b : Nat} (gr : w.grownBy w' u.ownBlock) (hg : u.ownBlock = some g ∨ g = w.heap.size) : Sub (on w (fun x => u.ownBlock ≠ some x)) (on w' (fun x => (Value.slice (some ⟨g, 0, none⟩) a b).ownBlock ≠ some x)) := fun p v e => by
  obtain ⟨h1, h2⟩ := on_some.1 e
  have hlt := World.block_lt_of_cell? w p h2
  refine on_some.2 ⟨fun e2 => ?_, (World.cell?_of_block (w := w) (gr.block p.block hlt (fun e3 => h1 e3.symm))).trans h2⟩
  have e2 : g = p.block := Option.some.inj e2
  rcases hg with h | h
  · exact h1 (by rw [← e2]; exact h)
  · omega
theorem key_str (l : List UInt8) (h : l.length ≤ maxLen) : keyOf Tryz.prog 9 (.string ⟨l.toArray⟩) = some (.string l) := by
  rw [keyOf_string Tryz.underlying9]
  unfold mapKey
  rw [Tryz.underlying9]
  simp [ByteArray.size, h]
theorem info_tupN : (Tryz.prog.info? 77).map (fun i => (i.zero, i.size, i.bytes)) = some (some (.agg #[.slice none 0 0, .int .i64 0, .int .i64 0, .slice none 0 0]), Rep.tup.size, 64) := by kernel_rfl
theorem zero_slP (w : World) : (zeroValue 112).run Tryz.prog w = .ok (.slice none 0 0) w := by kernel_rfl
/-- tuples that are few and short -/
def fitN (l : List Tup) : Prop := l.length ≤ 65536 ∧ ∀ t ∈ l, fitVals t.vals ∧ t.lin.length ≤ 1048576
theorem keyRow_len {h1 : View} {v : Value} {r : Row} (k : SliceOf Rep.val h1 v r.vals) (hl : ∀ x ∈ r.lin, -9223372036854775808 ≤ x ∧ x ≤ 9223372036854775807) (hf : fitVals r.vals) (hf2 : r.lin.length ≤ 1048576) : (keyRow r).length ≤ maxLen := by
  have h2 := keyVals_len (vals_range k) hf.2
  have h3 := itoa_len (r.vals.length : Int) (by omega) (by have := hf.1; omega)
  have h4 : ∀ l : List Int, (∀ x ∈ l, -9223372036854775808 ≤ x ∧ x ≤ 9223372036854775807) → (keyLin l).length ≤ 22 * l.length := by
    intro l
    induction l with
    | nil => intro _; exact Nat.zero_le _
    | cons x l ih =>
      intro h
      have := ih fun y hy => h y (by simp [hy])
      have := itoa_len x (h x (by simp)).1 (h x (by simp)).2
      unfold keyLin at *
      rw [List.flatMap_cons, List.length_append, List.length_cons, List.length_cons]
      omega
  have h5 := h4 r.lin hl
  have h6 := hf.1
  unfold keyRow maxLen
  simp only [List.length_append, List.length_cons]
  omega
theorem ints_range {h : View} {v : Value} {xs : List Int} (k : SliceOf Rep.int h v xs) : ∀ x ∈ xs, -9223372036854775808 ≤ x ∧ x ≤ 9223372036854775807 := by
  intro x hx
  obtain ⟨i, hi, rfl⟩ := List.getElem_of_mem hx
  obtain ⟨p, cap, rfl, _, _, hp⟩ := k.form
  obtain ⟨b, o, rfl⟩ := hp (by decide) (by omega)
  exact (int_at k i hi).2
theorem persOf_len (r : Row) (l : List Tup) : (persOf r l).length ≤ l.length := by
  unfold persOf
  rw [List.length_map]
  exact Nat.le_trans (List.length_filter_le _ _) (List.length_filter_le _ _)
theorem levOf_len {P : List Int} {f : Nat → Nat} {n : Nat} (hf : ∀ i, f i ≤ n) (k : Nat) : (levOf P f k).2.length ≤ n * k ∧ (levOf P f k).1.length ≤ n := by
  induction k with
  | zero => exact ⟨Nat.zero_le _, Nat.zero_le _⟩
  | succ k ih =>
    unfold levOf
    refine ⟨?_, by rw [levStep_len]; exact hf k⟩
    unfold levStep
    simp only [List.length_append, List.length_map, List.length_reverse, List.length_drop]
    rw [Nat.mul_succ]
    omega
theorem levels_len (ps : List Per) : (levels ps).length ≤ ps.length * (2 * ps.length) := by
  have h1 := (levOf_len (P := levPts ps) (f := levF ps) (n := ps.length) (fun i => by unfold levF cntAt; exact Nat.le_trans (List.length_filter_le _ _) (by simp)) (levPts ps).length).1
  have h2 : (levPts ps).length ≤ 2 * ps.length := by
    have h3 := (pts_law (ps.map perT)).2.2
    have h5 := bnd_len (ps.map perT)
    rw [List.length_map] at h5
    exact Nat.le_trans h3 h5
  exact Nat.le_trans h1 (Nat.mul_le_mul_left _ h2)
open Classical in
theorem filt_sum {α β : Type} (f : α → β) : ∀ (done : List β) (l : List α), done.Nodup → (done.map fun r => (l.filter fun t => decide (f t = r)).length).sum ≤ l.length := by
  intro done
  induction done with
  | nil => intro l _; exact Nat.zero_le _
  | cons r done ih =>
    intro l hnd
    obtain ⟨h1, h2⟩ := List.nodup_cons.1 hnd
    have h3 := ih (l.filter fun t => !decide (f t = r)) h2
    have h4 : (done.map fun s => ((l.filter fun t => !decide (f t = r)).filter fun t => decide (f t = s)).length) = done.map fun s => (l.filter fun t => decide (f t = s)).length := by
      refine List.map_congr_left fun s hs => ?_
      have hne : s ≠ r := fun e => h1 (e ▸ hs)
      rw [List.filter_filter]
      congr 2
      funext t
      by_cases h : f t = s
      · simp [h, hne]
      · simp [h]
    rw [h4] at h3
    have h5 : ∀ m : List α, (m.filter fun t => decide (f t = r)).length + (m.filter fun t => !decide (f t = r)).length = m.length := fun m => by
      induction m with
      | nil => rfl
      | cons y m ih =>
        rw [List.filter_cons, List.filter_cons]
        by_cases h : f y = r
        · simp only [h, decide_true, Bool.not_true, if_true, Bool.false_eq_true, if_false, List.length_cons]; omega
        · simp only [h, decide_false, Bool.not_false, if_true, Bool.false_eq_true, if_false, List.length_cons]; omega
    have h6 := h5 l
    rw [List.map_cons, List.sum_cons]
    omega
open Classical in
theorem normRaw_len2 {done : List Row} (l : List Tup) (hnd : done.Nodup) : (normRaw done l).length ≤ 2 * l.length * l.length := by
  have h : ∀ ks : List Row, (normRaw ks l).length ≤ 2 * l.length * (ks.map fun r => (persOf r l).length).sum := fun ks => by
    induction ks with
    | nil => exact Nat.zero_le _
    | cons r ks ih =>
      unfold normRaw at *
      rw [List.flatMap_cons, List.length_append, List.length_map, List.map_cons, List.sum_cons, Nat.mul_add]
      have h1 := levels_len (persOf r l)
      have h2 := persOf_len r l
      have h3 : (persOf r l).length * (2 * (persOf r l).length) ≤ (2 * l.length) * (persOf r l).length := by
        rw [Nat.mul_comm]
        exact Nat.mul_le_mul_right _ (Nat.mul_le_mul_left _ h2)
      omega
  have h2 : (done.map fun r => (persOf r l).length).sum ≤ l.length := by
    have h3 := filt_sum tupRow done (l.filter validT) hnd
    have h4 : (done.map fun r => (persOf r l).length) = done.map fun r => ((l.filter validT).filter fun t => decide (tupRow t = r)).length := by
      refine List.map_congr_left fun r _ => ?_
      unfold persOf
      rw [List.length_map]
    rw [h4]
    exact Nat.le_trans h3 (List.length_filter_le _ _)
  exact Nat.le_trans (h done) (Nat.mul_le_mul_left _ h2)
theorem normRaw_snoc (done : List Row) (r : Row) (l : List Tup) : normRaw (done ++ [r]) l = normRaw done l ++ (levels (persOf r l)).map (tupOf r) := by
  unfold normRaw
  rw [List.flatMap_append, List.flatMap_cons, List.flatMap_nil, List.append_nil]
theorem own_grown {α : Type} {R : Rep α} {w w' : World} {row : Option Nat} {S : Nat → Prop} {base : Nat} {e : TypeId} {v : Value} {xs : List α} (h : OwnOf R w S base e v xs) (gr : w.grownBy w' row) (hS : ∀ k, S k → row ≠ some k) (hv : ∀ k, v.ownBlock = some k → row ≠ some k) : OwnOf R w' S base e v xs := by
  obtain ⟨css, h1, h2⟩ := h
  refine ⟨css, h1.ext (grown_sub gr fun k hk e => hS k hk.2 e.symm), h2.kept gr ?_⟩
  cases hb : v.ownBlock with
  | none => exact .inl rfl
  | some k => exact .inr fun e => hv k hb e.symm

set_option maxRecDepth 100000 in
set_option maxHeartbeats 16000000 in
theorem normalize_any (v : Value) (l : List Tup) (w : World) (hv : SliceOf Rep.tup w.cell? v l) (hf : fitN l) (ht : TabW w) :
    Calls Tryz.prog 27 #[v] w fun e w' => ∃ v', e = .returned v' ∧ SliceOf Rep.tup (on w' (since w)) v' (normT l) ∧ Ext w w' := by
  obtain ⟨i1, hi1, hz10, hz11, hz12⟩ := info_parts info_per
  obtain ⟨i2, hi2, hz20, hz21, hz22⟩ := info_parts info_tupN
  have hmm := @run_makeMap Tryz.prog
  obtain ⟨p, cap, rfl, hc1, hc2, hp⟩ := hv.form
  obtain ⟨N, hN⟩ : ∃ N, N = l.length := ⟨_, rfl⟩
  have HV := Lib.hid hv
  rw [← hN]
  have HN := Lib.hid hN
  have HP := Lib.hid hp
  have HF := Lib.hid hf
  have HT := Lib.hid ht
  have hNl : N ≤ 65536 := by rw [hN]; exact hf.1
  clear hv hN hp hc1 hc2 hf ht
  go_enter Tryz.func27, Tryz.ntmps27
  go_wp2_with fail
  obtain ⟨b1, hb1⟩ : ∃ b, b = w.heap.size := ⟨_, rfl⟩
  have HB1 := Lib.hid hb1
  have hM1 := MapV.made w Tryz.prog 9 ShRow
  have hM2 := MapV.made (w.alloc (.map #[] 0)) Tryz.prog 9 ShSl
  rw [show (w.alloc (.map #[] 0)).heap.size = w.heap.size + 1 by simp] at hM2
  rw [← hb1] at hM1 hM2 ⊢
  go_loopg [17] N (fun gk vi wr => ∃ (k : Nat) (m1 m2 : Lit → Option Value), k ≤ N ∧ gk = N - k ∧ vi = .int .i64 k ∧ Hid (MapV wr Tryz.prog 9 ShRow b1 k m1) ∧ Hid (MapV wr Tryz.prog 9 ShSl (b1 + 1) k m2) ∧ Hid (NInv w wr (b1 + 2) 52 (l.take k) m1 m2) ∧ Hid (b1 + 2 ≤ wr.heap.size) ∧ Ext w wr)
  case atStart => exact ⟨0, _, _, by omega, rfl, rfl, hM1.alloc _, hM2, NInv.nil _ _ _ _, by show b1 + 2 ≤ _; simp; omega, ((Ext.refl w).alloc _).alloc _⟩
  case round =>
    clear hM1 hM2 hb1
    obtain ⟨k, m1, m2, hk, rfl, rfl, M1, M2, NI, HSZ, hx⟩ := hrel
    by_cases hlt : k < N
    · have hkl : k < l.length := by have := HN.out; omega
      have hd : decide ((k : Int) < (N : Int)) = true := by simp; omega
      obtain ⟨b, o', rfl⟩ := HP.out (by decide) (by omega)
      have hv := HV.out
      rw [← HN.out] at hv
      obtain ⟨ta, tb, c0, c1, c2, c3, g0, g1, r1, r2⟩ := tup_at hv k hkl
      obtain ⟨pa, ka, ta', _⟩ := g0.form
      obtain ⟨pb, kb, tb', _⟩ := g1.form
      subst ta' tb'
      replace c0 := hx.at c0
      replace c1 := hx.at c1
      replace c2 := hx.at c2
      replace c3 := hx.at c3
      have hst : l.take (k + 1) = l.take k ++ [l[k]] := List.take_succ_eq_append_getElem hkl
      have hft := HF.out.2 l[k] (List.getElem_mem hkl)
      generalize l[k] = y at c0 c1 c2 c3 g0 g1 r1 r2 hst hft
      obtain ⟨vs, f, t, ln⟩ := y
      dsimp only at c0 c1 c2 c3 g0 g1 r1 r2 hst hft
      have HST := Lib.hid hst
      have G0 := Lib.hid g0
      have G1 := Lib.hid g1
      have HFT := Lib.hid hft
      have HR := Lib.hid (show okI f ∧ okI t from ⟨r1, r2⟩)
      have e0 := cell_lt c0
      have HKL := Lib.hid (keyRow_len (r := ⟨vs, ln⟩) g0 (ints_range g1) hft.1 hft.2)
      clear hst g0 g1 r1 r2 hv hft
      go_wp2_with fail
      refine (valid_any f t _).mono ?_
      rintro e w1 ⟨rfl, x1⟩
      have d0 : w1.cell? ⟨wr.heap.size, 0, none⟩ = some (.slice pa vs.length ka) := x1.at (by go_simp)
      have d1 : w1.cell? ⟨wr.heap.size, 1, none⟩ = some (.int .i64 f) := x1.at (by go_simp)
      have d2 : w1.cell? ⟨wr.heap.size, 2, none⟩ = some (.int .i64 t) := x1.at (by go_simp)
      have d3 : w1.cell? ⟨wr.heap.size, 3, none⟩ = some (.slice pb ln.length kb) := x1.at (by go_simp)
      have X1 := Lib.hid (show Ext wr w1 from ((Ext.refl wr).alloc _).trans x1)
      clear x1 c0 c1 c2 c3 e0
      cases hvb : validB f t with
      | true =>
        have HVB := Lib.hid hvb
        have e1 := cell_lt d0
        clear hvb
        go_wp2_with fail
        refine (rowKey_any pa pb ka kb f t vs ln _ (G0.out.ext (hx.trans X1.out).full) (G1.out.ext (hx.trans X1.out).full) HFT.out.1 HFT.out.2 (HT.out.ext (hx.trans X1.out))).mono ?_
        rintro e w2 ⟨rfl, x2⟩
        replace d0 := x2.at d0
        replace d1 := x2.at d1
        replace d2 := x2.at d2
        replace d3 := x2.at d3
        have X2 := Lib.hid (X1.out.trans x2)
        have e2 := cell_lt d0
        clear x2 X1 e1
        go_wp2_with fail
        refine (tup_row pa pb vs.length ka ln.length kb f t _).mono ?_
        rintro e w3 ⟨rfl, x3⟩
        replace d1 := x3.ext.at d1
        replace d2 := x3.ext.at d2
        have X3 := Lib.hid (X2.out.trans x3.ext)
        have e3 := cell_lt d1
        have HW3 := Lib.hid (show b1 + 2 ≤ wr.heap.size ∧ wr.heap.size ≤ w3.heap.size from ⟨HSZ.out, X3.out.size⟩)
        have M13 := Lib.hid (M1.out.ext X3.out)
        have M23 := Lib.hid (M2.out.ext X3.out)
        have NI3 := Lib.hid (NI.out.ext X3.out)
        have hx3 := hx.trans X3.out
        clear x3 X2 e2 d0 d3 M1 M2 NI hx X3
        go_wp2_with (at_mapUpdate; refine wpList_store_v _ rfl _ _ _ 109 rfl 9 42 (string_keyed Tryz.underlying9) Tryz.underlying109 ShRow b1 k m1 rfl M13.out (by unfold maxLen; omega) _ _ (keyL ⟨vs, ln⟩) rfl rfl (key_str _ HKL.out) ⟨⟨pa, vs.length, ka, pb, ln.length, kb⟩, rfl⟩ ?_)
        intro w4 m4 gr4
        have hb1w : ∀ x, (some b1 : Option Nat) = some x → x = b1 := fun x e => (Option.some.inj e).symm
        have M14 := Lib.hid m4
        have M24 := Lib.hid (M23.out.kept gr4 (by simp))
        have NI4 := Lib.hid (NI3.out.keep gr4 (fun x e => by have := hb1w x e; omega))
        replace d1 := cell_grown gr4 d1 (fun x e => by have := hb1w x e; have := HW3.out; omega)
        replace d2 := cell_grown gr4 d2 (fun x e => by have := hb1w x e; have := HW3.out; omega)
        have X4 := Lib.hid (ext_grown hx3 gr4 (fun x e => by have := hb1w x e; have := HB1.out; omega))
        have HW4 := Lib.hid (show b1 + 2 ≤ w4.heap.size from Nat.le_trans (by have := HW3.out; omega) gr4.size)
        have e4 := cell_lt d1
        clear m4 gr4 M13 M23 NI3 hx3 e3 HW3 hb1w
        go_wp2_with (at_lookup; refine wpList_lookup_v _ rfl _ _ 110 rfl 9 112 (string_keyed Tryz.underlying9) Tryz.underlying110 (.slice none 0 0) (zero_slP _) ShSl ⟨_, _, _, rfl⟩ (b1 + 1) k m2 rfl M24.out _ (keyL ⟨vs, ln⟩) rfl (key_str _ HKL.out) ?_)
        intro vp HVP hsp
        have own4 := NI4.out.own ⟨vs, ln⟩
        rw [← HVP.out] at own4
        obtain ⟨p9, n9, c9, rfl⟩ := hsp
        have OW4 := Lib.hid own4
        have hpl := persOf_len ⟨vs, ln⟩ (l.take k)
        have hpl2 : (persOf ⟨vs, ln⟩ (l.take k)).length ≤ 65536 := Nat.le_trans hpl (Nat.le_trans (List.length_take_le _ _) (by omega))
        obtain ⟨pl, hpl3⟩ : ∃ x, x = persOf ⟨vs, ln⟩ (l.take k) := ⟨_, rfl⟩
        rw [← hpl3] at OW4 hpl2
        have HPL := Lib.hid hpl3
        have B1 : pl.length + 1 ≤ maxLen := by unfold maxLen; omega
        have B2 : (pl.length + 1) * 16 ≤ 140737488355328 := by omega
        clear own4 hpl hpl3
        go_wp2_with (at_builtin; refine wpList_append_one Rep.per (fun _ => True) rfl _ _ 112 rfl (b1 + 2) 52 i1 _ 16 Tryz.underlying112 hi1 hz10 hz11 hz12 rfl (by decide) (.slice p9 n9 c9) pl rfl (OW4.out.ext ((Ext.refl w4).alloc _)) ⟨w4.heap.size, 0, none⟩ 1 ⟨f, t⟩ [.int .i64 f, .int .i64 t] rfl ⟨rfl, HR.out⟩ (by exact cells_new w4 [.int .i64 f, .int .i64 t] _) B1 B2 (Nat.le_trans HW4.out ((Ext.refl w4).alloc _).size) ?_)
        intro g5 cap5 w5 own5 gr5 hg5
        have hbase5 : ∀ x, (Value.slice p9 n9 c9).ownBlock = some x → b1 + 2 ≤ x := fun x e => (OW4.out.lt x e).1
        have NI5 := Lib.hid (NInv.step (NI4.out.ext ((Ext.refl w4).alloc (.cells #[.int .i64 f, .int .i64 t] 52))) (t := ⟨vs, f, t, ln⟩) HVB.out (x := ⟨pa, vs.length, ka, pb, ln.length, kb⟩) ⟨rfl, rfl, G0.out, G1.out⟩ (g := g5) (a := pl.length + 1) (b := cap5) (by show OwnOf Rep.per _ _ _ _ _ (persOf ⟨vs, ln⟩ (l.take k) ++ _); rw [← HPL.out]; exact own5) (by show World.grownBy _ _ (Option.getD (m2 (keyL ⟨vs, ln⟩)) _).ownBlock; rw [← HVP.out]; exact gr5) (by show (Option.getD (m2 (keyL ⟨vs, ln⟩)) _).ownBlock = _ ∨ _; rw [← HVP.out]; rcases hg5 with h | h; exact .inl h; exact .inr (by rw [h]; simp)))
        have M15 := Lib.hid ((M14.out.ext ((Ext.refl w4).alloc _)).kept gr5 (fun e => by have := hbase5 _ e.symm; omega))
        have M25 := Lib.hid ((M24.out.ext ((Ext.refl w4).alloc _)).kept gr5 (fun e => by have := hbase5 _ e.symm; omega))
        have X5 := Lib.hid (ext_grown (X4.out.alloc _) gr5 (fun x e => by have := hbase5 x e; have := HB1.out; omega))
        have HW5 := Lib.hid (show b1 + 2 ≤ w5.heap.size from Nat.le_trans HW4.out (Nat.le_trans ((Ext.refl w4).alloc _).size gr5.size))
        clear own5 gr5 hg5 hbase5 NI4 M14 M24 X4 HW4 d1 d2 e4 OW4 HVP
        go_wp2_with (at_mapUpdate; refine wpList_store_v _ rfl _ _ _ 110 rfl 9 112 (string_keyed Tryz.underlying9) Tryz.underlying110 ShSl (b1 + 1) k m2 rfl M25.out (by unfold maxLen; omega) _ _ (keyL ⟨vs, ln⟩) rfl rfl (key_str _ HKL.out) ⟨_, _, _, rfl⟩ ?_)
        intro w6 m6 gr6
        have hb2w : ∀ x, (some (b1 + 1) : Option Nat) = some x → x = b1 + 1 := fun x e => (Option.some.inj e).symm
        have M26 := Lib.hid m6
        have M16 := Lib.hid (M15.out.kept gr6 (by simp))
        have NI6 := Lib.hid (NI5.out.keep gr6 (fun x e => by have := hb2w x e; omega))
        have X6 := Lib.hid (ext_grown X5.out gr6 (fun x e => by have := hb2w x e; have := HB1.out; omega))
        have HW6 := Lib.hid (show b1 + 2 ≤ w6.heap.size from Nat.le_trans HW5.out gr6.size)
        clear m6 gr6 M15 M25 NI5 X5 HW5 hb2w
        go_wp2_with fail
        go_roundg (N - (k + 1))
        case measure => omega
        case rel => exact ⟨k + 1, _, _, by omega, rfl, by go_num, M16.out, M26.out, by rw [HST.out]; exact NI6.out, HW6.out, X6.out⟩
      | false =>
        have HVB := Lib.hid hvb
        clear hvb d0 d1 d2 d3
        go_wp2_with fail
        go_roundg (N - (k + 1))
        case measure => omega
        case rel => exact ⟨k + 1, m1, m2, by omega, rfl, by go_num, (M1.out.ext X1.out).mono (Nat.le_succ k), (M2.out.ext X1.out).mono (Nat.le_succ k), by rw [HST.out]; exact (NI.out.ext X1.out).skip HVB.out, Nat.le_trans HSZ.out X1.out.size, hx.trans X1.out⟩
    · have hkN : k = N := by omega
      have hd : ¬ (k : Int) < (N : Int) := by omega
      subst hkN
      have NIL := Lib.hid (show NInv w wr (b1 + 2) 52 l m1 m2 from by
        have h := NI.out
        rw [HN.out, List.take_length] at h
        exact h)
      clear NI hk
      go_wp2_with (at_range; refine wpList_range_v _ rfl _ 109 rfl 9 42 (string_keyed Tryz.underlying9) Tryz.underlying109 ShRow b1 k m1 rfl M1.out ?_)
      intro w2 left0 cnt0 rg2 hleft0 hcnt0 gr2 sz2
      obtain ⟨rb, hrb⟩ : ∃ r, r = wr.heap.size := ⟨_, rfl⟩
      rw [← hrb] at rg2 ⊢
      have RG2 := Lib.hid rg2
      have M22 := Lib.hid (M2.out.kept gr2 (by simp))
      have NI2 := Lib.hid (NIL.out.keep gr2 (fun k hk => by cases hk))
      have X2 := Lib.hid (ext_grown hx gr2 (fun x e => by cases e))
      have HRB := Lib.hid (show w.heap.size + 2 ≤ rb ∧ b1 + 2 ≤ rb ∧ rb < w2.heap.size from ⟨by have := HB1.out; have := HSZ.out; omega, by rw [hrb]; exact HSZ.out, by rw [sz2, hrb]; omega⟩)
      have HLF := Lib.hid hleft0
      have HM2B := Lib.hid (show ∀ kl v x, m2 kl = some v → v.ownBlock = some x → x < rb from fun kl v x hm hx => by rw [hrb]; exact NIL.out.below kl v x hm hx)
      clear rg2 hrb hx gr2 sz2 M1 M2 NIL HSZ hleft0
      go_wp2_with fail
      go_loopg [8] k (fun gk vo wr => ∃ (left : Lit → Bool) (cnt : Nat) (done : List Row) (u : Value), cnt ≤ gk ∧ u = vo ∧ Hid (RangeV wr Tryz.prog 9 ShRow b1 rb k m1 left cnt) ∧ Hid (MapV wr Tryz.prog 9 ShSl (b1 + 1) k m2) ∧ Hid (NInv w wr (b1 + 2) 52 l m1 m2) ∧ Hid (DoneR m1 left done) ∧ Hid (done.length + cnt ≤ k) ∧ Hid (OwnOf Rep.tup wr (fun x => rb < x) (rb + 1) 77 u (normRaw done l)) ∧ Hid (rb < wr.heap.size) ∧ Hid (Ext w wr))
      case atStart => exact ⟨left0, cnt0, [], _, hcnt0, rfl, RG2.out, M22.out, NI2.out, DoneR.start HLF.out, by show 0 + cnt0 ≤ k; omega, OwnOf.nil _ _ _ _ _, HRB.out.2.2, X2.out⟩
      case round =>
        clear RG2 M22 NI2 X2
        obtain ⟨left, cnt, done, u, hgk, rfl, RG, M2, NI, DO, HDL, OU, HRW, HX⟩ := hrel
        have HUB := Lib.hid (show ∀ x, u.ownBlock = some x → rb + 1 ≤ x from fun x hx => (OU.out.lt x hx).1)
        have hnl : (normRaw done l).length ≤ 137438953472 := by
          have h1 := normRaw_len2 l DO.out.1
          have h2 := HDL.out
          have h3 := HN.out
          have h4 : 2 * l.length * l.length ≤ 2 * 65536 * 65536 := Nat.mul_le_mul (Nat.mul_le_mul_left _ (by omega)) (by omega)
          omega
        have HNL := Lib.hid hnl
        clear hnl
        go_wp2_with (at_next; refine wpList_next_v _ rfl _ rfl 9 Tryz.underlying9 (string_keyed Tryz.underlying9) ShRow mkRow (fun v h => h) b1 rb k m1 left cnt rfl RG.out ?_ ?_)
        · intro hc0 hl0
          have HALL := Lib.hid (DO.out.all NI.out hl0)
          clear hl0 hc0 RG M2 hgk
          go_wp2_with fail
          refine (sort_tups_call _ _ _ _ _ (normRaw done l) OU.out (by have := HNL.out; omega)).mono ?_
          rintro e w4 ⟨rfl, own4, gr4⟩
          have hfin : sortBy cmpTup (normRaw done l) = normT l := normT_of DO.out.1 HALL.out (List.Perm.refl _)
          rw [hfin] at own4
          have X4 := Lib.hid (ext_grown HX.out gr4 (fun x e => by have := HUB.out x e; have := HRB.out; omega))
          have OW := Lib.hid own4
          clear own4 gr4 hfin
          go_wp2_with fail
          go_ret
          exact ⟨u, rfl, OW.out.sliceIn (fun x _ hx => by have := HRB.out; show w.heap.size ≤ x; omega) (fun x hx => by have := HRB.out; show w.heap.size ≤ x; omega), X4.out⟩
        · intro x c w1 cnt1 hkey hlk hmp hS hrg hlt hg1 hs1 hen
          obtain ⟨t0, ht0, hvt0, hkl0, x', hx', hrv⟩ := NI.out.k1 _ _ hmp
          obtain ⟨r, hr⟩ : ∃ r, r = tupRow t0 := ⟨_, rfl⟩
          rw [← hr] at hkl0 hrv
          have hcx : c = x' := by
            unfold mkRow at hx'
            injection hx' with h1
            have h2 := congrArg (fun a : Array Value => a.toList) h1
            simp only [List.cons.injEq, Value.slice.injEq, and_true] at h2
            obtain ⟨cp, cn, cc, cq, cm, cd⟩ := c
            obtain ⟨xp, xn, xc, xq, xm, xd⟩ := x'
            simp only at h2
            obtain ⟨⟨rfl, rfl, rfl⟩, rfl, rfl, rfl⟩ := h2
            rfl
          subst hcx
          have hmk : (m1 (keyL r)).isSome = true := by rw [← hkl0, hmp]; rfl
          rw [hkl0] at hrg hlk hkey
          have DO2 := Lib.hid (DO.out.step hmk hlk)
          have HDL2 := Lib.hid (show (done ++ [r]).length + cnt1 ≤ k from by have := HDL.out; rw [List.length_append, List.length_singleton]; omega)
          obtain ⟨cp, cn, cc, cq, cm, cd⟩ := c
          obtain ⟨hcn, hcm, hv1, hv2⟩ := hrv
          simp only at hcn hcm hv1 hv2
          subst hcn hcm
          have HV1 := Lib.hid hv1
          have HV2 := Lib.hid hv2
          have HFR := Lib.hid (show fitVals r.vals ∧ r.lin.length ≤ 1048576 from by rw [hr]; exact HF.out.2 t0 ht0)
          have HKX := Lib.hid (show x.data.toList = keyRow r from by have h := hkl0; unfold keyL at h; exact Lit.string.inj h)
          have hrw : ∀ y, (some rb : Option Nat) = some y → y = rb := fun y e => (Option.some.inj e).symm
          have RG1 := Lib.hid hrg
          have M21 := Lib.hid (M2.out.kept hg1 (by have := HRB.out; simp; omega))
          have NI1 := Lib.hid (NI.out.keep2 hg1 (fun kl v y hm hy e => by have := hrw y e; have := HM2B.out kl v y hm hy; omega))
          have OU1 := Lib.hid (own_grown OU.out hg1 (fun y hy e => by have := hrw y e; omega) (fun y hy e => by have := hrw y e; have := HUB.out y hy; omega))
          have X1 := Lib.hid (ext_grown HX.out hg1 (fun y e => by have := hrw y e; have := HRB.out; omega))
          have HRW1 := Lib.hid (show rb < w1.heap.size from by rw [hs1]; exact HRW.out)
          have HCN := Lib.hid (show cnt1 < cnt from hlt)
          clear hmp hS hx' hkl0 hr ht0 hvt0 hmk hlk hrg hg1 hs1 hv1 hv2 RG M2 NI DO HDL OU HRW HX hrw hlt
          unfold mkRow at hen ⊢
          dsimp only at hen ⊢
          have HKEY := Lib.hid hkey
          clear hkey
          go_wp2_with (at_lookup; refine wpList_lookup_v _ rfl _ _ 110 rfl 9 112 (string_keyed Tryz.underlying9) Tryz.underlying110 (.slice none 0 0) (zero_slP _) ShSl ⟨_, _, _, rfl⟩ (b1 + 1) k m2 rfl (M21.out.ext ((Ext.refl w1).alloc _)) _ (keyL r) rfl HKEY.out ?_)
          intro vp HVP hsp
          have own4 := (NI1.out.ext ((Ext.refl w1).alloc (.cells #[.slice cp r.vals.length cc, .slice cq r.lin.length cd] 42))).own r
          rw [← HVP.out] at own4
          obtain ⟨p9, n9, c9, rfl⟩ := hsp
          have S4 := Lib.hid own4.slice
          have hpl := persOf_len r l
          have HPL := Lib.hid (show (persOf r l).length ≤ 65536 from by have := HN.out; omega)
          clear own4 hpl HVP hen
          go_wp2_with fail
          refine (levels_any _ (persOf r l) _ S4.out (persOf_valid r l) (by have := HPL.out; omega)).mono ?_
          rintro e w3 ⟨v3, rfl, own3, x3⟩
          have a0 : w3.cell? ⟨w1.heap.size, 0, none⟩ = some (.slice cp r.vals.length cc) := x3.at (by go_simp)
          have a1 : w3.cell? ⟨w1.heap.size, 1, none⟩ = some (.slice cq r.lin.length cd) := x3.at (by go_simp)
          have X13 : Ext w1 w3 := ((Ext.refl w1).alloc _).trans x3
          have RG3 := Lib.hid (RG1.out.ext X13)
          have M23 := Lib.hid (M21.out.ext X13)
          have NI3 := Lib.hid (NI1.out.ext X13)
          have OU3 := Lib.hid (OU1.out.ext X13)
          have X3 := Lib.hid (X1.out.trans X13)
          have OL3 := Lib.hid own3
          have FR3 := Lib.hid (show SliceOf Rep.per (on w3 (fun x => w1.heap.size + 1 ≤ x)) v3 (levels (persOf r l)) from by have h := own3.fresh flat_per; rw [show (w1.alloc (.cells #[.slice cp r.vals.length cc, .slice cq r.lin.length cd] 42)).heap.size = w1.heap.size + 1 by simp] at h; exact h)
          have HB3 := Lib.hid (show rb < w1.heap.size ∧ w1.heap.size < w3.heap.size ∧ (∀ x, u.ownBlock = some x → x < w1.heap.size) ∧ ∀ x, v3.ownBlock = some x → w1.heap.size < x from ⟨HRW1.out, cell_lt a0, fun x hx => (OU1.out.lt x hx).2, fun x hx => by have := (own3.lt x hx).1; simp at this; omega⟩)
          generalize w1.heap.size = B10 at a0 a1 HB3 FR3 ⊢
          have HLL := Lib.hid (levels_len (persOf r l))
          obtain ⟨pl3, cl3, rfl, hpl3⟩ := own3.shapeL
          obtain ⟨lv, hlv⟩ : ∃ x, x = levels (persOf r l) := ⟨_, rfl⟩
          have hlvn : lv.length ≤ 8589934592 := by
            rw [hlv]
            have h1 := HLL.out
            have h2 : (persOf r l).length * (2 * (persOf r l).length) ≤ 65536 * (2 * 65536) := Nat.mul_le_mul HPL.out (Nat.mul_le_mul_left _ HPL.out)
            omega
          rw [← hlv] at OL3 hpl3 HB3 FR3 ⊢
          have HLV := Lib.hid hlv
          obtain ⟨M, hM⟩ : ∃ M, M = lv.length := ⟨_, rfl⟩
          rw [← hM] at OL3 hlvn HB3 FR3 ⊢
          have HM := Lib.hid hM
          have HPL3 := Lib.hid hpl3
          obtain ⟨nr, hnr⟩ : ∃ x, x = normRaw done l := ⟨_, rfl⟩
          rw [← hnr] at OU3
          have HNR := Lib.hid hnr
          have HNL2 := Lib.hid (show nr.length ≤ 137438953472 from by rw [hnr]; exact HNL.out)
          have e3 := cell_lt a0
          clear own3 x3 X13 hlv hM hpl3 hnr RG1 M21 NI1 OU1 X1 HRW1 S4 HUB
          go_wp2_with fail
          go_loopg [8, 52] M (fun gk vo vi wr => ∃ (j : Nat) (u : Value), j ≤ M ∧ gk = M - j ∧ vi = .int .i64 j ∧ u = vo ∧ Hid (RangeV wr Tryz.prog 9 ShRow b1 rb k m1 (fun z => left z && !z.sameKey (keyL r)) cnt1) ∧ Hid (MapV wr Tryz.prog 9 ShSl (b1 + 1) k m2) ∧ Hid (NInv w wr (b1 + 2) 52 l m1 m2) ∧ Hid (OwnOf Rep.tup wr (fun x => rb < x) (rb + 1) 77 u (nr ++ (lv.take j).map (tupOf r))) ∧ Hid (SliceOf Rep.per (on wr (fun x => u.ownBlock ≠ some x)) (.slice pl3 M cl3) lv) ∧ Hid (∀ x, u.ownBlock = some x → x ≠ B10) ∧ wr.cell? ⟨B10, 0, none⟩ = some (.slice cp r.vals.length cc) ∧ wr.cell? ⟨B10, 1, none⟩ = some (.slice cq r.lin.length cd) ∧ Hid (Ext w wr))
          case atStart =>
            have hu := HB3.out.2.2.1
            refine ⟨0, u, by omega, rfl, rfl, rfl, RG3.out, M23.out, NI3.out, by rw [List.take_zero]; show OwnOf Rep.tup _ _ _ _ _ (nr ++ []); rw [List.append_nil]; exact OU3.out, FR3.out.ext (on_mono w3 fun x _ hx e => ?_), fun x hx e => by have := hu x hx; omega, a0, a1, X3.out⟩
            have := hu x e
            omega
          case round =>
            clear RG3 M23 NI3 OU3 OL3 FR3 X3 a0 a1 e3
            have HUB3 := Lib.hid HB3.out.1
            clear HB3
            obtain ⟨j, u, hj, rfl, rfl, rfl, RG, M2, NI, OU, SL, HUX, a0, a1, HX⟩ := hrel
            by_cases hlt3 : j < M
            · have hjl : j < lv.length := by have := HM.out; omega
              have hdj : decide ((j : Int) < (M : Int)) = true := by simp; omega
              obtain ⟨gl, rfl⟩ := HPL3.out (by omega)
              obtain ⟨b0, b1', q0, q1⟩ := per_at SL.out j hjl
              replace b0 := (on_some.1 b0).2
              replace b1' := (on_some.1 b1').2
              simp only [Nat.zero_add] at b0 b1'
              have hst : nr ++ (lv.take (j + 1)).map (tupOf r) = (nr ++ (lv.take j).map (tupOf r)) ++ [tupOf r lv[j]] := by rw [List.take_succ_eq_append_getElem hjl, List.map_append, ← List.append_assoc]; rfl
              obtain ⟨ys, hys⟩ : ∃ x, x = nr ++ (lv.take j).map (tupOf r) := ⟨_, rfl⟩
              rw [← hys] at OU hst
              have hyl : ys.length ≤ 274877906944 := by rw [hys, List.length_append, List.length_map]; have := HNL2.out; have := List.length_take_le j lv; omega
              obtain ⟨⟨f, t⟩, hpj⟩ : ∃ x, x = lv[j] := ⟨_, rfl⟩
              rw [← hpj] at b0 b1' q0 q1 hst
              dsimp only at b0 b1' q0 q1
              have HST := Lib.hid hst
              have HQ := Lib.hid (show okI f ∧ okI t from ⟨q0, q1⟩)
              have e3 := cell_lt a0
              have e4 := cell_lt b0
              have B1 : ys.length + 1 ≤ maxLen := by unfold maxLen; omega
              have B2 : (ys.length + 1) * 64 ≤ 140737488355328 := by omega
              have HUL := Lib.hid (show ∀ x, u.ownBlock = some x → rb + 1 ≤ x ∧ x < wr.heap.size from fun x hx => OU.out.lt x hx)
              have HRBW := Lib.hid (show rb < wr.heap.size from by have := HUB3.out; omega)
              clear hst hys hyl hpj q0 q1 hjl
              go_wp2_with fail
              refine (during_any _ _ r f t _ (HV1.out.ext ((HX.out.alloc _)).full) (HV2.out.ext ((HX.out.alloc _)).full) HFR.out.1.1 HFR.out.2).mono ?_
              rintro e w4 ⟨da, db, rfl, sa, sb, x4⟩
              obtain ⟨pa4, ka4, rfl, _⟩ := sa.form
              obtain ⟨pb4, kb4, rfl, _⟩ := sb.form
              have SA := Lib.hid sa
              have SB := Lib.hid sb
              have X4 := Lib.hid (show Ext wr w4 from ((Ext.refl wr).alloc _).trans x4)
              have HS4 := Lib.hid (show wr.heap.size ≤ w4.heap.size from X4.out.size)
              clear sa sb x4 b0 b1' e3 e4
              go_wp2_with (at_builtin; refine wpList_append_one Rep.tup (fun x => rb < x) rfl _ _ 22 rfl (rb + 1) 77 i2 _ 64 Tryz.underlying22 hi2 hz20 hz21 hz22 rfl (by decide) u ys rfl (OU.out.ext (X4.out.alloc _)) ⟨w4.heap.size, 0, none⟩ 1 (tupOf r ⟨f, t⟩) [.slice pa4 r.vals.length ka4, .int .i64 f, .int .i64 t, .slice pb4 r.lin.length kb4] rfl (by
                have hsub : ∀ (o : Obj), Sub (on w4 (since (wr.alloc (.cells #[.int .i64 f, .int .i64 t] 52)))) (on (w4.alloc o) (avoid (fun x => rb < x) u)) := fun o => (on_mono w4 fun x _ hx => ⟨fun e => by have := (HUL.out x e.symm).2; simp [since] at hx; omega, by have := HRBW.out; simp [since] at hx; omega⟩).trans (((Ext.refl w4).alloc o).sub _)
                exact ⟨_, _, rfl, SA.out.ext (hsub _), SB.out.ext (hsub _), HQ.out.1, HQ.out.2⟩) (by exact cells_new w4 [.slice pa4 r.vals.length ka4, .int .i64 f, .int .i64 t, .slice pb4 r.lin.length kb4] _) B1 B2 (by have h1 := ((Ext.refl w4).alloc (.cells #[.slice pa4 r.vals.length ka4, .int .i64 f, .int .i64 t, .slice pb4 r.lin.length kb4] 77)).size; have := HS4.out; have := HRBW.out; exact Nat.le_trans (by omega) h1) ?_)
              intro g5 cap5 w5 own5 gr5 hg5
              have X4a := X4.out.alloc (.cells #[.slice pa4 r.vals.length ka4, .int .i64 f, .int .i64 t, .slice pb4 r.lin.length kb4] 77)
              have hub : ∀ x, u.ownBlock = some x → rb < x := fun x hx => by have := (HUL.out x hx).1; omega
              have hg5' : u.ownBlock = some g5 ∨ g5 = (w4.alloc (.cells #[.slice pa4 r.vals.length ka4, .int .i64 f, .int .i64 t, .slice pb4 r.lin.length kb4] 77)).heap.size := by rcases hg5 with h | h; exact .inl h; exact .inr (by rw [h]; simp)
              have RG5 := Lib.hid ((RG.out.ext X4a).kept gr5 (fun e => by have := hub _ e.symm; have := HRB.out; omega) (fun e => by have := hub _ e.symm; omega))
              have M25 := Lib.hid ((M2.out.ext X4a).kept gr5 (fun e => by have := hub _ e.symm; have := HRB.out; omega))
              have NI5 := Lib.hid ((NI.out.ext X4a).keep2 gr5 (fun kl v x hm hx e => by have := hub x e; have := HM2B.out kl v x hm hx; omega))
              have SL5 := Lib.hid ((SL.out.ext (X4a.sub _)).ext (off_grow (a := ys.length + 1) (b := cap5) gr5 hg5'))
              have HUX5 := Lib.hid (show ∀ x, (Value.slice (some ⟨g5, 0, none⟩) (ys.length + 1) cap5).ownBlock = some x → x ≠ B10 from fun x hx e => by
                have hx' : g5 = x := Option.some.inj hx
                rcases hg5' with h | h
                · exact HUX.out _ (by rw [← hx']; exact h) e
                · have h1 := cell_lt (X4a.at a0); omega)
              have A0 := cell_grown gr5 (X4a.at a0) (fun x hx => HUX.out x hx)
              have A1 := cell_grown gr5 (X4a.at a1) (fun x hx => HUX.out x hx)
              have HX5 := Lib.hid (ext_grown (HX.out.trans X4a) gr5 (fun x hx => by have := hub x hx; have := HRB.out; omega))
              have OU5 := Lib.hid (show OwnOf Rep.tup w5 (fun x => rb < x) (rb + 1) 77 (.slice (some ⟨g5, 0, none⟩) (ys.length + 1) cap5) (nr ++ (lv.take (j + 1)).map (tupOf r)) from by rw [HST.out]; exact own5)
              clear own5 gr5 hg5 hg5' X4a hub RG M2 NI OU SL HUX a0 a1 HX SA SB X4 HUL
              go_wp2_with fail
              go_roundg (M - (j + 1))
              case measure => omega
              case rel => exact ⟨j + 1, _, by omega, rfl, by go_num, rfl, RG5.out, M25.out, NI5.out, OU5.out, SL5.out, HUX5.out, A0, A1, HX5.out⟩
            · have hjM : j = M := by omega
              have hdj : ¬ (j : Int) < (M : Int) := by omega
              have OUF := Lib.hid (show OwnOf Rep.tup wr (fun x => rb < x) (rb + 1) 77 u (normRaw (done ++ [r]) l) from by
                have h := OU.out
                rw [hjM, HM.out, List.take_length, HNR.out, HLV.out, ← normRaw_snoc] at h
                exact h)
              have HRBW := Lib.hid (show rb < wr.heap.size from by have := HUB3.out; have := cell_lt a0; omega)
              clear hjM OU
              go_wp2_with fail
              go_roundg (cnt1)
              case measure => have := HCN.out; omega
              case rel => exact ⟨_, cnt1, done ++ [r], u, Nat.le_refl _, rfl, RG.out, M2.out, NI.out, DO2.out, HDL2.out, OUF.out, HRBW.out, HX.out⟩

end Go.Proofs.YtdgpbpbjlnlijaaGreatDoor

/- rows of one's own, one for each index, no two in one block; no program in sight -/
namespace Go.Proofs.YtdgpbpbjlnlijaaGreatDoor
open Go.RowKit

def updF {α : Type} (f : Nat → α) (i : Nat) (v : α) : Nat → α := fun j => if j = i then v else f j
theorem updF_same {α : Type} (f : Nat → α) (i : Nat) (v : α) : updF f i v i = v := if_pos rfl
theorem updF_other {α : Type} (f : Nat → α) {i j : Nat} (v : α) (h : j ≠ i) : updF f i v j = f j := if_neg h
theorem OwnOf.set {α : Type} {R : Rep α} {w : World} {S : Nat → Prop} {base : Nat} {e : TypeId} {v : Value} {xs : List α} (h : OwnOf R w S base e v xs) {p : Addr} (u : Value) (hp : p.block < base) (hS : ¬ S p.block) : OwnOf R (w.setCell p u) S base e v xs := by
  have hb := h.base
  obtain ⟨css, h1, h2⟩ := h
  exact ⟨css, h1.ext (set_sub w p u fun hh => hS hh.2), (chg_set w p u).own h2 fun k hk e => by have := hb k hk; omega⟩
structure Fam {α : Type} (R : Rep α) (w : World) (S : Nat → Prop) (base : Nat) (e : TypeId) (n : Nat) (f : Nat → Value) (xs : Nat → List α) : Prop where
  own : ∀ i, i < n → OwnOf R w S base e (f i) (xs i)
  ap : ∀ i j, i < n → j < n → i ≠ j → Apart (f i) (f j)
section
variable {α : Type} {R : Rep α} {w w' : World} {S : Nat → Prop} {base : Nat} {e : TypeId} {n : Nat} {f : Nat → Value} {xs : Nat → List α}
theorem Fam.ext (h : Fam R w S base e n f xs) (hx : Ext w w') : Fam R w' S base e n f xs := ⟨fun i hi => (h.own i hi).ext hx, h.ap⟩
theorem Fam.keep (h : Fam R w S base e n f xs) {row : Option Nat} (gr : w.grownBy w' row) (hS : ∀ k, S k → row ≠ some k) (hv : ∀ i k, i < n → (f i).ownBlock = some k → row ≠ some k) : Fam R w' S base e n f xs :=
  ⟨fun i hi => own_grown (h.own i hi) gr hS fun k hk => hv i k hi hk, h.ap⟩
theorem Fam.set (h : Fam R w S base e n f xs) {p : Addr} (u : Value) (hp : p.block < base) (hS : ¬ S p.block) : Fam R (w.setCell p u) S base e n f xs := ⟨fun i hi => (h.own i hi).set u hp hS, h.ap⟩
theorem Fam.step (h : Fam R w S base e n f xs) {i : Nat} (hi : i < n) {g a b : Nat} {ys : List α} (own : OwnOf R w' S base e (.slice (some ⟨g, 0, none⟩) a b) ys) (gr : w.grownBy w' (f i).ownBlock) (hg : (f i).ownBlock = some g ∨ g = w.heap.size) (hS : ∀ k, S k → (f i).ownBlock ≠ some k) :
    Fam R w' S base e n (updF f i (.slice (some ⟨g, 0, none⟩) a b)) (updF xs i ys) := by
  refine ⟨fun j hj => ?_, fun j k hj hk hne => ?_⟩
  · by_cases c : j = i
    · subst c; rw [updF_same, updF_same]; exact own
    · rw [updF_other _ _ c, updF_other _ _ c]
      exact own_grown (h.own j hj) gr hS fun x hx e => h.ap j i hj hi c x hx e
  · by_cases c : j = i
    · subst c
      rw [updF_same, updF_other _ _ (fun e => hne e.symm)]
      exact ((h.ap k j hk hj (fun e => hne e.symm)).grow (fun x hx => ((h.own k hk).lt x hx).2) hg).symm
    · rw [updF_other _ _ c]
      by_cases c2 : k = i
      · subst c2
        rw [updF_same]
        exact (h.ap j k hj hk c).grow (fun x hx => ((h.own j hj).lt x hx).2) hg
      · rw [updF_other _ _ c2]; exact h.ap j k hj hk hne
end
/-- blocks that hold neither the row of rows nor one of its rows -/
def Off (f : Nat → Value) (n pb : Nat) (k : Nat) : Prop := k ≠ pb ∧ ∀ i, i < n → (f i).ownBlock ≠ some k
theorem off_step {α : Type} {R : Rep α} {w w' : World} {base : Nat} {e : TypeId} {n pb : Nat} {f : Nat → Value} {u : Value} {ys : List α} (h : OwnOf R w (Off f n pb) base e u ys) {i : Nat} (hi : i < n) {g a b : Nat} (gr : w.grownBy w' (f i).ownBlock) (hg : (f i).ownBlock = some g ∨ g = w.heap.size) (hu : Apart u (f i)) :
    OwnOf R w' (Off (updF f i (.slice (some ⟨g, 0, none⟩) a b)) n pb) base e u ys := by
  have h1 : OwnOf R w (fun k => Off f n pb k ∧ Off (updF f i (.slice (some ⟨g, 0, none⟩) a b)) n pb k) base e u ys := h.weak (fun k hk hS => ⟨hS, hS.1, fun j hj => by
    by_cases c : j = i
    · subst c
      rw [updF_same]
      intro e
      have e : g = k := Option.some.inj e
      rcases hg with h | h
      · exact hS.2 j hj (by rw [h, e])
      · omega
    · rw [updF_other _ _ c]; exact hS.2 j hj⟩) (Nat.le_refl _)
  have h2 := own_grown h1 gr (fun k hk => hk.1.2 i hi) (fun k hk e => hu k hk e)
  exact h2.weak (fun k _ hS => hS.2) (Nat.le_refl _)
end Go.Proofs.YtdgpbpbjlnlijaaGreatDoor

/- plain: the normal form depends on the timeslices alone; no program in sight -/
namespace Go.Proofs.YtdgpbpbjlnlijaaGreatDoor
open Go.RowKit

/-- the levels, point by point -/
def runL (c : Int → Nat) (l : List Int) (q : List Int × List Per) : List Int × List Per := l.foldl (fun q x => levStep (c x) x q) q
theorem levStep_same (x : Int) (q : List Int × List Per) : levStep q.1.length x q = q := by
  unfold levStep
  rw [List.take_length, Nat.sub_self, List.drop_length]
  simp
theorem levOf_run {P : List Int} (f : Nat → Nat) (c : Int → Nat) (h : ∀ i, i < P.length → f i = c P[i]!) (k : Nat) (hk : k ≤ P.length) : levOf P f k = runL c (P.take k) ([], []) := by
  induction k with
  | zero => rfl
  | succ k ih =>
    have e : runL c (P.take (k + 1)) ([], []) = levStep (c P[k]!) P[k]! (runL c (P.take k) ([], [])) := by
      unfold runL
      rw [List.take_succ_eq_append_getElem (by omega), List.foldl_append, getElem!_pos P k (by omega)]
      rfl
    rw [e, ← ih (by omega), ← h k (by omega)]
    rfl
/-- where p does not hold nothing changes -/
def Still (c : Int → Nat) (p : Int → Bool) : Nat → List Int → Prop
  | _, [] => True
  | d, x :: l => (p x = false → c x = d) ∧ Still c p (c x) l
theorem run_still (c : Int → Nat) (p : Int → Bool) : ∀ (l : List Int) (q : List Int × List Per), Still c p q.1.length l → runL c l q = runL c (l.filter p) q := by
  intro l
  induction l with
  | nil => intro q _; rfl
  | cons x l ih =>
    intro q h
    obtain ⟨h1, h2⟩ := h
    have hs : runL c (x :: l) q = runL c l (levStep (c x) x q) := rfl
    rw [hs]
    cases hp : p x with
    | true =>
      rw [List.filter_cons_of_pos hp, ih _ (by rw [levStep_len]; exact h2)]
      rfl
    | false =>
      have e := h1 hp
      rw [List.filter_cons_of_neg (by simp [hp]), e, levStep_same]
      exact ih q (by rw [← e]; exact h2)
theorem bnd_mem {l : List Tup} {t : Tup} (ht : t ∈ l) (hv : validT t = true) : t.from_ ∈ bnd l ∧ t.to_ ∈ bnd l := by
  unfold bnd
  constructor
  · exact List.mem_flatMap.2 ⟨t, ht, by rw [if_pos hv]; simp⟩
  · exact List.mem_flatMap.2 ⟨t, ht, by rw [if_pos hv]; simp⟩
theorem cnt_still (l : List Tup) {y x : Int} (hyx : y ≤ x) (h : ∀ z ∈ bnd l, z ≤ y ∨ x < z) : cntAt l y = cntAt l x := by
  unfold cntAt
  congr 1
  refine List.filter_congr fun t ht => ?_
  unfold holdsAt
  cases hv : validT t with
  | false => rfl
  | true =>
    obtain ⟨h1, h2⟩ := bnd_mem ht hv
    have h1 := h _ h1
    have h2 := h _ h2
    rw [Bool.true_and, Bool.true_and, Bool.eq_iff_iff]
    simp only [Bool.and_eq_true, decide_eq_true_eq]
    omega
theorem cnt_early (l : List Tup) {x : Int} (h : ∀ z ∈ bnd l, x < z) : cntAt l x = 0 := by
  unfold cntAt
  rw [List.length_eq_zero_iff, List.filter_eq_nil_iff]
  intro t ht hh
  unfold holdsAt at hh
  simp only [Bool.and_eq_true, decide_eq_true_eq] at hh
  have := h _ (bnd_mem ht hh.1.1).1
  omega
theorem still_on (l : List Tup) : ∀ (R : List Int) (y : Int), (∀ x ∈ R, y < x) → R.Pairwise (· < ·) → (∀ z ∈ bnd l, z ≤ y ∨ z ∈ R) → Still (cntAt l) (fun x => decide (x ∈ bnd l)) (cntAt l y) R := by
  intro R
  induction R with
  | nil => intro y _ _ _; trivial
  | cons x R ih =>
    intro y h1 h2 h3
    obtain ⟨g1, g2⟩ := List.pairwise_cons.1 h2
    refine ⟨fun hp => ?_, ih x g1 g2 fun z hz => ?_⟩
    · symm
      refine cnt_still l (by have := h1 x (by simp); omega) fun z hz => ?_
      rcases h3 z hz with c | c
      · exact .inl c
      · rcases List.mem_cons.1 c with rfl | c
        · simp [hz] at hp
        · exact .inr (g1 z c)
    · rcases h3 z hz with c | c
      · exact .inl (by have := h1 x (by simp); omega)
      · rcases List.mem_cons.1 c with rfl | c
        · exact .inl (Int.le_refl _)
        · exact .inr c
theorem still_all (l : List Tup) {R : List Int} (hR : R.Pairwise (· < ·)) (h : ∀ z ∈ bnd l, z ∈ R) : Still (cntAt l) (fun x => decide (x ∈ bnd l)) 0 R := by
  cases R with
  | nil => trivial
  | cons x R =>
    obtain ⟨g1, g2⟩ := List.pairwise_cons.1 hR
    refine ⟨fun hp => ?_, still_on l R x g1 g2 fun z hz => ?_⟩
    · refine cnt_early l fun z hz => ?_
      rcases List.mem_cons.1 (h z hz) with rfl | c
      · simp [hz] at hp
      · exact g1 z c
    · rcases List.mem_cons.1 (h z hz) with rfl | c
      · exact .inl (Int.le_refl _)
      · exact .inr c
theorem levels_over (ps : List Per) {R : List Int} (hR : R.Pairwise (· < ·)) (h : ∀ z ∈ bnd (ps.map perT), z ∈ R) : levels ps = (runL (cntAt (ps.map perT)) R ([], [])).2 := by
  obtain ⟨p1, p2, _⟩ := pts_law (ps.map perT)
  have e : R.filter (fun x => decide (x ∈ bnd (ps.map perT))) = levPts ps := by
    refine List.Perm.eq_of_pairwise (le := (· < ·)) (fun x y _ _ h1 h2 => by omega) (hR.filter _) p1 ((List.perm_ext_iff_of_nodup ((hR.filter _).imp fun h => by omega) (p1.imp fun h => by omega)).2 fun x => ?_)
    rw [p2, List.mem_filter, decide_eq_true_eq]
    exact ⟨fun hx => hx.2, fun hx => ⟨h x hx, hx⟩⟩
  rw [run_still _ _ R ([], []) (still_all _ hR h), e]
  unfold levels
  rw [levOf_run (levF ps) (cntAt (ps.map perT)) (fun i _ => rfl) _ (Nat.le_refl _), List.take_length]
theorem levels_congr {ps qs : List Per} (h : ∀ t, cntAt (ps.map perT) t = cntAt (qs.map perT) t) : levels ps = levels qs := by
  obtain ⟨p1, p2, _⟩ := pts_law (ps.map perT ++ qs.map perT)
  rw [levels_over ps p1 fun z hz => (p2 z).2 (by rw [bnd_append]; exact List.mem_append_left _ hz), levels_over qs p1 fun z hz => (p2 z).2 (by rw [bnd_append]; exact List.mem_append_right _ hz)]
  rw [show cntAt (ps.map perT) = cntAt (qs.map perT) from funext h]

section
open Classical
theorem row_mem (l : List Tup) (r : Row) : (∃ t ∈ l, validT t = true ∧ tupRow t = r) ↔ ∃ x, r ∈ sliceRows l x := by
  unfold sliceRows
  constructor
  · rintro ⟨t, h1, h2, rfl⟩
    refine ⟨t.from_, List.mem_map.2 ⟨t, List.mem_filter.2 ⟨h1, ?_⟩, rfl⟩⟩
    have hv : validB t.from_ t.to_ = true := h2
    have := validB_lt hv
    unfold holdsAt
    rw [h2, Bool.true_and]
    simp only [Bool.and_eq_true, decide_eq_true_eq]
    omega
  · rintro ⟨x, hx⟩
    obtain ⟨t, h1, h2⟩ := List.mem_map.1 hx
    obtain ⟨h3, h4⟩ := List.mem_filter.1 h1
    unfold holdsAt at h4
    simp only [Bool.and_eq_true] at h4
    exact ⟨t, h3, h4.1.1, h2⟩
theorem persOf_cnt (r : Row) (l : List Tup) (t : Int) : cntAt ((persOf r l).map perT) t = ((sliceRows l t).filter fun x => decide (x = r)).length := by
  unfold cntAt persOf sliceRows
  rw [List.filter_map, List.length_map, List.filter_map, List.length_map, List.filter_filter, List.filter_filter, List.filter_map, List.length_map, List.filter_filter]
  congr 1
  refine List.filter_congr fun x _ => ?_
  have e : holdsAt t (perT (tupPer x)) = holdsAt t x := rfl
  simp only [Function.comp, e]
  have e2 : holdsAt t x = (validT x && holdsAt t x) := by
    unfold holdsAt
    cases validT x <;> rfl
  cases h1 : holdsAt t x
  · simp
  · rw [h1, Bool.and_true] at e2
    rw [← e2]
    simp
theorem normT_congr {a b : List Tup} (h : ∀ t, (sliceRows a t).Perm (sliceRows b t)) : normT a = normT b := by
  have hr : ∀ r, r ∈ rowsOf a ↔ ∃ t ∈ b, validT t = true ∧ tupRow t = r := fun r => by
    rw [row_mem]
    have e : r ∈ rowsOf a ↔ ∃ t ∈ a, validT t = true ∧ tupRow t = r := by
      unfold rowsOf
      rw [mem_once, List.mem_map]
      constructor
      · rintro ⟨t, h1, h3⟩; exact ⟨t, (List.mem_filter.1 h1).1, (List.mem_filter.1 h1).2, h3⟩
      · rintro ⟨t, h1, h2, h3⟩; exact ⟨t, List.mem_filter.2 ⟨h1, h2⟩, h3⟩
    rw [e, row_mem]
    constructor
    · rintro ⟨x, hx⟩; exact ⟨x, (h x).mem_iff.1 hx⟩
    · rintro ⟨x, hx⟩; exact ⟨x, (h x).mem_iff.2 hx⟩
  refine normT_of (once_nodup _) hr ?_
  unfold normRaw
  refine List.Perm.of_eq (flat_congr fun r _ => ?_)
  have e : levels (persOf r a) = levels (persOf r b) := levels_congr fun t => by rw [persOf_cnt, persOf_cnt, ((h t).filter _).length_eq]
  rw [e]
theorem normT_idem (l : List Tup) : normT (normT l) = normT l := normT_congr fun t => normT_rows l t
end

end Go.Proofs.YtdgpbpbjlnlijaaGreatDoor

/- plain: the sequenced grouping; no program in sight -/
namespace Go.Proofs.YtdgpbpbjlnlijaaGreatDoor
open Go.RowKit

/-- a tuple restricted to the days -/
def clip1 (t : Tup) : Option Tup := if validT t = true ∧ max t.from_ 0 < min t.to_ 1000000 then some ⟨t.vals, max t.from_ 0, min t.to_ 1000000, t.lin⟩ else none
def clipT (l : List Tup) : List Tup := l.filterMap clip1
/-- the row of a group at t -/
def gRow (aggV : List (List Val) → List Val) (kv : List Val) (ms : List Tup) (t : Int) : Row := ⟨kv ++ aggV ((ms.filter (holdsAt t)).map Tup.vals), mergeL ((ms.filter (holdsAt t)).flatMap Tup.lin) []⟩
def dayT : Tup := ⟨[], 0, 1000000, []⟩
def gPts (always : Bool) (ms : List Tup) : List Int := if always = true then pts (dayT :: ms) else pts ms
/-- has the group a row at t? -/
def gHas (always : Bool) (ms : List Tup) (t : Int) : Bool := always || ms.any (holdsAt t)
def gUpto (aggV : List (List Val) → List Val) (always : Bool) (P : List Int) (kv : List Val) (ms : List Tup) : Nat → List Tup
  | 0 => []
  | k + 1 => gUpto aggV always P kv ms k ++ if gHas always ms P[k]! = true then [tupOf (gRow aggV kv ms P[k]!) ⟨P[k]!, P[k + 1]!⟩] else []
def gOut (aggV : List (List Val) → List Val) (always : Bool) (kv : List Val) (ms : List Tup) : List Tup := gUpto aggV always (gPts always ms) kv ms ((gPts always ms).length - 1)
theorem sliceRows_append (a b : List Tup) (t : Int) : sliceRows (a ++ b) t = sliceRows a t ++ sliceRows b t := by
  unfold sliceRows
  rw [List.filter_append, List.map_append]
theorem bnd_rng (l : List Tup) : ∀ x ∈ bnd l, 0 ≤ x ∧ x ≤ 1099511627776 := by
  intro x hx
  unfold bnd at hx
  obtain ⟨t, ht, hx⟩ := List.mem_flatMap.1 hx
  split at hx
  · rename_i hv
    have := validB_lt hv
    simp at hx
    omega
  · cases hx
section
open Classical
variable (proj : List Val → List Val) (aggV : List (List Val) → List Val) (always : Bool)
noncomputable def gMem (l : List Tup) (kv : List Val) : List Tup := (clipT l).filter fun t => decide (proj t.vals = kv)
noncomputable def gKeys (l : List Tup) : List (List Val) := if always = true then [[]] else once ((clipT l).map fun t => proj t.vals)
noncomputable def aggRaw (l : List Tup) : List Tup := (gKeys proj always l).flatMap fun kv => gOut aggV always kv (gMem proj l kv)
noncomputable def aggT (l : List Tup) : List Tup := normT (aggRaw proj aggV always l)
end

end Go.Proofs.YtdgpbpbjlnlijaaGreatDoor

/- the values that the laws build out of numbers (annalistlaw0): IntValue, Value, Vals, Period -/
namespace Go.Proofs.YtdgpbpbjlnlijaaGreatDoor
open Go.RowKit

/-- the value Null -/
def nV : Val := ⟨0, 0, ByteArray.empty⟩
def intVal (n : Int) : Val := ⟨1, n, ByteArray.empty⟩
theorem int_value (n : Int) (w : World) : Calls Tryz.prog 38 #[.int .i64 n] w fun e w' => e = .returned (valV (intVal n)) ∧ Ext w w' := by
  go_enter Tryz.func38, Tryz.ntmps38
  go_wp2_with fail
  exact bodyPost_ret (v := valV (intVal n)) (by simp [results, Tryz.results38, go_sem, valV, intVal]; rfl) rfl ⟨rfl, by first | exact ((Ext.refl w).alloc _) | exact Below.setCell (Below.setCell (Below.setCell ((Ext.refl w).alloc _) (by simp) _) (by simp) _) (by simp) _⟩

def genStr (x : Int) : ByteArray := if x % 3 = 0 then ⟨#[]⟩ else if x % 3 = 1 then ⟨#[97]⟩ else ⟨#[98, 39]⟩
def genV0 (x : Int) : Val := if x % 7 = 6 then nV else intVal (x % 3 - 1)
def genV1 (x : Int) : Val := if x % 7 = 6 then nV else ⟨2, 0, genStr x⟩

theorem value_0 (x : Int) (w : World) (h0 : 0 ≤ x) (h1 : x ≤ 65535) : Calls Tryz.prog 115 #[.int .i64 0, .int .u16 x] w fun e w' => e = .returned (valV (genV0 x)) ∧ Ext w w' := by
  by_cases h7 : x % 7 = 6
  · have hb : (x % 7 == 6) = true := by simp [h7]
    have hv : genV0 x = nV := if_pos h7
    have HV := Lib.hid hv
    clear h7 hv
    go_enter Tryz.func115, Tryz.ntmps115
    go_wp2_with fail
    exact bodyPost_ret (v := valV (genV0 x)) (by rw [HV.out]; simp [results, Tryz.results115, go_sem, valV, nV]; rfl) rfl ⟨rfl, (Ext.refl w).alloc _⟩
  · have hb : (x % 7 == 6) = false := by simp [h7]
    have hv : genV0 x = intVal (x % 3 - 1) := if_neg h7
    have HV := Lib.hid hv
    clear h7 hv
    go_enter Tryz.func115, Tryz.ntmps115
    go_wp2_with fail
    refine (int_value _ _).mono ?_
    rintro e w1 ⟨rfl, x1⟩
    have z1 := x1.size
    simp at z1
    have c0 := x1.at (p := ⟨w.heap.size, 0, none⟩) (v := .int .i64 0) (by go_simp)
    have c1 := x1.at (p := ⟨w.heap.size, 1, none⟩) (v := .int .i64 0) (by go_simp)
    have c2 := x1.at (p := ⟨w.heap.size, 2, none⟩) (v := .string ⟨#[]⟩) (by go_simp)
    have f0 := x1.unfrozen (p := ⟨w.heap.size, 0, none⟩) (v := .int .i64 0) (by go_simp) (by go_simp)
    have f1 := x1.unfrozen (p := ⟨w.heap.size, 1, none⟩) (v := .int .i64 0) (by go_simp) (by go_simp)
    have f2 := x1.unfrozen (p := ⟨w.heap.size, 2, none⟩) (v := .string ⟨#[]⟩) (by go_simp) (by go_simp)
    go_wp2_with fail
    exact bodyPost_ret (v := valV (genV0 x)) (by rw [HV.out]; simp [results, Tryz.results115, go_sem, valV, intVal, c0, c1, c2]) rfl ⟨rfl, Below.setCell (Below.setCell (Below.setCell (((Ext.refl w).alloc _).trans x1) (by simp) _) (by simp) _) (by simp) _⟩

theorem value_1 (x : Int) (w : World) (h0 : 0 ≤ x) (h1 : x ≤ 65535) : Calls Tryz.prog 115 #[.int .i64 1, .int .u16 x] w fun e w' => e = .returned (valV (genV1 x)) ∧ Ext w w' := by
  by_cases h7 : x % 7 = 6
  · have hb : (x % 7 == 6) = true := by simp [h7]
    have hv : genV1 x = nV := if_pos h7
    have HV := Lib.hid hv
    clear h7 hv
    go_enter Tryz.func115, Tryz.ntmps115
    go_wp2_with fail
    exact bodyPost_ret (v := valV (genV1 x)) (by rw [HV.out]; simp [results, Tryz.results115, go_sem, valV, nV]; rfl) rfl ⟨rfl, (Ext.refl w).alloc _⟩
  · have hb : (x % 7 == 6) = false := by simp [h7]
    have hv : genV1 x = ⟨2, 0, genStr x⟩ := if_neg h7
    have h3 : x % 3 = 0 ∨ x % 3 = 1 ∨ x % 3 = 2 := by omega
    unfold genStr at hv
    clear h7
    rcases h3 with h3 | h3 | h3
    all_goals
      rw [h3] at hv
      simp at hv
      have HV := Lib.hid hv
      clear hv
      go_enter Tryz.func115, Tryz.ntmps115
      go_wp2_with fail
      exact bodyPost_ret (v := valV (genV1 x)) (by rw [HV.out]; simp [results, Tryz.results115, go_sem, valV]) rfl ⟨rfl, by first | exact Below.setCell (Below.setCell (Below.setCell (((Ext.refl w).alloc _).alloc _) (by simp) _) (by simp) _) (by simp) _ | exact ((Ext.refl w).alloc _).alloc _⟩

def okVal (x : Val) : Prop := (-9223372036854775808 ≤ x.kind ∧ x.kind ≤ 9223372036854775807) ∧ (-9223372036854775808 ≤ x.n ∧ x.n ≤ 9223372036854775807) ∧ x.s.size ≤ maxLen
theorem ok_nV : okVal nV := ⟨by decide, by decide, by simp [nV, maxLen]⟩
theorem ok_genV0 (x : Int) : okVal (genV0 x) := by
  unfold genV0
  split
  · exact ok_nV
  · exact ⟨by simp [intVal], by simp [intVal]; omega, by simp [intVal, maxLen]⟩
theorem ok_genV1 (x : Int) : okVal (genV1 x) := by
  unfold genV1
  split
  · exact ok_nV
  · refine ⟨by simp, by simp, ?_⟩
    unfold genStr
    (repeat' split) <;> simp [maxLen, ByteArray.size]
/-- what the two values are that make a row -/
def genVals (x y : Int) : List Val := [genV0 x, genV1 y]
theorem vals_gen (x y : Int) (w : World) (h0 : 0 ≤ x) (h1 : x ≤ 65535) (h2 : 0 ≤ y) (h3 : y ≤ 65535) :
    Calls Tryz.prog 66 #[.int .u16 x, .int .u16 y] w fun e w' => ∃ v, e = .returned v ∧ SliceOf Rep.val (on w' (fun k => w.heap.size ≤ k)) v (genVals x y) ∧ Ext w w' := by
  go_enter Tryz.func66, Tryz.ntmps66
  go_wp2_with fail
  refine (value_0 x _ h0 h1).mono ?_
  rintro e w1 ⟨rfl, x1⟩
  go_wp2_with fail
  refine (value_1 y _ h2 h3).mono ?_
  rintro e w2 ⟨rfl, x2⟩
  go_wp2_with fail
  refine bodyPost_ret (v := .slice (some ⟨w2.heap.size, 0, none⟩) 2 2) (by simp [results, Tryz.results66, go_sem]) rfl ⟨_, rfl, ?_, (x1.trans x2).alloc _⟩
  refine SliceOf.flatOn flat_val (slice_lit Rep.val w2 _ 44 [[.int .i64 (genV0 x).kind, .int .i64 (genV0 x).n, .string (genV0 x).s], [.int .i64 (genV1 y).kind, .int .i64 (genV1 y).n, .string (genV1 y).s]] (genVals x y) rfl ⟨⟨rfl, ok_genV0 x⟩, ⟨rfl, ok_genV1 y⟩, trivial⟩ (by simp [genVals, maxLen])) fun ad n c h => ?_
  injection h with h _ _
  injection h with h
  rw [← h]
  exact (x1.trans x2).size

def genFrom (x : Int) : Int := x % 40
def genTo (x y : Int) : Int := if y % 11 = 0 then 1000000 else x % 40 + 1 + y % 15
theorem gen_per (x y : Int) : 0 ≤ genFrom x ∧ genFrom x < 40 ∧ genFrom x < genTo x y ∧ genTo x y ≤ 1000000 := by
  unfold genFrom genTo
  split <;> omega
theorem period_gen (x y : Int) (w : World) (h0 : 0 ≤ x) (h1 : x ≤ 65535) (h2 : 0 ≤ y) (h3 : y ≤ 65535) :
    Calls Tryz.prog 101 #[.int .u16 x, .int .u16 y] w fun e w' => e = .returned (.agg #[.int .i64 (genFrom x), .int .i64 (genTo x y)]) ∧ Ext w w' := by
  by_cases h7 : y % 11 = 0
  · have hb : (y % 11 == 0) = true := by simp [h7]
    have hv : genTo x y = 1000000 := if_pos h7
    have HV := Lib.hid hv
    clear h7 hv
    go_enter Tryz.func101, Tryz.ntmps101
    go_wp2_with fail
    exact bodyPost_ret (v := .agg #[.int .i64 (genFrom x), .int .i64 (genTo x y)]) (by rw [HV.out]; simp [results, Tryz.results101, go_sem, genFrom]) rfl ⟨rfl, ((Ext.refl w).alloc _).alloc _⟩
  · have hb : (y % 11 == 0) = false := by simp [h7]
    have hv : genTo x y = x % 40 + 1 + y % 15 := if_neg h7
    have HV := Lib.hid hv
    clear h7 hv
    go_enter Tryz.func101, Tryz.ntmps101
    go_wp2_with fail
    exact bodyPost_ret (v := .agg #[.int .i64 (genFrom x), .int .i64 (genTo x y)]) (by rw [HV.out]; simp [results, Tryz.results101, go_sem, genFrom]) rfl ⟨rfl, ((Ext.refl w).alloc _).alloc _⟩

end Go.Proofs.YtdgpbpbjlnlijaaGreatDoor
