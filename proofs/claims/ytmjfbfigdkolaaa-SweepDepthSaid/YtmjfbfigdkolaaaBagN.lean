/- bag.Diff -/
import Derived.Test.YtmjfbfigdkolaaaBagM
namespace Go.Proofs.Ytmjfbfigdkolaaa
open Go.RowKit Go.Deep

/-- the rows that go beyond b's multiplicity, in their order; pre: those that came before -/
def surpA (b : List Row) : List Row → List Row → List Row
  | _, [] => []
  | pre, r :: rest => if mult r.vals b ≤ mult r.vals pre then r :: surpA b (pre ++ [r]) rest else surpA b (pre ++ [r]) rest
theorem surpA_append (b pre x y : List Row) : surpA b pre (x ++ y) = surpA b pre x ++ surpA b (pre ++ x) y := by
  induction x generalizing pre with
  | nil => simp [surpA]
  | cons r x ih =>
    simp only [List.cons_append, surpA]
    split <;> rw [ih] <;> simp
theorem mult_append (vs : List Val) (x y : List Row) : mult vs (x ++ y) = mult vs x + mult vs y := by simp [mult, List.countP_append]
theorem mult_one {vs : List Val} {r : Row} (h : r.vals = vs) : mult vs [r] = 1 := by
  simp [mult, h, (ord_vals.eq vs vs).2 rfl]
theorem mult_zero {vs : List Val} {l : List Row} (h : ∀ p ∈ l, p.vals ≠ vs) : mult vs l = 0 := by
  unfold mult
  rw [List.countP_eq_zero]
  intro p hp
  simpa [ord_vals.eq] using h p hp
theorem surpA_run (b run pre : List Row) (v : List Val) (h : ∀ r ∈ run, r.vals = v) : surpA b pre run = run.drop (mult v b - mult v pre) := by
  induction run generalizing pre with
  | nil => simp [surpA]
  | cons r run ih =>
    have hr := h r (by simp)
    have h1 : mult v (pre ++ [r]) = mult v pre + 1 := by rw [mult_append, mult_one hr]
    simp only [surpA]
    rw [ih (pre ++ [r]) (fun s hs => h s (by simp [hs])), h1, hr]
    split
    · rw [show mult v b - mult v pre = 0 from by omega, show mult v b - (mult v pre + 1) = 0 from by omega]
      rfl
    · rw [show mult v b - mult v pre = (mult v b - (mult v pre + 1)) + 1 from by omega]
      rfl
theorem surpA_len (b pre l : List Row) : (surpA b pre l).length ≤ l.length := by
  induction l generalizing pre with
  | nil => simp [surpA]
  | cons r l ih =>
    have := ih (pre ++ [r])
    simp only [surpA]
    split <;> simp <;> omega
theorem cmpRow_vals {a b : Row} (h : cmpRow a b ≤ 0) : cmpVals a.vals b.vals ≤ 0 := by
  unfold cmpRow orI at h
  split at h
  · omega
  · exact h
/-- in a sorted list the values of a run have not stood before it -/
theorem fresh_run {l pre run rest : List Row} {v : List Val} (hs : l.Pairwise fun a b => cmpRow a b ≤ 0) (hl : l = pre ++ run ++ rest) (hne : run ≠ []) (hv : ∀ r ∈ run, r.vals = v) (hlast : ∀ p, pre.getLast? = some p → p.vals ≠ v) : mult v pre = 0 := by
  refine mult_zero fun p hp hpv => ?_
  obtain ⟨r, hr⟩ := List.exists_mem_of_ne_nil run hne
  cases hq : pre.getLast? with
  | none => rw [List.getLast?_eq_none_iff.1 hq] at hp; simp at hp
  | some q =>
    have hqm := List.mem_of_getLast? hq
    subst hl
    rw [List.pairwise_append] at hs
    obtain ⟨hs, _, _⟩ := hs
    rw [List.pairwise_append] at hs
    obtain ⟨hs1, _, hs2⟩ := hs
    have h1 := cmpRow_vals (hs2 q hqm r hr)
    have h2 : cmpVals p.vals q.vals ≤ 0 := by
      obtain ⟨pre', rfl⟩ : ∃ pre', pre = pre' ++ [q] := by
        refine ⟨pre.dropLast, ?_⟩
        have hn : pre ≠ [] := fun e => by rw [e] at hp; simp at hp
        have := List.dropLast_concat_getLast hn
        rw [List.getLast?_eq_some_getLast hn] at hq
        injection hq with hq
        rw [hq] at this
        exact this.symm
      rw [List.pairwise_append] at hs1
      rcases List.mem_append.1 hp with hp | hp
      · exact cmpRow_vals (hs1.2.2 p hp q (by simp))
      · rw [List.mem_singleton.1 hp, (ord_vals.eq _ _).2 rfl]; exact Int.le_refl _
    rw [hv r hr] at h1
    rw [hpv] at h2
    exact hlast q hq (ord_vals.le_anti _ _ h1 h2)
theorem surp_step {l b : List Row} (hs : l.Pairwise fun a b => cmpRow a b ≤ 0) {rs : List (List Row)} (hr : Runs rs) (hl : rs.flatten = l) (k : Nat) (hk : k < rs.length) :
    ∃ v, rs[k] ≠ [] ∧ (∀ r ∈ rs[k], r.vals = v) ∧ surpA b [] (rs.take (k + 1)).flatten = surpA b [] (rs.take k).flatten ++ rs[k].drop (mult v b) := by
  obtain ⟨v, h1, h2, h3⟩ := hr.at k hk
  refine ⟨v, h1, h2, ?_⟩
  have h4 : mult v (rs.take k).flatten = 0 := by
    refine fresh_run (rest := (rs.drop (k + 1)).flatten) hs ?_ h1 h2 h3
    rw [← hl, ← flatten_take rs k hk, ← List.flatten_append, List.take_append_drop]
  rw [flatten_take rs k hk, surpA_append, List.nil_append, surpA_run b rs[k] _ v h2, h4, Nat.sub_zero]

set_option maxRecDepth 100000 in
set_option maxHeartbeats 4000000 in
theorem surplus_rows (va vb : Value) (a b : List Row) (w : World) (ha : SliceOf Rep.row w.cell? va a) (hb : SliceOf Rep.row w.cell? vb b) (hf : fitRows a) :
    Calls Try.prog 47 #[va, vb] w fun e w' => ∃ v', e = .returned v' ∧ SliceOf Rep.row w'.cell? v' (surpA b [] (sortBy cmpRow a)) ∧ Ext w w' := by
  obtain ⟨i0, hi, hz0, hz1, hz2⟩ := info_parts infoRow
  have HA := Lib.hid ha
  have HB := Lib.hid hb
  have HF := Lib.hid hf
  have hf1 := hf.1
  obtain ⟨pa, ca, rfl, _⟩ := ha.form
  obtain ⟨pb, cb, rfl, _⟩ := hb.form
  clear ha hb hf
  go_enter Try.func47, Try.ntmps47
  go_wp2_with fail
  refine (sort_rows _ a _ HA.out HF.out).mono ?_
  rintro e w1 ⟨v1, rfl, s1, hx1⟩
  have hsp0 := sortBy_pair ord_row a
  have hsl := sortBy_length cmpRow a
  generalize hla : sortBy cmpRow a = l at s1 hsp0 hsl
  have S1 := Lib.hid s1
  have hsp := Lib.hid hsp0
  have HLA := Lib.hid hla
  obtain ⟨p1, q1, rfl, _⟩ := s1.form
  have hl6 : l.length ≤ 1048576 := by omega
  clear s1 hla hsp0 hsl
  go_wp2_with fail
  refine (runs_rows _ l _ (S1.out.ext (on_sub _ _)) hl6).mono ?_
  rintro e w2 ⟨v2, rs, rfl, hr, hrl, s2, hx2⟩
  have hx := hx1.trans hx2
  have A0 := Lib.hid (s2.ext (full_on w2 (fun k => k < w2.heap.size) fun k hk => hk))
  obtain ⟨p2, q2, rfl, hr1, hr2, hr3⟩ := s2.form
  have hfew := hr.few
  rw [hrl] at hfew
  have HR := Lib.hid hr
  have HL := Lib.hid hrl
  replace HB := Lib.hid (HB.out.ext hx.full)
  clear s2 hr hrl hx1 hx2 S1
  unfold maxLen at hr2
  go_wp2_with fail
  go_loopg [5, 13] rs.length (fun gk out i wr => ∃ k : Nat, k ≤ rs.length ∧ gk = rs.length - k ∧ i = .int .i64 k ∧ OwnOf Rep.row wr (fun k => k < w2.heap.size) w2.heap.size 32 out (surpA b [] (rs.take k).flatten) ∧ Below w2.heap.size w2 wr)
  case atStart => exact ⟨0, by omega, rfl, rfl, by simpa [surpA] using OwnOf.nil _ _ _ _ _, Below.refl _ _⟩
  case round =>
    obtain ⟨k, hk, rfl, rfl, hown, hbw⟩ := hrel
    by_cases hlt : k < rs.length
    · obtain ⟨ba, oa, rfl⟩ := hr3 (by decide) (by omega)
      obtain ⟨u, c1, s1⟩ := slice_at A0.out k hlt
      obtain ⟨vs, h1, h2, h3⟩ := surp_step (b := b) hsp.out HR.out HL.out k hlt
      replace c1 := (on_some.1 (below_sub hbw (fun _ h => h) _ _ c1)).2
      have hle : (rs.take (k + 1)).flatten.length ≤ l.length := by rw [← HL.out]; exact flatten_take_le rs (k + 1)
      rw [flatten_take rs k hlt, List.length_append] at hle
      have hsl2 : (surpA b [] (rs.take k).flatten).length ≤ (rs.take k).flatten.length := surpA_len _ _ _
      generalize rs[k] = run at *
      obtain ⟨pu, cu, rfl, hu1, hu2, hu3⟩ := s1.form
      have hpos := List.length_pos_iff.2 h1
      obtain ⟨bu, ou, rfl⟩ := hu3 (by decide) hpos
      obtain ⟨x1, x2, d1, _, t1, _⟩ := row_at s1 0 hpos
      rw [h2 _ (List.getElem_mem _)] at t1
      simp only [Nat.zero_mul, Nat.add_zero] at d1
      replace d1 := (on_some.1 (below_sub hbw (fun _ h => h) _ _ d1)).2
      have hsv : Sub (on w2 (fun k => k < w2.heap.size)) wr.cell? := (below_sub hbw (fun _ h => h)).trans (on_sub _ _)
      obtain ⟨px, qx, rfl, _⟩ := t1.form
      have T1 := Lib.hid (t1.ext hsv)
      have S1 := Lib.hid s1
      have H3 := Lib.hid h3
      have HO := Lib.hid hown
      have hd : decide ((k : Int) < (rs.length : Int)) = true := by simp; omega
      have hd1 : (k : Int) < (rs.length : Int) := by omega
      have hd2 : (0 : Int) < (run.length : Int) := by omega
      unfold maxLen at hu2
      clear t1 s1 h1 h2 h3 hown hsv
      go_wp2_with fail
      refine (multiplicity_rows _ _ b vs _ (HB.out.ext ((full_on w2 (fun k => k < w2.heap.size) fun k hk => hk).trans ((below_sub hbw (fun _ h => h)).trans (on_sub _ _)))) T1.out).mono ?_
      rintro e w3 ⟨rfl, hx3⟩
      have HO3 := Lib.hid (HO.out.ext hx3)
      have hbw3 := Below.trans hbw (hx3.mono hbw.size)
      clear c1 d1 hx3 HO T1 hbw
      generalize mult vs b = m at H3
      by_cases hml : run.length ≤ m
      · have hmi : min (m : Int) (run.length : Int) = (run.length : Int) := by omega
        have hdn : run.drop m = [] := List.drop_eq_nil_of_le hml
        have HDN := Lib.hid hdn
        clear hdn
        by_cases hcu : run.length = cu
        · subst hcu
          have hb1 : (0 : Int) ≤ (run.length : Int) := by omega
          have hb2 : (run.length : Int) ≤ (run.length : Int) := by omega
          have hs3 : SliceOf Rep.row (on w2 (fun k => k < w2.heap.size)) (.slice (some ⟨bu, ou, none⟩) 0 0) (run.drop m) := by
            rw [HDN.out]; exact ⟨[], trivial, .inr ⟨_, 0, rfl, Nat.le_refl _, by simp [maxLen], .inl rfl⟩⟩
          have S3 := Lib.hid (hs3.ext (old_avoid hbw3 HO3.out))
          have hl3 : (surpA b [] (rs.take k).flatten).length + (run.drop m).length ≤ 1048576 := by simp; omega
          have HL3 := Lib.hid hl3
          clear hs3 hl3 S1 hsl2 hle
          go_wp2_with (at_builtin; refine wpList_append_all Rep.row (fun k => k < w2.heap.size) rfl _ _ 22 rfl w2.heap.size 32 i0 _ 48 Try.underlying22 hi hz0 hz1 hz2 rfl (by decide) _ (surpA b [] (rs.take k).flatten) rfl HO3.out _ (run.drop m) rfl S3.out ?c1 ?c2 ?c3 ?_)
          case c1 => have := HL3.out; unfold maxLen; omega
          case c2 => have := HL3.out; omega
          case c3 => exact hbw3.size
          intro v' w4 hown4 hgr _
          go_wp2_with fail
          go_roundg (rs.length - (k + 1))
          case measure => omega
          case rel => exact ⟨k + 1, by omega, rfl, by go_num, by rw [H3.out]; exact hown4, Below.grown hbw3 hgr hbw3.size (fun j hj => (HO3.out.lt j hj).1)⟩
        · have hcu2 : ¬ (run.length : Int) = (cu : Int) := by omega
          have hb1 : (0 : Int) ≤ (run.length : Int) := by omega
          have hb2 : (run.length : Int) ≤ (run.length : Int) := by omega
          have hs3 : SliceOf Rep.row (on w2 (fun k => k < w2.heap.size)) (.slice (some ⟨bu, ou + run.length * 2, none⟩) 0 (cu - run.length)) (run.drop m) := by
            rw [HDN.out]; have := S1.out.dropV run.length (Nat.le_refl _); rwa [List.drop_length, Nat.sub_self] at this
          have S3 := Lib.hid (hs3.ext (old_avoid hbw3 HO3.out))
          have hl3 : (surpA b [] (rs.take k).flatten).length + (run.drop m).length ≤ 1048576 := by simp; omega
          have HL3 := Lib.hid hl3
          clear hs3 hl3 S1 hsl2 hle
          go_wp2_with (at_builtin; refine wpList_append_all Rep.row (fun k => k < w2.heap.size) rfl _ _ 22 rfl w2.heap.size 32 i0 _ 48 Try.underlying22 hi hz0 hz1 hz2 rfl (by decide) _ (surpA b [] (rs.take k).flatten) rfl HO3.out _ (run.drop m) rfl S3.out ?c1 ?c2 ?c3 ?_)
          case c1 => have := HL3.out; unfold maxLen; omega
          case c2 => have := HL3.out; omega
          case c3 => exact hbw3.size
          intro v' w4 hown4 hgr _
          go_wp2_with fail
          go_roundg (rs.length - (k + 1))
          case measure => omega
          case rel => exact ⟨k + 1, by omega, rfl, by go_num, by rw [H3.out]; exact hown4, Below.grown hbw3 hgr hbw3.size (fun j hj => (HO3.out.lt j hj).1)⟩
      · have hmi : min (m : Int) (run.length : Int) = (m : Int) := by omega
        have hcu : ¬ m = cu := by omega
        have hcu2 : ¬ (m : Int) = (cu : Int) := by omega
        have hb1 : (0 : Int) ≤ (m : Int) := by omega
        have hb2 : (m : Int) ≤ (run.length : Int) := by omega
        have hs3 : SliceOf Rep.row (on w2 (fun k => k < w2.heap.size)) (.slice (some ⟨bu, ou + m * 2, none⟩) (run.length - m) (cu - m)) (run.drop m) := by
          exact S1.out.dropV m (by omega)
        have S3 := Lib.hid (hs3.ext (old_avoid hbw3 HO3.out))
        have hl3 : (surpA b [] (rs.take k).flatten).length + (run.drop m).length ≤ 1048576 := by simp; omega
        have HL3 := Lib.hid hl3
        clear hs3 hl3 S1 hsl2 hle
        go_wp2_with (at_builtin; refine wpList_append_all Rep.row (fun k => k < w2.heap.size) rfl _ _ 22 rfl w2.heap.size 32 i0 _ 48 Try.underlying22 hi hz0 hz1 hz2 rfl (by decide) _ (surpA b [] (rs.take k).flatten) rfl HO3.out _ (run.drop m) rfl S3.out ?c1 ?c2 ?c3 ?_)
        case c1 => have := HL3.out; unfold maxLen; omega
        case c2 => have := HL3.out; omega
        case c3 => exact hbw3.size
        intro v' w4 hown4 hgr _
        go_wp2_with fail
        go_roundg (rs.length - (k + 1))
        case measure => omega
        case rel => exact ⟨k + 1, by omega, rfl, by go_num, by rw [H3.out]; exact hown4, Below.grown hbw3 hgr hbw3.size (fun j hj => (HO3.out.lt j hj).1)⟩
    · have : k = rs.length := by omega
      subst this
      rw [List.take_length, HL.out] at hown
      obtain ⟨pf, qf, rfl, _⟩ := hown.slice.form
      have HO := Lib.hid hown.slice
      clear hown
      go_wp2_with fail
      go_ret
      exact ⟨_, rfl, by rw [HLA.out]; exact HO.out, Ext.trans hx hbw⟩

theorem diff_rows (va vb : Value) (a b : List Row) (w : World) (ha : SliceOf Rep.row w.cell? va a) (hb : SliceOf Rep.row w.cell? vb b) (hf : fitRows a) (hf' : fitRows b) :
    Calls Try.prog 20 #[va, vb] w fun e w' => ∃ v' u', e = .returned (.tuple #[v', u']) ∧ SliceOf Rep.row w'.cell? v' (surpA b [] (sortBy cmpRow a)) ∧ SliceOf Rep.row w'.cell? u' (surpA a [] (sortBy cmpRow b)) ∧ Ext w w' := by
  have HA := Lib.hid ha
  have HB := Lib.hid hb
  have HF := Lib.hid hf
  have HF' := Lib.hid hf'
  obtain ⟨pa, ca, rfl, _⟩ := ha.form
  obtain ⟨pb, cb, rfl, _⟩ := hb.form
  clear ha hb hf hf'
  go_enter Try.func20, Try.ntmps20
  go_wp2_with fail
  refine (surplus_rows _ _ a b _ HA.out HB.out HF.out).mono ?_
  rintro e w1 ⟨v1, rfl, s1, hx1⟩
  have S1 := Lib.hid s1
  obtain ⟨p1, q1, rfl, _⟩ := s1.form
  clear s1
  go_wp2_with fail
  refine (surplus_rows _ _ b a _ (HB.out.ext hx1.full) (HA.out.ext hx1.full) HF'.out).mono ?_
  rintro e w2 ⟨v2, rfl, s2, hx2⟩
  have S2 := Lib.hid s2
  obtain ⟨p2, q2, rfl, _⟩ := s2.form
  clear s2
  go_wp2_with fail
  refine bodyPost_ret (v := .tuple #[.slice p1 (surpA b [] (sortBy cmpRow a)).length q1, .slice p2 (surpA a [] (sortBy cmpRow b)).length q2]) (by simp [results, Try.results20, go_sem]) rfl ⟨_, _, rfl, S1.out.ext hx2.full, S2.out, hx1.trans hx2⟩

end Go.Proofs.Ytmjfbfigdkolaaa
