/- bag.runs -/
import Derived.Test.YtmjfbfigdkolaaaBagL
import Derived.Deep.RegionLaw
import Derived.Laws.OwnMore
import Derived.OneCell
namespace Go.Proofs.Ytmjfbfigdkolaaa
open Go.RowKit Go.Deep

/-- rows in runs of equal values: each run is whole -/
inductive Runs : List (List Row) → Prop
  | nil : Runs []
  | snoc (rs : List (List Row)) (run : List Row) (v : List Val) : Runs rs → run ≠ [] → (∀ r ∈ run, r.vals = v) → (∀ p, rs.flatten.getLast? = some p → p.vals ≠ v) → Runs (rs ++ [run])
theorem Runs.at {rs : List (List Row)} (h : Runs rs) (t : Nat) (ht : t < rs.length) : ∃ v, rs[t] ≠ [] ∧ (∀ r ∈ rs[t], r.vals = v) ∧ ∀ p, (rs.take t).flatten.getLast? = some p → p.vals ≠ v := by
  induction h with
  | nil => simp at ht
  | snoc rs run v h1 h2 h3 h4 ih =>
    by_cases hlt : t < rs.length
    · obtain ⟨v', g1, g2, g3⟩ := ih hlt
      have e : (rs ++ [run])[t] = rs[t] := List.getElem_append_left hlt
      rw [e, List.take_append_of_le_length (by omega)]
      exact ⟨v', g1, g2, g3⟩
    · have : t = rs.length := by simp at ht; omega
      subst this
      have e : (rs ++ [run])[rs.length] = run := by simp
      rw [e]
      refine ⟨v, h2, h3, ?_⟩
      rw [List.take_left']
      · exact h4
      · rfl
/-- .. up to the k-th row -/
def RunsTo (l : List Row) (k : Nat) (done : List (List Row)) (cur : List Row) : Prop :=
  ∃ v, Runs done ∧ cur ≠ [] ∧ (∀ r ∈ cur, r.vals = v) ∧ (∀ p, done.flatten.getLast? = some p → p.vals ≠ v) ∧ done.flatten ++ cur = l.take k
theorem RunsTo.start (l : List Row) (h : 0 < l.length) : RunsTo l 1 [] [l[0]] :=
  ⟨l[0].vals, .nil, by simp, by simp, by simp, by rw [List.take_succ_eq_append_getElem h]; simp⟩
theorem RunsTo.last {l : List Row} {k : Nat} {done : List (List Row)} {cur : List Row} (h : RunsTo l k done cur) (hk : 0 < k) (hkl : k ≤ l.length) : (∀ r ∈ cur, r.vals = (l[k - 1]'(by omega)).vals) ∧ cur.getLast? = some (l[k - 1]'(by omega)) := by
  obtain ⟨v, h1, h2, h3, h4, h5⟩ := h
  have e : (l.take k).getLast? = some (l[k - 1]'(by omega)) := by
    rw [List.getLast?_take]
    rw [if_neg (by omega), List.getElem?_eq_getElem (by omega)]
    rfl
  have e2 : cur.getLast? = some (l[k - 1]'(by omega)) := by
    rw [← h5, List.getLast?_append] at e
    cases hc : cur.getLast? with
    | none => exact (h2 (List.getLast?_eq_none_iff.1 hc)).elim
    | some x => rw [hc] at e; simpa using e
  have e3 : (l[k - 1]'(by omega)).vals = v := h3 _ (List.mem_of_getLast? e2)
  exact ⟨by rw [e3]; exact h3, e2⟩
theorem RunsTo.same {l : List Row} {k : Nat} {done : List (List Row)} {cur : List Row} (h : RunsTo l k done cur) (hk : 0 < k) (hkl : k < l.length) (he : (l[k - 1]'(by omega)).vals = l[k].vals) : RunsTo l (k + 1) done (cur ++ [l[k]]) := by
  obtain ⟨g1, g2⟩ := h.last hk (by omega)
  obtain ⟨v, h1, h2, h3, h4, h5⟩ := h
  have hv : l[k].vals = v := by rw [← he]; exact h3 _ (List.mem_of_getLast? g2)
  refine ⟨v, h1, by simp, fun r hr => ?_, h4, ?_⟩
  · rcases List.mem_append.1 hr with hr | hr
    · exact h3 r hr
    · rw [List.mem_singleton.1 hr]; exact hv
  · rw [List.take_succ_eq_append_getElem hkl, ← List.append_assoc, h5]
theorem RunsTo.close {l : List Row} {k : Nat} {done : List (List Row)} {cur : List Row} (h : RunsTo l k done cur) : Runs (done ++ [cur]) ∧ (done ++ [cur]).flatten = l.take k := by
  obtain ⟨v, h1, h2, h3, h4, h5⟩ := h
  refine ⟨.snoc _ _ v h1 h2 h3 h4, ?_⟩
  rw [List.flatten_append]
  simpa using h5
theorem RunsTo.next {l : List Row} {k : Nat} {done : List (List Row)} {cur : List Row} (h : RunsTo l k done cur) (hk : 0 < k) (hkl : k < l.length) (he : (l[k - 1]'(by omega)).vals ≠ l[k].vals) : RunsTo l (k + 1) (done ++ [cur]) [l[k]] := by
  obtain ⟨g1, g2⟩ := h.last hk (by omega)
  obtain ⟨h1, h2⟩ := h.close
  refine ⟨l[k].vals, h1, by simp, by simp, fun p hp => ?_, ?_⟩
  · rw [List.flatten_append, List.getLast?_append] at hp
    simp only [List.flatten_cons, List.flatten_nil, List.append_nil] at hp
    rw [g2] at hp
    simp at hp
    rw [← hp]
    exact he
  · rw [List.take_succ_eq_append_getElem hkl, h2]

/-- the row of runs while its last run grows: that one's cells are the call's own too -/
structure RunsAt (w : World) (base : Nat) (e1 e2 : TypeId) (v u : Value) (done : List (List Row)) (cur : List Row) : Prop where
  us : ∃ css, RepAll (Rep.slice Rep.row) (on w (fun k => some k ≠ v.ownBlock ∧ some k ≠ u.ownBlock)) css done ∧ w.ownsRow base e1 1 v (done.length + 1) (css.flatten ++ [u])
  cur : OwnOf Rep.row w (fun k => k < base) base e2 u cur
  ne : ∀ k, u.ownBlock = some k → v.ownBlock ≠ some k
theorem vslice_own {w : World} {base : Nat} {e : TypeId} {size : Nat} {v : Value} {n : Nat} {xs : List Value} (h : w.ownsRow base e size v n xs) : VSlice (on w (fun k => v.ownBlock = some k)) v n xs := by
  rcases h.2 with ⟨hv, h0⟩ | ⟨g, cap, cur, hv, hb, hg, h1, h2, _, _⟩
  · subst h0
    exact .inl ⟨hv, rfl, List.eq_nil_of_length_eq_zero (by rw [h.1]; simp)⟩
  · refine .inr ⟨_, cap, hv, h1, h2, .inr ⟨g, 0, rfl, fun j u hj => on_some.2 ⟨by rw [hv]; rfl, ?_⟩⟩⟩
    have := h.cells (g := g) (by rw [hv]; rfl) j u hj
    rwa [add_lit] at this
theorem RunsAt.whole {w : World} {base : Nat} {e1 e2 : TypeId} {v u : Value} {done : List (List Row)} {cur : List Row} (h : RunsAt w base e1 e2 v u done cur) : OwnOf (Rep.slice Rep.row) w (fun _ => True) base e1 v (done ++ [cur]) := by
  obtain ⟨⟨css, h1, h2⟩, h3, h4⟩ := h
  obtain ⟨dss, h5, h6⟩ := h3
  refine ⟨css ++ [[u]], (h1.ext (on_mono _ fun k _ hk => ⟨hk.1, trivial⟩)).append (RepAll.one ⟨u, rfl, dss, h5.ext (on_mono _ fun k _ hk => ⟨fun he => ?_, trivial⟩), (vslice_own h6).sub (on_mono _ fun k _ hk => ⟨fun he => h4 k hk he.symm, trivial⟩)⟩), ?_⟩
  · have := (h2.lt k he.symm).1
    have := hk.2
    omega
  · rw [show (Rep.slice Rep.row).size = 1 from rfl]
    simpa using h2
section
variable {P : Program} {w : World} {ops : Array Oper} {rest : List Oper} {o : Oper} {a : Act} {Q : Exit → Act → World → Prop}
/-- 'append(out, nil)': a new run is begun -/
theorem wpList_append_run (hgd : o.guard = none) (s x : Operand) (t : TypeId)
    (ho : o.op = .call { callee := .builtin .append, args := #[s, x], argTypes := #[t, t] })
    (base : Nat) (e e2 : TypeId) (i : TypeInfo) (z : Value) (ht : P.underlying t = some (.slice e)) (hi : P.info? e = some i) (hz : i.zero = some z)
    (hsize : i.size = 1) (hby : i.bytes = 24) (hzs : z.cells.size = 1)
    (v : Value) (rs : List (List Row)) (hs : a.eval s = v) (hown : OwnOf (Rep.slice Rep.row) w (fun _ => True) base e v rs)
    (ad : Addr) (c : Nat) (hx : a.eval x = .slice (some ad) 1 c) (hnews : w.cell? (ad.add 0) = some (.slice none 0 0))
    (h63 : rs.length + 1 ≤ 1048577) (hbase : base ≤ w.heap.size)
    (h : ∀ g cap w', RunsAt w' base e e2 (.slice (some ⟨g, 0, none⟩) (rs.length + 1) cap) (.slice none 0 0) rs [] → w.grownBy w' v.ownBlock → wpList P ops Q rest (a.put o.dst (.slice (some ⟨g, 0, none⟩) (rs.length + 1) cap)) w') : wpList P ops Q (o :: rest) a w := by
  have hlt := hown.lt
  obtain ⟨css, h1, h2⟩ := hown
  refine wpList_append_lies w hgd s x t ho base e i z 1 24 ht hi hz hsize hby hzs (by decide) v rs.length css.flatten hs h2 ad 1 c [.slice none 0 0] hx (by simp) (fun j u hj => ?_) (fun u hu => ?_) (by omega) (by unfold maxLen; omega) (by omega) hbase w.heap.size rfl
    fun g cap w' g1 g2 g3 _ => h g cap w' ⟨⟨css, h1.ext ?_, g1⟩, OwnOf.nil _ _ _ _ _, fun k hk => by cases hk⟩ g2
  · cases j with
    | zero => simp at hj; rw [← hj]; exact hnews
    | succ j => simp at hj
  · rw [List.mem_singleton.1 hu]; rfl
  · intro p u e
    obtain ⟨e1, e2⟩ := on_some.1 e
    have hp := World.block_lt_of_cell? w p e2
    refine on_some.2 ⟨⟨fun he => ?_, fun he => by cases he⟩, g2.cell e2 e1.1⟩
    injection he with he
    simp only at he
    rcases g3 with g3 | g3
    · exact e1.1 (by rw [g3, he])
    · omega
theorem step_append_one {α : Type} {K : Act → World → Prop} {E : Prop} (R : Rep α) (S : Nat → Prop) (hgd : o.guard = none) (s x : Operand) (t : TypeId)
    (ho : o.op = .call { callee := .builtin .append, args := #[s, x], argTypes := #[t, t] })
    (base : Nat) (e : TypeId) (i : TypeInfo) (z : Value) (bytes : Nat) (ht : P.underlying t = some (.slice e)) (hi : P.info? e = some i) (hz : i.zero = some z)
    (hsize : i.size = R.size) (hby : i.bytes = bytes) (hzs : z.cells.size = R.size) (hsz : 0 < R.size)
    (v : Value) (xs : List α) (hs : a.eval s = v) (hown : OwnOf R w S base e v xs)
    (ad : Addr) (c : Nat) (y : α) (news : List Value) (hx : a.eval x = .slice (some ad) 1 c) (hy : R.holds (on w (avoid S v)) news y) (hnews : ∀ j u, news[j]? = some u → w.cell? (ad.add j) = some u)
    (h63 : xs.length + 1 ≤ maxLen) (hbytes : (xs.length + 1) * bytes ≤ 140737488355328) (hbase : base ≤ w.heap.size)
    (h : ∀ g cap w', OwnOf R w' S base e (.slice (some ⟨g, 0, none⟩) (xs.length + 1) cap) (xs ++ [y]) → w.grownBy w' v.ownBlock → (v.ownBlock = some g ∨ g = w.heap.size) → K (a.put o.dst (.slice (some ⟨g, 0, none⟩) (xs.length + 1) cap)) w') :
    if Region.wanted o (yielded ops a.tmps) = true then Oper.wp P o a w K Q else E := by
  obtain ⟨css, h1, h2⟩ := hown
  exact step_append_lies w hgd s x t ho base e i z R.size bytes ht hi hz hsize hby hzs hsz v xs.length css.flatten hs h2 ad 1 c news hx (by rw [R.len hy, Nat.one_mul]) hnews (R.one hy) (by omega) h63 hbytes hbase w.heap.size rfl
    fun g cap w' g1 g2 g3 _ => h g cap w' (OwnOf.push h1 hy g1 g2 g3) g2 g3
end
/-- behind the append to the last run and the store -/
theorem RunsAt.push {w w3 : World} {base : Nat} {e1 e2 : TypeId} {u u' : Value} {g cap : Nat} {done : List (List Row)} {cur cur' : List Row} (h : RunsAt w base e1 e2 (.slice (some ⟨g, 0, none⟩) (done.length + 1) cap) u done cur) (hown : OwnOf Rep.row w3 (fun k => k < base) base e2 u' cur') (hg : w.grownBy w3 u.ownBlock) (hat : u'.ownBlock = u.ownBlock ∨ u'.ownBlock = some w.heap.size) :
    RunsAt (w3.setCell ⟨g, done.length, none⟩ u') base e1 e2 (.slice (some ⟨g, 0, none⟩) (done.length + 1) cap) u' done cur' := by
  obtain ⟨⟨css, h1, h2⟩, h3, h4⟩ := h
  have hgl := h2.lt g rfl
  have hgu : some g ≠ u'.ownBlock := fun e => by
    rcases hat with hat | hat
    · exact h4 g (by rw [← hat, ← e]) rfl
    · rw [hat] at e; injection e with e; omega
  have hgu0 : some g ≠ u.ownBlock := fun e => h4 g e.symm rfl
  have hlen : css.flatten.length = done.length := by rw [h1.flat]; simp [Rep.slice]
  have h5 := ((h2.kept hg (.inr fun e => hgu0 (by rw [← e]; rfl))).stored done.length u').1
  refine ⟨⟨css, h1.ext ?_, by rw [List.set_append, if_neg (by omega), hlen, Nat.sub_self] at h5; exact h5⟩, ?_, fun k hk he => hgu (by rw [hk]; exact he)⟩
  · intro p x e
    obtain ⟨⟨e1, e2⟩, e3⟩ := on_some.1 e
    have hp := World.block_lt_of_cell? w p e3
    refine on_some.2 ⟨⟨e1, fun he => ?_⟩, cell_set (hg.cell e3 e2) fun e => e1 (by rw [← e]; rfl)⟩
    rcases hat with hat | hat
    · exact e2 (by rw [he, hat])
    · rw [hat] at he; injection he with he; omega
  · obtain ⟨dss, h6, h7⟩ := hown
    refine ⟨dss, h6.ext (set_sub _ _ _ fun hh => ?_), ownsRow_setCell_other h7 (fun e => hgu e.symm) u'⟩
    have := hh.2
    simp at this
    omega

theorem infoRows : (Try.prog.info? 22).map (fun i => (i.zero, i.size, i.bytes)) = some (some (.slice none 0 0), 1, 24) := by kernel_rfl

theorem grown_cell {w w' : World} {row : Option Nat} {p : Addr} {v : Value} (hg : w.grownBy w' row) (h : w.cell? p = some v) (hf : w.frozen? p = false) (hne : some p.block ≠ row) : w'.cell? p = some v ∧ w'.frozen? p = false :=
  ⟨hg.cell h hne, (World.frozen?_of_block (hg.block _ (World.block_lt_of_cell? w p h) hne)).trans hf⟩
theorem RunsAt.ext {w w' : World} {base : Nat} {e1 e2 : TypeId} {v u : Value} {done : List (List Row)} {cur : List Row} (h : RunsAt w base e1 e2 v u done cur) (hx : Ext w w') : RunsAt w' base e1 e2 v u done cur := by
  obtain ⟨⟨css, h1, h2⟩, h3, h4⟩ := h
  exact ⟨⟨css, h1.ext (hx.sub _), own_ext h2 hx⟩, h3.ext hx, h4⟩
theorem RunsAt.lit {w : World} {base : Nat} {e1 e2 : TypeId} {g n cap : Nat} {u : Value} {done : List (List Row)} {cur : List Row} (h : RunsAt w base e1 e2 (.slice (some ⟨g, 0, none⟩) n cap) u done cur) :
    base ≤ g ∧ g < w.heap.size ∧ w.cell? ⟨g, done.length, none⟩ = some u ∧ w.frozen? ⟨g, done.length, none⟩ = false ∧ some g ≠ u.ownBlock ∧ ∀ k, u.ownBlock = some k → base ≤ k ∧ k < w.heap.size := by
  obtain ⟨⟨css, h1, h2⟩, h3, h4⟩ := h
  have hn : n = done.length + 1 := by
    rcases h2.2 with ⟨e, _⟩ | ⟨_, _, _, e, _⟩
    · cases e
    · injection e
  subst hn
  have hl := h2.lt g rfl
  have hlen : css.flatten.length = done.length := by rw [h1.flat]; simp [Rep.slice]
  refine ⟨hl.1, hl.2, ?_, h2.frozenAt _, fun e => h4 g e.symm rfl, h3.lt⟩
  rw [h2.cellAt _ (by omega), List.getElem?_append_right (by omega), hlen, Nat.sub_self]
  rfl
theorem RunsAt.form {w : World} {base : Nat} {e1 e2 : TypeId} {v u : Value} {done : List (List Row)} {cur : List Row} (h : RunsAt w base e1 e2 v u done cur) :
    (∃ g cap, v = .slice (some ⟨g, 0, none⟩) (done.length + 1) cap) ∧ ∃ a cap, u = .slice a cur.length cap := by
  obtain ⟨⟨css, h1, h2⟩, h3, h4⟩ := h
  obtain ⟨g, cap, e, _⟩ := own_cells h2 (by omega)
  obtain ⟨a, c, e2, _⟩ := h3.slice.form
  exact ⟨⟨g, cap, e⟩, a, c, e2⟩
theorem Runs.few {rs : List (List Row)} (h : Runs rs) : rs.length ≤ rs.flatten.length := by
  induction h with
  | nil => simp
  | snoc rs run v h1 h2 h3 h4 ih =>
    have := List.length_pos_iff.2 h2
    simp at ih ⊢
    omega
theorem RunsTo.lens {l : List Row} {k : Nat} {done : List (List Row)} {cur : List Row} (h : RunsTo l k done cur) (hk : k ≤ l.length) : done.length + cur.length ≤ k := by
  obtain ⟨v, h1, _, _, _, h5⟩ := h
  have := h1.few
  have h6 : (done.flatten ++ cur).length = k := by rw [h5]; simp; omega
  rw [List.length_append] at h6
  omega

set_option maxRecDepth 100000 in
set_option maxHeartbeats 4000000 in
theorem runs_rows (v : Value) (l : List Row) (w : World) (hv : SliceOf Rep.row w.cell? v l) (hf : l.length ≤ 1048576) :
    Calls Try.prog 81 #[v] w fun e w' => ∃ v' rs, e = .returned v' ∧ Runs rs ∧ rs.flatten = l ∧ SliceOf (Rep.slice Rep.row) w'.cell? v' rs ∧ Ext w w' := by
  obtain ⟨i0, hi, hz0, hz1, hz2⟩ := info_parts infoRow
  obtain ⟨i1, hi1, hy0, hy1, hy2⟩ := info_parts infoRows
  obtain ⟨pa, ca, rfl, ha1, ha2, ha3⟩ := hv.form
  have A0 := Lib.hid (hv.ext (full_on w (fun k => k < w.heap.size) fun k hk => hk))
  unfold maxLen at ha2
  clear hv
  go_enter Try.func81, Try.ntmps81
  go_wp2_with fail
  go_loopg [3, 8] l.length (fun gk out i wr => ∃ k : Nat, k ≤ l.length ∧ gk = l.length - k ∧ i = .int .i64 k ∧ ((k = 0 ∧ out = .slice none 0 0) ∨ ∃ u done cur, RunsAt wr w.heap.size 22 32 out u done cur ∧ RunsTo l k done cur) ∧ Below w.heap.size w wr)
  case atStart => exact ⟨0, by omega, rfl, rfl, .inl ⟨rfl, rfl⟩, Below.refl _ _⟩
  case round =>
    obtain ⟨k, hk, rfl, rfl, hst, hbw⟩ := hrel
    by_cases hlt : k < l.length
    · obtain ⟨ba, oa, rfl⟩ := ha3 (by decide) (by omega)
      by_cases hk0 : k = 0
      · subst hk0
        obtain ⟨_, rfl⟩ | hst := hst
        · obtain ⟨u1, u2, c1, c2, s1, s2⟩ := row_at A0.out 0 hlt
          replace c1 := (on_some.1 (below_sub hbw (fun _ h => h) _ _ c1)).2
          replace c2 := (on_some.1 (below_sub hbw (fun _ h => h) _ _ c2)).2
          simp only [Nat.zero_mul, Nat.add_zero] at c1 c2
          have hto := RunsTo.start l (by omega)
          generalize hxe : l[0] = x at s1 s2 hto
          have S1 := Lib.hid s1
          have S2 := Lib.hid s2
          obtain ⟨p1, q1, rfl, _⟩ := s1.form
          obtain ⟨p2, q2, rfl, _⟩ := s2.form
          have e1 := cell_lt c1
          have hd : decide ((0 : Int) < (l.length : Int)) = true := by simp; omega
          have hd1 : (0 : Int) < (l.length : Int) := by omega
          clear s1 s2
          clear hxe
          have HTO0 := Lib.hid hto
          clear hto
          go_wp2_with fail
          have d1 : (wr.alloc (.cells #[.slice p1 x.vals.length q1, .slice p2 x.lin.length q2] 32)).cell? ⟨wr.heap.size, 0, none⟩ = some (.slice p1 x.vals.length q1) := by go_simp
          have d2 : (wr.alloc (.cells #[.slice p1 x.vals.length q1, .slice p2 x.lin.length q2] 32)).cell? ⟨wr.heap.size, 1, none⟩ = some (.slice p2 x.lin.length q2) := by go_simp
          have hxa := (Gro.refl wr).alloc (.cells #[.slice p1 x.vals.length q1, .slice p2 x.lin.length q2] 32)
          generalize wr.alloc (.cells #[.slice p1 x.vals.length q1, .slice p2 x.lin.length q2] 32) = wa at d1 d2 hxa ⊢
          obtain ⟨rs, HTO, HOW0, hrs⟩ : ∃ rs : List (List Row), RowKit.Hid (RunsTo l (0 + 1) rs [x]) ∧ RowKit.Hid (OwnOf (Rep.slice Rep.row) wa (fun _ => True) w.heap.size 22 (.slice none 0 0) rs) ∧ rs.length ≤ 1048576 := ⟨[], HTO0, Lib.hid (OwnOf.nil _ _ _ _ _), by simp⟩
          clear HTO0
          go_quiet (fail)
          have hfin := (Gro.refl wa).drewN nq
          replace d1 := hfin.at d1
          replace d2 := hfin.at d2
          have hb5 := Below.trans hbw ((hxa.trans hfin).ext.mono hbw.size)
          have HOW1 := Lib.hid (HOW0.out.ext hfin.ext)
          clear c1 c2 e1 hfin HOW0
          have HOW := Lib.hid (HOW1.out)
          have hrl : rs.length + 1 ≤ 1048577 := by have := hrs; omega
          go_wp2_with (at_builtin; refine wpList_append_run rfl _ _ 117 rfl w.heap.size 22 32 i1 _ Try.underlying117 hi1 hy0 hy1 hy2 rfl _ (rs) rfl (HOW.out.ext ((Ext.refl _).alloc _)) ⟨_, 0, none⟩ 1 rfl ?c1 hrl ?c2 ?_)
          case c1 => exact cells_new _ [.slice none 0 0] _ 0 _ rfl
          case c2 => have := hb5.size; (try simp at this); simp; omega
          intro g cap w6 hr6 hg6
          have hb6 := Below.grown (Below.alloc hb5 hb5.size _) hg6 (by have := hb5.size; (try simp at this); simp; omega) (fun j hj => (HOW.out.lt j hj).1)
          have HR := Lib.hid hr6
          have hnb : some wr.heap.size ≠ Value.ownBlock (.slice none 0 0) := fun e => by cases e
          replace d1 := hg6.cell (((Ext.refl _).alloc _).at d1) hnb
          replace d2 := hg6.cell (((Ext.refl _).alloc _).at d2) hnb
          clear hr6 hg6 hnb HOW hb5
          obtain ⟨hgb1, hgl, hu, hfz, hne, hcb⟩ := HR.out.lit
          have HNE := Lib.hid hne
          have HCB := Lib.hid hcb
          have hcl : ([] : List Row).length + 1 ≤ 1048577 := by have := hrs; first | omega | (simp; done) | (simp; omega)
          have hin : (0 : Int) ≤ (rs.length : Int) := by omega
          have hin2 : (rs.length : Int) < (rs.length : Int) + 1 := by omega
          have b6 := cell_lt d1
          have hwn : IntKind.i64.wrap (rs.length : Int) = (rs.length : Int) := Go.IntWalk.i64_in _ (by have := hrs; omega)
          clear hne hcb
          go_wp2_with fail
          go_region_law (first | (refine step_append_one Rep.row (fun k => k < w.heap.size) rfl _ _ 22 rfl w.heap.size 32 i0 _ 48 Try.underlying22 hi hz0 hz1 hz2 rfl (by decide) (.slice none 0 0) ([] : List Row) rfl (HR.out.cur.ext ((Ext.refl _).alloc _).drew) ⟨_, 0, none⟩ 1 x [.slice p1 x.vals.length q1, .slice p2 x.lin.length q2] rfl (by exact ⟨_, _, rfl, S1.out.ext (old_avoid (Below.drew (Below.alloc hb6 hb6.size _)) (HR.out.cur.ext ((Ext.refl _).alloc _).drew)), S2.out.ext (old_avoid (Below.drew (Below.alloc hb6 hb6.size _)) (HR.out.cur.ext ((Ext.refl _).alloc _).drew))⟩) (by exact cells_new _ [.slice p1 x.vals.length q1, .slice p2 x.lin.length q2] _) (by unfold maxLen; omega) (by omega) (by have := hb6.size; simp; omega) ?_; intro g3 cap3 w8 hown8 hg8 hat8; obtain ⟨k1, k2⟩ := grown_cell hg8 (((Ext.refl w6).alloc _).drew.at hu) (((Ext.refl w6).alloc _).drew.unfrozen hu hfz) HNE.out))
          all_goals
            have hr9 := (HR.out.ext ((Ext.refl w6).alloc _).drew).push hown8 hg8 (hat8.elim (fun h => .inl h.symm) fun h => .inr (by rw [h]; rfl))
            have hb9 := Below.setCell (Below.grown (Below.drew (Below.alloc hb6 hb6.size _)) hg8 (by have := hb6.size; simp; omega) (fun j hj => (HCB.out j hj).1)) (p := ⟨g, rs.length, none⟩) hgb1 (.slice (some ⟨g3, 0, none⟩) (([] : List Row).length + 1) cap3)
            have H9 := Lib.hid hr9
            clear k1 k2 hr9 d1 d2 hu hfz hown8 hg8 hat8
            go_wp2_with fail
            go_roundg (l.length - (0 + 1))
            case measure => omega
            case rel => exact ⟨0 + 1, by omega, rfl, by go_num, .inr ⟨_, _, _, H9.out, HTO.out⟩, hb9⟩
        · obtain ⟨_, _, _, _, hto⟩ := hst
          obtain ⟨_, _, h2, _, _, h5⟩ := hto
          rw [List.take_zero] at h5
          exact (h2 (List.append_eq_nil_iff.1 h5).2).elim
      · obtain ⟨h0, _⟩ | hst := hst
        · exact (hk0 h0).elim
        · obtain ⟨j, rfl⟩ : ∃ j, k = j + 1 := ⟨k - 1, by omega⟩
          obtain ⟨u0, done, cur, hra, hto⟩ := hst
          obtain ⟨u1, u2, c1, c2, s1, s2⟩ := row_at A0.out (j + 1) hlt
          replace c1 := (on_some.1 (below_sub hbw (fun _ h => h) _ _ c1)).2
          replace c2 := (on_some.1 (below_sub hbw (fun _ h => h) _ _ c2)).2
          obtain ⟨u3, u4, f1, f2, t1, t2⟩ := row_at A0.out j (by omega)
          replace f1 := (on_some.1 (below_sub hbw (fun _ h => h) _ _ f1)).2
          have htoS : l[j].vals = l[j + 1].vals → _ := fun h => hto.same (by omega) hlt h
          have htoN : l[j].vals ≠ l[j + 1].vals → _ := fun h => hto.next (by omega) hlt h
          have hcl2 := hto.lens (by omega)
          generalize l[j + 1] = x at s1 s2 htoS htoN
          generalize l[j] = y at t1 htoS htoN
          have S1 := Lib.hid s1
          have S2 := Lib.hid s2
          obtain ⟨p1, q1, rfl, _⟩ := s1.form
          obtain ⟨p2, q2, rfl, _⟩ := s2.form
          have e1 := cell_lt c1
          have hd : decide ((j : Int) + 1 < (l.length : Int)) = true := by simp; omega
          have hd1 : (j : Int) + 1 < (l.length : Int) := by omega
          clear s1 s2
          have T1 := Lib.hid t1
          obtain ⟨p3, q3, rfl, _⟩ := t1.form
          clear t1 t2 f2
          have HS := Lib.hid htoS
          have HN := Lib.hid htoN
          have hk3 : (0 : Int) ≤ (j : Int) := by omega
          have hk6 : IntKind.i64.wrap (j : Int) = (j : Int) := Go.IntWalk.i64_in _ (by omega)
          have hk4 : (j : Int) < (l.length : Int) := by omega
          have hk5 : ((j : Int) + 1 == 0) = false := by simp; omega
          obtain ⟨⟨g, cap, rfl⟩, pu, cu, rfl⟩ := hra.form
          have hgl0 := hra.lit.2.1
          clear htoS htoN hto
          go_wp2_with fail
          have d1 : (wr.alloc (.cells #[.slice p1 x.vals.length q1, .slice p2 x.lin.length q2] 32)).cell? ⟨wr.heap.size, 0, none⟩ = some (.slice p1 x.vals.length q1) := by go_simp
          have d2 : (wr.alloc (.cells #[.slice p1 x.vals.length q1, .slice p2 x.lin.length q2] 32)).cell? ⟨wr.heap.size, 1, none⟩ = some (.slice p2 x.lin.length q2) := by go_simp
          have hxa := (Gro.refl wr).alloc (.cells #[.slice p1 x.vals.length q1, .slice p2 x.lin.length q2] 32)
          generalize wr.alloc (.cells #[.slice p1 x.vals.length q1, .slice p2 x.lin.length q2] 32) = wa at d1 d2 hxa ⊢
          have hsv : Sub (on w (fun k => k < w.heap.size)) wa.cell? := (below_sub hbw (fun _ h => h)).trans ((on_sub _ _).trans hxa.ext.full)
          replace f1 := hxa.at f1
          go_region_held3 (fun w' => Gro wa w' ∧ w'.cell? ⟨ba, oa + j * 2, none⟩ = some (.slice p3 y.vals.length q3) ∧ w'.cell? ⟨wr.heap.size, 0, none⟩ = some (.slice p1 x.vals.length q1))
            (first | exact ⟨(Gro.refl wa).drew, f1, d1⟩ | assumption | exact keepG2 (by assumption) hx2)
            (first | (go_at_call 49; refine (compareRows_any _ _ y.vals x.vals _ (by exact T1.out.ext (hsv.trans (And.left ‹Gro wa _ ∧ _›).ext.full)) (by exact S1.out.ext (hsv.trans (And.left ‹Gro wa _ ∧ _›).ext.full))).mono ?_; rintro e w2 ⟨rfl, hx2⟩))
          obtain ⟨hfin, _⟩ := ‹Gro wa _ ∧ _›
          replace d1 := hfin.at d1
          replace d2 := hfin.at d2
          have hb5 := Below.trans hbw ((hxa.trans hfin).ext.mono hbw.size)
          have hr5 := hra.ext (hxa.trans hfin).ext
          have H5 := Lib.hid hr5
          clear c1 c2 e1 f1 hra hr5
          generalize hq : cmpVals y.vals x.vals = q
          have HQ := Lib.hid hq
          clear hq
          by_cases hq0 : q = 0
          · have hqb : (q != 0) = false := by simp [hq0]
            have HTO := Lib.hid (HS.out ((ord_vals.eq _ _).1 (by rw [HQ.out, hq0])))
            clear hq0
            have HR := H5
            have hb6 := hb5
            obtain ⟨hgb1, hgl, hu, hfz, hne, hcb⟩ := HR.out.lit
            have HNE := Lib.hid hne
            have HCB := Lib.hid hcb
            have hcl : cur.length + 1 ≤ 1048577 := by have := hcl2; first | omega | (simp; done) | (simp; omega)
            have hin : (0 : Int) ≤ (done.length : Int) := by omega
            have hin2 : (done.length : Int) < (done.length : Int) + 1 := by omega
            have b6 := cell_lt d1
            have hwn : IntKind.i64.wrap (done.length : Int) = (done.length : Int) := Go.IntWalk.i64_in _ (by have := hcl2; omega)
            clear hne hcb
            go_wp2_with fail
            go_region_law (first | (refine step_append_one Rep.row (fun k => k < w.heap.size) rfl _ _ 22 rfl w.heap.size 32 i0 _ 48 Try.underlying22 hi hz0 hz1 hz2 rfl (by decide) (.slice pu cur.length cu) cur rfl (HR.out.cur.ext ((Ext.refl _).alloc _).drew) ⟨_, 0, none⟩ 1 x [.slice p1 x.vals.length q1, .slice p2 x.lin.length q2] rfl (by exact ⟨_, _, rfl, S1.out.ext (old_avoid (Below.drew (Below.alloc hb6 hb6.size _)) (HR.out.cur.ext ((Ext.refl _).alloc _).drew)), S2.out.ext (old_avoid (Below.drew (Below.alloc hb6 hb6.size _)) (HR.out.cur.ext ((Ext.refl _).alloc _).drew))⟩) (by exact cells_new _ [.slice p1 x.vals.length q1, .slice p2 x.lin.length q2] _) (by unfold maxLen; omega) (by omega) (by have := hb6.size; simp; omega) ?_; intro g3 cap3 w8 hown8 hg8 hat8; obtain ⟨k1, k2⟩ := grown_cell hg8 (((Ext.refl w2).alloc _).drew.at hu) (((Ext.refl w2).alloc _).drew.unfrozen hu hfz) HNE.out))
            all_goals
              have hr9 := (HR.out.ext ((Ext.refl w2).alloc _).drew).push hown8 hg8 (hat8.elim (fun h => .inl h.symm) fun h => .inr (by rw [h]; rfl))
              have hb9 := Below.setCell (Below.grown (Below.drew (Below.alloc hb6 hb6.size _)) hg8 (by have := hb6.size; simp; omega) (fun j hj => (HCB.out j hj).1)) (p := ⟨g, done.length, none⟩) hgb1 (.slice (some ⟨g3, 0, none⟩) (cur.length + 1) cap3)
              have H9 := Lib.hid hr9
              clear k1 k2 hr9 d1 d2 hu hfz hown8 hg8 hat8
              go_wp2_with fail
              go_roundg (l.length - (j + 1 + 1))
              case measure => omega
              case rel => exact ⟨j + 1 + 1, by omega, rfl, by go_num, .inr ⟨_, _, _, H9.out, HTO.out⟩, hb9⟩
          · have hqb : (q != 0) = true := by simp [hq0]
            have hto := HN.out fun e => hq0 (by rw [← HQ.out]; exact (ord_vals.eq _ _).2 e)
            have how0 := H5.out.whole
            have hrs : (done ++ [cur]).length ≤ 1048576 := by simp; omega
            clear hq0 HN HS
            generalize done ++ [cur] = rs at hto how0 hrs
            have HTO := Lib.hid hto
            have HOW0 := Lib.hid how0
            clear hto how0
            have HOW := Lib.hid (HOW0.out)
            have hrl : rs.length + 1 ≤ 1048577 := by have := hrs; omega
            go_wp2_with (at_builtin; refine wpList_append_run rfl _ _ 117 rfl w.heap.size 22 32 i1 _ Try.underlying117 hi1 hy0 hy1 hy2 rfl _ (rs) rfl (HOW.out.ext ((Ext.refl _).alloc _)) ⟨_, 0, none⟩ 1 rfl ?c1 hrl ?c2 ?_)
            case c1 => exact cells_new _ [.slice none 0 0] _ 0 _ rfl
            case c2 => have := hb5.size; (try simp at this); simp; omega
            intro g' cap' w6 hr6 hg6
            have hb6 := Below.grown (Below.alloc hb5 hb5.size _) hg6 (by have := hb5.size; (try simp at this); simp; omega) (fun j hj => (HOW.out.lt j hj).1)
            have HR := Lib.hid hr6
            have hnb : some wr.heap.size ≠ (Value.slice (some ⟨g, 0, none⟩) (done.length + 1) cap).ownBlock := fun e => by injection e with e; simp only at e; omega
            replace d1 := hg6.cell (((Ext.refl _).alloc _).at d1) hnb
            replace d2 := hg6.cell (((Ext.refl _).alloc _).at d2) hnb
            clear hr6 hg6 hnb HOW hb5
            obtain ⟨hgb1, hgl, hu, hfz, hne, hcb⟩ := HR.out.lit
            have HNE := Lib.hid hne
            have HCB := Lib.hid hcb
            have hcl : ([] : List Row).length + 1 ≤ 1048577 := by have := hrs; first | omega | (simp; done) | (simp; omega)
            have hin : (0 : Int) ≤ (rs.length : Int) := by omega
            have hin2 : (rs.length : Int) < (rs.length : Int) + 1 := by omega
            have b6 := cell_lt d1
            have hwn : IntKind.i64.wrap (rs.length : Int) = (rs.length : Int) := Go.IntWalk.i64_in _ (by have := hrs; omega)
            clear hne hcb
            go_wp2_with fail
            go_region_law (first | (refine step_append_one Rep.row (fun k => k < w.heap.size) rfl _ _ 22 rfl w.heap.size 32 i0 _ 48 Try.underlying22 hi hz0 hz1 hz2 rfl (by decide) (.slice none 0 0) ([] : List Row) rfl (HR.out.cur.ext ((Ext.refl _).alloc _).drew) ⟨_, 0, none⟩ 1 x [.slice p1 x.vals.length q1, .slice p2 x.lin.length q2] rfl (by exact ⟨_, _, rfl, S1.out.ext (old_avoid (Below.drew (Below.alloc hb6 hb6.size _)) (HR.out.cur.ext ((Ext.refl _).alloc _).drew)), S2.out.ext (old_avoid (Below.drew (Below.alloc hb6 hb6.size _)) (HR.out.cur.ext ((Ext.refl _).alloc _).drew))⟩) (by exact cells_new _ [.slice p1 x.vals.length q1, .slice p2 x.lin.length q2] _) (by unfold maxLen; omega) (by omega) (by have := hb6.size; simp; omega) ?_; intro g3 cap3 w8 hown8 hg8 hat8; obtain ⟨k1, k2⟩ := grown_cell hg8 (((Ext.refl w6).alloc _).drew.at hu) (((Ext.refl w6).alloc _).drew.unfrozen hu hfz) HNE.out))
            all_goals
              have hr9 := (HR.out.ext ((Ext.refl w6).alloc _).drew).push hown8 hg8 (hat8.elim (fun h => .inl h.symm) fun h => .inr (by rw [h]; rfl))
              have hb9 := Below.setCell (Below.grown (Below.drew (Below.alloc hb6 hb6.size _)) hg8 (by have := hb6.size; simp; omega) (fun j hj => (HCB.out j hj).1)) (p := ⟨g', rs.length, none⟩) hgb1 (.slice (some ⟨g3, 0, none⟩) (([] : List Row).length + 1) cap3)
              have H9 := Lib.hid hr9
              clear k1 k2 hr9 d1 d2 hu hfz hown8 hg8 hat8
              go_wp2_with fail
              go_roundg (l.length - (j + 1 + 1))
              case measure => omega
              case rel => exact ⟨j + 1 + 1, by omega, rfl, by go_num, .inr ⟨_, _, _, H9.out, HTO.out⟩, hb9⟩
    · have : k = l.length := by omega
      subst this
      obtain ⟨h0, rfl⟩ | ⟨u, done, cur, hra, hto⟩ := hst
      · have hl := List.eq_nil_of_length_eq_zero h0
        subst hl
        go_wp2_with fail
        go_ret
        exact ⟨_, [], rfl, .nil, rfl, SliceOf.nil _ _, hbw⟩
      · obtain ⟨h1, h2⟩ := hto.close
        rw [List.take_length] at h2
        have hs := hra.whole.slice
        obtain ⟨p, q, rfl, _⟩ := hs.form
        have HS := Lib.hid hs
        have H1 := Lib.hid h1
        have H2 := Lib.hid h2
        clear hra hto hs h1 h2
        go_wp2_with fail
        go_ret
        exact ⟨_, _, rfl, H1.out, H2.out, HS.out, hbw⟩

end Go.Proofs.Ytmjfbfigdkolaaa
