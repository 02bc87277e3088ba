/- bag.runs -/
import Derived.Test.YtdgpbpbjlnlijaaGreatBagL
import Derived.Deep.RegionLaw
import Derived.Laws.OwnMore
import Derived.OneCell
namespace Go.Proofs.YtdgpbpbjlnlijaaGreat
open Go.RowKit Go.Deep

/-- rows in runs of equal values: each run is whole -/
inductive Runs : List (List Row) → Prop
  | nil : Runs []
  | snoc (rs : List (List Row)) (run : List Row) (v : List Val) : Runs rs → run ≠ [] → (∀ r ∈ run, r.vals = v) → (∀ p, rs.flatten.getLast? = some p → p.vals ≠ v) → Runs (rs ++ [run])
theorem Runs.at {rs : List (List Row)} (h : Runs rs) (t : Nat) (ht : t < rs.length) : ∃ v, rs[t] ≠ [] ∧ (∀ r ∈ rs[t], r.vals = v) ∧ ∀ p, (rs.take t).flatten.getLast? = some p → p.vals ≠ v := by
  induction h with
  | nil => simp at ht
  | snoc rs run v h1 h2 h3 h4 ih =>
    by_cases hlt : t < rs.length
    · obtain ⟨v', g1, g2, g3⟩ := ih hlt
      have e : (rs ++ [run])[t] = rs[t] := List.getElem_append_left hlt
      rw [e, List.take_append_of_le_length (by omega)]
      exact ⟨v', g1, g2, g3⟩
    · have : t = rs.length := by simp at ht; omega
      subst this
      have e : (rs ++ [run])[rs.length] = run := by simp
      rw [e]
      refine ⟨v, h2, h3, ?_⟩
      rw [List.take_left']
      · exact h4
      · rfl
/-- .. up to the k-th row -/
def RunsTo (l : List Row) (k : Nat) (done : List (List Row)) (cur : List Row) : Prop :=
  ∃ v, Runs done ∧ cur ≠ [] ∧ (∀ r ∈ cur, r.vals = v) ∧ (∀ p, done.flatten.getLast? = some p → p.vals ≠ v) ∧ done.flatten ++ cur = l.take k
theorem RunsTo.start (l : List Row) (h : 0 < l.length) : RunsTo l 1 [] [l[0]] :=
  ⟨l[0].vals, .nil, by simp, by simp, by simp, by rw [List.take_succ_eq_append_getElem h]; simp⟩
theorem RunsTo.last {l : List Row} {k : Nat} {done : List (List Row)} {cur : List Row} (h : RunsTo l k done cur) (hk : 0 < k) (hkl : k ≤ l.length) : (∀ r ∈ cur, r.vals = (l[k - 1]'(by omega)).vals) ∧ cur.getLast? = some (l[k - 1]'(by omega)) := by
  obtain ⟨v, h1, h2, h3, h4, h5⟩ := h
  have e : (l.take k).getLast? = some (l[k - 1]'(by omega)) := by
    rw [List.getLast?_take]
    rw [if_neg (by omega), List.getElem?_eq_getElem (by omega)]
    rfl
  have e2 : cur.getLast? = some (l[k - 1]'(by omega)) := by
    rw [← h5, List.getLast?_append] at e
    cases hc : cur.getLast? with
    | none => exact (h2 (List.getLast?_eq_none_iff.1 hc)).elim
    | some x => rw [hc] at e; simpa using e
  have e3 : (l[k - 1]'(by omega)).vals = v := h3 _ (List.mem_of_getLast? e2)
  exact ⟨by rw [e3]; exact h3, e2⟩
theorem RunsTo.same {l : List Row} {k : Nat} {done : List (List Row)} {cur : List Row} (h : RunsTo l k done cur) (hk : 0 < k) (hkl : k < l.length) (he : (l[k - 1]'(by omega)).vals = l[k].vals) : RunsTo l (k + 1) done (cur ++ [l[k]]) := by
  obtain ⟨g1, g2⟩ := h.last hk (by omega)
  obtain ⟨v, h1, h2, h3, h4, h5⟩ := h
  have hv : l[k].vals = v := by rw [← he]; exact h3 _ (List.mem_of_getLast? g2)
  refine ⟨v, h1, by simp, fun r hr => ?_, h4, ?_⟩
  · rcases List.mem_append.1 hr with hr | hr
    · exact h3 r hr
    · rw [List.mem_singleton.1 hr]; exact hv
  · rw [List.take_succ_eq_append_getElem hkl, ← List.append_assoc, h5]
theorem RunsTo.close {l : List Row} {k : Nat} {done : List (List Row)} {cur : List Row} (h : RunsTo l k done cur) : Runs (done ++ [cur]) ∧ (done ++ [cur]).flatten = l.take k := by
  obtain ⟨v, h1, h2, h3, h4, h5⟩ := h
  refine ⟨.snoc _ _ v h1 h2 h3 h4, ?_⟩
  rw [List.flatten_append]
  simpa using h5
theorem RunsTo.next {l : List Row} {k : Nat} {done : List (List Row)} {cur : List Row} (h : RunsTo l k done cur) (hk : 0 < k) (hkl : k < l.length) (he : (l[k - 1]'(by omega)).vals ≠ l[k].vals) : RunsTo l (k + 1) (done ++ [cur]) [l[k]] := by
  obtain ⟨g1, g2⟩ := h.last hk (by omega)
  obtain ⟨h1, h2⟩ := h.close
  refine ⟨l[k].vals, h1, by simp, by simp, fun p hp => ?_, ?_⟩
  · rw [List.flatten_append, List.getLast?_append] at hp
    simp only [List.flatten_cons, List.flatten_nil, List.append_nil] at hp
    rw [g2] at hp
    simp at hp
    rw [← hp]
    exact he
  · rw [List.take_succ_eq_append_getElem hkl, h2]

/-- the row of runs while its last run grows: that one's cells are the call's own too -/
structure RunsAt (w : World) (base : Nat) (e1 e2 : TypeId) (v u : Value) (done : List (List Row)) (cur : List Row) : Prop where
  us : ∃ css, RepAll (Rep.slice Rep.row) (on w (fun k => some k ≠ v.ownBlock ∧ some k ≠ u.ownBlock)) css done ∧ w.ownsRow base e1 1 v (done.length + 1) (css.flatten ++ [u])
  cur : OwnOf Rep.row w (fun k => k < base) base e2 u cur
  ne : ∀ k, u.ownBlock = some k → v.ownBlock ≠ some k
theorem vslice_own {w : World} {base : Nat} {e : TypeId} {size : Nat} {v : Value} {n : Nat} {xs : List Value} (h : w.ownsRow base e size v n xs) : VSlice (on w (fun k => v.ownBlock = some k)) v n xs := by
  rcases h.2 with ⟨hv, h0⟩ | ⟨g, cap, cur, hv, hb, hg, h1, h2, _, _⟩
  · subst h0
    exact .inl ⟨hv, rfl, List.eq_nil_of_length_eq_zero (by rw [h.1]; simp)⟩
  · refine .inr ⟨_, cap, hv, h1, h2, .inr ⟨g, 0, rfl, fun j u hj => on_some.2 ⟨by rw [hv]; rfl, ?_⟩⟩⟩
    have := h.cells (g := g) (by rw [hv]; rfl) j u hj
    rwa [add_lit] at this
theorem RunsAt.whole {w : World} {base : Nat} {e1 e2 : TypeId} {v u : Value} {done : List (List Row)} {cur : List Row} (h : RunsAt w base e1 e2 v u done cur) : OwnOf (Rep.slice Rep.row) w (fun _ => True) base e1 v (done ++ [cur]) := by
  obtain ⟨⟨css, h1, h2⟩, h3, h4⟩ := h
  obtain ⟨dss, h5, h6⟩ := h3
  refine ⟨css ++ [[u]], (h1.ext (on_mono _ fun k _ hk => ⟨hk.1, trivial⟩)).append (RepAll.one ⟨u, rfl, dss, h5.ext (on_mono _ fun k _ hk => ⟨fun he => ?_, trivial⟩), (vslice_own h6).sub (on_mono _ fun k _ hk => ⟨fun he => h4 k hk he.symm, trivial⟩)⟩), ?_⟩
  · have := (h2.lt k he.symm).1
    have := hk.2
    omega
  · rw [show (Rep.slice Rep.row).size = 1 from rfl]
    simpa using h2
section
variable {P : Program} {w : World} {ops : Array Oper} {rest : List Oper} {o : Oper} {a : Act} {Q : Exit → Act → World → Prop}
/-- 'append(out, nil)': a new run is begun -/
theorem wpList_append_run (hgd : o.guard = none) (s x : Operand) (t : TypeId)
    (ho : o.op = .call { callee := .builtin .append, args := #[s, x], argTypes := #[t, t] })
    (base : Nat) (e e2 : TypeId) (i : TypeInfo) (z : Value) (ht : P.underlying t = some (.slice e)) (hi : P.info? e = some i) (hz : i.zero = some z)
    (hsize : i.size = 1) (hby : i.bytes = 24) (hzs : z.cells.size = 1)
    (v : Value) (rs : List (List Row)) (hs : a.eval s = v) (hown : OwnOf (Rep.slice Rep.row) w (fun _ => True) base e v rs)
    (ad : Addr) (c : Nat) (hx : a.eval x = .slice (some ad) 1 c) (hnews : w.cell? (ad.add 0) = some (.slice none 0 0))
    (h63 : rs.length + 1 ≤ 1048577) (hbase : base ≤ w.heap.size)
    (h : ∀ g cap w', RunsAt w' base e e2 (.slice (some ⟨g, 0, none⟩) (rs.length + 1) cap) (.slice none 0 0) rs [] → w.grownBy w' v.ownBlock → wpList P ops Q rest (a.put o.dst (.slice (some ⟨g, 0, none⟩) (rs.length + 1) cap)) w') : wpList P ops Q (o :: rest) a w := by
  have hlt := hown.lt
  obtain ⟨css, h1, h2⟩ := hown
  refine wpList_append_lies w hgd s x t ho base e i z 1 24 ht hi hz hsize hby hzs (by decide) v rs.length css.flatten hs h2 ad 1 c [.slice none 0 0] hx (by simp) (fun j u hj => ?_) (fun u hu => ?_) (by omega) (by unfold maxLen; omega) (by omega) hbase w.heap.size rfl
    fun g cap w' g1 g2 g3 _ => h g cap w' ⟨⟨css, h1.ext ?_, g1⟩, OwnOf.nil _ _ _ _ _, fun k hk => by cases hk⟩ g2
  · cases j with
    | zero => simp at hj; rw [← hj]; exact hnews
    | succ j => simp at hj
  · rw [List.mem_singleton.1 hu]; rfl
  · intro p u e
    obtain ⟨e1, e2⟩ := on_some.1 e
    have hp := World.block_lt_of_cell? w p e2
    refine on_some.2 ⟨⟨fun he => ?_, fun he => by cases he⟩, g2.cell e2 e1.1⟩
    injection he with he
    simp only at he
    rcases g3 with g3 | g3
    · exact e1.1 (by rw [g3, he])
    · omega
theorem step_append_one {α : Type} {K : Act → World → Prop} {E : Prop} (R : Rep α) (S : Nat → Prop) (hgd : o.guard = none) (s x : Operand) (t : TypeId)
    (ho : o.op = .call { callee := .builtin .append, args := #[s, x], argTypes := #[t, t] })
    (base : Nat) (e : TypeId) (i : TypeInfo) (z : Value) (bytes : Nat) (ht : P.underlying t = some (.slice e)) (hi : P.info? e = some i) (hz : i.zero = some z)
    (hsize : i.size = R.size) (hby : i.bytes = bytes) (hzs : z.cells.size = R.size) (hsz : 0 < R.size)
    (v : Value) (xs : List α) (hs : a.eval s = v) (hown : OwnOf R w S base e v xs)
    (ad : Addr) (c : Nat) (y : α) (news : List Value) (hx : a.eval x = .slice (some ad) 1 c) (hy : R.holds (on w (avoid S v)) news y) (hnews : ∀ j u, news[j]? = some u → w.cell? (ad.add j) = some u)
    (h63 : xs.length + 1 ≤ maxLen) (hbytes : (xs.length + 1) * bytes ≤ 140737488355328) (hbase : base ≤ w.heap.size)
    (h : ∀ g cap w', OwnOf R w' S base e (.slice (some ⟨g, 0, none⟩) (xs.length + 1) cap) (xs ++ [y]) → w.grownBy w' v.ownBlock → (v.ownBlock = some g ∨ g = w.heap.size) → K (a.put o.dst (.slice (some ⟨g, 0, none⟩) (xs.length + 1) cap)) w') :
    if Region.wanted o (yielded ops a.tmps) = true then Oper.wp P o a w K Q else E := by
  obtain ⟨css, h1, h2⟩ := hown
  exact step_append_lies w hgd s x t ho base e i z R.size bytes ht hi hz hsize hby hzs hsz v xs.length css.flatten hs h2 ad 1 c news hx (by rw [R.len hy, Nat.one_mul]) hnews (R.one hy) (by omega) h63 hbytes hbase w.heap.size rfl
    fun g cap w' g1 g2 g3 _ => h g cap w' (OwnOf.push h1 hy g1 g2 g3) g2 g3
end
/-- behind the append to the last run and the store -/
theorem RunsAt.push {w w3 : World} {base : Nat} {e1 e2 : TypeId} {u u' : Value} {g cap : Nat} {done : List (List Row)} {cur cur' : List Row} (h : RunsAt w base e1 e2 (.slice (some ⟨g, 0, none⟩) (done.length + 1) cap) u done cur) (hown : OwnOf Rep.row w3 (fun k => k < base) base e2 u' cur') (hg : w.grownBy w3 u.ownBlock) (hat : u'.ownBlock = u.ownBlock ∨ u'.ownBlock = some w.heap.size) :
    RunsAt (w3.setCell ⟨g, done.length, none⟩ u') base e1 e2 (.slice (some ⟨g, 0, none⟩) (done.length + 1) cap) u' done cur' := by
  obtain ⟨⟨css, h1, h2⟩, h3, h4⟩ := h
  have hgl := h2.lt g rfl
  have hgu : some g ≠ u'.ownBlock := fun e => by
    rcases hat with hat | hat
    · exact h4 g (by rw [← hat, ← e]) rfl
    · rw [hat] at e; injection e with e; omega
  have hgu0 : some g ≠ u.ownBlock := fun e => h4 g e.symm rfl
  have hlen : css.flatten.length = done.length := by rw [h1.flat]; simp [Rep.slice]
  have h5 := ((h2.kept hg (.inr fun e => hgu0 (by rw [← e]; rfl))).stored done.length u').1
  refine ⟨⟨css, h1.ext ?_, by rw [List.set_append, if_neg (by omega), hlen, Nat.sub_self] at h5; exact h5⟩, ?_, fun k hk he => hgu (by rw [hk]; exact he)⟩
  · intro p x e
    obtain ⟨⟨e1, e2⟩, e3⟩ := on_some.1 e
    have hp := World.block_lt_of_cell? w p e3
    refine on_some.2 ⟨⟨e1, fun he => ?_⟩, cell_set (hg.cell e3 e2) fun e => e1 (by rw [← e]; rfl)⟩
    rcases hat with hat | hat
    · exact e2 (by rw [he, hat])
    · rw [hat] at he; injection he with he; omega
  · obtain ⟨dss, h6, h7⟩ := hown
    refine ⟨dss, h6.ext (set_sub _ _ _ fun hh => ?_), ownsRow_setCell_other h7 (fun e => hgu e.symm) u'⟩
    have := hh.2
    simp at this
    omega

theorem infoRows : (Tryz.prog.info? 38).map (fun i => (i.zero, i.size, i.bytes)) = some (some (.slice none 0 0), 1, 24) := by kernel_rfl

theorem grown_cell {w w' : World} {row : Option Nat} {p : Addr} {v : Value} (hg : w.grownBy w' row) (h : w.cell? p = some v) (hf : w.frozen? p = false) (hne : some p.block ≠ row) : w'.cell? p = some v ∧ w'.frozen? p = false :=
  ⟨hg.cell h hne, (World.frozen?_of_block (hg.block _ (World.block_lt_of_cell? w p h) hne)).trans hf⟩
theorem RunsAt.ext {w w' : World} {base : Nat} {e1 e2 : TypeId} {v u : Value} {done : List (List Row)} {cur : List Row} (h : RunsAt w base e1 e2 v u done cur) (hx : Ext w w') : RunsAt w' base e1 e2 v u done cur := by
  obtain ⟨⟨css, h1, h2⟩, h3, h4⟩ := h
  exact ⟨⟨css, h1.ext (hx.sub _), own_ext h2 hx⟩, h3.ext hx, h4⟩
theorem RunsAt.lit {w : World} {base : Nat} {e1 e2 : TypeId} {g n cap : Nat} {u : Value} {done : List (List Row)} {cur : List Row} (h : RunsAt w base e1 e2 (.slice (some ⟨g, 0, none⟩) n cap) u done cur) :
    base ≤ g ∧ g < w.heap.size ∧ w.cell? ⟨g, done.length, none⟩ = some u ∧ w.frozen? ⟨g, done.length, none⟩ = false ∧ some g ≠ u.ownBlock ∧ ∀ k, u.ownBlock = some k → base ≤ k ∧ k < w.heap.size := by
  obtain ⟨⟨css, h1, h2⟩, h3, h4⟩ := h
  have hn : n = done.length + 1 := by
    rcases h2.2 with ⟨e, _⟩ | ⟨_, _, _, e, _⟩
    · cases e
    · injection e
  subst hn
  have hl := h2.lt g rfl
  have hlen : css.flatten.length = done.length := by rw [h1.flat]; simp [Rep.slice]
  refine ⟨hl.1, hl.2, ?_, h2.frozenAt _, fun e => h4 g e.symm rfl, h3.lt⟩
  rw [h2.cellAt _ (by omega), List.getElem?_append_right (by omega), hlen, Nat.sub_self]
  rfl
theorem RunsAt.form {w : World} {base : Nat} {e1 e2 : TypeId} {v u : Value} {done : List (List Row)} {cur : List Row} (h : RunsAt w base e1 e2 v u done cur) :
    (∃ g cap, v = .slice (some ⟨g, 0, none⟩) (done.length + 1) cap) ∧ ∃ a cap, u = .slice a cur.length cap := by
  obtain ⟨⟨css, h1, h2⟩, h3, h4⟩ := h
  obtain ⟨g, cap, e, _⟩ := own_cells h2 (by omega)
  obtain ⟨a, c, e2, _⟩ := h3.slice.form
  exact ⟨⟨g, cap, e⟩, a, c, e2⟩
theorem Runs.few {rs : List (List Row)} (h : Runs rs) : rs.length ≤ rs.flatten.length := by
  induction h with
  | nil => simp
  | snoc rs run v h1 h2 h3 h4 ih =>
    have := List.length_pos_iff.2 h2
    simp at ih ⊢
    omega
theorem RunsTo.lens {l : List Row} {k : Nat} {done : List (List Row)} {cur : List Row} (h : RunsTo l k done cur) (hk : k ≤ l.length) : done.length + cur.length ≤ k := by
  obtain ⟨v, h1, _, _, _, h5⟩ := h
  have := h1.few
  have h6 : (done.flatten ++ cur).length = k := by rw [h5]; simp; omega
  rw [List.length_append] at h6
  omega

end Go.Proofs.YtdgpbpbjlnlijaaGreat
