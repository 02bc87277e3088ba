/- the reference's OverlapPairs; FewTuples, samePairs; arguments of tuples; printed by gen_ref.py -/
import Derived.Test.YtmjfbfigdkolaaaAwakeS
import Derived.Test.YtmjfbfigdkolaaaBagQ
import Derived.Test.YtmjfbfigdkolaaaGenC
import Derived.Test.YtmjfbfigdkolaaaSwapW
namespace Go.Proofs.Ytmjfbfigdkolaaa
open Go.RowKit Go.Deep Go.ChangeShapes Go.WideShapes Go.ChangeAt

theorem DoneAt.len {a b : List Tup} {i k : Nat} {out : List Pair} (h : DoneAt a b i k out) : out.length ≤ a.length * b.length := by
  have hp : out.Perm ((rawPairs a b).filter fun p => decide (p.a < i ∨ p.a = i ∧ p.b < k)) :=
    (List.perm_ext_iff_of_nodup h.nd ((rawPairs_nodup a b).filter _)).2 fun p => by rw [h.mem p, List.mem_filter]; simp
  rw [hp.length_eq]
  exact Nat.le_trans (List.length_filter_le _ _) (by rw [← (pairsOf_perm a b).length_eq]; exact pairs_len a b)
theorem cellsTup : Try.prog.cellsOf 61 = 4 := by kernel_rfl
theorem cellsPer : Try.prog.cellsOf 57 = 2 := by kernel_rfl
theorem list_four {α : Type} {l : List α} (h : l.length = 4) : ∃ a b c d, l = [a, b, c, d] := by
  match l, h with
  | [a, b, c, d], _ => exact ⟨a, b, c, d, rfl⟩
theorem opens_tup : Opens Try.prog 61 Rep.tup := by
  intro H enc w base spare held fuel cs x h
  obtain ⟨y0, y1, y2, n, _, hl, h0, h1, h2⟩ := trod_struct3 Try.underlying61 h
  rw [cellsTup] at hl
  obtain ⟨c0, c1, c2, c3, rfl⟩ := list_four hl
  simp [cellsVals, cellsPer, cellsInts] at h0 h1 h2
  obtain ⟨xs, v, e0, s0⟩ := opens_vals H enc w base spare held n _ _ h0
  obtain ⟨z0, z1, m, _, _, g0, g1⟩ := trod_struct2 Try.underlying57 h1
  simp [cellsInt] at g0 g1
  obtain ⟨a0, e1, _, w0⟩ := DataW.trod_int Try.underlying3 g0
  obtain ⟨a1, e2, _, w1⟩ := DataW.trod_int Try.underlying3 g1
  obtain ⟨ys, u, e3, s1⟩ := opens_ints H enc w base spare held n _ _ h2
  simp at e0 e1 e2 e3
  subst e0 e1 e2 e3
  exact ⟨⟨xs, a0, a1, ys⟩, _, _, rfl, s0, s1, wf_i64 w0, wf_i64 w1⟩
theorem opens_tups : Opens Try.prog 42 (Rep.slice Rep.tup) := opens_slice Try.underlying42 cellsTup opens_tup

set_option maxHeartbeats 2000000 in
theorem fewTuples_any (va : Value) (n : Nat) (hn : n ≤ 1000) (l : List Tup) (w : World) (ha : SliceOf Rep.tup w.cell? va l) :
    Calls Try.prog 28 #[va, .int .i64 n] w fun e w' => ∃ b, e = .returned (.bool b) ∧ (b = true → l.length ≤ n) ∧ w = w' := by
  obtain ⟨pa, ca, rfl, ha1, ha2, ha3⟩ := ha.form
  unfold maxLen at ha2
  go_enter Try.func28, Try.ntmps28
  go_wp2_with fail
  go_loopg [5] l.length (fun gk i wr => ∃ k : Nat, k ≤ l.length ∧ gk = l.length - k ∧ i = .int .i64 k ∧ k ≤ n + 1 ∧ w = wr)
  case atStart => exact ⟨0, by omega, rfl, rfl, by omega, rfl⟩
  case round =>
    obtain ⟨k, hk, rfl, rfl, hkn, rfl⟩ := hrel
    by_cases hlt : k < l.length ∧ k ≤ n
    · obtain ⟨hlt, hlt2⟩ := hlt
      obtain ⟨ba, oa, rfl⟩ := ha3 (by decide) (by omega)
      obtain ⟨u1, u2, c1, _, _, c2, s1, s2, _, _⟩ := tup_at ha k hlt
      obtain ⟨p1, q1, rfl, hp1, hp2, _⟩ := s1.form
      obtain ⟨p2, q2, rfl, hp3, hp4, _⟩ := s2.form
      generalize l[k].vals.length = n1 at c1 hp1
      generalize l[k].lin.length = n2 at c2 hp3
      unfold maxLen at hp2 hp4
      have hd : decide ((k : Int) < (l.length : Int)) = true := by simp; omega
      have hdb : decide ((k : Int) ≤ (n : Int)) = true := by simp; omega
      have hd1 : (k : Int) < (l.length : Int) := by omega
      clear s1 s2 ha ha3
      by_cases hsh : n1 ≤ 6 ∧ n2 ≤ 6
      · have hb1 : decide ((n1 : Int) > 6) = false := by simp; omega
        have hb2 : decide ((n2 : Int) > 6) = false := by simp; omega
        have hb3 : decide ((6 : Int) < (n1 : Int)) = false := by simp; omega
        have hb4 : decide ((6 : Int) < (n2 : Int)) = false := by simp; omega
        clear hsh
        go_wp2_with fail
        go_roundg (l.length - (k + 1))
        case measure => omega
        case rel => exact ⟨k + 1, by omega, rfl, by go_num, by omega, rfl⟩
      · by_cases hv6 : n1 ≤ 6
        · have hb1 : decide ((n1 : Int) > 6) = false := by simp; omega
          have hb2 : decide ((n2 : Int) > 6) = true := by simp; omega
          have hb3 : decide ((6 : Int) < (n1 : Int)) = false := by simp; omega
          have hb4 : decide ((6 : Int) < (n2 : Int)) = true := by simp; omega
          clear hsh hv6
          go_wp2_with fail
          go_ret
          exact ⟨_, rfl, by simp, rfl⟩
        · have hb1 : decide ((n1 : Int) > 6) = true := by simp; omega
          have hb3 : decide ((6 : Int) < (n1 : Int)) = true := by simp; omega
          clear hsh hv6
          go_wp2_with fail
          go_ret
          exact ⟨_, rfl, by simp, rfl⟩
    · by_cases hk3 : k < l.length
      · have hd : decide ((k : Int) < (l.length : Int)) = true := by simp; omega
        have hdb : decide ((k : Int) ≤ (n : Int)) = false := by simp; omega
        go_wp2_with fail
        go_ret
        exact ⟨_, rfl, fun h => by simp at h; omega, rfl⟩
      · have hd : decide ((k : Int) < (l.length : Int)) = false := by simp; omega
        have : k = l.length := by omega
        subst this
        go_wp2_with fail
        go_ret
        exact ⟨_, rfl, fun h => by simpa using h, rfl⟩

set_option maxHeartbeats 2000000 in
theorem samePairs_any (va vb : Value) (l : List Pair) (w : World) (ha : SliceOf Rep.pair w.cell? va l) (hb : SliceOf Rep.pair w.cell? vb l) (hl : l.length ≤ 100000) :
    Calls Try.prog 30 #[va, vb] w fun e w' => e = .returned (.bool true) ∧ Ext w w' := by
  obtain ⟨pa, ca, rfl, _, _, ha3⟩ := ha.form
  obtain ⟨pb, cb, rfl, _, _, hb3⟩ := hb.form
  have HA := Lib.hid ha
  have HB := Lib.hid hb
  have HA3 := Lib.hid ha3
  have HB3 := Lib.hid hb3
  have mixed := mixedOrd
  obtain ⟨n, hn⟩ : ∃ n, n = l.length := ⟨_, rfl⟩
  rw [← hn]
  have HN := Lib.hid hn
  have hn5 : n ≤ 100000 := by omega
  clear ha hb ha3 hb3 hn hl
  go_enter Try.func30, Try.ntmps30
  go_wp2_with fail
  go_loopg [13] n (fun gk vi wr => ∃ k : Nat, k ≤ n ∧ gk = n - k ∧ vi = .int .i64 k ∧ Hid (Ext w wr))
  case atStart => exact ⟨0, by omega, rfl, rfl, Ext.refl w⟩
  case round =>
    obtain ⟨k, hk, rfl, rfl, X⟩ := hrel
    by_cases hlt : k < n
    · have hkl : k < l.length := by have := HN.out; omega
      have hd : decide ((k : Int) < (n : Int)) = true := by simp; omega
      have hd1 : (k : Int) < (n : Int) := by omega
      obtain ⟨ba, oa, rfl⟩ := HA3.out (by decide) (by omega)
      obtain ⟨bb, ob, rfl⟩ := HB3.out (by decide) (by omega)
      obtain ⟨c0, c1, c2, c3⟩ := pair_at HA.out k hkl
      obtain ⟨d0, d1, d2, d3⟩ := pair_at HB.out k hkl
      replace c0 := X.out.at c0
      replace c1 := X.out.at c1
      replace c2 := X.out.at c2
      replace c3 := X.out.at c3
      replace d0 := X.out.at d0
      replace d1 := X.out.at d1
      replace d2 := X.out.at d2
      replace d3 := X.out.at d3
      generalize l[k] = s at c0 c1 c2 c3 d0 d1 d2 d3
      obtain ⟨sa, sb, sf, st⟩ := s
      dsimp only at c0 c1 c2 c3 d0 d1 d2 d3
      go_wp2_with fail
      go_big_region_o
      all_goals go_wp2_with fail
      all_goals go_roundg (n - (k + 1))
      all_goals first
        | (case measure => omega)
        | (case rel => exact ⟨k + 1, by omega, rfl, by go_num, X.out.drew⟩)
    · have hd : ¬ (k : Int) < (n : Int) := by omega
      go_wp2_with fail
      go_ret
      exact ⟨rfl, X.out⟩

theorem OwnOf.put4 {w : World} {S : Nat → Prop} {base : Nat} {e : TypeId} {g cap n i : Nat} {xs : List Pair} {x : Pair} (h : OwnOf Rep.pair w S base e (.slice (some ⟨g, 0, none⟩) n cap) xs) (hn : n = xs.length ∧ i < xs.length) (hx : xs[i]? = some x) (y : Pair) (hy : okP y) :
    OwnOf Rep.pair ((((w.setCell ⟨g, i * 4, none⟩ (.int .i64 (y.a : Nat))).setCell ⟨g, i * 4 + 1, none⟩ (.int .i64 (y.b : Nat))).setCell ⟨g, i * 4 + 2, none⟩ (.int .i64 y.from_)).setCell ⟨g, i * 4 + 3, none⟩ (.int .i64 y.to_)) S base e (.slice (some ⟨g, 0, none⟩) n cap) (xs.set i y) ∧
      Chg (fun k => k = g) w ((((w.setCell ⟨g, i * 4, none⟩ (.int .i64 (y.a : Nat))).setCell ⟨g, i * 4 + 1, none⟩ (.int .i64 (y.b : Nat))).setCell ⟨g, i * 4 + 2, none⟩ (.int .i64 y.from_)).setCell ⟨g, i * 4 + 3, none⟩ (.int .i64 y.to_)) := by
  obtain ⟨rfl, hi⟩ := hn
  obtain ⟨ya, yb, yf, yt⟩ := y
  have one : ∀ (w : World) (zs : List Pair) (r : Nat) (u : Value) (z z' : Pair), OwnOf Rep.pair w S base e (.slice (some ⟨g, 0, none⟩) xs.length cap) zs → zs.length = xs.length → zs[i]? = some z → r < 4 → okP z' → (pairEnc z).set r u = pairEnc z' → OwnOf Rep.pair (w.setCell ⟨g, i * 4 + r, none⟩ u) S base e (.slice (some ⟨g, 0, none⟩) xs.length cap) (zs.set i z') := by
    intro w zs r u z z' ho hl hz hr hok hset
    have h1 := OwnOf.store flat_pair (by rw [hl]; exact ho) i r (by omega) hr u z' (fun cs hcs => by
      obtain ⟨rfl, _⟩ := hcs
      have : zs[i] = z := by rw [List.getElem?_eq_getElem (by omega)] at hz; injection hz
      rw [this]
      exact ⟨hset, hok⟩)
    rw [hl] at h1
    exact h1.1
  have hok : ∀ z ∈ xs, okP z := by
    obtain ⟨css, h1, _⟩ := h
    intro z hz
    obtain ⟨m, hm, rfl⟩ := List.getElem_of_mem hz
    obtain ⟨d, ⟨_, g1⟩, _⟩ := h1.at m hm
    exact g1
  have hxo : okP x := hok x (List.mem_of_getElem? hx)
  have h1 := one _ xs 0 (.int .i64 (ya : Nat)) x ⟨ya, x.b, x.from_, x.to_⟩ h rfl hx (by omega) ⟨⟨hy.1.1, hxo.1.2⟩, hxo.2⟩ rfl
  have h2 := one _ _ 1 (.int .i64 (yb : Nat)) ⟨ya, x.b, x.from_, x.to_⟩ ⟨ya, yb, x.from_, x.to_⟩ h1 (by simp) (by rw [List.getElem?_set_self (by omega)]) (by omega) ⟨hy.1, hxo.2⟩ rfl
  have h3 := one _ _ 2 (.int .i64 yf) ⟨ya, yb, x.from_, x.to_⟩ ⟨ya, yb, yf, x.to_⟩ h2 (by simp) (by rw [List.getElem?_set_self (by simp; omega)]) (by omega) ⟨hy.1, hy.2.1, hxo.2.2⟩ rfl
  have h4 := one _ _ 3 (.int .i64 yt) ⟨ya, yb, yf, x.to_⟩ ⟨ya, yb, yf, yt⟩ h3 (by simp) (by rw [List.getElem?_set_self (by simp; omega)]) (by omega) hy rfl
  rw [List.set_set, List.set_set, List.set_set] at h4
  exact ⟨h4, ((((Chg.refl (fun k => k = g) w).setCell (.inl rfl) _).setCell (.inl rfl) _).setCell (.inl rfl) _).setCell (.inl rfl) _⟩

end Go.Proofs.Ytmjfbfigdkolaaa
