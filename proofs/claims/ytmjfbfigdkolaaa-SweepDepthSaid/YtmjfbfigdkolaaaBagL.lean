/- bag.MergeLineage -/
import Derived.Test.YtmjfbfigdkolaaaBagK
import Derived.Test.YtmjfbfigdkolaaaShelfB
import Derived.Sort.OwnSortedInts
import Derived.Lib.OwnBridge
import Derived.Lib.SlicesCompact
namespace Go.Proofs.Ytmjfbfigdkolaaa
open Go.RowKit

/-- sorted, without repetition -/
def mergeL (l l' : List Int) : List Int := Lib.compact ((l ++ l').mergeSort fun x y => decide (x ≤ y))
theorem compactUpTo_law (d : Array Int) (hs : ∀ i j, i ≤ j → j < d.size → d[i]! ≤ d[j]!) (m : Nat) (hm : m ≤ d.size) :
    (Lib.compactUpTo d m).Pairwise (· < ·) ∧ ∀ x, x ∈ Lib.compactUpTo d m ↔ ∃ j, j < m ∧ d[j]! = x := by
  induction m with
  | zero => simp [Lib.compactUpTo]
  | succ m ih =>
    obtain ⟨h1, h2⟩ := ih (by omega)
    rw [Lib.compactUpTo_succ]
    by_cases hk : Lib.keeps d m = true
    · rw [if_pos hk]
      constructor
      · rw [List.pairwise_append]
        refine ⟨h1, by simp, fun a ha b hb => ?_⟩
        rw [List.mem_singleton] at hb
        subst hb
        obtain ⟨j, hj, rfl⟩ := (h2 a).1 ha
        have h3 := hs j (m - 1) (by omega) (by omega)
        have h4 := hs (m - 1) m (by omega) (by omega)
        have h5 : d[m]! ≠ d[m - 1]! := fun e => by
          have := Lib.keeps_neg (by omega) e
          rw [this] at hk
          cases hk
        omega
      · intro x
        rw [List.mem_append, h2, List.mem_singleton]
        constructor
        · rintro (⟨j, hj, e⟩ | e)
          · exact ⟨j, by omega, e⟩
          · exact ⟨m, by omega, e.symm⟩
        · rintro ⟨j, hj, e⟩
          by_cases hjm : j = m
          · subst hjm; exact .inr e.symm
          · exact .inl ⟨j, by omega, e⟩
    · have hk' : Lib.keeps d m = false := by simpa using hk
      rw [if_neg hk, List.append_nil]
      refine ⟨h1, fun x => ?_⟩
      rw [h2]
      have hm0 : 0 < m := by
        rcases Nat.eq_zero_or_pos m with h | h
        · subst h; simp [Lib.keeps] at hk'
        · exact h
      have he : d[m]! = d[m - 1]! := Classical.byContradiction fun e => by
        have := Lib.keeps_pos (d := d) (m := m) e
        rw [this] at hk'
        cases hk'
      constructor
      · rintro ⟨j, hj, e⟩
        exact ⟨j, by omega, e⟩
      · rintro ⟨j, hj, e⟩
        by_cases hjm : j = m
        · subst hjm; exact ⟨j - 1, by omega, by rw [← he]; exact e⟩
        · exact ⟨j, by omega, e⟩
theorem compact_law (l : List Int) (hs : l.Pairwise (· ≤ ·)) : (Lib.compact l).Pairwise (· < ·) ∧ ∀ x, x ∈ Lib.compact l ↔ x ∈ l := by
  have h := compactUpTo_law l.toArray (fun i j hij hj => by
    have hj' : j < l.length := by simpa using hj
    rw [getElem!_pos l.toArray i (by simp; omega), getElem!_pos l.toArray j (by simpa using hj)]
    simp only [List.getElem_toArray]
    by_cases e : i = j
    · subst e; exact Int.le_refl _
    · exact List.pairwise_iff_getElem.1 hs i j (by omega) (by omega) (by omega)) l.length (by simp)
  refine ⟨h.1, fun x => (h.2 x).trans ?_⟩
  constructor
  · rintro ⟨j, hj, e⟩
    rw [getElem!_pos l.toArray j (by simpa using hj)] at e
    subst e
    simp
  · intro hx
    obtain ⟨j, hj, e⟩ := List.getElem_of_mem hx
    exact ⟨j, hj, by rw [getElem!_pos l.toArray j (by simpa using hj)]; simpa using e⟩
theorem mergeL_law (l l' : List Int) : (mergeL l l').Pairwise (· < ·) ∧ ∀ x, x ∈ mergeL l l' ↔ x ∈ l ∨ x ∈ l' := by
  have hs : ((l ++ l').mergeSort fun x y => decide (x ≤ y)).Pairwise (· ≤ ·) := by
    have := List.pairwise_mergeSort (le := fun x y : Int => decide (x ≤ y)) (fun a b c h1 h2 => by simp only [decide_eq_true_eq] at *; omega) (fun a b => by simp only [Bool.or_eq_true, decide_eq_true_eq]; omega) (l ++ l')
    exact this.imp (by simp)
  obtain ⟨h1, h2⟩ := compact_law _ hs
  refine ⟨h1, fun x => (h2 x).trans ?_⟩
  rw [(List.mergeSort_perm _ _).mem_iff, List.mem_append]
/-- ascending lists with the same members are the same -/
theorem asc_unique {l l' : List Int} (h : l.Pairwise (· < ·)) (h' : l'.Pairwise (· < ·)) (he : ∀ x, x ∈ l ↔ x ∈ l') : l = l' := by
  refine List.Perm.eq_of_pairwise (le := (· < ·)) (fun a b _ _ h1 h2 => by omega) h h' ?_
  exact (List.perm_ext_iff_of_nodup (h.imp fun h => by omega) (h'.imp fun h => by omega)).2 he

/-- ints in their kind's range -/
def inR (l : List Int) : Prop := ∀ x ∈ l, -9223372036854775808 ≤ x ∧ x ≤ 9223372036854775807
theorem repAll_ints {h : View} {css : List (List Value)} {xs : List Int} (k : RepAll Rep.int h css xs) : css.flatten = xs.map (Value.int .i64) ∧ inR xs := by
  induction css generalizing xs with
  | nil => cases xs with
    | nil => exact ⟨rfl, fun x hx => by cases hx⟩
    | cons x xs => exact k.elim
  | cons c css ih => cases xs with
    | nil => exact k.elim
    | cons x xs =>
      obtain ⟨⟨rfl, h1⟩, h2⟩ := k
      obtain ⟨h3, h4⟩ := ih h2
      refine ⟨by simp [h3], fun y hy => ?_⟩
      rcases List.mem_cons.1 hy with rfl | hy
      · exact h1
      · exact h4 y hy
theorem ints_repAll (h : View) (xs : List Int) (k : inR xs) : RepAll Rep.int h (xs.map fun x => [.int .i64 x]) xs := by
  induction xs with
  | nil => trivial
  | cons x xs ih => exact ⟨⟨rfl, k x (by simp)⟩, ih fun y hy => k y (by simp [hy])⟩
theorem flat_ints (xs : List Int) : (xs.map fun x => [Value.int .i64 x]).flatten = xs.map (Value.int .i64) := by
  induction xs with
  | nil => rfl
  | cons x xs ih => simp [ih]
theorem OwnOf.ints {w : World} {S : Nat → Prop} {base : Nat} {e : TypeId} {v : Value} {xs : List Int} (h : OwnOf Rep.int w S base e v xs) : w.ownsRow base e 1 v xs.length (xs.map (Value.int .i64)) ∧ inR xs := by
  obtain ⟨css, h1, h2⟩ := h
  obtain ⟨h3, h4⟩ := repAll_ints h1
  exact ⟨by rw [← h3]; exact h2, h4⟩
theorem OwnOf.ofInts {w : World} (S : Nat → Prop) {base : Nat} {e : TypeId} {v : Value} {xs : List Int} (h : w.ownsRow base e 1 v xs.length (xs.map (Value.int .i64))) (hr : inR xs) : OwnOf Rep.int w S base e v xs :=
  ⟨_, ints_repAll _ _ hr, by rw [flat_ints]; exact h⟩
theorem SliceOf.ints {h : View} {v : Value} {xs : List Int} (k : SliceOf Rep.int h v xs) : inR xs := by
  obtain ⟨css, h1, _⟩ := k
  exact (repAll_ints h1).2

theorem grow_ints (S : Nat → Prop) (n : Nat) (w : World) (hn : n ≤ 1099511627776) : Calls Try.prog 84 #[.slice none 0 0, .int .i64 n] w fun e w' => ∃ v', e = .returned v' ∧ OwnOf Rep.int w' S w.heap.size 3 v' [] ∧ Ext w w' := by
  obtain ⟨i0, hi, hz0, hz1, hz2⟩ := info_parts info_ints
  by_cases h0 : n = 0
  · subst h0
    refine (Any8.slices_Grow_room Try.growInt none 0 0 0 w (Nat.le_refl _) (by omega) (by omega) (by omega)).mono ?_
    rintro e w' ⟨rfl, rfl⟩
    exact ⟨_, rfl, OwnOf.nil _ _ _ _ _, Ext.refl _⟩
  · refine (Any8.slices_Grow_grow Try.growInt i0 _ hi hz0 (by rw [hz1]; decide) none 0 0 n [] w (Nat.le_refl _) (by omega) (by rw [hz2]; omega) (by omega) (by simp) (fun _ => rfl) (fun a h => by cases h)).mono ?_
    rintro e w' ⟨rfl, rfl⟩
    have hg := grownCap_ge w (0 + n) 0 (Try.growInt_ren.t 25)
    have hg2 := grownCap_le_maxLen w (0 + n) 0 (Try.growInt_ren.t 25) (by unfold maxLen; omega)
    refine ⟨_, rfl, ⟨[], trivial, ?_⟩, (Ext.refl w).drew.alloc _⟩
    refine World.ownsRow_made w.drew _ _ (Nat.le_refl _) hg2 ?_
    generalize grownCap w (0 + n) 0 (Try.growInt_ren.t 25) = cap at hg
    rw [show Rep.int.size = 1 from rfl]
    simp [size_zeroCells, Value.cells]
    omega

/-- the slice at a place of a slice of slices -/
theorem slice_at {α : Type} {R : Rep α} {w : View} {b o n cap : Nat} {xs : List (List α)} (h : SliceOf (Rep.slice R) w (.slice (some ⟨b, o, none⟩) n cap) xs) (i : Nat) (hi : i < xs.length) :
    ∃ v, w ⟨b, o + i, none⟩ = some v ∧ SliceOf R w v xs[i] := by
  obtain ⟨c, ⟨v, rfl, h1⟩, h2⟩ := h.at i hi
  have := h2 0 _ rfl
  rw [show (Rep.slice R).size = 1 from rfl, Nat.mul_one, Nat.add_zero] at this
  exact ⟨v, this, h1⟩
theorem flatten_take {α : Type} (ls : List (List α)) (k : Nat) (h : k < ls.length) : (ls.take (k + 1)).flatten = (ls.take k).flatten ++ ls[k] := by
  rw [List.take_succ_eq_append_getElem h, List.flatten_append]; simp only [List.flatten_cons, List.flatten_nil, List.append_nil]
theorem flatten_take_le {α : Type} (ls : List (List α)) (k : Nat) : (ls.take k).flatten.length ≤ ls.flatten.length := by
  have : ls.flatten = (ls.take k).flatten ++ (ls.drop k).flatten := by rw [← List.flatten_append, List.take_append_drop]
  rw [this, List.length_append]
  omega

set_option maxHeartbeats 2000000 in
theorem concat_ints (v : Value) (ls : List (List Int)) (w : World) (hv : SliceOf (Rep.slice Rep.int) w.cell? v ls) (hbig : ls.flatten.length ≤ 1099511627776) :
    Calls Try.prog 51 #[v] w fun e w' => ∃ v', e = .returned v' ∧ OwnOf Rep.int w' (fun _ => True) w.heap.size 3 v' ls.flatten ∧ Ext w w' := by
  obtain ⟨i0, hi, hz0, hz1, hz2⟩ := info_parts info_ints
  obtain ⟨pa, ca, rfl, ha1, ha2, ha3⟩ := hv.form
  have HV := Lib.hid hv
  unfold maxLen at ha2
  go_enter Try.func51, Try.ntmps51
  go_wp2_with fail
  go_loopg [3, 11] ls.length (fun gk n i wr => ∃ k m : Nat, k ≤ ls.length ∧ gk = ls.length - k ∧ i = .int .i64 k ∧ n = .int .i64 m ∧ m = (ls.take k).flatten.length ∧ w = wr)
  case atStart => exact ⟨0, 0, by omega, rfl, rfl, rfl, by simp, rfl⟩
  case round =>
    obtain ⟨k, m, hk, rfl, rfl, rfl, hm, rfl⟩ := hrel
    have hle := flatten_take_le ls k
    by_cases hlt : k < ls.length
    · obtain ⟨ba, oa, rfl⟩ := ha3 (by decide) (by omega)
      obtain ⟨u, c1, s1⟩ := slice_at hv k hlt
      have ht := flatten_take ls k hlt
      have hle2 := flatten_take_le ls (k + 1)
      obtain ⟨p1, q1, rfl, hq1, hq2, _⟩ := s1.form
      have hml : (ls.take (k + 1)).flatten.length = m + ls[k].length := by rw [ht, List.length_append, hm]
      rw [hml] at hle2
      rw [← hm] at hle
      generalize ls[k].length = n1 at hml hle2 hq1 c1 s1
      have HL := Lib.hid hml
      have HM := Lib.hid hm
      unfold maxLen at hq2
      have hd : decide ((k : Int) < (ls.length : Int)) = true := by simp; omega
      have hd1 : (k : Int) < (ls.length : Int) := by omega
      have hd2 : decide ((m : Int) + (n1 : Int) < 0) = false := by simp; omega
      clear s1 ht hml hm hv ha3
      go_wp2_with fail
      go_roundg (ls.length - (k + 1))
      case measure => omega
      case rel => exact ⟨k + 1, m + n1, by omega, rfl, by go_num, by go_num, HL.out.symm, rfl⟩
    · have : k = ls.length := by omega
      subst this
      rw [List.take_length] at hm
      have hmb : m ≤ 1099511627776 := by rw [hm]; exact hbig
      clear hv hle hm
      have HB := Lib.hid hbig
      clear hbig
      go_wp2_with fail
      refine (grow_ints (fun _ => True) m _ hmb).mono ?_
      rintro e w1 ⟨v1, rfl, hown, hx⟩
      have HO := Lib.hid hown
      clear hown
      go_wp2_with fail
      go_loopg [6, 27] ls.length (fun gk v i wr => ∃ k : Nat, k ≤ ls.length ∧ gk = ls.length - k ∧ i = .int .i64 k ∧ OwnOf Rep.int wr (fun _ => True) w.heap.size 3 v (ls.take k).flatten ∧ Ext w wr)
      case atStart => exact ⟨0, by omega, rfl, rfl, by simpa using HO.out, hx⟩
      case round =>
        clear HO hx
        obtain ⟨k, hk, rfl, rfl, hown, hx⟩ := hrel
        by_cases hlt : k < ls.length
        · obtain ⟨ba, oa, rfl⟩ := ha3 (by decide) (by omega)
          obtain ⟨u, c1, s1⟩ := slice_at HV.out k hlt
          have ht := flatten_take ls k hlt
          have hle2 := flatten_take_le ls (k + 1)
          have HO := Lib.hid hown
          have hbg := Nat.le_trans hle2 HB.out
          rw [ht, List.length_append] at hbg
          have hsub : ∀ v', OwnOf Rep.int wr (fun _ => True) w.heap.size 3 v' (ls.take k).flatten → Sub w.cell? (on wr (avoid (fun _ => True) v')) := fun v' ho p u e => by
            have hlt2 := World.block_lt_of_cell? w p e
            refine on_some.2 ⟨⟨fun he => ?_, trivial⟩, hx.at e⟩
            have := (ho.lt _ he.symm).1
            omega
          replace s1 := s1.ext (hsub _ hown)
          replace c1 := hx.at c1
          generalize ls[k] = x at s1 ht hbg
          have HT := Lib.hid ht
          have HG := Lib.hid hbg
          have S1 := Lib.hid s1
          obtain ⟨p1, q1, rfl, hq1, hq2, _⟩ := s1.form
          have hd : decide ((k : Int) < (ls.length : Int)) = true := by simp; omega
          have hd1 : (k : Int) < (ls.length : Int) := by omega
          clear s1 ht hbg hown ha3 hle2 hsub
          go_wp2_with (at_builtin; refine wpList_append_all Rep.int (fun _ => True) rfl _ _ 27 rfl w.heap.size 3 i0 _ 8 Try.underlying27 hi hz0 hz1 hz2 rfl (by decide) _ (ls.take k).flatten rfl HO.out _ x rfl S1.out ?c1 ?c2 ?c3 ?_)
          case c1 => have := HG.out; unfold maxLen; omega
          case c2 => have := HG.out; omega
          case c3 => exact hx.size
          intro v' w3 hown3 hgr _
          go_wp2_with fail
          go_roundg (ls.length - (k + 1))
          case measure => omega
          case rel => exact ⟨k + 1, by omega, rfl, by go_num, by rw [HT.out]; exact hown3, Below.grown hx hgr hx.size (fun j hj => (HO.out.lt j hj).1)⟩
        · have : k = ls.length := by omega
          subst this
          rw [List.take_length] at hown
          have HO := Lib.hid hown
          clear hown ha3
          go_wp2_with fail
          go_ret
          exact ⟨_, rfl, HO.out, hx⟩

theorem grownBy_below {B : Nat} {a w w' : World} {row : Option Nat} (h : Below B a w) (hg : w.grownBy w' row) (hB : B ≤ w.heap.size) (hr : ∀ k, row = some k → B ≤ k) : Below B a w' := Below.grown h hg hB hr

theorem sort_ints (S : Nat → Prop) (v : Value) (xs : List Int) (w : World) (base : Nat) (e : TypeId) (h : OwnOf Rep.int w S base e v xs) (hn : xs.length < 4611686018427387904) :
    Calls Try.prog 52 #[v] w fun en w' => en = .returned (.tuple #[]) ∧ OwnOf Rep.int w' S base e v (xs.mergeSort fun x y => decide (x ≤ y)) ∧ w.grownBy w' v.ownBlock := by
  obtain ⟨h1, hr⟩ := h.ints
  by_cases hv : v = .slice none 0 0
  · subst hv
    have hx : xs.length = 0 := by
      rcases h1.2 with ⟨_, h0⟩ | ⟨_, _, _, h0, _⟩
      · exact h0
      · cases h0
    have hx := List.eq_nil_of_length_eq_zero hx
    subst hx
    refine (Try.slices_Sort_int_none none 0 w).mono ?_
    rintro en w' ⟨rfl, rfl⟩
    exact ⟨rfl, by simpa using h, ⟨rfl, rfl, rfl, Nat.le_refl _, fun _ _ _ => rfl⟩⟩
  · obtain ⟨g, cap, rfl, g1, g2, g3, g4, _, hH⟩ := Lib.holds_of_ownsRow h1 hv
    refine (Try.slices_Sort_int g 0 cap xs w hH g2 hn).mono ?_
    rintro en w' ⟨rfl, n, os, rfl⟩
    have hp := List.mergeSort_perm xs fun x y => decide (x ≤ y)
    rcases h1.2 with ⟨h0, _⟩ | ⟨g', cap', cur, h0, hb, hg, hm1, hm2, hs, ht⟩
    · cases h0
    · injection h0 with e1 e2 e3
      injection e1 with e1
      injection e1 with e1
      subst e1 e3
      have := ownsRow_sortedI (w := w) (base := base) (g := g) (cap := cap) (n := n) (e := e) (os := os) (cur := cur) (ss := xs) (ts := xs.mergeSort fun x y => decide (x ≤ y)) hp.length_eq hb hg hm1 hm2 hs
      refine ⟨rfl, ?_, grownBy_sortedI _⟩
      rw [← hp.length_eq] at this ⊢
      exact OwnOf.ofInts S this fun x hx => hr x (hp.mem_iff.1 hx)

theorem compact_ints (S : Nat → Prop) (v : Value) (xs : List Int) (w : World) (base : Nat) (e : TypeId) (h : OwnOf Rep.int w S base e v xs) :
    Calls Try.prog 53 #[v] w fun en w' => ∃ v', en = .returned v' ∧ OwnOf Rep.int w' S base e v' (Lib.compact xs) ∧ w.grownBy w' v.ownBlock := by
  obtain ⟨h1, hr⟩ := h.ints
  by_cases hv : v = .slice none 0 0
  · subst hv
    have hx : xs.length = 0 := by
      rcases h1.2 with ⟨_, h0⟩ | ⟨_, _, _, h0, _⟩
      · exact h0
      · cases h0
    have hx := List.eq_nil_of_length_eq_zero hx
    subst hx
    refine (Try.slices_Compact_int_empty none 0 w).mono ?_
    rintro en w' ⟨rfl, rfl⟩
    exact ⟨_, rfl, by simpa [Lib.compact, Lib.compactUpTo] using h, ⟨rfl, rfl, rfl, Nat.le_refl _, fun _ _ _ => rfl⟩⟩
  · obtain ⟨g, cap, rfl, g1, g2, g3, g4, _, hH⟩ := Lib.holds_of_ownsRow h1 hv
    unfold maxLen at g4
    refine (Try.slices_Compact_int g 0 cap xs w hH (by omega) g3).mono ?_
    rintro en w' ⟨rfl, q, rfl⟩
    have hle := Lib.compact_length_le xs
    have := Lib.ownsRow_putRow (q := q) (k := (Lib.compact xs).length) (ys := Lib.compact xs ++ List.replicate (xs.length - (Lib.compact xs).length) 0) h1 (by simp; omega) hle
    rw [List.take_left'] at this
    · refine ⟨_, rfl, OwnOf.ofInts S this fun x hx => hr x ?_, ?_⟩
      · have : x ∈ ((Lib.compact xs)) := hx
        unfold Lib.compact Lib.compactUpTo at this
        rw [List.mem_map] at this
        obtain ⟨j, hj, rfl⟩ := this
        have hj := (List.mem_filter.1 hj).1
        rw [List.mem_range] at hj
        rw [getElem!_pos xs.toArray j (by simpa using hj)]
        simp
      · refine ⟨rfl, rfl, rfl, by simp [Sort.ahead], fun k hk hne => ?_⟩
        have : g ≠ k := fun e => hne (by rw [e]; rfl)
        simp [Sort.putRow, Sort.mapBlock, Sort.ahead, Array.getElem?_modify, this]
    · rfl

set_option maxHeartbeats 1000000 in
theorem merge_lineage (va vb : Value) (l l' : List Int) (w : World) (ha : SliceOf Rep.int w.cell? va l) (hb : SliceOf Rep.int w.cell? vb l') (hf : l.length ≤ 1048576) (hf' : l'.length ≤ 1048576) :
    Calls Try.prog 25 #[va, vb] w fun e w' => ∃ v', e = .returned v' ∧ SliceOf Rep.int (on w' (since w)) v' (mergeL l l') ∧ Ext w w' := by
  have HA := Lib.hid ha
  have HB := Lib.hid hb
  obtain ⟨pa, ca, rfl, _⟩ := ha.form
  obtain ⟨pb, cb, rfl, _⟩ := hb.form
  clear ha hb
  go_enter Try.func25, Try.ntmps25
  go_wp2_with fail
  have hx := (Ext.refl w).alloc (.cells #[.slice pa l.length ca, .slice pb l'.length cb] 27)
  refine (concat_ints _ [l, l'] _ ⟨[[.slice pa l.length ca], [.slice pb l'.length cb]], ⟨⟨_, rfl, HA.out.ext hx.full⟩, ⟨_, rfl, HB.out.ext hx.full⟩, trivial⟩, .inr ⟨_, 2, rfl, by simp, by simp [maxLen], .inr ⟨_, 0, rfl, fun j u hj => ?_⟩⟩⟩ (by simp; omega)).mono ?_
  · rw [World.cell?_alloc_at _ _ _ _ rfl]
    simpa using hj
  rintro e w1 ⟨v1, rfl, hown1, hx1⟩
  replace hx := hx.trans hx1
  simp only [List.flatten_cons, List.flatten_nil, List.append_nil] at hown1
  replace hown1 := hown1.weak (base' := w.heap.size) (fun _ _ h => h) (by simp)
  have hlen : (l ++ l').length < 4611686018427387904 := by simp; omega
  have H1 := Lib.hid hown1
  clear hx1 hown1
  go_wp2_with fail
  refine (sort_ints _ _ _ _ _ _ H1.out hlen).mono ?_
  rintro e w2 ⟨rfl, hown2, hg2⟩
  have H2 := Lib.hid hown2
  have hx2 := Below.grown hx hg2 hx.size (fun k hk => (H1.out.lt k hk).1)
  clear hown2 hg2 hx
  go_wp2_with fail
  refine (compact_ints _ _ _ _ _ _ H2.out).mono ?_
  rintro e w3 ⟨v3, rfl, hown3, hg3⟩
  have H3 := Lib.hid hown3
  have hx3 := Below.grown hx2 hg3 hx2.size (fun k hk => (H2.out.lt k hk).1)
  clear hown3 hg3 hx2
  go_wp2_with fail
  go_ret
  exact ⟨_, rfl, H3.out.fresh flat_int, hx3⟩

end Go.Proofs.Ytmjfbfigdkolaaa
