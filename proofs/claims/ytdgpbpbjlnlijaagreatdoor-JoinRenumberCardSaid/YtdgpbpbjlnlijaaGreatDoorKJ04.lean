/- joined texts of a proof: BagL, BagS, PlainD, AreaP, PointP, PlainL, PlainR, PlainN, PlainK -/
import Derived.Test.YtdgpbpbjlnlijaaGreatDoorKJ03
import Derived.Sort.OwnSortedInts
import Derived.Lib.OwnBridge
import Derived.Lib.SlicesCompact
import Derived.Lib.ItoaNum
import Derived.Test.YtdgpbpbjlnlijaaGreatDoorKJ01

/- bag.MergeLineage -/
namespace Go.Proofs.YtdgpbpbjlnlijaaGreatDoor
open Go.RowKit

/-- sorted, without repetition -/
def mergeL (l l' : List Int) : List Int := Lib.compact ((l ++ l').mergeSort fun x y => decide (x ≤ y))
theorem compactUpTo_law (d : Array Int) (hs : ∀ i j, i ≤ j → j < d.size → d[i]! ≤ d[j]!) (m : Nat) (hm : m ≤ d.size) :
    (Lib.compactUpTo d m).Pairwise (· < ·) ∧ ∀ x, x ∈ Lib.compactUpTo d m ↔ ∃ j, j < m ∧ d[j]! = x := by
  induction m with
  | zero => simp [Lib.compactUpTo]
  | succ m ih =>
    obtain ⟨h1, h2⟩ := ih (by omega)
    rw [Lib.compactUpTo_succ]
    by_cases hk : Lib.keeps d m = true
    · rw [if_pos hk]
      constructor
      · rw [List.pairwise_append]
        refine ⟨h1, by simp, fun a ha b hb => ?_⟩
        rw [List.mem_singleton] at hb
        subst hb
        obtain ⟨j, hj, rfl⟩ := (h2 a).1 ha
        have h3 := hs j (m - 1) (by omega) (by omega)
        have h4 := hs (m - 1) m (by omega) (by omega)
        have h5 : d[m]! ≠ d[m - 1]! := fun e => by
          have := Lib.keeps_neg (by omega) e
          rw [this] at hk
          cases hk
        omega
      · intro x
        rw [List.mem_append, h2, List.mem_singleton]
        constructor
        · rintro (⟨j, hj, e⟩ | e)
          · exact ⟨j, by omega, e⟩
          · exact ⟨m, by omega, e.symm⟩
        · rintro ⟨j, hj, e⟩
          by_cases hjm : j = m
          · subst hjm; exact .inr e.symm
          · exact .inl ⟨j, by omega, e⟩
    · have hk' : Lib.keeps d m = false := by simpa using hk
      rw [if_neg hk, List.append_nil]
      refine ⟨h1, fun x => ?_⟩
      rw [h2]
      have hm0 : 0 < m := by
        rcases Nat.eq_zero_or_pos m with h | h
        · subst h; simp [Lib.keeps] at hk'
        · exact h
      have he : d[m]! = d[m - 1]! := Classical.byContradiction fun e => by
        have := Lib.keeps_pos (d := d) (m := m) e
        rw [this] at hk'
        cases hk'
      constructor
      · rintro ⟨j, hj, e⟩
        exact ⟨j, by omega, e⟩
      · rintro ⟨j, hj, e⟩
        by_cases hjm : j = m
        · subst hjm; exact ⟨j - 1, by omega, by rw [← he]; exact e⟩
        · exact ⟨j, by omega, e⟩
theorem compact_law (l : List Int) (hs : l.Pairwise (· ≤ ·)) : (Lib.compact l).Pairwise (· < ·) ∧ ∀ x, x ∈ Lib.compact l ↔ x ∈ l := by
  have h := compactUpTo_law l.toArray (fun i j hij hj => by
    have hj' : j < l.length := by simpa using hj
    rw [getElem!_pos l.toArray i (by simp; omega), getElem!_pos l.toArray j (by simpa using hj)]
    simp only [List.getElem_toArray]
    by_cases e : i = j
    · subst e; exact Int.le_refl _
    · exact List.pairwise_iff_getElem.1 hs i j (by omega) (by omega) (by omega)) l.length (by simp)
  refine ⟨h.1, fun x => (h.2 x).trans ?_⟩
  constructor
  · rintro ⟨j, hj, e⟩
    rw [getElem!_pos l.toArray j (by simpa using hj)] at e
    subst e
    simp
  · intro hx
    obtain ⟨j, hj, e⟩ := List.getElem_of_mem hx
    exact ⟨j, hj, by rw [getElem!_pos l.toArray j (by simpa using hj)]; simpa using e⟩
theorem mergeL_law (l l' : List Int) : (mergeL l l').Pairwise (· < ·) ∧ ∀ x, x ∈ mergeL l l' ↔ x ∈ l ∨ x ∈ l' := by
  have hs : ((l ++ l').mergeSort fun x y => decide (x ≤ y)).Pairwise (· ≤ ·) := by
    have := List.pairwise_mergeSort (le := fun x y : Int => decide (x ≤ y)) (fun a b c h1 h2 => by simp only [decide_eq_true_eq] at *; omega) (fun a b => by simp only [Bool.or_eq_true, decide_eq_true_eq]; omega) (l ++ l')
    exact this.imp (by simp)
  obtain ⟨h1, h2⟩ := compact_law _ hs
  refine ⟨h1, fun x => (h2 x).trans ?_⟩
  rw [(List.mergeSort_perm _ _).mem_iff, List.mem_append]
/-- ints in their kind's range -/
def inR (l : List Int) : Prop := ∀ x ∈ l, -9223372036854775808 ≤ x ∧ x ≤ 9223372036854775807
theorem repAll_ints {h : View} {css : List (List Value)} {xs : List Int} (k : RepAll Rep.int h css xs) : css.flatten = xs.map (Value.int .i64) ∧ inR xs := by
  induction css generalizing xs with
  | nil => cases xs with
    | nil => exact ⟨rfl, fun x hx => by cases hx⟩
    | cons x xs => exact k.elim
  | cons c css ih => cases xs with
    | nil => exact k.elim
    | cons x xs =>
      obtain ⟨⟨rfl, h1⟩, h2⟩ := k
      obtain ⟨h3, h4⟩ := ih h2
      refine ⟨by simp [h3], fun y hy => ?_⟩
      rcases List.mem_cons.1 hy with rfl | hy
      · exact h1
      · exact h4 y hy
theorem ints_repAll (h : View) (xs : List Int) (k : inR xs) : RepAll Rep.int h (xs.map fun x => [.int .i64 x]) xs := by
  induction xs with
  | nil => trivial
  | cons x xs ih => exact ⟨⟨rfl, k x (by simp)⟩, ih fun y hy => k y (by simp [hy])⟩
theorem flat_ints (xs : List Int) : (xs.map fun x => [Value.int .i64 x]).flatten = xs.map (Value.int .i64) := by
  induction xs with
  | nil => rfl
  | cons x xs ih => simp [ih]
theorem OwnOf.ints {w : World} {S : Nat → Prop} {base : Nat} {e : TypeId} {v : Value} {xs : List Int} (h : OwnOf Rep.int w S base e v xs) : w.ownsRow base e 1 v xs.length (xs.map (Value.int .i64)) ∧ inR xs := by
  obtain ⟨css, h1, h2⟩ := h
  obtain ⟨h3, h4⟩ := repAll_ints h1
  exact ⟨by rw [← h3]; exact h2, h4⟩
theorem OwnOf.ofInts {w : World} (S : Nat → Prop) {base : Nat} {e : TypeId} {v : Value} {xs : List Int} (h : w.ownsRow base e 1 v xs.length (xs.map (Value.int .i64))) (hr : inR xs) : OwnOf Rep.int w S base e v xs :=
  ⟨_, ints_repAll _ _ hr, by rw [flat_ints]; exact h⟩
theorem SliceOf.ints {h : View} {v : Value} {xs : List Int} (k : SliceOf Rep.int h v xs) : inR xs := by
  obtain ⟨css, h1, _⟩ := k
  exact (repAll_ints h1).2

theorem grow_ints (S : Nat → Prop) (n : Nat) (w : World) (hn : n ≤ 1099511627776) : Calls Tryz.prog 187 #[.slice none 0 0, .int .i64 n] w fun e w' => ∃ v', e = .returned v' ∧ OwnOf Rep.int w' S w.heap.size 3 v' [] ∧ Ext w w' := by
  obtain ⟨i0, hi, hz0, hz1, hz2⟩ := info_parts info_ints
  by_cases h0 : n = 0
  · subst h0
    refine (Any8.slices_Grow_room Tryz.growInt none 0 0 0 w (Nat.le_refl _) (by omega) (by omega) (by omega)).mono ?_
    rintro e w' ⟨rfl, rfl⟩
    exact ⟨_, rfl, OwnOf.nil _ _ _ _ _, Ext.refl _⟩
  · refine (Any8.slices_Grow_grow Tryz.growInt i0 _ hi hz0 (by rw [hz1]; decide) none 0 0 n [] w (Nat.le_refl _) (by omega) (by rw [hz2]; omega) (by omega) (by simp) (fun _ => rfl) (fun a h => by cases h)).mono ?_
    rintro e w' ⟨rfl, rfl⟩
    have hg := grownCap_ge w (0 + n) 0 (Tryz.growInt_ren.t 25)
    have hg2 := grownCap_le_maxLen w (0 + n) 0 (Tryz.growInt_ren.t 25) (by unfold maxLen; omega)
    refine ⟨_, rfl, ⟨[], trivial, ?_⟩, (Ext.refl w).drew.alloc _⟩
    refine World.ownsRow_made w.drew _ _ (Nat.le_refl _) hg2 ?_
    generalize grownCap w (0 + n) 0 (Tryz.growInt_ren.t 25) = cap at hg
    rw [show Rep.int.size = 1 from rfl]
    simp [size_zeroCells, Value.cells]
    omega

/-- the slice at a place of a slice of slices -/
theorem slice_at {α : Type} {R : Rep α} {w : View} {b o n cap : Nat} {xs : List (List α)} (h : SliceOf (Rep.slice R) w (.slice (some ⟨b, o, none⟩) n cap) xs) (i : Nat) (hi : i < xs.length) :
    ∃ v, w ⟨b, o + i, none⟩ = some v ∧ SliceOf R w v xs[i] := by
  obtain ⟨c, ⟨v, rfl, h1⟩, h2⟩ := h.at i hi
  have := h2 0 _ rfl
  rw [show (Rep.slice R).size = 1 from rfl, Nat.mul_one, Nat.add_zero] at this
  exact ⟨v, this, h1⟩
theorem flatten_take {α : Type} (ls : List (List α)) (k : Nat) (h : k < ls.length) : (ls.take (k + 1)).flatten = (ls.take k).flatten ++ ls[k] := by
  rw [List.take_succ_eq_append_getElem h, List.flatten_append]; simp only [List.flatten_cons, List.flatten_nil, List.append_nil]
theorem flatten_take_le {α : Type} (ls : List (List α)) (k : Nat) : (ls.take k).flatten.length ≤ ls.flatten.length := by
  have : ls.flatten = (ls.take k).flatten ++ (ls.drop k).flatten := by rw [← List.flatten_append, List.take_append_drop]
  rw [this, List.length_append]
  omega

set_option maxHeartbeats 2000000 in
theorem concat_ints (v : Value) (ls : List (List Int)) (w : World) (hv : SliceOf (Rep.slice Rep.int) w.cell? v ls) (hbig : ls.flatten.length ≤ 1099511627776) :
    Calls Tryz.prog 133 #[v] w fun e w' => ∃ v', e = .returned v' ∧ OwnOf Rep.int w' (fun _ => True) w.heap.size 3 v' ls.flatten ∧ Ext w w' := by
  obtain ⟨i0, hi, hz0, hz1, hz2⟩ := info_parts info_ints
  obtain ⟨pa, ca, rfl, ha1, ha2, ha3⟩ := hv.form
  have HV := Lib.hid hv
  unfold maxLen at ha2
  go_enter Tryz.func133, Tryz.ntmps133
  go_wp2_with fail
  go_loopg [3, 11] ls.length (fun gk n i wr => ∃ k m : Nat, k ≤ ls.length ∧ gk = ls.length - k ∧ i = .int .i64 k ∧ n = .int .i64 m ∧ m = (ls.take k).flatten.length ∧ w = wr)
  case atStart => exact ⟨0, 0, by omega, rfl, rfl, rfl, by simp, rfl⟩
  case round =>
    obtain ⟨k, m, hk, rfl, rfl, rfl, hm, rfl⟩ := hrel
    have hle := flatten_take_le ls k
    by_cases hlt : k < ls.length
    · obtain ⟨ba, oa, rfl⟩ := ha3 (by decide) (by omega)
      obtain ⟨u, c1, s1⟩ := slice_at hv k hlt
      have ht := flatten_take ls k hlt
      have hle2 := flatten_take_le ls (k + 1)
      obtain ⟨p1, q1, rfl, hq1, hq2, _⟩ := s1.form
      have hml : (ls.take (k + 1)).flatten.length = m + ls[k].length := by rw [ht, List.length_append, hm]
      rw [hml] at hle2
      rw [← hm] at hle
      generalize ls[k].length = n1 at hml hle2 hq1 c1 s1
      have HL := Lib.hid hml
      have HM := Lib.hid hm
      unfold maxLen at hq2
      have hd : decide ((k : Int) < (ls.length : Int)) = true := by simp; omega
      have hd1 : (k : Int) < (ls.length : Int) := by omega
      have hd2 : decide ((m : Int) + (n1 : Int) < 0) = false := by simp; omega
      clear s1 ht hml hm hv ha3
      go_wp2_with fail
      go_roundg (ls.length - (k + 1))
      case measure => omega
      case rel => exact ⟨k + 1, m + n1, by omega, rfl, by go_num, by go_num, HL.out.symm, rfl⟩
    · have : k = ls.length := by omega
      subst this
      rw [List.take_length] at hm
      have hmb : m ≤ 1099511627776 := by rw [hm]; exact hbig
      clear hv hle hm
      have HB := Lib.hid hbig
      clear hbig
      go_wp2_with fail
      refine (grow_ints (fun _ => True) m _ hmb).mono ?_
      rintro e w1 ⟨v1, rfl, hown, hx⟩
      have HO := Lib.hid hown
      clear hown
      go_wp2_with fail
      go_loopg [6, 27] ls.length (fun gk v i wr => ∃ k : Nat, k ≤ ls.length ∧ gk = ls.length - k ∧ i = .int .i64 k ∧ OwnOf Rep.int wr (fun _ => True) w.heap.size 3 v (ls.take k).flatten ∧ Ext w wr)
      case atStart => exact ⟨0, by omega, rfl, rfl, by simpa using HO.out, hx⟩
      case round =>
        clear HO hx
        obtain ⟨k, hk, rfl, rfl, hown, hx⟩ := hrel
        by_cases hlt : k < ls.length
        · obtain ⟨ba, oa, rfl⟩ := ha3 (by decide) (by omega)
          obtain ⟨u, c1, s1⟩ := slice_at HV.out k hlt
          have ht := flatten_take ls k hlt
          have hle2 := flatten_take_le ls (k + 1)
          have HO := Lib.hid hown
          have hbg := Nat.le_trans hle2 HB.out
          rw [ht, List.length_append] at hbg
          have hsub : ∀ v', OwnOf Rep.int wr (fun _ => True) w.heap.size 3 v' (ls.take k).flatten → Sub w.cell? (on wr (avoid (fun _ => True) v')) := fun v' ho p u e => by
            have hlt2 := World.block_lt_of_cell? w p e
            refine on_some.2 ⟨⟨fun he => ?_, trivial⟩, hx.at e⟩
            have := (ho.lt _ he.symm).1
            omega
          replace s1 := s1.ext (hsub _ hown)
          replace c1 := hx.at c1
          generalize ls[k] = x at s1 ht hbg
          have HT := Lib.hid ht
          have HG := Lib.hid hbg
          have S1 := Lib.hid s1
          obtain ⟨p1, q1, rfl, hq1, hq2, _⟩ := s1.form
          have hd : decide ((k : Int) < (ls.length : Int)) = true := by simp; omega
          have hd1 : (k : Int) < (ls.length : Int) := by omega
          clear s1 ht hbg hown ha3 hle2 hsub
          go_wp2_with (at_builtin; refine wpList_append_all Rep.int (fun _ => True) rfl _ _ 24 rfl w.heap.size 3 i0 _ 8 Tryz.underlying24 hi hz0 hz1 hz2 rfl (by decide) _ (ls.take k).flatten rfl HO.out _ x rfl S1.out ?c1 ?c2 ?c3 ?_)
          case c1 => have := HG.out; unfold maxLen; omega
          case c2 => have := HG.out; omega
          case c3 => exact hx.size
          intro v' w3 hown3 hgr _
          go_wp2_with fail
          go_roundg (ls.length - (k + 1))
          case measure => omega
          case rel => exact ⟨k + 1, by omega, rfl, by go_num, by rw [HT.out]; exact hown3, Below.grown hx hgr hx.size (fun j hj => (HO.out.lt j hj).1)⟩
        · have : k = ls.length := by omega
          subst this
          rw [List.take_length] at hown
          have HO := Lib.hid hown
          clear hown ha3
          go_wp2_with fail
          go_ret
          exact ⟨_, rfl, HO.out, hx⟩

theorem sort_ints (S : Nat → Prop) (v : Value) (xs : List Int) (w : World) (base : Nat) (e : TypeId) (h : OwnOf Rep.int w S base e v xs) (hn : xs.length < 4611686018427387904) :
    Calls Tryz.prog 58 #[v] w fun en w' => en = .returned (.tuple #[]) ∧ OwnOf Rep.int w' S base e v (xs.mergeSort fun x y => decide (x ≤ y)) ∧ w.grownBy w' v.ownBlock := by
  obtain ⟨h1, hr⟩ := h.ints
  by_cases hv : v = .slice none 0 0
  · subst hv
    have hx : xs.length = 0 := by
      rcases h1.2 with ⟨_, h0⟩ | ⟨_, _, _, h0, _⟩
      · exact h0
      · cases h0
    have hx := List.eq_nil_of_length_eq_zero hx
    subst hx
    refine (Tryz.slices_Sort_int_none none 0 w).mono ?_
    rintro en w' ⟨rfl, rfl⟩
    exact ⟨rfl, by simpa using h, ⟨rfl, rfl, rfl, Nat.le_refl _, fun _ _ _ => rfl⟩⟩
  · obtain ⟨g, cap, rfl, g1, g2, g3, g4, _, hH⟩ := Lib.holds_of_ownsRow h1 hv
    refine (Tryz.slices_Sort_int g 0 cap xs w hH g2 hn).mono ?_
    rintro en w' ⟨rfl, n, os, rfl⟩
    have hp := List.mergeSort_perm xs fun x y => decide (x ≤ y)
    rcases h1.2 with ⟨h0, _⟩ | ⟨g', cap', cur, h0, hb, hg, hm1, hm2, hs, ht⟩
    · cases h0
    · injection h0 with e1 e2 e3
      injection e1 with e1
      injection e1 with e1
      subst e1 e3
      have := ownsRow_sortedI (w := w) (base := base) (g := g) (cap := cap) (n := n) (e := e) (os := os) (cur := cur) (ss := xs) (ts := xs.mergeSort fun x y => decide (x ≤ y)) hp.length_eq hb hg hm1 hm2 hs
      refine ⟨rfl, ?_, grownBy_sortedI _⟩
      rw [← hp.length_eq] at this ⊢
      exact OwnOf.ofInts S this fun x hx => hr x (hp.mem_iff.1 hx)

theorem compact_ints (S : Nat → Prop) (v : Value) (xs : List Int) (w : World) (base : Nat) (e : TypeId) (h : OwnOf Rep.int w S base e v xs) :
    Calls Tryz.prog 90 #[v] w fun en w' => ∃ v', en = .returned v' ∧ OwnOf Rep.int w' S base e v' (Lib.compact xs) ∧ w.grownBy w' v.ownBlock := by
  obtain ⟨h1, hr⟩ := h.ints
  by_cases hv : v = .slice none 0 0
  · subst hv
    have hx : xs.length = 0 := by
      rcases h1.2 with ⟨_, h0⟩ | ⟨_, _, _, h0, _⟩
      · exact h0
      · cases h0
    have hx := List.eq_nil_of_length_eq_zero hx
    subst hx
    refine (Tryz.slices_Compact_int_empty none 0 w).mono ?_
    rintro en w' ⟨rfl, rfl⟩
    exact ⟨_, rfl, by simpa [Lib.compact, Lib.compactUpTo] using h, ⟨rfl, rfl, rfl, Nat.le_refl _, fun _ _ _ => rfl⟩⟩
  · obtain ⟨g, cap, rfl, g1, g2, g3, g4, _, hH⟩ := Lib.holds_of_ownsRow h1 hv
    unfold maxLen at g4
    refine (Tryz.slices_Compact_int g 0 cap xs w hH (by omega) g3).mono ?_
    rintro en w' ⟨rfl, q, rfl⟩
    have hle := Lib.compact_length_le xs
    have := Lib.ownsRow_putRow (q := q) (k := (Lib.compact xs).length) (ys := Lib.compact xs ++ List.replicate (xs.length - (Lib.compact xs).length) 0) h1 (by simp; omega) hle
    rw [List.take_left'] at this
    · refine ⟨_, rfl, OwnOf.ofInts S this fun x hx => hr x ?_, ?_⟩
      · have : x ∈ ((Lib.compact xs)) := hx
        unfold Lib.compact Lib.compactUpTo at this
        rw [List.mem_map] at this
        obtain ⟨j, hj, rfl⟩ := this
        have hj := (List.mem_filter.1 hj).1
        rw [List.mem_range] at hj
        rw [getElem!_pos xs.toArray j (by simpa using hj)]
        simp
      · refine ⟨rfl, rfl, rfl, by simp [Sort.ahead], fun k hk hne => ?_⟩
        have : g ≠ k := fun e => hne (by rw [e]; rfl)
        simp [Sort.putRow, Sort.mapBlock, Sort.ahead, Array.getElem?_modify, this]
    · rfl

set_option maxHeartbeats 1000000 in
theorem merge_lineage (va vb : Value) (l l' : List Int) (w : World) (ha : SliceOf Rep.int w.cell? va l) (hb : SliceOf Rep.int w.cell? vb l') (hf : l.length ≤ 1048576) (hf' : l'.length ≤ 1048576) :
    Calls Tryz.prog 91 #[va, vb] w fun e w' => ∃ v', e = .returned v' ∧ SliceOf Rep.int (on w' (since w)) v' (mergeL l l') ∧ Ext w w' := by
  have HA := Lib.hid ha
  have HB := Lib.hid hb
  obtain ⟨pa, ca, rfl, _⟩ := ha.form
  obtain ⟨pb, cb, rfl, _⟩ := hb.form
  clear ha hb
  go_enter Tryz.func91, Tryz.ntmps91
  go_wp2_with fail
  have hx := (Ext.refl w).alloc (.cells #[.slice pa l.length ca, .slice pb l'.length cb] 24)
  refine (concat_ints _ [l, l'] _ ⟨[[.slice pa l.length ca], [.slice pb l'.length cb]], ⟨⟨_, rfl, HA.out.ext hx.full⟩, ⟨_, rfl, HB.out.ext hx.full⟩, trivial⟩, .inr ⟨_, 2, rfl, by simp, by simp [maxLen], .inr ⟨_, 0, rfl, fun j u hj => ?_⟩⟩⟩ (by simp; omega)).mono ?_
  · rw [World.cell?_alloc_at _ _ _ _ rfl]
    simpa using hj
  rintro e w1 ⟨v1, rfl, hown1, hx1⟩
  replace hx := hx.trans hx1
  simp only [List.flatten_cons, List.flatten_nil, List.append_nil] at hown1
  replace hown1 := hown1.weak (base' := w.heap.size) (fun _ _ h => h) (by simp)
  have hlen : (l ++ l').length < 4611686018427387904 := by simp; omega
  have H1 := Lib.hid hown1
  clear hx1 hown1
  go_wp2_with fail
  refine (sort_ints _ _ _ _ _ _ H1.out hlen).mono ?_
  rintro e w2 ⟨rfl, hown2, hg2⟩
  have H2 := Lib.hid hown2
  have hx2 := Below.grown hx hg2 hx.size (fun k hk => (H1.out.lt k hk).1)
  clear hown2 hg2 hx
  go_wp2_with fail
  refine (compact_ints _ _ _ _ _ _ H2.out).mono ?_
  rintro e w3 ⟨v3, rfl, hown3, hg3⟩
  have H3 := Lib.hid hown3
  have hx3 := Below.grown hx2 hg3 hx2.size (fun k hk => (H2.out.lt k hk).1)
  clear hown3 hg3 hx2
  go_wp2_with fail
  go_ret
  exact ⟨_, rfl, H3.out.fresh flat_int, hx3⟩

end Go.Proofs.YtdgpbpbjlnlijaaGreatDoor

/- the reference's MergeLineage: plain part -/
namespace Go.Proofs.YtdgpbpbjlnlijaaGreatDoor

/-- l is ascending and holds what xs hold -/
def AscOf (l xs : List Int) : Prop := l.Pairwise (· < ·) ∧ (∀ x, x ∈ l ↔ x ∈ xs) ∧ l.length ≤ xs.length
end Go.Proofs.YtdgpbpbjlnlijaaGreatDoor

/- DepthP, NormP, joined -/

/- plain: the number of tuples that hold, as a function of time; no program in sight -/
namespace Go.Proofs.YtdgpbpbjlnlijaaGreatDoor

def validT (t : Tup) : Bool := validB t.from_ t.to_
/-- the ends of the valid tuples -/
def bnd (l : List Tup) : List Int := l.flatMap fun t => if validT t = true then [t.from_, t.to_] else []
/-- the change that one tuple makes at x -/
def chg1 (t : Tup) (x : Int) : Int := if validT t = true then (if t.from_ = x then 1 else 0) - (if t.to_ = x then 1 else 0) else 0
def chg : List Tup → Int → Int
  | [], _ => 0
  | t :: l, x => chg1 t x + chg l x
def holdsAt (x : Int) (t : Tup) : Bool := validT t && decide (t.from_ ≤ x) && decide (x < t.to_)
/-- how many hold at x -/
def cntAt (l : List Tup) (x : Int) : Nat := (l.filter (holdsAt x)).length
theorem bnd_append (a b : List Tup) : bnd (a ++ b) = bnd a ++ bnd b := by simp [bnd]
theorem bnd_len (l : List Tup) : (bnd l).length ≤ 2 * l.length := by
  induction l with
  | nil => simp [bnd]
  | cons t l ih =>
    have : bnd (t :: l) = (if validT t = true then [t.from_, t.to_] else []) ++ bnd l := rfl
    rw [this, List.length_append, List.length_cons]
    split <;> simp <;> omega
def sumL : List Int → Int
  | [] => 0
  | x :: l => x + sumL l
/-- a step of a function of time -/
structure StepI where
  from_ : Int
  to_ : Int
  n : Int
def addStep (out : List StepI) (s : StepI) : List StepI :=
  match out.getLast? with
  | some p => if p.n = s.n then out.dropLast ++ [⟨p.from_, s.to_, p.n⟩] else out ++ [s]
  | none => [s]
def stepsOf (P : List Int) (f : Nat → Int) : Nat → List StepI
  | 0 => []
  | k + 1 => addStep (stepsOf P f k) ⟨P[k]!, P[k + 1]!, f k⟩
theorem asc_len {l xs : List Int} (h : l.Pairwise (· < ·)) (hs : ∀ x ∈ l, x ∈ xs) : l.length ≤ xs.length := by
  induction l generalizing xs with
  | nil => simp
  | cons x l ih =>
    have h' := List.pairwise_cons.1 h
    have := ih (xs := xs.erase x) h'.2 fun y hy => by
      have h1 := h'.1 y hy
      exact (List.mem_erase_of_ne (by omega)).2 (hs y (by simp [hy]))
    rw [List.length_erase_of_mem (hs x (by simp))] at this
    have hx : 0 < xs.length := List.length_pos_of_mem (hs x (by simp))
    simp only [List.length_cons]
    omega
/-- the ends, ascending -/
def pts (l : List Tup) : List Int := mergeL (bnd l) []
theorem pts_law (l : List Tup) : AscOf (pts l) (bnd l) := by
  obtain ⟨h1, h2⟩ := mergeL_law (bnd l) []
  have hm : ∀ x, x ∈ pts l ↔ x ∈ bnd l := fun x => by unfold pts; rw [h2]; simp
  exact ⟨h1, hm, asc_len h1 fun x hx => (hm x).1 hx⟩
/-- depth as a function of time -/
def depthOf (l : List Tup) : List StepI := stepsOf (pts l) (fun i => cntAt l (pts l)[i]!) ((pts l).length - 1)

end Go.Proofs.YtdgpbpbjlnlijaaGreatDoor

/- plain: the normal form of a set of periods; no program in sight -/
namespace Go.Proofs.YtdgpbpbjlnlijaaGreatDoor
open Go.Shelf Go.Sort

structure Per where
  from_ : Int
  to_ : Int
def NormPer (s : List Per) : Prop := s.Pairwise (fun a b => a.to_ < b.from_) ∧ ∀ p ∈ s, p.from_ < p.to_
def inPer (s : List Per) (x : Int) : Prop := ∃ p ∈ s, p.from_ ≤ x ∧ x < p.to_
theorem inPer_cons {p : Per} {s : List Per} {x : Int} : inPer (p :: s) x ↔ (p.from_ ≤ x ∧ x < p.to_) ∨ inPer s x := by simp [inPer]
theorem inPer_append {a b : List Per} {x : Int} : inPer (a ++ b) x ↔ inPer a x ∨ inPer b x := by
  simp only [inPer, List.mem_append]
  constructor
  · rintro ⟨p, h | h, h2⟩
    · exact .inl ⟨p, h, h2⟩
    · exact .inr ⟨p, h, h2⟩
  · rintro (⟨p, h, h2⟩ | ⟨p, h, h2⟩)
    · exact ⟨p, .inl h, h2⟩
    · exact ⟨p, .inr h, h2⟩
theorem inPer_nil {x : Int} : ¬ inPer [] x := by simp [inPer]
theorem NormPer.tail {p : Per} {s : List Per} (h : NormPer (p :: s)) : NormPer s := ⟨(List.pairwise_cons.1 h.1).2, fun q hq => h.2 q (by simp [hq])⟩
theorem NormPer.head {p : Per} {s : List Per} (h : NormPer (p :: s)) : p.from_ < p.to_ ∧ ∀ q ∈ s, p.to_ < q.from_ := ⟨h.2 p (by simp), (List.pairwise_cons.1 h.1).1⟩
theorem NormPer.cons {p : Per} {s : List Per} (h : NormPer s) (hp : p.from_ < p.to_) (hs : ∀ q ∈ s, p.to_ < q.from_) : NormPer (p :: s) :=
  ⟨List.pairwise_cons.2 ⟨hs, h.1⟩, fun q hq => (List.mem_cons.1 hq).elim (fun e => e ▸ hp) (fun hq => h.2 q hq)⟩
theorem norm_unique {s t : List Per} (hs : NormPer s) (ht : NormPer t) (h : ∀ x, inPer s x ↔ inPer t x) : s = t := by
  induction s generalizing t with
  | nil =>
    cases t with
    | nil => rfl
    | cons q t =>
      have := (h q.from_).2 ⟨q, by simp, Int.le_refl _, ht.head.1⟩
      exact (inPer_nil this).elim
  | cons p s ih =>
    cases t with
    | nil =>
      have := (h p.from_).1 ⟨p, by simp, Int.le_refl _, hs.head.1⟩
      exact (inPer_nil this).elim
    | cons q t =>
      have lo : ∀ {p : Per} {s : List Per} {x : Int}, NormPer (p :: s) → inPer (p :: s) x → p.from_ ≤ x := by
        intro p s x h1 h2
        rcases inPer_cons.1 h2 with h2 | ⟨r, h3, h4⟩
        · exact h2.1
        · have := h1.head.2 r h3
          have := h1.head.1
          omega
      have gap : ∀ {p : Per} {s : List Per}, NormPer (p :: s) → ¬ inPer (p :: s) p.to_ := by
        intro p s h1 h2
        rcases inPer_cons.1 h2 with h2 | ⟨r, h3, h4⟩
        · omega
        · have := h1.head.2 r h3
          omega
      have a1 := lo ht ((h p.from_).1 ⟨p, by simp, Int.le_refl _, hs.head.1⟩)
      have a2 := lo hs ((h q.from_).2 ⟨q, by simp, Int.le_refl _, ht.head.1⟩)
      have a3 : ¬ p.to_ < q.to_ := fun hl => gap hs ((h p.to_).2 ⟨q, by simp, by have := hs.head.1; omega, hl⟩)
      have a4 : ¬ q.to_ < p.to_ := fun hl => gap ht ((h q.to_).1 ⟨p, by simp, by have := ht.head.1; omega, hl⟩)
      have e : p = q := by
        obtain ⟨p1, p2⟩ := p
        obtain ⟨q1, q2⟩ := q
        simp only [Per.mk.injEq] at *
        omega
      subst e
      congr 1
      refine ih hs.tail ht.tail fun x => ?_
      have key : ∀ {s : List Per}, NormPer (p :: s) → (inPer s x ↔ inPer (p :: s) x ∧ p.to_ ≤ x) := by
        intro s h1
        constructor
        · intro h2
          obtain ⟨r, h3, h4⟩ := h2
          exact ⟨inPer_cons.2 (.inr ⟨r, h3, h4⟩), by have := h1.head.2 r h3; omega⟩
        · rintro ⟨h2, h3⟩
          rcases inPer_cons.1 h2 with h2 | h2
          · omega
          · exact h2
      rw [key hs, key ht, h x]

/-- the program's way: behind a sort by the starts, one period more -/
def addPer (out : List Per) (p : Per) : List Per :=
  match out.getLast? with
  | some q => if p.from_ ≤ q.to_ then out.dropLast ++ [⟨q.from_, max q.to_ p.to_⟩] else out ++ [p]
  | none => [p]
theorem addPer_new {out : List Per} {p : Per} (h : ∀ (hn : 0 < out.length), ¬ p.from_ ≤ (out[out.length - 1]'(by omega)).to_) : addPer out p = out ++ [p] := by
  unfold addPer
  rcases List.eq_nil_or_concat out with rfl | ⟨l, q, rfl⟩
  · rfl
  · simp only [List.concat_eq_append] at h ⊢
    have := h (by simp)
    simp at this
    simp [this]
theorem addPer_old {out : List Per} {p : Per} (hn : 0 < out.length) (h : p.from_ ≤ (out[out.length - 1]'(by omega)).to_) : addPer out p = out.set (out.length - 1) ⟨(out[out.length - 1]'(by omega)).from_, max (out[out.length - 1]'(by omega)).to_ p.to_⟩ := by
  unfold addPer
  rcases List.eq_nil_or_concat out with rfl | ⟨l, q, rfl⟩
  · simp at hn
  · simp only [List.concat_eq_append] at h ⊢
    simp at h
    simp [h]
def mergePer (l : List Per) : List Per := l.foldl addPer []
theorem mergePer_snoc (l : List Per) (p : Per) : mergePer (l ++ [p]) = addPer (mergePer l) p := by simp [mergePer, List.foldl_append]
theorem addPer_law {out : List Per} {p : Per} (h : NormPer out) (hp : p.from_ < p.to_) (hf : ∀ q ∈ out, q.from_ ≤ p.from_) : NormPer (addPer out p) ∧ ∀ x, inPer (addPer out p) x ↔ inPer out x ∨ (p.from_ ≤ x ∧ x < p.to_) := by
  unfold addPer
  rcases List.eq_nil_or_concat out with rfl | ⟨l, q, rfl⟩
  · exact ⟨⟨by simp, by simpa using hp⟩, fun x => by simp [inPer]⟩
  · simp only [List.concat_eq_append] at h hf ⊢
    rw [List.getLast?_append]
    simp only [List.getLast?_singleton, Option.some_or, List.dropLast_concat]
    obtain ⟨h1, h2⟩ := h
    have h3 := List.pairwise_append.1 h1
    have hq := h2 q (by simp)
    have hqf := hf q (by simp)
    split
    · refine ⟨⟨?_, ?_⟩, fun x => ?_⟩
      · refine List.pairwise_append.2 ⟨h3.1, List.pairwise_singleton _ _, fun a ha b hb => ?_⟩
        rw [List.mem_singleton] at hb
        subst hb
        exact h3.2.2 a ha q (by simp)
      · intro a ha
        rcases List.mem_append.1 ha with ha | ha
        · exact h2 a (by simp [ha])
        · rw [List.mem_singleton] at ha; subst ha; simp only; omega
      · rw [inPer_append, inPer_append]
        have e1 : inPer [⟨q.from_, max q.to_ p.to_⟩] x ↔ q.from_ ≤ x ∧ x < max q.to_ p.to_ := by simp [inPer]
        have e2 : inPer [q] x ↔ q.from_ ≤ x ∧ x < q.to_ := by simp [inPer]
        rw [e1, e2, or_assoc]
        refine or_congr Iff.rfl ?_
        omega
    · refine ⟨⟨?_, ?_⟩, fun x => ?_⟩
      · refine List.pairwise_append.2 ⟨h1, List.pairwise_singleton _ _, fun a ha b hb => ?_⟩
        rw [List.mem_singleton] at hb
        subst hb
        rcases List.mem_append.1 ha with ha | ha
        · have := h3.2.2 a ha q (by simp)
          omega
        · rw [List.mem_singleton] at ha; subst ha; omega
      · intro a ha
        rcases List.mem_append.1 ha with ha | ha
        · exact h2 a ha
        · rw [List.mem_singleton] at ha; subst ha; exact hp
      · rw [inPer_append]
        have e1 : inPer [p] x ↔ p.from_ ≤ x ∧ x < p.to_ := by simp [inPer]
        rw [e1]
theorem addPer_from (out : List Per) (p : Per) (b : Int) (h : ∀ q ∈ out, q.from_ ≤ b) (hp : p.from_ ≤ b) : ∀ q ∈ addPer out p, q.from_ ≤ b := by
  unfold addPer
  rcases List.eq_nil_or_concat out with rfl | ⟨l, r, rfl⟩
  · intro q hq
    simp at hq
    rw [hq]; exact hp
  · simp only [List.concat_eq_append] at h ⊢
    rw [List.getLast?_append]
    simp only [List.getLast?_singleton, Option.some_or, List.dropLast_concat]
    split
    · intro q hq
      rcases List.mem_append.1 hq with hq | hq
      · exact h q (by simp [hq])
      · rw [List.mem_singleton] at hq; subst hq; exact h r (by simp)
    · intro q hq
      rcases List.mem_append.1 hq with hq | hq
      · exact h q hq
      · rw [List.mem_singleton] at hq; subst hq; exact hp
theorem mergePer_law {l : List Per} (hv : ∀ p ∈ l, p.from_ < p.to_) (hs : l.Pairwise fun a b => a.from_ ≤ b.from_) : NormPer (mergePer l) ∧ (∀ x, inPer (mergePer l) x ↔ inPer l x) := by
  have key : ∀ (l : List Per) (out : List Per), NormPer out → (∀ p ∈ l, p.from_ < p.to_) → (l.Pairwise fun a b => a.from_ ≤ b.from_) → (∀ q ∈ out, ∀ p ∈ l, q.from_ ≤ p.from_) → NormPer (l.foldl addPer out) ∧ ∀ x, inPer (l.foldl addPer out) x ↔ inPer out x ∨ inPer l x := by
    intro l
    induction l with
    | nil => intro out h _ _ _; exact ⟨h, fun x => by simp [inPer]⟩
    | cons p l ih =>
      intro out h hv hs hf
      have hs' := List.pairwise_cons.1 hs
      obtain ⟨g1, g2⟩ := addPer_law h (hv p (by simp)) fun q hq => hf q hq p (by simp)
      obtain ⟨k1, k2⟩ := ih (addPer out p) g1 (fun q hq => hv q (by simp [hq])) hs'.2 fun q hq r hr =>
        addPer_from out p r.from_ (fun q hq => hf q hq r (by simp [hr])) (hs'.1 r hr) q hq
      refine ⟨k1, fun x => ?_⟩
      rw [List.foldl_cons, k2, g2, inPer_cons, or_assoc]
  obtain ⟨h1, h2⟩ := key l [] ⟨List.Pairwise.nil, by simp⟩ hv hs (by simp)
  exact ⟨h1, fun x => by rw [mergePer, h2]; simp [inPer]⟩

/-- the reference's way: insertion into a normal form -/
def absorb : List Per → Per → Per × List Per
  | [], p => (p, [])
  | q :: s, p => if q.from_ ≤ p.to_ then absorb s ⟨min p.from_ q.from_, max p.to_ q.to_⟩ else (p, q :: s)
def insPer : List Per → Per → List Per
  | [], p => [p]
  | q :: s, p => if q.to_ < p.from_ then q :: insPer s p else (absorb (q :: s) p).1 :: (absorb (q :: s) p).2
theorem absorb_len (s : List Per) (p : Per) : (absorb s p).2.length ≤ s.length := by
  induction s generalizing p with
  | nil => simp [absorb]
  | cons q s ih =>
    unfold absorb
    split
    · have := ih ⟨min p.from_ q.from_, max p.to_ q.to_⟩
      simp only [List.length_cons]
      omega
    · simp
theorem insPer_len (s : List Per) (p : Per) : (insPer s p).length ≤ s.length + 1 := by
  induction s with
  | nil => simp [insPer]
  | cons q s ih =>
    unfold insPer
    split
    · simp only [List.length_cons]; omega
    · have := absorb_len (q :: s) p
      simp only [List.length_cons] at *
      omega
theorem absorb_law {s : List Per} {p : Per} (h : NormPer s) (hp : p.from_ < p.to_) (ht : ∀ q ∈ s, p.from_ ≤ q.to_) :
    NormPer ((absorb s p).1 :: (absorb s p).2) ∧ (∀ x, inPer ((absorb s p).1 :: (absorb s p).2) x ↔ inPer s x ∨ (p.from_ ≤ x ∧ x < p.to_)) ∧ ∀ L : Int, L < p.from_ → (∀ q ∈ s, L < q.from_) → ∀ q ∈ (absorb s p).1 :: (absorb s p).2, L < q.from_ := by
  induction s generalizing p with
  | nil => exact ⟨⟨by simp [absorb], by simpa [absorb] using hp⟩, fun x => by simp [absorb, inPer], fun L h1 _ => by simpa [absorb] using h1⟩
  | cons q s ih =>
    have hq := h.head
    have htq := ht q (by simp)
    unfold absorb
    split
    · obtain ⟨g1, g2, g3⟩ := ih (p := ⟨min p.from_ q.from_, max p.to_ q.to_⟩) h.tail (by simp only; omega) fun r hr => by
        have := hq.2 r hr
        have := h.2 r (by simp [hr])
        simp only
        omega
      refine ⟨g1, fun x => ?_, fun L h1 h2 => g3 L (by have := h2 q (by simp); simp only; omega) fun r hr => h2 r (by simp [hr])⟩
      rw [g2, inPer_cons]
      simp only
      have e : (min p.from_ q.from_ ≤ x ∧ x < max p.to_ q.to_) ↔ (q.from_ ≤ x ∧ x < q.to_) ∨ (p.from_ ≤ x ∧ x < p.to_) := by omega
      rw [e]
      constructor
      · rintro (k | k | k)
        · exact .inl (.inr k)
        · exact .inl (.inl k)
        · exact .inr k
      · rintro ((k | k) | k)
        · exact .inr (.inl k)
        · exact .inl k
        · exact .inr (.inr k)
    · refine ⟨NormPer.cons h hp fun r hr => ?_, fun x => ?_, fun L h1 h2 r hr => ?_⟩
      · rcases List.mem_cons.1 hr with rfl | hr
        · simp only; omega
        · have := hq.2 r hr
          simp only
          omega
      · rw [inPer_cons]
        exact or_comm
      · rcases List.mem_cons.1 hr with rfl | hr
        · exact h1
        · exact h2 r hr
theorem insPer_law {s : List Per} {p : Per} (h : NormPer s) (hp : p.from_ < p.to_) :
    NormPer (insPer s p) ∧ (∀ x, inPer (insPer s p) x ↔ inPer s x ∨ (p.from_ ≤ x ∧ x < p.to_)) ∧ ∀ L : Int, L < p.from_ → (∀ q ∈ s, L < q.from_) → ∀ q ∈ insPer s p, L < q.from_ := by
  induction s with
  | nil => exact ⟨⟨by simp [insPer], by simpa [insPer] using hp⟩, fun x => by simp [insPer, inPer], fun L h1 _ => by simpa [insPer] using h1⟩
  | cons q s ih =>
    have hq := h.head
    unfold insPer
    split
    · rename_i hl
      obtain ⟨g1, g2, g3⟩ := ih h.tail
      refine ⟨NormPer.cons g1 hq.1 (g3 q.to_ hl hq.2), fun x => ?_, fun L h1 h2 r hr => ?_⟩
      · rw [inPer_cons, inPer_cons, g2, or_assoc]
      · rcases List.mem_cons.1 hr with rfl | hr
        · exact h2 _ (by simp)
        · exact g3 L h1 (fun t ht => h2 t (by simp [ht])) r hr
    · refine absorb_law h hp fun r hr => ?_
      rcases List.mem_cons.1 hr with rfl | hr
      · omega
      · have := hq.2 r hr
        have := h.2 r (by simp [hr])
        omega
/-- the normal form of the valid ones -/
def refNorm (l : List Per) : List Per := (l.filter fun p => validB p.from_ p.to_).foldl insPer []
theorem refNorm_len (l : List Per) : (refNorm l).length ≤ l.length := by
  have key : ∀ (l : List Per) (out : List Per), (l.foldl insPer out).length ≤ out.length + l.length := by
    intro l
    induction l with
    | nil => intro out; simp
    | cons p l ih => intro out; have := ih (insPer out p); have := insPer_len out p; simp only [List.foldl_cons, List.length_cons]; omega
  have := key (l.filter fun p => validB p.from_ p.to_) []
  have := List.length_filter_le (fun p : Per => validB p.from_ p.to_) l
  unfold refNorm
  simp at *
  omega
theorem refNorm_law (l : List Per) : NormPer (refNorm l) ∧ ∀ x, inPer (refNorm l) x ↔ inPer (l.filter fun p => validB p.from_ p.to_) x := by
  have key : ∀ (l : List Per) (out : List Per), NormPer out → (∀ p ∈ l, p.from_ < p.to_) → NormPer (l.foldl insPer out) ∧ ∀ x, inPer (l.foldl insPer out) x ↔ inPer out x ∨ inPer l x := by
    intro l
    induction l with
    | nil => intro out h _; exact ⟨h, fun x => by simp [inPer]⟩
    | cons p l ih =>
      intro out h hv
      obtain ⟨g1, g2, _⟩ := insPer_law h (hv p (by simp))
      obtain ⟨k1, k2⟩ := ih (insPer out p) g1 fun q hq => hv q (by simp [hq])
      refine ⟨k1, fun x => ?_⟩
      rw [List.foldl_cons, k2, g2, inPer_cons, or_assoc]
  obtain ⟨h1, h2⟩ := key (l.filter fun p => validB p.from_ p.to_) [] ⟨List.Pairwise.nil, by simp⟩ fun p hp => (validB_lt (List.mem_filter.1 hp).2).2.1
  exact ⟨h1, fun x => by rw [refNorm, h2]; simp [inPer]⟩
theorem inPer_perm {s t : List Per} (h : s.Perm t) (x : Int) : inPer s x ↔ inPer t x := by
  unfold inPer
  constructor
  · rintro ⟨p, h1, h2⟩; exact ⟨p, h.mem_iff.1 h1, h2⟩
  · rintro ⟨p, h1, h2⟩; exact ⟨p, h.mem_iff.2 h1, h2⟩
/-- the two ways agree -/
theorem norm_agree {l s : List Per} (hp : s.Perm (l.filter fun p => validB p.from_ p.to_)) (hs : s.Pairwise fun a b => a.from_ ≤ b.from_) : mergePer s = refNorm l := by
  obtain ⟨h1, h2⟩ := mergePer_law (l := s) (fun p h => (validB_lt (List.mem_filter.1 (hp.mem_iff.1 h)).2).2.1) hs
  obtain ⟨k1, k2⟩ := refNorm_law l
  exact norm_unique h1 k1 fun x => by rw [h2, k2]; exact inPer_perm hp x

end Go.Proofs.YtdgpbpbjlnlijaaGreatDoor

/- plain: the sum of the lengths is the sum of depth times length; no program in sight -/
namespace Go.Proofs.YtdgpbpbjlnlijaaGreatDoor

def sumN (g : Nat → Int) : Nat → Int
  | 0 => 0
  | k + 1 => sumN g k + g k
/-- the length of what lies between ascending points -/
def dP (P : List Int) (i : Nat) : Int := P[i + 1]! - P[i]!
theorem asc_at {P : List Int} (hP : P.Pairwise (· < ·)) {i j : Nat} (hij : i < j) (hj : j < P.length) : P[i]! < P[j]! := by
  rw [getElem!_pos P i (by omega), getElem!_pos P j hj]
  exact List.pairwise_iff_getElem.1 hP i j (by omega) hj hij
theorem gap {P : List Int} (hP : P.Pairwise (· < ·)) {y : Int} (hy : y ∈ P) {k : Nat} (hk : k + 1 < P.length) (h : P[k]! < y) : P[k + 1]! ≤ y := by
  obtain ⟨j, hj, rfl⟩ := List.getElem_of_mem hy
  have h1 : P[j] = P[j]! := (getElem!_pos P j hj).symm
  rw [h1] at h ⊢
  by_cases e : j ≤ k
  · rcases Nat.lt_or_eq_of_le e with e | e
    · have := asc_at hP e (by omega); omega
    · subst e; omega
  · by_cases e2 : j = k + 1
    · subst e2; omega
    · have := asc_at hP (show k + 1 < j by omega) hj; omega
theorem first_le {P : List Int} (hP : P.Pairwise (· < ·)) {x : Int} (hx : x ∈ P) : P[0]! ≤ x := by
  obtain ⟨j, hj, rfl⟩ := List.getElem_of_mem hx
  rw [show P[j] = P[j]! from (getElem!_pos P j hj).symm]
  rcases Nat.eq_zero_or_pos j with e | e
  · subst e; omega
  · have := asc_at hP e hj; omega
theorem le_last {P : List Int} (hP : P.Pairwise (· < ·)) {x : Int} (hx : x ∈ P) : x ≤ P[P.length - 1]! := by
  obtain ⟨j, hj, rfl⟩ := List.getElem_of_mem hx
  rw [show P[j] = P[j]! from (getElem!_pos P j hj).symm]
  by_cases e : j = P.length - 1
  · subst e; omega
  · have := asc_at hP (show j < P.length - 1 by omega) (by omega); omega
def ind (b : Bool) : Int := if b = true then 1 else 0
def inI (x y z : Int) : Bool := decide (x ≤ z) && decide (z < y)
/-- the sum of the lengths -/
def lens : List Tup → Int
  | [] => 0
  | t :: l => (t.to_ - t.from_) + lens l
def area : List StepI → Int
  | [] => 0
  | s :: l => (s.to_ - s.from_) * s.n + area l
def cov : List StepI → Int
  | [] => 0
  | s :: l => (if 0 < s.n then s.to_ - s.from_ else 0) + cov l
/-- steps follow one another, none is empty, neighbours differ -/
def StepRuns (d : List StepI) : Prop := (∀ s ∈ d, s.from_ < s.to_) ∧ ∀ i (h : i + 1 < d.length), d[i].to_ = d[i + 1].from_ ∧ d[i].n ≠ d[i + 1].n
def perLen : List Per → Int
  | [] => 0
  | p :: s => (p.to_ - p.from_) + perLen s
/-- the ends of the normal form are ends of the periods -/
def Ends (L : List Int) (s : List Per) : Prop := ∀ p ∈ s, p.from_ ∈ L ∧ p.to_ ∈ L
def tupPer (t : Tup) : Per := ⟨t.from_, t.to_⟩
end Go.Proofs.YtdgpbpbjlnlijaaGreatDoor

/- plain: pairs and depth at one point of time; no program in sight -/
namespace Go.Proofs.YtdgpbpbjlnlijaaGreatDoor

/-- the start holds at t -/
def hE (t : Int) (e : Ev) : Bool := validB e.from_ e.to_ && decide (e.from_ ≤ t) && decide (t < e.to_)
/-- the pair's overlap holds t -/
def inP (t : Int) (p : Pair) : Bool := decide (p.from_ ≤ t) && decide (t < p.to_)
/-- what the last step that holds t says -/
def valAt (t : Int) (l : List StepI) : Int := l.foldl (fun d s => if s.from_ ≤ t ∧ t < s.to_ then s.n else d) 0
/-- no boundary between: the same tuples hold -/
theorem hold_between {P : List Int} (hP : P.Pairwise (· < ·)) {i : Nat} (hi : i + 1 < P.length) {t : Int} (h1 : P[i]! ≤ t) (h2 : t < P[i + 1]!) (l : List Tup) (hb : ∀ x ∈ bnd l, x ∈ P) : ∀ x ∈ l, holdsAt P[i]! x = holdsAt t x := by
  intro x hx
  unfold holdsAt
  cases hv : validB x.from_ x.to_ with
  | false =>
    have : validT x = false := hv
    simp [this]
  | true =>
    have hm : ∀ z, z = x.from_ ∨ z = x.to_ → z ∈ P := fun z hz => hb z (by
      unfold bnd
      refine List.mem_flatMap.2 ⟨x, hx, ?_⟩
      have : validT x = true := hv
      rw [this, if_pos rfl]
      rcases hz with rfl | rfl <;> simp)
    have g1 := gap hP (hm x.from_ (.inl rfl)) hi
    have g2 := gap hP (hm x.to_ (.inr rfl)) hi
    have : validT x = true := hv
    rw [this, Bool.true_and, Bool.true_and, Bool.eq_iff_iff]
    simp only [Bool.and_eq_true, decide_eq_true_eq]
    omega
theorem cnt_between {P : List Int} (hP : P.Pairwise (· < ·)) {i : Nat} (hi : i + 1 < P.length) {t : Int} (h1 : P[i]! ≤ t) (h2 : t < P[i + 1]!) (l : List Tup) (hb : ∀ x ∈ bnd l, x ∈ P) : cntAt l P[i]! = cntAt l t := by
  unfold cntAt
  rw [List.filter_congr (hold_between hP hi h1 h2 l hb)]
theorem cnt_out {P : List Int} (hP : P.Pairwise (· < ·)) {t : Int} (l : List Tup) (hb : ∀ x ∈ bnd l, x ∈ P) (h : t < P[0]! ∨ P[P.length - 1]! ≤ t) : cntAt l t = 0 := by
  unfold cntAt
  rw [List.length_eq_zero_iff, List.filter_eq_nil_iff]
  intro x hx hc
  unfold holdsAt at hc
  simp only [Bool.and_eq_true, decide_eq_true_eq] at hc
  have hv : validT x = true := hc.1.1
  have hm : ∀ z, z = x.from_ ∨ z = x.to_ → z ∈ P := fun z hz => hb z (by
    unfold bnd
    refine List.mem_flatMap.2 ⟨x, hx, ?_⟩
    rw [hv, if_pos rfl]
    rcases hz with rfl | rfl <;> simp)
  have g1 := first_le hP (hm x.from_ (.inl rfl))
  have g2 := le_last hP (hm x.to_ (.inr rfl))
  omega
end Go.Proofs.YtdgpbpbjlnlijaaGreatDoor

/- plain: the levels of a list of periods; no program in sight -/
namespace Go.Proofs.YtdgpbpbjlnlijaaGreatDoor

/-- the period holds t -/
def perHas (t : Int) (p : Per) : Bool := decide (p.from_ ≤ t) && decide (t < p.to_)
/-- one point: close the levels above d, or open up to d; the open levels' starts, the closed ones -/
def levStep (d : Nat) (x : Int) (q : List Int × List Per) : List Int × List Per :=
  (q.1.take d ++ List.replicate (d - q.1.length) x, q.2 ++ (q.1.drop d).reverse.map fun s => ⟨s, x⟩)
def levOf (P : List Int) (f : Nat → Nat) : Nat → List Int × List Per
  | 0 => ([], [])
  | k + 1 => levStep (f k) P[k]! (levOf P f k)
theorem levStep_len (d : Nat) (x : Int) (q : List Int × List Per) : (levStep d x q).1.length = d := by
  simp only [levStep, List.length_append, List.length_take, List.length_replicate]
  omega
/-- how many levels hold at t, closed and open -/
def levCnt (t : Int) (q : List Int × List Per) : Nat := (q.2.filter (perHas t)).length + (q.1.filter fun s => decide (s ≤ t)).length
theorem filter_all {α : Type} {p : α → Bool} {l : List α} (h : ∀ x ∈ l, p x = true) : l.filter p = l := List.filter_eq_self.2 h
theorem levStep_cnt (d : Nat) (x t : Int) (q : List Int × List Per) (h1 : ∀ s ∈ q.1, s < x) (h2 : ∀ p ∈ q.2, p.to_ ≤ x) : levCnt t (levStep d x q) = if x ≤ t then d else levCnt t q := by
  obtain ⟨o, out⟩ := q
  simp only at h1 h2
  unfold levCnt levStep
  simp only
  by_cases h : x ≤ t
  · rw [if_pos h]
    have e1 : (out ++ (o.drop d).reverse.map fun s => (⟨s, x⟩ : Per)).filter (perHas t) = [] := by
      rw [List.filter_eq_nil_iff]
      intro p hp
      unfold perHas
      simp only [Bool.and_eq_true, decide_eq_true_eq]
      rcases List.mem_append.1 hp with hp | hp
      · have := h2 p hp; omega
      · obtain ⟨s, _, rfl⟩ := List.mem_map.1 hp
        simp only
        omega
    have e2 : (o.take d ++ List.replicate (d - o.length) x).filter (fun s => decide (s ≤ t)) = o.take d ++ List.replicate (d - o.length) x := filter_all fun s hs => by
      rw [decide_eq_true_eq]
      rcases List.mem_append.1 hs with hs | hs
      · have := h1 s (List.mem_of_mem_take hs); omega
      · rw [List.eq_of_mem_replicate hs]; exact h
    rw [e1, e2]
    simp only [List.length_nil, List.length_append, List.length_take, List.length_replicate]
    omega
  · rw [if_neg h]
    have e0 : (List.replicate (d - o.length) x).filter (fun s => decide (s ≤ t)) = [] := by
      rw [List.filter_eq_nil_iff]
      intro s hs
      rw [List.eq_of_mem_replicate hs, decide_eq_true_eq]
      exact h
    have e1 : (((o.drop d).reverse.map fun s => (⟨s, x⟩ : Per)).filter (perHas t)).length = ((o.drop d).filter fun s => decide (s ≤ t)).length := by
      rw [List.filter_map, List.length_map, List.filter_reverse, List.length_reverse]
      congr 2
      funext s
      simp only [Function.comp, perHas]
      rw [show decide (t < x) = true by rw [decide_eq_true_eq]; omega, Bool.and_true]
    have e2 : (o.filter fun s => decide (s ≤ t)).length = ((o.take d).filter fun s => decide (s ≤ t)).length + ((o.drop d).filter fun s => decide (s ≤ t)).length := by
      rw [← List.length_append, ← List.filter_append, List.take_append_drop]
    rw [List.filter_append, List.filter_append, List.length_append, List.length_append, e0, e1, e2]
    simp only [List.length_nil]
    omega
/-- what f says at the last point up to t -/
def gAt (P : List Int) (f : Nat → Nat) : Nat → Int → Nat
  | 0, _ => 0
  | k + 1, t => if P[k]! ≤ t then f k else gAt P f k t
theorem levOf_law {P : List Int} (hP : P.Pairwise (· < ·)) (f : Nat → Nat) (k : Nat) (hk : k ≤ P.length) :
    (∀ t, levCnt t (levOf P f k) = gAt P f k t) ∧ (∀ s ∈ (levOf P f k).1, s ∈ P ∧ (k < P.length → s < P[k]!)) ∧ (∀ p ∈ (levOf P f k).2, p.from_ ∈ P ∧ p.to_ ∈ P ∧ p.from_ < p.to_ ∧ (k < P.length → p.to_ < P[k]!)) ∧ (0 < k → (levOf P f k).1.length = f (k - 1)) := by
  induction k with
  | zero => exact ⟨fun t => rfl, fun s hs => (by cases hs), fun p hp => (by cases hp), fun h => by omega⟩
  | succ k ih =>
    obtain ⟨h1, h2, h3, _⟩ := ih (by omega)
    have hkm : P[k]! ∈ P := by rw [getElem!_pos P k (by omega)]; exact List.getElem_mem _
    have hup : ∀ z, z < P[k]! ∨ z = P[k]! → k + 1 < P.length → z < P[k + 1]! := fun z hz h => by
      have := asc_at hP (show k < k + 1 by omega) h
      omega
    refine ⟨fun t => ?_, fun s hs => ?_, fun p hp => ?_, fun _ => levStep_len _ _ _⟩
    · show levCnt t (levStep (f k) P[k]! (levOf P f k)) = if P[k]! ≤ t then f k else gAt P f k t
      rw [levStep_cnt _ _ _ _ (fun s hs => (h2 s hs).2 (by omega)) fun p hp => by have := (h3 p hp).2.2.2 (by omega); omega, h1 t]
    · have hs' : s ∈ (levOf P f k).1.take (f k) ++ List.replicate (f k - (levOf P f k).1.length) P[k]! := hs
      rcases List.mem_append.1 hs' with hs | hs
      · have := h2 s (List.mem_of_mem_take hs)
        exact ⟨this.1, hup s (.inl (this.2 (by omega)))⟩
      · rw [List.eq_of_mem_replicate hs]
        exact ⟨hkm, hup _ (.inr rfl)⟩
    · have hp' : p ∈ (levOf P f k).2 ++ ((levOf P f k).1.drop (f k)).reverse.map fun s => (⟨s, P[k]!⟩ : Per) := hp
      rcases List.mem_append.1 hp' with hp | hp
      · obtain ⟨g1, g2, g3, g4⟩ := h3 p hp
        exact ⟨g1, g2, g3, hup _ (.inl (g4 (by omega)))⟩
      · obtain ⟨s, hs, rfl⟩ := List.mem_map.1 hp
        have := h2 s (List.mem_of_mem_drop (List.mem_reverse.1 hs))
        exact ⟨this.1, hkm, this.2 (by omega), hup _ (.inr rfl)⟩

/-- a period as a tuple without values -/
def perT (p : Per) : Tup := ⟨[], p.from_, p.to_, []⟩
/-- the levels of the periods -/
def levPts (ps : List Per) : List Int := pts (ps.map perT)
def levF (ps : List Per) (i : Nat) : Nat := cntAt (ps.map perT) (levPts ps)[i]!
def levels (ps : List Per) : List Per := (levOf (levPts ps) (levF ps) (levPts ps).length).2
theorem levels_law (ps : List Per) (t : Int) : ((levels ps).filter (perHas t)).length = cntAt (ps.map perT) t := by
  obtain ⟨p1, p2, _⟩ := pts_law (ps.map perT)
  have hb : ∀ x ∈ bnd (ps.map perT), x ∈ levPts ps := fun x hx => (p2 x).2 hx
  have hlow : ∀ k, k < (levPts ps).length → t < (levPts ps)[k]! → gAt (levPts ps) (levF ps) k t = cntAt (ps.map perT) t := by
    intro k
    induction k with
    | zero => intro _ h; exact (cnt_out p1 _ hb (.inl h)).symm
    | succ k ih =>
      intro hk h
      unfold gAt
      by_cases c : (levPts ps)[k]! ≤ t
      · rw [if_pos c]
        exact cnt_between p1 hk c h _ hb
      · rw [if_neg c]
        exact ih (by omega) (by omega)
  obtain ⟨h1, _, _, h4⟩ := levOf_law p1 (levF ps) (levPts ps).length (Nat.le_refl _)
  have hall : gAt (levPts ps) (levF ps) (levPts ps).length t = cntAt (ps.map perT) t ∧ (levOf (levPts ps) (levF ps) (levPts ps).length).1 = [] := by
    rcases Nat.eq_zero_or_pos (levPts ps).length with h0 | h0
    · rw [h0]
      have hnil : levPts ps = [] := List.length_eq_zero_iff.1 h0
      refine ⟨?_, rfl⟩
      show 0 = _
      unfold cntAt
      symm
      rw [List.length_eq_zero_iff, List.filter_eq_nil_iff]
      intro x hx hc
      unfold holdsAt at hc
      simp only [Bool.and_eq_true, decide_eq_true_eq] at hc
      have hv : validT x = true := hc.1.1
      have : x.from_ ∈ levPts ps := hb _ (by
        unfold bnd
        refine List.mem_flatMap.2 ⟨x, hx, ?_⟩
        rw [hv, if_pos rfl]
        simp)
      rw [hnil] at this
      cases this
    · obtain ⟨n, hn⟩ : ∃ n, (levPts ps).length = n + 1 := ⟨(levPts ps).length - 1, by omega⟩
      have hend : levF ps n = 0 := by
        unfold levF
        exact cnt_out p1 _ hb (.inr (by show (levPts ps)[(levPts ps).length - 1]! ≤ _; rw [hn]; exact Int.le_refl _))
      have hlen := h4 h0
      rw [hn] at hlen ⊢
      simp only [Nat.add_sub_cancel] at hlen
      rw [hend] at hlen
      refine ⟨?_, List.length_eq_zero_iff.1 hlen⟩
      unfold gAt
      by_cases c : (levPts ps)[n]! ≤ t
      · rw [if_pos c, hend]
        exact (cnt_out p1 _ hb (.inr (by show (levPts ps)[(levPts ps).length - 1]! ≤ _; rw [hn]; exact c))).symm
      · rw [if_neg c]
        exact hlow n (by omega) (by omega)
  have h : levCnt t (levOf (levPts ps) (levF ps) (levPts ps).length) = gAt (levPts ps) (levF ps) (levPts ps).length t := h1 t
  rw [hall.1] at h
  unfold levCnt at h
  rw [hall.2] at h
  exact h
theorem levels_ends (ps : List Per) : ∀ p ∈ levels ps, p.from_ ∈ levPts ps ∧ p.to_ ∈ levPts ps ∧ p.from_ < p.to_ := fun p hp => by
  obtain ⟨p1, _, _⟩ := pts_law (ps.map perT)
  obtain ⟨_, _, h3, _⟩ := levOf_law p1 (levF ps) (levPts ps).length (Nat.le_refl _)
  exact ⟨(h3 p hp).1, (h3 p hp).2.1, (h3 p hp).2.2.1⟩

end Go.Proofs.YtdgpbpbjlnlijaaGreatDoor

/- plain: the rows of a timeslice; no program in sight -/
namespace Go.Proofs.YtdgpbpbjlnlijaaGreatDoor
open Go.RowKit

def tupRow (t : Tup) : Row := ⟨t.vals, t.lin⟩
def sliceRows (l : List Tup) (x : Int) : List Row := (l.filter (holdsAt x)).map tupRow
end Go.Proofs.YtdgpbpbjlnlijaaGreatDoor

/- plain: the normal form of a relation; no program in sight -/
namespace Go.Proofs.YtdgpbpbjlnlijaaGreatDoor
open Go.RowKit

def tupOf (r : Row) (p : Per) : Tup := ⟨r.vals, p.from_, p.to_, r.lin⟩
def cmpTup (a b : Tup) : Int := orI [cmpRow (tupRow a) (tupRow b), cmpI a.from_ b.from_, cmpI a.to_ b.to_]
theorem cmpTup_eq (a b : Tup) : cmpTup a b = if cmpRow (tupRow a) (tupRow b) = 0 then (if cmpI a.from_ b.from_ = 0 then cmpI a.to_ b.to_ else cmpI a.from_ b.from_) else cmpRow (tupRow a) (tupRow b) := by
  unfold cmpTup orI orI orI orI
  by_cases h1 : cmpRow (tupRow a) (tupRow b) = 0 <;> by_cases h2 : cmpI a.from_ b.from_ = 0 <;> by_cases h3 : cmpI a.to_ b.to_ = 0 <;> simp [h1, h2, h3]
theorem flat_congr {α β : Type} {f g : α → List β} {l : List α} (h : ∀ x ∈ l, f x = g x) : l.flatMap f = l.flatMap g := by
  induction l with
  | nil => rfl
  | cons x l ih => rw [List.flatMap_cons, List.flatMap_cons, h x (by simp), ih fun y hy => h y (by simp [hy])]
theorem ord_tup : Ord3 cmpTup := by
  have h : Ord3 fun x y : Row × Int × Int => if cmpRow x.1 y.1 = 0 then (if cmpI x.2.1 y.2.1 = 0 then cmpI x.2.2 y.2.2 else cmpI x.2.1 y.2.1) else cmpRow x.1 y.1 :=
    ord_then ord_row ord_I2 Prod.fst Prod.snd fun _ _ h1 h2 => Prod.ext h1 h2
  have h2 := ord_pull h (fun t : Tup => (tupRow t, t.from_, t.to_)) fun x y e => by
    obtain ⟨_, _, _, _⟩ := x
    obtain ⟨_, _, _, _⟩ := y
    simp only [tupRow, Prod.mk.injEq, Row.mk.injEq] at e
    simp [e]
  have e : cmpTup = fun x y : Tup => if cmpRow (tupRow x) (tupRow y) = 0 then (if cmpI x.from_ y.from_ = 0 then cmpI x.to_ y.to_ else cmpI x.from_ y.from_) else cmpRow (tupRow x) (tupRow y) := by
    funext a b
    exact cmpTup_eq a b
  rw [e]
  exact h2

section
open Classical
/-- each once -/
noncomputable def once {α : Type} : List α → List α
  | [] => []
  | x :: l => if x ∈ l then once l else x :: once l
theorem mem_once {α : Type} {x : α} {l : List α} : x ∈ once l ↔ x ∈ l := by
  induction l with
  | nil => rfl
  | cons y l ih =>
    unfold once
    split
    · rename_i h
      rw [ih, List.mem_cons]
      exact ⟨.inr, fun hx => by rcases hx with rfl | hx; exact h; exact hx⟩
    · rw [List.mem_cons, List.mem_cons, ih]
theorem once_nodup {α : Type} (l : List α) : (once l).Nodup := by
  induction l with
  | nil => exact List.nodup_nil
  | cons y l ih =>
    unfold once
    split
    · exact ih
    · rename_i h
      exact List.nodup_cons.2 ⟨fun hx => h (mem_once.1 hx), ih⟩
theorem group_perm {α β : Type} (f : α → β) : ∀ (ks : List β) (l : List α), ks.Nodup → (∀ x ∈ l, f x ∈ ks) → (ks.flatMap fun k => l.filter fun x => decide (f x = k)).Perm l := by
  intro ks
  induction ks with
  | nil =>
    intro l _ h
    cases l with
    | nil => exact .refl _
    | cons x l => exact absurd (h x (by simp)) (by simp)
  | cons k ks ih =>
    intro l hn h
    obtain ⟨h1, h2⟩ := List.nodup_cons.1 hn
    rw [List.flatMap_cons]
    have e : (ks.flatMap fun k' => l.filter fun x => decide (f x = k')) = ks.flatMap fun k' => (l.filter fun x => !decide (f x = k)).filter fun x => decide (f x = k') := by
      refine flat_congr fun k' hk' => ?_
      rw [List.filter_filter]
      refine List.filter_congr fun x _ => ?_
      by_cases c : f x = k'
      · have : ¬ f x = k := fun c2 => h1 (by rw [← c2, c]; exact hk')
        simp [c]
        rw [← c]; exact this
      · simp [c]
    rw [e]
    refine ((ih _ h2 fun x hx => ?_).append_left _).trans (List.filter_append_perm _ l)
    obtain ⟨g1, g2⟩ := List.mem_filter.1 hx
    rcases List.mem_cons.1 (h x g1) with c | c
    · simp [c] at g2
    · exact c
/-- the valid periods of a row -/
noncomputable def persOf (r : Row) (l : List Tup) : List Per := ((l.filter validT).filter fun t => decide (tupRow t = r)).map tupPer
noncomputable def rowsOf (l : List Tup) : List Row := once ((l.filter validT).map tupRow)
noncomputable def normRaw (ks : List Row) (l : List Tup) : List Tup := ks.flatMap fun r => (levels (persOf r l)).map (tupOf r)
noncomputable def normT (l : List Tup) : List Tup := sortBy cmpTup (normRaw (rowsOf l) l)
theorem normT_of {l : List Tup} {ks : List Row} (hn : ks.Nodup) (hk : ∀ r, r ∈ ks ↔ ∃ t ∈ l, validT t = true ∧ tupRow t = r) {out : List Tup} (ho : out.Perm (normRaw ks l)) : sortBy cmpTup out = normT l := by
  refine sortBy_unique ord_tup ?_ (sortBy_pair ord_tup _)
  refine (sortBy_perm _ _).trans (ho.trans ?_)
  unfold normRaw
  refine List.Perm.flatMap_right _ ((List.perm_ext_iff_of_nodup hn (once_nodup _)).2 fun r => ?_)
  rw [hk r, mem_once, List.mem_map]
  constructor
  · rintro ⟨t, h1, h2, h3⟩; exact ⟨t, List.mem_filter.2 ⟨h1, h2⟩, h3⟩
  · rintro ⟨t, h1, h3⟩; exact ⟨t, (List.mem_filter.1 h1).1, (List.mem_filter.1 h1).2, h3⟩
theorem levels_valid {ps : List Per} (h : ∀ p ∈ ps, validB p.from_ p.to_ = true) : ∀ p ∈ levels ps, validB p.from_ p.to_ = true := by
  intro p hp
  obtain ⟨h1, h2, h3⟩ := levels_ends ps p hp
  obtain ⟨_, p2, _⟩ := pts_law (ps.map perT)
  have key : ∀ x, x ∈ levPts ps → 0 ≤ x ∧ x ≤ 1099511627776 := fun x hx => by
    have hx := (p2 x).1 hx
    unfold bnd at hx
    obtain ⟨t, ht, hx⟩ := List.mem_flatMap.1 hx
    obtain ⟨q, hq, rfl⟩ := List.mem_map.1 ht
    have hv := validB_lt (h q hq)
    split at hx
    · simp [perT] at hx; omega
    · cases hx
  have k1 := key _ h1
  have k2 := key _ h2
  unfold validB
  simp only [Bool.and_eq_true, decide_eq_true_eq]
  omega
theorem persOf_valid (r : Row) (l : List Tup) : ∀ p ∈ persOf r l, validB p.from_ p.to_ = true := by
  intro p hp
  unfold persOf at hp
  obtain ⟨t, ht, rfl⟩ := List.mem_map.1 hp
  exact (List.mem_filter.1 (List.mem_filter.1 ht).1).2
/-- what holds of a row at t, in the normal form -/
theorem norm_row (r : Row) (l : List Tup) (t : Int) : sliceRows ((levels (persOf r l)).map (tupOf r)) t = List.replicate ((l.filter (holdsAt t)).filter fun x => decide (tupRow x = r)).length r := by
  have e1 : ((levels (persOf r l)).map (tupOf r)).filter (holdsAt t) = ((levels (persOf r l)).filter (perHas t)).map (tupOf r) := by
    rw [List.filter_map]
    congr 1
    refine List.filter_congr fun p hp => ?_
    have hv := levels_valid (persOf_valid r l) p hp
    simp only [Function.comp, holdsAt, validT, tupOf, perHas]
    rw [hv, Bool.true_and]
    rfl
  have e2 : cntAt ((persOf r l).map perT) t = ((l.filter (holdsAt t)).filter fun x => decide (tupRow x = r)).length := by
    unfold cntAt persOf
    rw [List.filter_map, List.length_map, List.filter_map, List.length_map, List.filter_filter, List.filter_filter, List.filter_filter]
    congr 2
    funext x
    simp only [Function.comp, perT, tupPer, holdsAt, validT]
    cases validB x.from_ x.to_ <;> simp [Bool.and_comm] <;> rfl
  unfold sliceRows
  rw [e1, List.map_map]
  have e3 : (tupRow ∘ tupOf r) = fun _ => r := rfl
  rw [e3, List.map_const', levels_law, e2]
theorem slice_flat (ks : List Row) (G : Row → List Tup) (t : Int) : sliceRows (ks.flatMap G) t = ks.flatMap fun r => sliceRows (G r) t := by
  induction ks with
  | nil => rfl
  | cons k ks ih =>
    rw [List.flatMap_cons, List.flatMap_cons, ← ih]
    unfold sliceRows
    rw [List.filter_append, List.map_append]
theorem normT_rows (l : List Tup) (t : Int) : (sliceRows (normT l) t).Perm (sliceRows l t) := by
  have h1 : (sliceRows (normT l) t).Perm (sliceRows (normRaw (rowsOf l) l) t) := ((sortBy_perm _ _).filter _).map _
  refine h1.trans ?_
  unfold normRaw
  rw [slice_flat]
  have h2 := (group_perm tupRow (rowsOf l) (l.filter (holdsAt t)) (once_nodup _) fun x hx => mem_once.2 (List.mem_map.2 ⟨x, List.mem_filter.2 ⟨(List.mem_filter.1 hx).1, by
    have := (List.mem_filter.1 hx).2
    unfold holdsAt at this
    simp only [Bool.and_eq_true] at this
    exact this.1.1⟩, rfl⟩)).map tupRow
  refine List.Perm.trans ?_ h2
  rw [List.map_flatMap]
  refine List.Perm.of_eq (flat_congr fun r _ => ?_)
  rw [norm_row]
  symm
  rw [List.eq_replicate_iff]
  refine ⟨List.length_map _, fun x hx => ?_⟩
  obtain ⟨y, hy, rfl⟩ := List.mem_map.1 hx
  simpa using (List.mem_filter.1 hy).2
end

end Go.Proofs.YtdgpbpbjlnlijaaGreatDoor

/- plain: the key of a row is its own; no program in sight -/
namespace Go.Proofs.YtdgpbpbjlnlijaaGreatDoor
open Go.Lib

def numCh (c : UInt8) : Bool := decide (c = 45) || (decide (48 ≤ c.toNat) && decide (c.toNat ≤ 57))
theorem digit_ch {d : Nat} (h : d < 10) : (UInt8.ofNat (48 + d)).toNat = 48 + d := by
  simp only [UInt8.toNat_ofNat']
  omega
theorem digits_ch (u : Nat) : ∀ c ∈ decDigits u, 48 ≤ c.toNat ∧ c.toNat ≤ 57 := by
  induction u using decDigits.induct with
  | case1 u h =>
    rw [decDigits, dif_pos h]
    intro c hc
    rw [List.mem_singleton] at hc
    subst hc
    rw [digit_ch h]
    omega
  | case2 u h ih =>
    rw [decDigits, dif_neg h]
    intro c hc
    rcases List.mem_append.1 hc with hc | hc
    · exact ih c hc
    · rw [List.mem_singleton] at hc
      subst hc
      rw [digit_ch (by omega)]
      omega
def readDec (l : List UInt8) : Nat := l.foldl (fun v c => v * 10 + (c.toNat - 48)) 0
theorem readDec_digits (u : Nat) : readDec (decDigits u) = u := by
  induction u using decDigits.induct with
  | case1 u h =>
    rw [decDigits, dif_pos h]
    show 0 * 10 + ((UInt8.ofNat (48 + u)).toNat - 48) = u
    rw [digit_ch h]
    omega
  | case2 u h ih =>
    rw [decDigits, dif_neg h]
    unfold readDec at ih ⊢
    rw [List.foldl_append, ih]
    show u / 10 * 10 + ((UInt8.ofNat (48 + u % 10)).toNat - 48) = u
    rw [digit_ch (by omega)]
    omega
theorem digits_inj {u v : Nat} (h : decDigits u = decDigits v) : u = v := by rw [← readDec_digits u, h, readDec_digits]
theorem minus_digits {u v : Nat} (h : 45 :: decDigits u = decDigits v) : False := by
  have := digits_ch v 45 (by rw [← h]; simp)
  have e : (45 : UInt8).toNat = 45 := rfl
  omega
theorem itoa_inj {a b : Int} (h : itoa a = itoa b) : a = b := by
  unfold itoa at h
  split at h <;> split at h
  · injection h with _ h
    have := digits_inj h
    omega
  · exact (minus_digits h).elim
  · exact (minus_digits h.symm).elim
  · have := digits_inj h
    omega
theorem itoa_ch (n : Int) : ∀ c ∈ itoa n, numCh c = true := by
  have key : ∀ u, ∀ c ∈ decDigits u, numCh c = true := fun u c hc => by
    have := digits_ch u c hc
    unfold numCh
    simp [this.1, this.2]
  unfold itoa
  split
  · intro c hc
    rcases List.mem_cons.1 hc with rfl | hc
    · rfl
    · exact key _ c hc
  · exact key _
/-- nothing more of a number -/
def Over (x : List UInt8) : Prop := ∀ c r, x = c :: r → numCh c = false
theorem Over.nil : Over [] := fun c r h => by cases h
theorem Over.cons {c : UInt8} {r : List UInt8} (h : numCh c = false) : Over (c :: r) := fun c' r' e => by cases e; exact h
theorem take_num (n : Int) {x : List UInt8} (hx : Over x) : (itoa n ++ x).takeWhile numCh = itoa n ∧ (itoa n ++ x).dropWhile numCh = x := by
  rw [List.takeWhile_append_of_pos (itoa_ch n), List.dropWhile_append_of_pos (itoa_ch n)]
  cases x with
  | nil => simp
  | cons c r => rw [List.takeWhile_cons_of_neg (by rw [hx c r rfl]; decide), List.dropWhile_cons_of_neg (by rw [hx c r rfl]; decide)]; simp
theorem split_num {a b : Int} {x y : List UInt8} (hx : Over x) (hy : Over y) (h : itoa a ++ x = itoa b ++ y) : a = b ∧ x = y := by
  obtain ⟨h1, h2⟩ := take_num a hx
  obtain ⟨h3, h4⟩ := take_num b hy
  rw [h] at h1 h2
  exact ⟨itoa_inj (h1.symm.trans h3), h2.symm.trans h4⟩
def keyVal (v : Val) : List UInt8 := itoa v.kind ++ 44 :: (itoa v.n ++ 44 :: (itoa v.s.size ++ 58 :: v.s.data.toList))
def keyVals (vs : List Val) : List UInt8 := vs.flatMap keyVal
def keyLin (l : List Int) : List UInt8 := l.flatMap fun id => 44 :: itoa id
def keyRow (r : Row) : List UInt8 := itoa r.vals.length ++ 59 :: (keyVals r.vals ++ keyLin r.lin)
theorem keyVal_inj {v u : Val} {x y : List UInt8} (h : keyVal v ++ x = keyVal u ++ y) : v = u ∧ x = y := by
  unfold keyVal at h
  simp only [List.append_assoc, List.cons_append] at h
  obtain ⟨h1, h⟩ := split_num (Over.cons (by decide)) (Over.cons (by decide)) h
  injection h with _ h
  obtain ⟨h2, h⟩ := split_num (Over.cons (by decide)) (Over.cons (by decide)) h
  injection h with _ h
  obtain ⟨h3, h⟩ := split_num (Over.cons (by decide)) (Over.cons (by decide)) h
  injection h with _ h
  have hl : v.s.data.toList.length = u.s.data.toList.length := by
    have e1 : v.s.data.toList.length = v.s.size := Array.length_toList
    have e2 : u.s.data.toList.length = u.s.size := Array.length_toList
    omega
  obtain ⟨h4, h5⟩ := List.append_inj h hl
  obtain ⟨k1, n1, ⟨⟨s1⟩⟩⟩ := v
  obtain ⟨k2, n2, ⟨⟨s2⟩⟩⟩ := u
  simp only at h1 h2 h4
  subst h1 h2 h4
  exact ⟨rfl, h5⟩
theorem keyVals_inj : ∀ {vs us : List Val} {x y : List UInt8}, vs.length = us.length → keyVals vs ++ x = keyVals us ++ y → vs = us ∧ x = y := by
  intro vs
  induction vs with
  | nil =>
    intro us x y hl h
    cases us with
    | nil => exact ⟨rfl, h⟩
    | cons u us => cases hl
  | cons v vs ih =>
    intro us x y hl h
    cases us with
    | nil => cases hl
    | cons u us =>
      unfold keyVals at h ih
      rw [List.flatMap_cons, List.flatMap_cons, List.append_assoc, List.append_assoc] at h
      obtain ⟨h1, h2⟩ := keyVal_inj h
      obtain ⟨h3, h4⟩ := ih (by simpa using hl) h2
      exact ⟨by rw [h1, h3], h4⟩
theorem keyLin_over (l : List Int) : Over (keyLin l) := by
  cases l with
  | nil => exact Over.nil
  | cons x l => exact Over.cons (by decide)
theorem keyLin_inj : ∀ {l k : List Int}, keyLin l = keyLin k → l = k := by
  intro l
  induction l with
  | nil =>
    intro k h
    cases k with
    | nil => rfl
    | cons x k => unfold keyLin at h; rw [List.flatMap_cons] at h; cases h
  | cons x l ih =>
    intro k h
    cases k with
    | nil => unfold keyLin at h; rw [List.flatMap_cons] at h; cases h
    | cons y k =>
      unfold keyLin at h
      rw [List.flatMap_cons, List.flatMap_cons, List.cons_append, List.cons_append] at h
      injection h with _ h
      obtain ⟨h1, h2⟩ := split_num (keyLin_over l) (keyLin_over k) h
      rw [h1, ih h2]
theorem keyRow_inj {a b : Row} (h : keyRow a = keyRow b) : a = b := by
  unfold keyRow at h
  obtain ⟨h1, h⟩ := split_num (Over.cons (by decide)) (Over.cons (by decide)) h
  injection h with _ h
  obtain ⟨h2, h3⟩ := keyVals_inj (by omega) h
  obtain ⟨v1, l1⟩ := a
  obtain ⟨v2, l2⟩ := b
  simp only at h2 h3
  rw [h2, keyLin_inj h3]

end Go.Proofs.YtdgpbpbjlnlijaaGreatDoor
