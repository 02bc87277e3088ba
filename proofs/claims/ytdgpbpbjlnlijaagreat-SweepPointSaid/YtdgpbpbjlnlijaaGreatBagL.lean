/- bag.MergeLineage -/
import Derived.Test.YtdgpbpbjlnlijaaGreatBagK
import Derived.Sort.OwnSortedInts
import Derived.Lib.OwnBridge
import Derived.Lib.SlicesCompact
namespace Go.Proofs.YtdgpbpbjlnlijaaGreat
open Go.RowKit

/-- sorted, without repetition -/
def mergeL (l l' : List Int) : List Int := Lib.compact ((l ++ l').mergeSort fun x y => decide (x ≤ y))
theorem compactUpTo_law (d : Array Int) (hs : ∀ i j, i ≤ j → j < d.size → d[i]! ≤ d[j]!) (m : Nat) (hm : m ≤ d.size) :
    (Lib.compactUpTo d m).Pairwise (· < ·) ∧ ∀ x, x ∈ Lib.compactUpTo d m ↔ ∃ j, j < m ∧ d[j]! = x := by
  induction m with
  | zero => simp [Lib.compactUpTo]
  | succ m ih =>
    obtain ⟨h1, h2⟩ := ih (by omega)
    rw [Lib.compactUpTo_succ]
    by_cases hk : Lib.keeps d m = true
    · rw [if_pos hk]
      constructor
      · rw [List.pairwise_append]
        refine ⟨h1, by simp, fun a ha b hb => ?_⟩
        rw [List.mem_singleton] at hb
        subst hb
        obtain ⟨j, hj, rfl⟩ := (h2 a).1 ha
        have h3 := hs j (m - 1) (by omega) (by omega)
        have h4 := hs (m - 1) m (by omega) (by omega)
        have h5 : d[m]! ≠ d[m - 1]! := fun e => by
          have := Lib.keeps_neg (by omega) e
          rw [this] at hk
          cases hk
        omega
      · intro x
        rw [List.mem_append, h2, List.mem_singleton]
        constructor
        · rintro (⟨j, hj, e⟩ | e)
          · exact ⟨j, by omega, e⟩
          · exact ⟨m, by omega, e.symm⟩
        · rintro ⟨j, hj, e⟩
          by_cases hjm : j = m
          · subst hjm; exact .inr e.symm
          · exact .inl ⟨j, by omega, e⟩
    · have hk' : Lib.keeps d m = false := by simpa using hk
      rw [if_neg hk, List.append_nil]
      refine ⟨h1, fun x => ?_⟩
      rw [h2]
      have hm0 : 0 < m := by
        rcases Nat.eq_zero_or_pos m with h | h
        · subst h; simp [Lib.keeps] at hk'
        · exact h
      have he : d[m]! = d[m - 1]! := Classical.byContradiction fun e => by
        have := Lib.keeps_pos (d := d) (m := m) e
        rw [this] at hk'
        cases hk'
      constructor
      · rintro ⟨j, hj, e⟩
        exact ⟨j, by omega, e⟩
      · rintro ⟨j, hj, e⟩
        by_cases hjm : j = m
        · subst hjm; exact ⟨j - 1, by omega, by rw [← he]; exact e⟩
        · exact ⟨j, by omega, e⟩
theorem compact_law (l : List Int) (hs : l.Pairwise (· ≤ ·)) : (Lib.compact l).Pairwise (· < ·) ∧ ∀ x, x ∈ Lib.compact l ↔ x ∈ l := by
  have h := compactUpTo_law l.toArray (fun i j hij hj => by
    have hj' : j < l.length := by simpa using hj
    rw [getElem!_pos l.toArray i (by simp; omega), getElem!_pos l.toArray j (by simpa using hj)]
    simp only [List.getElem_toArray]
    by_cases e : i = j
    · subst e; exact Int.le_refl _
    · exact List.pairwise_iff_getElem.1 hs i j (by omega) (by omega) (by omega)) l.length (by simp)
  refine ⟨h.1, fun x => (h.2 x).trans ?_⟩
  constructor
  · rintro ⟨j, hj, e⟩
    rw [getElem!_pos l.toArray j (by simpa using hj)] at e
    subst e
    simp
  · intro hx
    obtain ⟨j, hj, e⟩ := List.getElem_of_mem hx
    exact ⟨j, hj, by rw [getElem!_pos l.toArray j (by simpa using hj)]; simpa using e⟩
theorem mergeL_law (l l' : List Int) : (mergeL l l').Pairwise (· < ·) ∧ ∀ x, x ∈ mergeL l l' ↔ x ∈ l ∨ x ∈ l' := by
  have hs : ((l ++ l').mergeSort fun x y => decide (x ≤ y)).Pairwise (· ≤ ·) := by
    have := List.pairwise_mergeSort (le := fun x y : Int => decide (x ≤ y)) (fun a b c h1 h2 => by simp only [decide_eq_true_eq] at *; omega) (fun a b => by simp only [Bool.or_eq_true, decide_eq_true_eq]; omega) (l ++ l')
    exact this.imp (by simp)
  obtain ⟨h1, h2⟩ := compact_law _ hs
  refine ⟨h1, fun x => (h2 x).trans ?_⟩
  rw [(List.mergeSort_perm _ _).mem_iff, List.mem_append]
/-- ascending lists with the same members are the same -/
theorem asc_unique {l l' : List Int} (h : l.Pairwise (· < ·)) (h' : l'.Pairwise (· < ·)) (he : ∀ x, x ∈ l ↔ x ∈ l') : l = l' := by
  refine List.Perm.eq_of_pairwise (le := (· < ·)) (fun a b _ _ h1 h2 => by omega) h h' ?_
  exact (List.perm_ext_iff_of_nodup (h.imp fun h => by omega) (h'.imp fun h => by omega)).2 he

/-- ints in their kind's range -/
def inR (l : List Int) : Prop := ∀ x ∈ l, -9223372036854775808 ≤ x ∧ x ≤ 9223372036854775807
theorem repAll_ints {h : View} {css : List (List Value)} {xs : List Int} (k : RepAll Rep.int h css xs) : css.flatten = xs.map (Value.int .i64) ∧ inR xs := by
  induction css generalizing xs with
  | nil => cases xs with
    | nil => exact ⟨rfl, fun x hx => by cases hx⟩
    | cons x xs => exact k.elim
  | cons c css ih => cases xs with
    | nil => exact k.elim
    | cons x xs =>
      obtain ⟨⟨rfl, h1⟩, h2⟩ := k
      obtain ⟨h3, h4⟩ := ih h2
      refine ⟨by simp [h3], fun y hy => ?_⟩
      rcases List.mem_cons.1 hy with rfl | hy
      · exact h1
      · exact h4 y hy
theorem ints_repAll (h : View) (xs : List Int) (k : inR xs) : RepAll Rep.int h (xs.map fun x => [.int .i64 x]) xs := by
  induction xs with
  | nil => trivial
  | cons x xs ih => exact ⟨⟨rfl, k x (by simp)⟩, ih fun y hy => k y (by simp [hy])⟩
theorem flat_ints (xs : List Int) : (xs.map fun x => [Value.int .i64 x]).flatten = xs.map (Value.int .i64) := by
  induction xs with
  | nil => rfl
  | cons x xs ih => simp [ih]
theorem OwnOf.ints {w : World} {S : Nat → Prop} {base : Nat} {e : TypeId} {v : Value} {xs : List Int} (h : OwnOf Rep.int w S base e v xs) : w.ownsRow base e 1 v xs.length (xs.map (Value.int .i64)) ∧ inR xs := by
  obtain ⟨css, h1, h2⟩ := h
  obtain ⟨h3, h4⟩ := repAll_ints h1
  exact ⟨by rw [← h3]; exact h2, h4⟩
theorem OwnOf.ofInts {w : World} (S : Nat → Prop) {base : Nat} {e : TypeId} {v : Value} {xs : List Int} (h : w.ownsRow base e 1 v xs.length (xs.map (Value.int .i64))) (hr : inR xs) : OwnOf Rep.int w S base e v xs :=
  ⟨_, ints_repAll _ _ hr, by rw [flat_ints]; exact h⟩
theorem SliceOf.ints {h : View} {v : Value} {xs : List Int} (k : SliceOf Rep.int h v xs) : inR xs := by
  obtain ⟨css, h1, _⟩ := k
  exact (repAll_ints h1).2

/-- the slice at a place of a slice of slices -/
theorem slice_at {α : Type} {R : Rep α} {w : View} {b o n cap : Nat} {xs : List (List α)} (h : SliceOf (Rep.slice R) w (.slice (some ⟨b, o, none⟩) n cap) xs) (i : Nat) (hi : i < xs.length) :
    ∃ v, w ⟨b, o + i, none⟩ = some v ∧ SliceOf R w v xs[i] := by
  obtain ⟨c, ⟨v, rfl, h1⟩, h2⟩ := h.at i hi
  have := h2 0 _ rfl
  rw [show (Rep.slice R).size = 1 from rfl, Nat.mul_one, Nat.add_zero] at this
  exact ⟨v, this, h1⟩
theorem flatten_take {α : Type} (ls : List (List α)) (k : Nat) (h : k < ls.length) : (ls.take (k + 1)).flatten = (ls.take k).flatten ++ ls[k] := by
  rw [List.take_succ_eq_append_getElem h, List.flatten_append]; simp only [List.flatten_cons, List.flatten_nil, List.append_nil]
theorem flatten_take_le {α : Type} (ls : List (List α)) (k : Nat) : (ls.take k).flatten.length ≤ ls.flatten.length := by
  have : ls.flatten = (ls.take k).flatten ++ (ls.drop k).flatten := by rw [← List.flatten_append, List.take_append_drop]
  rw [this, List.length_append]
  omega

theorem grownBy_below {B : Nat} {a w w' : World} {row : Option Nat} (h : Below B a w) (hg : w.grownBy w' row) (hB : B ≤ w.heap.size) (hr : ∀ k, row = some k → B ≤ k) : Below B a w' := Below.grown h hg hB hr

theorem sort_ints (S : Nat → Prop) (v : Value) (xs : List Int) (w : World) (base : Nat) (e : TypeId) (h : OwnOf Rep.int w S base e v xs) (hn : xs.length < 4611686018427387904) :
    Calls Tryz.prog 21 #[v] w fun en w' => en = .returned (.tuple #[]) ∧ OwnOf Rep.int w' S base e v (xs.mergeSort fun x y => decide (x ≤ y)) ∧ w.grownBy w' v.ownBlock := by
  obtain ⟨h1, hr⟩ := h.ints
  by_cases hv : v = .slice none 0 0
  · subst hv
    have hx : xs.length = 0 := by
      rcases h1.2 with ⟨_, h0⟩ | ⟨_, _, _, h0, _⟩
      · exact h0
      · cases h0
    have hx := List.eq_nil_of_length_eq_zero hx
    subst hx
    refine (Tryz.slices_Sort_int_none none 0 w).mono ?_
    rintro en w' ⟨rfl, rfl⟩
    exact ⟨rfl, by simpa using h, ⟨rfl, rfl, rfl, Nat.le_refl _, fun _ _ _ => rfl⟩⟩
  · obtain ⟨g, cap, rfl, g1, g2, g3, g4, _, hH⟩ := Lib.holds_of_ownsRow h1 hv
    refine (Tryz.slices_Sort_int g 0 cap xs w hH g2 hn).mono ?_
    rintro en w' ⟨rfl, n, os, rfl⟩
    have hp := List.mergeSort_perm xs fun x y => decide (x ≤ y)
    rcases h1.2 with ⟨h0, _⟩ | ⟨g', cap', cur, h0, hb, hg, hm1, hm2, hs, ht⟩
    · cases h0
    · injection h0 with e1 e2 e3
      injection e1 with e1
      injection e1 with e1
      subst e1 e3
      have := ownsRow_sortedI (w := w) (base := base) (g := g) (cap := cap) (n := n) (e := e) (os := os) (cur := cur) (ss := xs) (ts := xs.mergeSort fun x y => decide (x ≤ y)) hp.length_eq hb hg hm1 hm2 hs
      refine ⟨rfl, ?_, grownBy_sortedI _⟩
      rw [← hp.length_eq] at this ⊢
      exact OwnOf.ofInts S this fun x hx => hr x (hp.mem_iff.1 hx)

end Go.Proofs.YtdgpbpbjlnlijaaGreat
