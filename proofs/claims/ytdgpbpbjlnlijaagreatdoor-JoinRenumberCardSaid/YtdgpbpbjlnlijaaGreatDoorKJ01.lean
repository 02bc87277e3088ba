/- joined texts of a proof: Kit, Rep, MapV, MapS, Chg, BagA, Keep -/
import Derived.WalkKit
import Derived.WalkSpells
import Derived.WalkLawsBesides
import Derived.Deep.LoopGhost
import Derived.Lib.Hide
import Derived.Deep.Slices
import Derived.Deep.AppendLies
import Derived.Laws.AppendOwnNone
import Derived.Sort.Grow
import Derived.Maps.Own
import Derived.Maps.OwnOps
import Derived.Maps.RangeWalk
import Derived.Maps.Views
import Derived.WideKeyEntry
import Derived.DeepKeys4
import Derived.Test.YtdgpbpbjlnlijaaGreatDoorProg
import Derived.Deep.QuietTactic
import Derived.BigQuiet
import Derived.Deep.RegionHeld3

/- Small lemmas on worlds, rows and lists that the walks of this seat use; no program is named here. -/
namespace Go.Proofs.YtdgpbpbjlnlijaaGreatDoor
open Go.RowKit

theorem ret_bool {a b : Bool} (h : a = b) : Ending.returned (.bool a) = .returned (.bool b) := by rw [h]
theorem ret_int {k : IntKind} {a b : Int} (h : a = b) : Ending.returned (.int k a) = .returned (.int k b) := by rw [h]

/-- what stood below a number reads as it did -/
theorem bcell {B : Nat} {W w1 : World} (hb : Below B W w1) : (∀ b o, b < B → w1.cell? ⟨b, o, none⟩ = W.cell? ⟨b, o, none⟩) ∧ (∀ b o, b < B → w1.frozen? ⟨b, o, none⟩ = W.frozen? ⟨b, o, none⟩) :=
  ⟨fun b o h => hb.cell (p := ⟨b, o, none⟩) h, fun b o h => hb.frozen (p := ⟨b, o, none⟩) h⟩

theorem below_drewN {B : Nat} {a w : World} (h : Below B a w) (n : Nat) : Below B a (w.drewN n) := ⟨h.os, h.tape, h.output, h.size, h.block⟩

theorem add_lit (b o j : Nat) : (⟨b, o, none⟩ : Addr).add j = ⟨b, o + j, none⟩ := by simp [Addr.add]

/-- the cells of a new block -/
theorem cells_new (w : World) (xs : List Value) (T : TypeId) : ∀ j u, xs[j]? = some u → (w.alloc (.cells xs.toArray T)).cell? ((⟨w.heap.size, 0, none⟩ : Addr).add j) = some u := by
  intro j u h
  rw [add_lit, World.cell?_alloc_at _ _ _ _ rfl]
  simpa using h

/-- a row of the call's own that holds something: where it lies, and its cells -/
theorem own_cells {w : World} {base : Nat} {e : TypeId} {size : Nat} {v : Value} {n : Nat} {xs : List Value} (h : w.ownsRow base e size v n xs) (hn : 0 < n) :
    ∃ g cap, v = .slice (some ⟨g, 0, none⟩) n cap ∧ base ≤ g ∧ g < w.heap.size ∧ n ≤ cap ∧ cap ≤ maxLen ∧ (∀ j u, xs[j]? = some u → w.cell? ⟨g, j, none⟩ = some u) := by
  rcases h.2 with ⟨_, h0⟩ | ⟨g, cap, cur, hv, hb, hg, h1, h2, _, _⟩
  · omega
  · refine ⟨g, cap, hv, hb, (Array.getElem?_eq_some_iff.1 hg).1, h1, h2, fun j u hj => ?_⟩
    have := h.cells (g := g) (by rw [hv]; rfl) j u hj
    rwa [add_lit, Nat.zero_add] at this

theorem ownsRow_weak {w : World} {base base' : Nat} {e : TypeId} {size : Nat} {v : Value} {n : Nat} {xs : List Value} (h : w.ownsRow base e size v n xs) (hb : base' ≤ base) : w.ownsRow base' e size v n xs := by
  obtain ⟨h1, h2⟩ := h
  refine ⟨h1, ?_⟩
  rcases h2 with h2 | ⟨g, cap, cur, hv, hg, r⟩
  · exact .inl h2
  · exact .inr ⟨g, cap, cur, hv, by omega, r⟩

/-- everything that was there is as it was; there may be new blocks -/
abbrev Ext (w w' : World) : Prop := Below w.heap.size w w'
theorem Ext.refl (w : World) : Ext w w := Below.refl _ _
theorem Ext.trans {a b c : World} (h : Ext a b) (k : Ext b c) : Ext a c := Below.trans h (k.mono h.size)
theorem Ext.alloc {a w : World} (h : Ext a w) (o : Obj) : Ext a (w.alloc o) := Below.alloc h h.size o
theorem Ext.drewN {a w : World} (h : Ext a w) (n : Nat) : Ext a (w.drewN n) := below_drewN h n
theorem Ext.drew {a w : World} (h : Ext a w) : Ext a w.drew := Below.drew h
theorem Ext.at {w w' : World} (h : Ext w w') {p : Addr} {v : Value} (hc : w.cell? p = some v) : w'.cell? p = some v :=
  (Below.cell h (World.block_lt_of_cell? w p hc)).trans hc
theorem Ext.unfrozen {w w' : World} (h : Ext w w') {p : Addr} {v : Value} (hc : w.cell? p = some v) (hf : w.frozen? p = false) : w'.frozen? p = false :=
  (Below.frozen h (World.block_lt_of_cell? w p hc)).trans hf
theorem cell_alloc {w : World} {p : Addr} {v : Value} (h : w.cell? p = some v) (o : Obj) : (w.alloc o).cell? p = some v :=
  (Ext.alloc (Ext.refl w) o).at h
theorem cell_set {w : World} {p q : Addr} {v u : Value} (h : w.cell? p = some v) (hq : q.block ≠ p.block) : (w.setCell q u).cell? p = some v := by
  rw [World.cell?_setCell_other _ _ _ _ (by intro e; exact hq (by rw [e]))]; exact h
theorem cell_lt {w : World} {b o : Nat} {v : Value} (h : w.cell? ⟨b, o, none⟩ = some v) : b < w.heap.size := World.block_lt_of_cell? w ⟨b, o, none⟩ h

/-- v is a slice of n elements whose cells read as xs; where there are none nothing is said of its place -/
def SliceAt (w : World) (v : Value) (n : Nat) (xs : List Value) : Prop :=
  ∃ a cap, v = .slice a n cap ∧ n ≤ cap ∧ cap ≤ maxLen ∧ (xs = [] ∨ ∃ b o, a = some ⟨b, o, none⟩ ∧ ∀ j u, xs[j]? = some u → w.cell? ⟨b, o + j, none⟩ = some u)
end Go.Proofs.YtdgpbpbjlnlijaaGreatDoor

/- How Go's data lie in memory: a datum's cells, slices of data, and what is kept when the world grows; no program is named here. -/
namespace Go.Proofs.YtdgpbpbjlnlijaaGreatDoor
open Go.RowKit Go.Deep

/-- what the cells hold, or a part of that -/
abbrev View := Addr → Option Value
def Sub (h h' : View) : Prop := ∀ p v, h p = some v → h' p = some v
theorem Sub.trans {a b c : View} (h : Sub a b) (k : Sub b c) : Sub a c := fun p v e => k p v (h p v e)
open Classical in
/-- the world's cells in the blocks of S alone -/
noncomputable def on (w : World) (S : Nat → Prop) : View := fun p => if S p.block then w.cell? p else none
theorem on_some {w : World} {S : Nat → Prop} {p : Addr} {v : Value} : on w S p = some v ↔ S p.block ∧ w.cell? p = some v := by
  unfold on
  split
  · simp [*]
  · simp [*]
theorem on_sub (w : World) (S : Nat → Prop) : Sub (on w S) w.cell? := fun _ _ e => (on_some.1 e).2
theorem on_mono (w : World) {S T : Nat → Prop} (h : ∀ k, k < w.heap.size → S k → T k) : Sub (on w S) (on w T) := fun p _ e => by
  obtain ⟨h1, h2⟩ := on_some.1 e
  exact on_some.2 ⟨h _ (World.block_lt_of_cell? w p h2) h1, h2⟩
theorem Ext.sub {w w' : World} (h : Ext w w') (S : Nat → Prop) : Sub (on w S) (on w' S) := fun p v e => by
  obtain ⟨h1, h2⟩ := on_some.1 e
  exact on_some.2 ⟨h1, h.at h2⟩
theorem Ext.full {w w' : World} (h : Ext w w') : Sub w.cell? w'.cell? := fun _ _ e => h.at e
theorem grown_sub {w w' : World} {row : Option Nat} (h : w.grownBy w' row) {S : Nat → Prop} (hS : ∀ k, S k → some k ≠ row) : Sub (on w S) (on w' S) := fun p v e => by
  obtain ⟨h1, h2⟩ := on_some.1 e
  exact on_some.2 ⟨h1, h.cell h2 (hS _ h1)⟩
theorem set_sub (w : World) (p : Addr) (v : Value) {S : Nat → Prop} (hS : ¬ S p.block) : Sub (on w S) (on (w.setCell p v) S) := fun q u e => by
  obtain ⟨h1, h2⟩ := on_some.1 e
  exact on_some.2 ⟨h1, cell_set h2 fun e => hS (e ▸ h1)⟩
/-- a slice's cells, in a view -/
def VSlice (h : View) (v : Value) (n : Nat) (xs : List Value) : Prop :=
  (v = .slice none 0 0 ∧ n = 0 ∧ xs = []) ∨
  ∃ ad cap, v = .slice (some ad) n cap ∧ n ≤ cap ∧ cap ≤ maxLen ∧ (xs = [] ∨ ∃ b o, ad = ⟨b, o, none⟩ ∧ ∀ j u, xs[j]? = some u → h ⟨b, o + j, none⟩ = some u)
theorem VSlice.sub {h h' : View} {v : Value} {n : Nat} {xs : List Value} (k : VSlice h v n xs) (hs : Sub h h') : VSlice h' v n xs := by
  rcases k with k | ⟨ad, cap, hv, h1, h2, h3⟩
  · exact .inl k
  · refine .inr ⟨ad, cap, hv, h1, h2, ?_⟩
    rcases h3 with h3 | ⟨b, o, ha, h3⟩
    · exact .inl h3
    · exact .inr ⟨b, o, ha, fun j u hj => hs _ _ (h3 j u hj)⟩
theorem VSlice.nil (h : View) : VSlice h (.slice none 0 0) 0 [] := .inl ⟨rfl, rfl, rfl⟩
theorem VSlice.own {w : World} {base : Nat} {e : TypeId} {size : Nat} {v : Value} {n : Nat} {xs : List Value} (h : w.ownsRow base e size v n xs) : VSlice (on w (fun k => base ≤ k)) v n xs := by
  rcases h.2 with ⟨hv, h0⟩ | ⟨g, cap, cur, hv, hb, hg, h1, h2, _, _⟩
  · subst h0
    exact .inl ⟨hv, rfl, List.eq_nil_of_length_eq_zero (by rw [h.1]; simp)⟩
  · refine .inr ⟨_, cap, hv, h1, h2, .inr ⟨g, 0, rfl, fun j u hj => on_some.2 ⟨hb, ?_⟩⟩⟩
    have := h.cells (g := g) (by rw [hv]; rfl) j u hj
    rwa [add_lit] at this
/-- a slice as a source: nil, or an address and the cells behind it -/
theorem VSlice.src {h : View} {v : Value} {n : Nat} {xs : List Value} (k : VSlice h v n xs) :
    (v = .slice none 0 0 ∧ n = 0 ∧ xs = []) ∨ ∃ ad cap, v = .slice (some ad) n cap ∧ n ≤ cap ∧ cap ≤ maxLen ∧ ∀ j u, xs[j]? = some u → h (ad.add j) = some u := by
  rcases k with k | ⟨ad, cap, hv, h1, h2, h3⟩
  · exact .inl k
  · refine .inr ⟨ad, cap, hv, h1, h2, fun j u hj => ?_⟩
    rcases h3 with h3 | ⟨b, o, rfl, h3⟩
    · rw [h3] at hj; simp at hj
    · rw [add_lit]; exact h3 j u hj

/-- how a datum lies in cells -/
structure Rep (α : Type) where
  size : Nat
  holds : View → List Value → α → Prop
  len : ∀ {w cs x}, holds w cs x → cs.length = size
  ext : ∀ {w w' cs x}, holds w cs x → Sub w w' → holds w' cs x
  one : ∀ {w cs x}, holds w cs x → ∀ u ∈ cs, u.oneCell' = true

/-- the cells of some data, one list for each -/
def RepAll {α : Type} (R : Rep α) (w : View) : List (List Value) → List α → Prop
  | [], [] => True
  | c :: cs, x :: xs => R.holds w c x ∧ RepAll R w cs xs
  | _, _ => False

section
variable {α : Type} {R : Rep α} {w w' : View}
theorem RepAll.ext {css : List (List Value)} {xs : List α} (h : RepAll R w css xs) (hx : Sub w w') : RepAll R w' css xs := by
  induction css generalizing xs with
  | nil => cases xs with
    | nil => trivial
    | cons x xs => exact h.elim
  | cons c css ih => cases xs with
    | nil => exact h.elim
    | cons x xs => exact ⟨R.ext h.1 hx, ih h.2⟩
theorem RepAll.length {css : List (List Value)} {xs : List α} (h : RepAll R w css xs) : css.length = xs.length := by
  induction css generalizing xs with
  | nil => cases xs with
    | nil => rfl
    | cons x xs => exact h.elim
  | cons c css ih => cases xs with
    | nil => exact h.elim
    | cons x xs => simp [ih h.2]
theorem RepAll.flat {css : List (List Value)} {xs : List α} (h : RepAll R w css xs) : css.flatten.length = xs.length * R.size := by
  induction css generalizing xs with
  | nil => cases xs with
    | nil => simp
    | cons x xs => exact h.elim
  | cons c css ih => cases xs with
    | nil => exact h.elim
    | cons x xs => simp [ih h.2, R.len h.1, Nat.succ_mul]; omega
theorem RepAll.append {c1 c2 : List (List Value)} {x1 x2 : List α} (h1 : RepAll R w c1 x1) (h2 : RepAll R w c2 x2) : RepAll R w (c1 ++ c2) (x1 ++ x2) := by
  induction c1 generalizing x1 with
  | nil => cases x1 with
    | nil => exact h2
    | cons x xs => exact h1.elim
  | cons c css ih => cases x1 with
    | nil => exact h1.elim
    | cons x xs => exact ⟨h1.1, ih h1.2⟩
theorem RepAll.one {c : List Value} {x : α} (h : R.holds w c x) : RepAll R w [c] [x] := ⟨h, trivial⟩
/-- the i-th datum: its cells, and where they stand in the row -/
theorem RepAll.at {css : List (List Value)} {xs : List α} (h : RepAll R w css xs) (i : Nat) (hi : i < xs.length) :
    ∃ c, R.holds w c xs[i] ∧ css[i]? = some c ∧ ∀ j u, c[j]? = some u → css.flatten[i * R.size + j]? = some u := by
  induction css generalizing xs i with
  | nil => cases xs with
    | nil => simp at hi
    | cons x xs => exact h.elim
  | cons c css ih => cases xs with
    | nil => exact h.elim
    | cons x xs =>
      cases i with
      | zero =>
        refine ⟨c, h.1, rfl, fun j u hj => ?_⟩
        have hl : j < c.length := (List.getElem?_eq_some_iff.1 hj).1
        simp [List.getElem?_append_left hl, hj]
      | succ i =>
        obtain ⟨d, h1, h2, h3⟩ := ih h.2 i (by simpa using hi)
        refine ⟨d, h1, h2, fun j u hj => ?_⟩
        have := h3 j u hj
        have hc := R.len h.1
        rw [List.flatten_cons, List.getElem?_append_right (by rw [hc, Nat.succ_mul]; omega), hc]
        rwa [show (i + 1) * R.size + j - R.size = i * R.size + j from by rw [Nat.succ_mul]; omega]
theorem RepAll.ones {css : List (List Value)} {xs : List α} (h : RepAll R w css xs) : ∀ u ∈ css.flatten, u.oneCell' = true := by
  induction css generalizing xs with
  | nil => simp
  | cons c css ih => cases xs with
    | nil => exact h.elim
    | cons x xs =>
      intro u hu
      rw [List.flatten_cons] at hu
      rcases List.mem_append.1 hu with hu | hu
      · exact R.one h.1 u hu
      · exact ih h.2 u hu
theorem RepAll.take {css : List (List Value)} {xs : List α} (h : RepAll R w css xs) (n : Nat) : RepAll R w (css.take n) (xs.take n) := by
  induction css generalizing xs n with
  | nil => cases xs with
    | nil => simp [RepAll]
    | cons x xs => exact h.elim
  | cons c css ih => cases xs with
    | nil => exact h.elim
    | cons x xs => cases n with
      | zero => trivial
      | succ n => exact ⟨h.1, ih h.2 n⟩
theorem RepAll.drop {css : List (List Value)} {xs : List α} (h : RepAll R w css xs) (n : Nat) : RepAll R w (css.drop n) (xs.drop n) := by
  induction css generalizing xs n with
  | nil => cases xs with
    | nil => simp [RepAll]
    | cons x xs => exact h.elim
  | cons c css ih => cases xs with
    | nil => exact h.elim
    | cons x xs => cases n with
      | zero => exact h
      | succ n => exact ih h.2 n
end

/-- v is a slice that holds the data xs -/
def SliceOf {α : Type} (R : Rep α) (w : View) (v : Value) (xs : List α) : Prop := ∃ css, RepAll R w css xs ∧ VSlice w v xs.length css.flatten

theorem SliceOf.ext {α : Type} {R : Rep α} {w w' : View} {v : Value} {xs : List α} (h : SliceOf R w v xs) (hx : Sub w w') : SliceOf R w' v xs := by
  obtain ⟨css, h1, h2⟩ := h
  exact ⟨css, h1.ext hx, h2.sub hx⟩
theorem SliceOf.nil {α : Type} (R : Rep α) (w : View) : SliceOf R w (.slice none 0 0) [] := ⟨[], trivial, VSlice.nil w⟩
/-- the value's form; and where there is something, the place of each datum -/
theorem SliceOf.form {α : Type} {R : Rep α} {w : View} {v : Value} {xs : List α} (h : SliceOf R w v xs) :
    ∃ a cap, v = .slice a xs.length cap ∧ xs.length ≤ cap ∧ cap ≤ maxLen ∧ (0 < R.size → 0 < xs.length → ∃ b o, a = some ⟨b, o, none⟩) := by
  obtain ⟨css, h1, h2⟩ := h
  rcases h2 with ⟨hv, h0, _⟩ | ⟨ad, cap, hv, hc1, hc2, h2⟩
  · exact ⟨none, 0, by rw [hv, h0], by omega, by simp [maxLen], fun _ h => by omega⟩
  · refine ⟨some ad, cap, hv, hc1, hc2, fun hs hx => ?_⟩
    rcases h2 with h2 | ⟨b, o, ha, _⟩
    · have := h1.flat
      rw [h2] at this
      have : xs.length * R.size = 0 := by simpa using this.symm
      rcases Nat.mul_eq_zero.1 this with h | h <;> omega
    · exact ⟨b, o, by rw [ha]⟩
theorem SliceOf.at {α : Type} {R : Rep α} {w : View} {b o n cap : Nat} {xs : List α} (h : SliceOf R w (.slice (some ⟨b, o, none⟩) n cap) xs) (i : Nat) (hi : i < xs.length) :
    ∃ c, R.holds w c xs[i] ∧ ∀ j u, c[j]? = some u → w ⟨b, o + i * R.size + j, none⟩ = some u := by
  obtain ⟨css, h1, h2⟩ := h
  obtain ⟨c, g1, _, g3⟩ := h1.at i hi
  refine ⟨c, g1, fun j u hj => ?_⟩
  rcases h2 with ⟨hv, _⟩ | ⟨ad, cap', hv, hc1, hc2, h2⟩
  · cases hv
  · rcases h2 with h2 | ⟨b', o', ha, h2⟩
    · have := g3 j u hj
      rw [h2] at this
      simp at this
    · injection hv with e1 e2 e3
      rw [ha] at e1
      injection e1 with e1
      injection e1 with e4 e5
      subst e4 e5
      rw [Nat.add_assoc]
      exact h2 _ u (g3 j u hj)

/-- the blocks that are not v's own row -/
def avoid (S : Nat → Prop) (v : Value) (k : Nat) : Prop := some k ≠ v.ownBlock ∧ S k
/-- a row of the call's own that holds the data xs; what these lead to lies elsewhere, in S -/
def OwnOf {α : Type} (R : Rep α) (w : World) (S : Nat → Prop) (base : Nat) (e : TypeId) (v : Value) (xs : List α) : Prop := ∃ css, RepAll R (on w (avoid S v)) css xs ∧ w.ownsRow base e R.size v xs.length css.flatten
theorem OwnOf.slice {α : Type} {R : Rep α} {w : World} {S : Nat → Prop} {base : Nat} {e : TypeId} {v : Value} {xs : List α} (h : OwnOf R w S base e v xs) : SliceOf R w.cell? v xs := by
  obtain ⟨css, h1, h2⟩ := h
  exact ⟨css, h1.ext (on_sub _ _), (VSlice.own h2).sub (on_sub _ _)⟩
theorem OwnOf.sliceIn {α : Type} {R : Rep α} {w : World} {S T : Nat → Prop} {base : Nat} {e : TypeId} {v : Value} {xs : List α} (h : OwnOf R w S base e v xs) (hS : ∀ k, k < w.heap.size → S k → T k) (hb : ∀ k, base ≤ k → T k) : SliceOf R (on w T) v xs := by
  obtain ⟨css, h1, h2⟩ := h
  exact ⟨css, h1.ext (on_mono _ fun k hk hs => hS k hk hs.2), (VSlice.own h2).sub (on_mono _ fun k _ hk => hb k hk)⟩
theorem OwnOf.weak {α : Type} {R : Rep α} {w : World} {S T : Nat → Prop} {base base' : Nat} {e : TypeId} {v : Value} {xs : List α} (h : OwnOf R w S base e v xs) (hS : ∀ k, k < w.heap.size → S k → T k) (hb : base' ≤ base) : OwnOf R w T base' e v xs := by
  obtain ⟨css, h1, h2⟩ := h
  exact ⟨css, h1.ext (on_mono _ fun k hk hs => ⟨hs.1, hS k hk hs.2⟩), ownsRow_weak h2 hb⟩
theorem OwnOf.nil {α : Type} (R : Rep α) (w : World) (S : Nat → Prop) (base : Nat) (e : TypeId) : OwnOf R w S base e (.slice none 0 0) [] := ⟨[], trivial, World.ownsRow_nil _ _ _ _⟩
theorem own_ext {w w' : World} {base : Nat} {e : TypeId} {size : Nat} {v : Value} {n : Nat} {xs : List Value} (h : w.ownsRow base e size v n xs) (hx : Ext w w') : w'.ownsRow base e size v n xs := by
  refine ⟨h.1, ?_⟩
  rcases h.2 with h2 | ⟨g, cap, cur, hv, hb, hg, r⟩
  · exact .inl h2
  · exact .inr ⟨g, cap, cur, hv, hb, by rw [hx.block g (Array.getElem?_eq_some_iff.1 hg).1]; exact hg, r⟩
theorem OwnOf.ext {α : Type} {R : Rep α} {w w' : World} {S : Nat → Prop} {base : Nat} {e : TypeId} {v : Value} {xs : List α} (h : OwnOf R w S base e v xs) (hx : Ext w w') : OwnOf R w' S base e v xs := by
  obtain ⟨css, h1, h2⟩ := h
  exact ⟨css, h1.ext (hx.sub _), own_ext h2 hx⟩
theorem OwnOf.lt {α : Type} {R : Rep α} {w : World} {S : Nat → Prop} {base : Nat} {e : TypeId} {v : Value} {xs : List α} (h : OwnOf R w S base e v xs) : ∀ k, v.ownBlock = some k → base ≤ k ∧ k < w.heap.size := by
  obtain ⟨css, _, h2⟩ := h
  exact h2.lt
/-- behind an append of one datum -/
theorem OwnOf.push {α : Type} {R : Rep α} {W w1 : World} {S : Nat → Prop} {base : Nat} {e : TypeId} {v : Value} {xs : List α} {css : List (List Value)} {c : List Value} {y : α} {g cap : Nat}
    (h1 : RepAll R (on W (avoid S v)) css xs) (hy : R.holds (on W (avoid S v)) c y)
    (hown : w1.ownsRow base e R.size (.slice (some ⟨g, 0, none⟩) (xs.length + 1) cap) (xs.length + 1) (css.flatten ++ c)) (hg : W.grownBy w1 v.ownBlock) (hat : v.ownBlock = some g ∨ g = W.heap.size) :
    OwnOf R w1 S base e (.slice (some ⟨g, 0, none⟩) (xs.length + 1) cap) (xs ++ [y]) := by
  have hs : Sub (on W (avoid S v)) (on w1 (avoid S (.slice (some ⟨g, 0, none⟩) (xs.length + 1) cap))) := by
    intro p u e
    obtain ⟨e1, e2⟩ := on_some.1 e
    refine on_some.2 ⟨⟨?_, e1.2⟩, hg.cell e2 e1.1⟩
    replace e1 := e1.1
    rcases hat with hat | hat
    · rw [hat] at e1
      exact e1
    · have := World.block_lt_of_cell? W p e2
      simp [Value.ownBlock]
      omega
  refine ⟨css ++ [c], (h1.ext hs).append (RepAll.one (R.ext hy hs)), ?_⟩
  simpa using hown

section
variable {P : Program} {w : World} {ops : Array Oper} {rest : List Oper} {o : Oper} {a : Act} {Q : Exit → Act → World → Prop}
/-- 'append(out, x)': out the call's own row of data -/
theorem wpList_append_one {α : Type} (R : Rep α) (S : Nat → Prop) (hgd : o.guard = none) (s x : Operand) (t : TypeId)
    (ho : o.op = .call { callee := .builtin .append, args := #[s, x], argTypes := #[t, t] })
    (base : Nat) (e : TypeId) (i : TypeInfo) (z : Value) (bytes : Nat) (ht : P.underlying t = some (.slice e)) (hi : P.info? e = some i) (hz : i.zero = some z)
    (hsize : i.size = R.size) (hby : i.bytes = bytes) (hzs : z.cells.size = R.size) (hsz : 0 < R.size)
    (v : Value) (xs : List α) (hs : a.eval s = v) (hown : OwnOf R w S base e v xs)
    (ad : Addr) (c : Nat) (y : α) (news : List Value) (hx : a.eval x = .slice (some ad) 1 c) (hy : R.holds (on w (avoid S v)) news y) (hnews : ∀ j u, news[j]? = some u → w.cell? (ad.add j) = some u)
    (h63 : xs.length + 1 ≤ maxLen) (hbytes : (xs.length + 1) * bytes ≤ 140737488355328) (hbase : base ≤ w.heap.size)
    (h : ∀ g cap w', OwnOf R w' S base e (.slice (some ⟨g, 0, none⟩) (xs.length + 1) cap) (xs ++ [y]) → w.grownBy w' v.ownBlock → (v.ownBlock = some g ∨ g = w.heap.size) → wpList P ops Q rest (a.put o.dst (.slice (some ⟨g, 0, none⟩) (xs.length + 1) cap)) w') : wpList P ops Q (o :: rest) a w := by
  obtain ⟨css, h1, h2⟩ := hown
  exact wpList_append_lies w hgd s x t ho base e i z R.size bytes ht hi hz hsize hby hzs hsz v xs.length css.flatten hs h2 ad 1 c news hx (by rw [R.len hy, Nat.one_mul]) hnews (R.one hy) (by omega) h63 hbytes hbase w.heap.size rfl
    fun g cap w' g1 g2 g3 _ => h g cap w' (OwnOf.push h1 hy g1 g2 g3) g2 g3
end

/-- behind an append of the data of a slice -/
theorem OwnOf.pushAll {α : Type} {R : Rep α} {W w1 : World} {S : Nat → Prop} {base : Nat} {e : TypeId} {v v' : Value} {xs ys : List α} {css dss : List (List Value)}
    (h1 : RepAll R (on W (avoid S v)) css xs) (hy : RepAll R (on W (avoid S v)) dss ys)
    (hown : w1.ownsRow base e R.size v' (xs.length + ys.length) (css.flatten ++ dss.flatten)) (hg : W.grownBy w1 v.ownBlock) (hat : v'.ownBlock = v.ownBlock ∨ v'.ownBlock = some W.heap.size) :
    OwnOf R w1 S base e v' (xs ++ ys) := by
  have hs : Sub (on W (avoid S v)) (on w1 (avoid S v')) := by
    intro p u e
    obtain ⟨e1, e2⟩ := on_some.1 e
    refine on_some.2 ⟨⟨?_, e1.2⟩, hg.cell e2 e1.1⟩
    rcases hat with hat | hat
    · rw [hat]; exact e1.1
    · have := World.block_lt_of_cell? W p e2
      rw [hat]
      simp
      omega
  refine ⟨css ++ dss, (h1.ext hs).append (hy.ext hs), ?_⟩
  simpa using hown

section
variable {P : Program} {w : World} {ops : Array Oper} {rest : List Oper} {o : Oper} {a : Act} {Q : Exit → Act → World → Prop}
/-- 'append(out, xs...)': out the call's own row of data, xs whatever slice of such data that does not lead into it -/
theorem wpList_append_all {α : Type} (R : Rep α) (S : Nat → Prop) (hgd : o.guard = none) (s x : Operand) (t : TypeId)
    (ho : o.op = .call { callee := .builtin .append, args := #[s, x], argTypes := #[t, t] })
    (base : Nat) (e : TypeId) (i : TypeInfo) (z : Value) (bytes : Nat) (ht : P.underlying t = some (.slice e)) (hi : P.info? e = some i) (hz : i.zero = some z)
    (hsize : i.size = R.size) (hby : i.bytes = bytes) (hzs : z.cells.size = R.size) (hsz : 0 < R.size)
    (v : Value) (xs : List α) (hs : a.eval s = v) (hown : OwnOf R w S base e v xs)
    (u : Value) (ys : List α) (hx : a.eval x = u) (hy : SliceOf R (on w (avoid S v)) u ys)
    (h63 : xs.length + ys.length ≤ maxLen) (hbytes : (xs.length + ys.length) * bytes ≤ 140737488355328) (hbase : base ≤ w.heap.size)
    (h : ∀ v' w', OwnOf R w' S base e v' (xs ++ ys) → w.grownBy w' v.ownBlock → (v'.ownBlock = v.ownBlock ∨ v'.ownBlock = some w.heap.size) → wpList P ops Q rest (a.put o.dst v') w') : wpList P ops Q (o :: rest) a w := by
  obtain ⟨css, h1, h2⟩ := hown
  obtain ⟨dss, h3, h4⟩ := hy
  rcases h4.src with ⟨rfl, hn, hd⟩ | ⟨ad, cap, rfl, _, _, hc⟩
  · have hys : ys = [] := List.eq_nil_of_length_eq_zero hn
    subst hys
    exact wpList_append_own_none hgd s x t ho base e i R.size ht hi v xs.length css.flatten hs h2 hx
      (h v w (by rw [List.append_nil]; exact ⟨css, h1, h2⟩) ⟨rfl, rfl, rfl, Nat.le_refl _, fun _ _ _ => rfl⟩ (.inl rfl))
  · exact wpList_append_own_at w hgd s x t ho base e i z R.size bytes ht hi hz hsize hby hzs hsz v xs.length css.flatten hs h2 ad ys.length cap dss.flatten hx h3.flat (fun j u hj => (on_some.1 (hc j u hj)).2) h3.ones h63 hbytes hbase
      fun v' w' g1 g2 _ g3 => h v' w' (OwnOf.pushAll h1 h3 g1 g2 g3) g2 g3
end

/-- ints -/
def Rep.int : Rep Int where
  size := 1
  holds _ cs x := cs = [.int .i64 x] ∧ -9223372036854775808 ≤ x ∧ x ≤ 9223372036854775807
  len := by rintro w cs x ⟨rfl, _⟩; rfl
  ext := by rintro w w' cs x h _; exact h
  one := by rintro w cs x ⟨rfl, _⟩; simp [Value.oneCell']

/-- a scalar value of the program -/
structure Val where
  kind : Int
  n : Int
  s : ByteArray
def Rep.val : Rep Val where
  size := 3
  holds _ cs x := cs = [.int .i64 x.kind, .int .i64 x.n, .string x.s] ∧ (-9223372036854775808 ≤ x.kind ∧ x.kind ≤ 9223372036854775807) ∧ (-9223372036854775808 ≤ x.n ∧ x.n ≤ 9223372036854775807) ∧ x.s.size ≤ maxLen
  len := by rintro w cs x ⟨rfl, _⟩; rfl
  ext := by rintro w w' cs x h _; exact h
  one := by rintro w cs x ⟨rfl, _⟩; simp [Value.oneCell']

/-- slices, as cells -/
def Rep.slice {α : Type} (R : Rep α) : Rep (List α) where
  size := 1
  holds w cs xs := ∃ v, cs = [v] ∧ SliceOf R w v xs
  len := by rintro w cs x ⟨v, rfl, _⟩; rfl
  ext := by rintro w w' cs x ⟨v, rfl, h⟩ hx; exact ⟨v, rfl, h.ext hx⟩
  one := by
    rintro w cs x ⟨v, rfl, h⟩
    obtain ⟨a, cap, rfl, _⟩ := h.form
    simp [Value.oneCell']

/-- a row of a relation -/
structure Row where
  vals : List Val
  lin : List Int
def Rep.row : Rep Row where
  size := 2
  holds w cs r := ∃ a b, cs = [a, b] ∧ SliceOf Rep.val w a r.vals ∧ SliceOf Rep.int w b r.lin
  len := by rintro w cs x ⟨a, b, rfl, _⟩; rfl
  ext := by rintro w w' cs x ⟨a, b, rfl, h1, h2⟩ hx; exact ⟨a, b, rfl, h1.ext hx, h2.ext hx⟩
  one := by
    rintro w cs x ⟨a, b, rfl, h1, h2⟩
    obtain ⟨a', cap, rfl, _⟩ := h1.form
    obtain ⟨b', cap', rfl, _⟩ := h2.form
    simp [Value.oneCell']

/-- a row of the values alone, and a tuple -/
structure Tup where
  vals : List Val
  from_ : Int
  to_ : Int
  lin : List Int
def Rep.tup : Rep Tup where
  size := 4
  holds w cs r := ∃ a b, cs = [a, .int .i64 r.from_, .int .i64 r.to_, b] ∧ SliceOf Rep.val w a r.vals ∧ SliceOf Rep.int w b r.lin ∧ (-9223372036854775808 ≤ r.from_ ∧ r.from_ ≤ 9223372036854775807) ∧ (-9223372036854775808 ≤ r.to_ ∧ r.to_ ≤ 9223372036854775807)
  len := by rintro w cs x ⟨a, b, rfl, _⟩; rfl
  ext := by rintro w w' cs x ⟨a, b, rfl, h1, h2, h3⟩ hx; exact ⟨a, b, rfl, h1.ext hx, h2.ext hx, h3⟩
  one := by
    rintro w cs x ⟨a, b, rfl, h1, h2, _⟩
    obtain ⟨a', cap, rfl, _⟩ := h1.form
    obtain ⟨b', cap', rfl, _⟩ := h2.form
    simp [Value.oneCell']

/-- data that lead nowhere: how they lie does not hang on the view -/
def Rep.flat {α : Type} (R : Rep α) : Prop := ∀ h h' cs x, R.holds h cs x → R.holds h' cs x
theorem flat_int : Rep.int.flat := fun _ _ _ _ h => h
theorem flat_val : Rep.val.flat := fun _ _ _ _ h => h
theorem RepAll.flatView {α : Type} {R : Rep α} (hR : R.flat) {h h' : View} {css : List (List Value)} {xs : List α} (k : RepAll R h css xs) : RepAll R h' css xs := by
  induction css generalizing xs with
  | nil => cases xs with
    | nil => trivial
    | cons x xs => exact k.elim
  | cons c css ih => cases xs with
    | nil => exact k.elim
    | cons x xs => exact ⟨hR _ _ _ _ k.1, ih k.2⟩
/-- a row of the call's own of such data: it is new as a whole -/
theorem OwnOf.fresh {α : Type} {R : Rep α} (hR : R.flat) {w : World} {S : Nat → Prop} {base : Nat} {e : TypeId} {v : Value} {xs : List α} (h : OwnOf R w S base e v xs) : SliceOf R (on w (fun k => base ≤ k)) v xs := by
  obtain ⟨css, h1, h2⟩ := h
  exact ⟨css, h1.flatView hR, VSlice.own h2⟩
theorem SliceOf.flatOn {α : Type} {R : Rep α} (hR : R.flat) {w : World} {S : Nat → Prop} {v : Value} {xs : List α} (h : SliceOf R w.cell? v xs) (hv : ∀ ad n c, v = .slice (some ad) n c → S ad.block) : SliceOf R (on w S) v xs := by
  obtain ⟨css, h1, h2⟩ := h
  refine ⟨css, h1.flatView hR, ?_⟩
  rcases h2 with h2 | ⟨ad, cap, rfl, g1, g2, g3⟩
  · exact .inl h2
  · refine .inr ⟨ad, cap, rfl, g1, g2, ?_⟩
    rcases g3 with g3 | ⟨b, o, rfl, g3⟩
    · exact .inl g3
    · exact .inr ⟨b, o, rfl, fun j u hj => on_some.2 ⟨hv ⟨b, o, none⟩ _ _ rfl, g3 j u hj⟩⟩
theorem OwnOf.made {α : Type} (R : Rep α) (w : World) (S : Nat → Prop) (e : TypeId) : OwnOf R (w.alloc (.cells #[] e)) S w.heap.size e (.slice (some ⟨w.heap.size, 0, none⟩) 0 0) [] :=
  ⟨[], trivial, World.ownsRow_made w #[] 0 (Nat.le_refl _) (Nat.zero_le _) (by simp)⟩

/-- the cells of the i-th datum, as a walk reads them -/
theorem int_at {w : View} {b o n cap : Nat} {xs : List Int} (h : SliceOf Rep.int w (.slice (some ⟨b, o, none⟩) n cap) xs) (i : Nat) (hi : i < xs.length) :
    w ⟨b, o + i, none⟩ = some (.int .i64 xs[i]) ∧ -9223372036854775808 ≤ xs[i] ∧ xs[i] ≤ 9223372036854775807 := by
  obtain ⟨c, ⟨rfl, h1⟩, h2⟩ := h.at i hi
  have := h2 0 _ rfl
  rw [show Rep.int.size = 1 from rfl, Nat.mul_one, Nat.add_zero] at this
  exact ⟨this, h1⟩
theorem val_at {w : View} {b o n cap : Nat} {xs : List Val} (h : SliceOf Rep.val w (.slice (some ⟨b, o, none⟩) n cap) xs) (i : Nat) (hi : i < xs.length) :
    w ⟨b, o + i * 3, none⟩ = some (.int .i64 xs[i].kind) ∧ w ⟨b, o + i * 3 + 1, none⟩ = some (.int .i64 xs[i].n) ∧ w ⟨b, o + i * 3 + 2, none⟩ = some (.string xs[i].s) := by
  obtain ⟨c, ⟨rfl, _⟩, h2⟩ := h.at i hi
  exact ⟨h2 0 _ rfl, h2 1 _ rfl, h2 2 _ rfl⟩
theorem tup_at {w : View} {b o n cap : Nat} {xs : List Tup} (h : SliceOf Rep.tup w (.slice (some ⟨b, o, none⟩) n cap) xs) (i : Nat) (hi : i < xs.length) :
    ∃ u v, w ⟨b, o + i * 4, none⟩ = some u ∧ w ⟨b, o + i * 4 + 1, none⟩ = some (.int .i64 xs[i].from_) ∧ w ⟨b, o + i * 4 + 2, none⟩ = some (.int .i64 xs[i].to_) ∧ w ⟨b, o + i * 4 + 3, none⟩ = some v ∧
      SliceOf Rep.val w u xs[i].vals ∧ SliceOf Rep.int w v xs[i].lin ∧ (-9223372036854775808 ≤ xs[i].from_ ∧ xs[i].from_ ≤ 9223372036854775807) ∧ (-9223372036854775808 ≤ xs[i].to_ ∧ xs[i].to_ ≤ 9223372036854775807) := by
  obtain ⟨c, ⟨u, v, rfl, g1, g2, g3⟩, h2⟩ := h.at i hi
  exact ⟨u, v, h2 0 _ rfl, h2 1 _ rfl, h2 2 _ rfl, h2 3 _ rfl, g1, g2, g3⟩

/-- the world has grown by draws and new blocks alone -/
structure Gro (w w' : World) : Prop where
  ext : Ext w w'
  drawn : w.drawn ≤ w'.drawn
theorem Gro.refl (w : World) : Gro w w := ⟨Ext.refl w, Nat.le_refl _⟩
theorem Gro.trans {a b c : World} (h : Gro a b) (k : Gro b c) : Gro a c := ⟨h.ext.trans k.ext, Nat.le_trans h.drawn k.drawn⟩
theorem Gro.alloc {a w : World} (h : Gro a w) (o : Obj) : Gro a (w.alloc o) := ⟨h.ext.alloc o, h.drawn⟩
theorem Gro.drew {a w : World} (h : Gro a w) : Gro a w.drew := ⟨h.ext.drew, Nat.le_trans h.drawn (Nat.le_succ _)⟩
theorem Gro.drewN {a w : World} (h : Gro a w) (n : Nat) : Gro a (w.drewN n) := ⟨h.ext.drewN n, Nat.le_trans h.drawn (Nat.le_add_right _ _)⟩
theorem Gro.at {w w' : World} (h : Gro w w') {p : Addr} {v : Value} (hc : w.cell? p = some v) : w'.cell? p = some v := h.ext.at hc
theorem Gro.grown {w w' : World} (h : Gro w w') : ∃ n os, w' = Go.Sort.grow (w.drewN n) os := by
  obtain ⟨⟨h1, h2, h3, h4, h5⟩, h6⟩ := h
  refine ⟨w'.drawn - w.drawn, w'.heap.extract w.heap.size w'.heap.size, ?_⟩
  have hh : w'.heap = w.heap ++ w'.heap.extract w.heap.size w'.heap.size := by
    apply Array.ext_getElem?
    intro i
    rw [Array.getElem?_append]
    split
    · exact h5 i (by assumption)
    · rw [Array.getElem?_extract]
      split
      · congr 1; omega
      · rw [Array.getElem?_eq_none (by omega)]
  have hd : w'.drawn = w.drawn + (w'.drawn - w.drawn) := by omega
  cases w'
  simp only [Go.Sort.grow, World.drewN] at *
  subst h1 h2 h3
  congr 1
theorem Gro.of_grow (w : World) (n : Nat) (os : Array Obj) : Gro w (Go.Sort.grow (w.drewN n) os) :=
  ⟨⟨rfl, rfl, rfl, by simp [Go.Sort.grow, World.drewN], fun k hk => Go.Sort.heap_grow_old _ _ hk⟩, Nat.le_add_right _ _⟩

end Go.Proofs.YtdgpbpbjlnlijaaGreatDoor

/- maps whose entries are raw values (slices, structs); no program in sight -/
namespace Go.Proofs.YtdgpbpbjlnlijaaGreatDoor
open Go.RowKit Go.Maps

open Classical in
/-- an element reads as itself, if it has the shape S -/
noncomputable def rawR (S : Value → Prop) (v : Value) : Option (DataW Value × List MemPlace) := if S v then some (.held v, []) else none
theorem rawR_mk {S : Value → Prop} {v : Value} (h : S v) : rawR S v = some (.held v, []) := by unfold rawR; rw [if_pos h]
theorem rawR_inv {S : Value → Prop} {v : Value} {y : DataW Value × List MemPlace} (h : rawR S v = some y) : S v ∧ y = (.held v, []) := by
  unfold rawR at h
  split at h
  · rename_i hs
    exact ⟨hs, (Option.some.inj h).symm⟩
  · cases h
/-- what m says at a key -/
def readV (o : Option Value) (z : DataW Value) : DataW Value := match o with | some v => .held v | none => z
/-- D gives what m says -/
def Reads (D : DataW Value) (m : Lit → Option Value) : Prop := IsMap D ∧ ∀ kl, WideAt.IsKeyLit kl → ∀ z, D.atKey kl z = readV (m kl) z
theorem Reads.empty : Reads (.map []) fun _ => none := ⟨isMap_empty, fun _ _ _ => rfl⟩
open Classical in
noncomputable def putV (m : Lit → Option Value) (kl : Lit) (v : Value) : Lit → Option Value := fun z => if z = kl then some v else m z
theorem putV_same (m : Lit → Option Value) (kl : Lit) (v : Value) : putV m kl v kl = some v := if_pos rfl
theorem putV_other (m : Lit → Option Value) {kl z : Lit} (v : Value) (h : z ≠ kl) : putV m kl v z = m z := if_neg h
theorem Reads.put {D : DataW Value} {m : Lit → Option Value} (h : Reads D m) {kl : Lit} (hk : WideAt.IsKeyLit kl) (v : Value) : Reads (D.put kl (.held v)) (putV m kl v) := by
  refine ⟨h.1.put _ _, fun z hz zd => ?_⟩
  by_cases e : z = kl
  · subst e
    rw [atKey_put_same h.1 hk, putV_same]
    rfl
  · rw [atKey_put_other e, putV_other m v e]
    exact h.2 z hz zd
theorem Reads.has {D : DataW Value} {m : Lit → Option Value} (h : Reads D m) {kl : Lit} (hk : WideAt.IsKeyLit kl) : Maps.has D kl = (m kl).isSome := by
  cases hm : m kl with
  | none => exact has_false_of_atKey fun z => by rw [h.2 kl hk z, hm]; rfl
  | some v => exact has_true_of_atKey (y := .held v) fun z => by rw [h.2 kl hk z, hm]; rfl

/-- block b is a map of at most n entries that gives what m says -/
def MapV (w : World) (P : Program) (k : TypeId) (S : Value → Prop) (b n : Nat) (m : Lit → Option Value) : Prop := ∃ D, w.ownsMap P k (rawR S) b n D ∧ Reads D m
theorem MapV.made (w : World) (P : Program) (k : TypeId) (S : Value → Prop) : MapV (w.alloc (.map #[] 0)) P k S w.heap.size 0 fun _ => none := ⟨_, World.ownsMap_made w P k _, Reads.empty⟩
theorem MapV.lt {w : World} {P : Program} {k : TypeId} {S : Value → Prop} {b n : Nat} {m : Lit → Option Value} (h : MapV w P k S b n m) : b < w.heap.size := by obtain ⟨D, h1, _⟩ := h; exact h1.lt
theorem MapV.kept {w w' : World} {P : Program} {k : TypeId} {S : Value → Prop} {b n : Nat} {m : Lit → Option Value} {row : Option Nat} (h : MapV w P k S b n m) (hg : w.grownBy w' row) (hne : some b ≠ row) : MapV w' P k S b n m := by
  obtain ⟨D, h1, h2⟩ := h
  exact ⟨D, h1.kept hg hne, h2⟩
theorem MapV.alloc {w : World} {P : Program} {k : TypeId} {S : Value → Prop} {b n : Nat} {m : Lit → Option Value} (h : MapV w P k S b n m) (o : Obj) : MapV (w.alloc o) P k S b n m := by
  obtain ⟨D, h1, h2⟩ := h
  exact ⟨D, h1.alloc o, h2⟩
theorem MapV.mono {w : World} {P : Program} {k : TypeId} {S : Value → Prop} {b n n' : Nat} {m : Lit → Option Value} (h : MapV w P k S b n m) (hn : n ≤ n') : MapV w P k S b n' m := by
  obtain ⟨D, h1, h2⟩ := h
  exact ⟨D, h1.mono hn, h2⟩
/-- 'm[k]' -/
theorem wpList_lookup_v {P : Program} (w : World) {ops : Array Oper} {rest : List Oper} {o : Oper} {a : Act} {Q : Exit → Act → World → Prop}
    (hg : o.guard = none) (m x : Operand) (t : TypeId) (hop : o.op = Op.lookup t m x false)
    (k e : TypeId) (K : Go.Maps.Keyed P k) (ht : P.underlying t = some (.map k e)) (z : Value) (hz : (zeroValue e).run P w = .ok z w) (S : Value → Prop) (hS : S z) (b n : Nat) (mp : Lit → Option Value)
    (hm : a.eval m = .map (some b)) (hown : MapV w P k S b n mp) (key : Value) (kl : Lit) (hx : a.eval x = key) (hkey : keyOf P k key = some kl)
    (hK : ∀ v, Hid (v = (mp kl).getD z) → S v → wpList P ops Q rest (a.put o.dst v) w) :
    wpList P ops Q (o :: rest) a w := by
  refine wpList_plain hg fun K' hK' => ?_
  obtain ⟨D, h1, h2⟩ := hown
  obtain ⟨v, ps, hrun, hat⟩ := h1.lookup K ht hz (rawR_mk hS) hkey
  obtain ⟨hs, hv⟩ := rawR_inv hat
  have hvv : v = (mp kl).getD z := by
    have h3 := h2.2 kl (K.key hkey) (.held z)
    rw [(Prod.mk.inj hv).1] at h3
    cases hmk : mp kl with
    | none => rw [hmk] at h3; injection h3
    | some u => rw [hmk] at h3; injection h3
  unfold Oper.wp
  simp [execOp, hop, hm, hx, hrun, Result.andThen]
  exact hK' _ _ (hK v (Lib.hid hvv) hs)

/-- 'm[k] = v' -/
theorem wpList_store_v {P : Program} (w : World) {ops : Array Oper} {rest : List Oper} {o : Oper} {a : Act} {Q : Exit → Act → World → Prop}
    (hg : o.guard = none) (m x v : Operand) (t : TypeId) (hop : o.op = Op.mapUpdate t m x v)
    (k e : TypeId) (K : Go.Maps.Keyed P k) (ht : P.underlying t = some (.map k e)) (S : Value → Prop) (b n : Nat) (mp : Lit → Option Value)
    (hm : a.eval m = .map (some b)) (hown : MapV w P k S b n mp) (hn : n < maxLen) (key val : Value) (kl : Lit) (hx : a.eval x = key) (hv : a.eval v = val) (hkey : keyOf P k key = some kl) (hval : S val)
    (hK : ∀ w', MapV w' P k S b (n + 1) (putV mp kl val) → w.grownBy w' (some b) → wpList P ops Q rest (a.put o.dst undef) w') :
    wpList P ops Q (o :: rest) a w := by
  obtain ⟨D, h1, h2⟩ := hown
  exact wpList_mapUpdate_own w hg m x v t hop k e K ht (rawR S) b n D hm h1 hn key val kl hx hv hkey (.held val) [] (rawR_mk hval) fun w' h3 h4 => hK w' ⟨_, h3, h2.put (K.key hkey) val⟩ h4

/-- a range over such a map under way: the keys that are left -/
def RangeV (w : World) (P : Program) (k : TypeId) (S : Value → Prop) (b r n : Nat) (m : Lit → Option Value) (left : Lit → Bool) (cnt : Nat) : Prop := ∃ D, w.ranges P k (rawR S) b r n D left cnt ∧ Reads D m
theorem RangeV.kept {w w' : World} {P : Program} {k : TypeId} {S : Value → Prop} {b r n : Nat} {m : Lit → Option Value} {left : Lit → Bool} {cnt : Nat} {row : Option Nat} (h : RangeV w P k S b r n m left cnt) (hg : w.grownBy w' row) (hb : some b ≠ row) (hr : some r ≠ row) : RangeV w' P k S b r n m left cnt := by
  obtain ⟨D, h1, h2⟩ := h
  exact ⟨D, h1.kept hg hb hr, h2⟩
theorem wpList_range_v {P : Program} (w : World) {ops : Array Oper} {rest : List Oper} {o : Oper} {a : Act} {Q : Exit → Act → World → Prop}
    (hg : o.guard = none) (m : Operand) (t : TypeId) (hop : o.op = Op.range t m) (k e : TypeId) (K : Go.Maps.Keyed P k) (ht : P.underlying t = some (.map k e)) (S : Value → Prop) (b n : Nat) (mp : Lit → Option Value)
    (hm : a.eval m = .map (some b)) (hown : MapV w P k S b n mp)
    (hK : ∀ w' left cnt, RangeV w' P k S b w.heap.size n mp left cnt → (∀ kl, WideAt.IsKeyLit kl → left kl = (mp kl).isSome) → cnt ≤ n → w.grownBy w' none → w'.heap.size = w.heap.size + 1 → wpList P ops Q rest (a.put o.dst (.pointer (some ⟨w.heap.size, 0, none⟩))) w') :
    wpList P ops Q (o :: rest) a w := by
  obtain ⟨D, h1, h2⟩ := hown
  exact wpList_range_own w hg m t hop k e K ht (rawR S) b n D hm h1 fun w' h3 h4 h5 => hK w' _ _ ⟨D, h3, h2⟩ (fun kl hk => h2.has hk) h1.size_le h4 h5
/-- the step: keys are strings -/
theorem wpList_next_v {β : Type} {P : Program} (w : World) {ops : Array Oper} {rest : List Oper} {o : Oper} {a : Act} {Q : Exit → Act → World → Prop}
    (hg : o.guard = none) (it : Operand) (hop : o.op = Op.next it false) (k : TypeId) (hk : P.underlying k = some .string) (K : Go.Maps.Keyed P k) (S : Value → Prop) (mkV : β → Value) (invV : ∀ v, S v → ∃ c, v = mkV c)
    (b r n : Nat) (mp : Lit → Option Value) (left : Lit → Bool) (cnt : Nat) (hit : a.eval it = .pointer (some ⟨r, 0, none⟩)) (h : RangeV w P k S b r n mp left cnt)
    (hDone : cnt = 0 → (∀ kl, left kl = false) → wpList P ops Q rest (a.put o.dst (.tuple #[.bool false])) w)
    (hMore : ∀ (x : ByteArray) (c : β) (w' : World) (cnt' : Nat), keyOf P k (.string x) = some (.string x.data.toList) → left (.string x.data.toList) = true → mp (.string x.data.toList) = some (mkV c) → S (mkV c) → RangeV w' P k S b r n mp (fun z => left z && !z.sameKey (.string x.data.toList)) cnt' → cnt' < cnt →
      w.grownBy w' (some r) → w'.heap.size = w.heap.size → (Instr.entry (.pointer (some ⟨r, 0, none⟩))).run P w' = .ok (.tuple #[.string x, mkV c]) w' → wpList P ops Q rest (a.put o.dst (.tuple #[.bool true, .string x, mkV c])) w') :
    wpList P ops Q (o :: rest) a w := by
  obtain ⟨D, h1, h2⟩ := h
  refine wpList_next_ranges w hg it hop k K (rawR S) Value.string mkV (fun key kl hkey => ?_) (fun v y hv => invV v (rawR_inv hv).1) b r n D left cnt hit h1 hDone ?_
  · rw [keyOf_string hk] at hkey
    unfold mapKey at hkey
    rw [hk] at hkey
    cases key <;> simp at hkey
    exact ⟨_, rfl⟩
  · intro x c kl y w' cnt' hkey hlk hv hat hrg hlt hgr hsz hen
    have hkl : kl = .string x.data.toList := by
      rw [keyOf_string hk] at hkey
      unfold mapKey at hkey
      rw [hk] at hkey
      simp at hkey
      exact hkey.2.symm
    subst hkl
    obtain ⟨hs, rfl⟩ := rawR_inv hv
    refine hMore x c w' cnt' hkey hlk ?_ hs ⟨D, hrg, h2⟩ hlt hgr hsz hen
    have h3 := h2.2 _ (K.key hkey) (.held undef)
    have h4 := h2.2 _ (K.key hkey) .nil
    rw [hat] at h3 h4
    cases hm : mp (.string x.data.toList) with
    | none => rw [hm] at h4; cases h4
    | some u => rw [hm] at h4; injection h4 with h4; rw [h4]

end Go.Proofs.YtdgpbpbjlnlijaaGreatDoor

/- maps keyed by structs: 'm[k] = append(m[k], v)' reads the entry first and stores into it last; no program in sight -/
namespace Go.Proofs.YtdgpbpbjlnlijaaGreatDoor
open Go.RowKit Go.Maps Go.ChangeMaps Go.MapKept
open Go.WideMaps (KeyLaw)
open Go.WideElems (Fit)

theorem pw_unique {α β : Type} {f : α → β} : ∀ {l : List α}, (l.Pairwise fun x y => f x ≠ f y) → ∀ {x y : α}, x ∈ l → y ∈ l → f x = f y → x = y := by
  intro l
  induction l with
  | nil => intro _ x _ hx; cases hx
  | cons a l ih =>
    intro h x y hx hy e
    obtain ⟨h1, h2⟩ := List.pairwise_cons.1 h
    rcases List.mem_cons.1 hx with e1 | hx1
    · rcases List.mem_cons.1 hy with e2 | hy1
      · rw [e1, e2]
      · subst e1; exact absurd e (h1 y hy1)
    · rcases List.mem_cons.1 hy with e2 | hy1
      · subst e2; exact absurd e.symm (h1 x hx1)
      · exact ih h2 hx1 hy1 e
theorem entry_v {P : Program} {w : World} {t k e : TypeId} (K : KeyLaw P k) (ht : P.underlying t = some (.map k e)) {z : Value} (hz : ∀ u : World, (zeroValue e).run P u = .ok z u) {S : Value → Prop} (hS : S z) {b n : Nat} {mp : Lit → Option Value} (hM : MapV w P k S b n mp) (hn : n < maxLen) {key : Value} {kl : Lit} (hkey : keyOf P k key = some kl) :
    ∃ (v0 : Value) (st : Nat) (o : Obj), (Instr.mapEntry t (.map (some b)) key).run P w = .ok (.tuple #[v0, goInt st]) (setBlock w b o) ∧ Hid (v0 = (mp kl).getD z) ∧ S v0 ∧ (setBlock w b o).heap[b]? = some o ∧ w.grownBy (setBlock w b o) (some b) ∧
      ∀ (w2 : World) (val : Value), w2.heap[b]? = some o → S val → ∃ w3, (Instr.entryStore t (.map (some b)) (goInt st) val).run P w2 = .ok () w3 ∧ MapV w3 P k S b (n + 1) (putV mp kl val) ∧ w2.grownBy w3 (some b) := by
  obtain ⟨D, hO, hR⟩ := hM
  obtain ⟨v1, ps1, hl1, hr1⟩ := hO.lookup (Keyed.of_law K) ht (hz w) (rawR_mk hS) hkey
  obtain ⟨hs1, hv1⟩ := rawR_inv hr1
  have hvv : v1 = (mp kl).getD z := by
    have h3 := hR.2 kl ((Keyed.of_law K).key hkey) (.held z)
    rw [(Prod.mk.inj hv1).1] at h3
    cases hmk : mp kl with
    | none => rw [hmk] at h3; injection h3
    | some u => rw [hmk] at h3; injection h3
  have hU := fun val (hval : S val) => hO.update (Keyed.of_law K) ht hn (val := val) hkey (rawR_mk hval)
  obtain ⟨es, clock, hb, F, hsz, rfl⟩ := hO
  obtain ⟨v0, st, es1, clock1, h1, h2, h3⟩ := Go.WideElems.entry_then_store K ht hz hb F hkey
  have h01 : v0 = v1 := by
    rcases fit_look false (Keyed.of_law K) ht (hz w) hb F hkey with ⟨hrun, hno, _⟩ | ⟨e0, y, he0, hk0, hrun, _⟩
    · rw [hl1] at hrun
      rcases h2 with ⟨e1, he1, hk1, _⟩ | ⟨_, rfl⟩
      · exact absurd hk1 (hno e1 he1)
      · injection hrun with hr _
        exact hr.symm
    · rw [hl1] at hrun
      injection hrun with hr _
      rcases h2 with ⟨e1, he1, hk1, rfl⟩ | ⟨hno, _⟩
      · have hap : es.toList.Pairwise (fun x y => x.key ≠ y.key) := ((stamped_iff es clock).1 F.stamped).2.2
        have : e0 = e1 := pw_unique hap he0 he1 (hk0.trans hk1.symm)
        rw [← this]
        exact hr.symm
      · exact absurd hk0 (hno e0 he0)
  have hg : ∀ (u : World) (o : Obj) (es0 : Array MapEntry) (c0 : Nat), u.heap[b]? = some (.map es0 c0) → u.grownBy (setBlock u b o) (some b) := fun u o es0 c0 hu =>
    ⟨rfl, rfl, rfl, by simp [setBlock], fun i _ hi => heap_setBlock_other hu _ (fun e => hi (by rw [e]))⟩
  refine ⟨v0, st, .map es1 clock1, h1, Lib.hid (h01.trans hvv), by rw [h01]; exact hs1, heap_setBlock_same hb _, hg w _ _ _ hb, fun w2 val hw2 hval => ?_⟩
  obtain ⟨es', clock', hs2, hup⟩ := h3 w2 val hw2
  obtain ⟨w', hup', hown', _⟩ := hU val hval
  rw [hup] at hup'
  injection hup' with _ hw'
  subst hw'
  obtain ⟨es'', clock'', hb'', F'', hsz'', hD''⟩ := hown'
  have hbb : (setBlock w b (.map es' clock')).heap[b]? = some (.map es' clock') := heap_setBlock_same hb _
  rw [hbb] at hb''
  injection hb'' with hb''
  injection hb'' with he1 he2
  subst he1 he2
  exact ⟨_, hs2, ⟨_, ⟨es', clock', heap_setBlock_same hw2 _, F'', hsz'', rfl⟩, by rw [← hD'']; exact hR.put ((Keyed.of_law K).key hkey) val⟩, hg w2 _ _ _ hw2⟩
end Go.Proofs.YtdgpbpbjlnlijaaGreatDoor

/- what changes in named blocks alone, and the rows of one's own that stand beside; no program is named here. -/
namespace Go.Proofs.YtdgpbpbjlnlijaaGreatDoor
open Go.RowKit

/-- of the old blocks only those of C may have changed -/
structure Chg (C : Nat → Prop) (w w' : World) : Prop where
  os : w'.os = w.os
  tape : w'.tape = w.tape
  output : w'.output = w.output
  size : w.heap.size ≤ w'.heap.size
  block : ∀ k, k < w.heap.size → ¬ C k → w'.heap[k]? = w.heap[k]?
theorem Chg.refl (C : Nat → Prop) (w : World) : Chg C w w := ⟨rfl, rfl, rfl, Nat.le_refl _, fun _ _ _ => rfl⟩
theorem Chg.trans {C : Nat → Prop} {a b c : World} (h : Chg C a b) (k : Chg C b c) : Chg C a c :=
  ⟨k.os.trans h.os, k.tape.trans h.tape, k.output.trans h.output, Nat.le_trans h.size k.size, fun i hi hc => (k.block i (Nat.lt_of_lt_of_le hi h.size) hc).trans (h.block i hi hc)⟩
theorem Chg.mono {C D : Nat → Prop} {a b : World} (h : Chg C a b) (hd : ∀ k, k < a.heap.size → C k → D k) : Chg D a b := ⟨h.os, h.tape, h.output, h.size, fun k hk hc => h.block k hk fun e => hc (hd k hk e)⟩
theorem Ext.chg {a b : World} (h : Ext a b) (C : Nat → Prop) : Chg C a b := ⟨h.os, h.tape, h.output, h.size, fun k hk _ => h.block k hk⟩
theorem chg_grown {a b : World} {row : Option Nat} (h : a.grownBy b row) : Chg (fun k => row = some k) a b := ⟨h.os, h.tape, h.output, h.size, fun k hk hc => h.block k hk fun e => hc e.symm⟩
theorem chg_set (w : World) (p : Addr) (u : Value) : Chg (fun k => k = p.block) w (w.setCell p u) := ⟨rfl, rfl, rfl, by simp [World.setCell], fun k _ hc => Below.heap_setCell _ _ _ _ hc⟩
theorem Chg.drew {C : Nat → Prop} {a w : World} (h : Chg C a w) : Chg C a w.drew := ⟨h.os, h.tape, h.output, h.size, h.block⟩
theorem Chg.alloc {C : Nat → Prop} {a w : World} (h : Chg C a w) (o : Obj) : Chg C a (w.alloc o) := h.trans (((Ext.refl w).alloc o).chg C)
theorem Chg.ext {C : Nat → Prop} {a w w' : World} (h : Chg C a w) (k : Ext w w') : Chg C a w' := h.trans (k.chg C)
/-- a store into a block that may change, or that is new -/
theorem Chg.setCell {C : Nat → Prop} {a w : World} (h : Chg C a w) {p : Addr} (hp : C p.block ∨ a.heap.size ≤ p.block) (u : Value) : Chg C a (w.setCell p u) :=
  ⟨h.os, h.tape, h.output, Nat.le_trans h.size (by simp [World.setCell]), fun k hk hc => by
    rw [Below.heap_setCell]
    · exact h.block k hk hc
    · rintro rfl; rcases hp with hp | hp
      · exact hc hp
      · omega⟩
theorem Chg.grown {C : Nat → Prop} {a w w' : World} {row : Option Nat} (h : Chg C a w) (hg : w.grownBy w' row) (hr : ∀ k, row = some k → C k ∨ a.heap.size ≤ k) : Chg C a w' :=
  ⟨hg.os.trans h.os, hg.tape.trans h.tape, hg.output.trans h.output, Nat.le_trans h.size hg.size, fun k hk hc => by
    rw [hg.block k (Nat.lt_of_lt_of_le hk h.size) (fun e => by rcases hr k e.symm with hr | hr; exact hc hr; omega)]
    exact h.block k hk hc⟩
theorem Chg.at {C : Nat → Prop} {w w' : World} (h : Chg C w w') {p : Addr} {v : Value} (hc : w.cell? p = some v) (hn : ¬ C p.block) : w'.cell? p = some v :=
  (World.cell?_of_block (w := w) (h.block p.block (World.block_lt_of_cell? w p hc) hn)).trans hc
theorem Chg.free {C : Nat → Prop} {w w' : World} (h : Chg C w w') {p : Addr} {v : Value} (hc : w.cell? p = some v) (hf : w.frozen? p = false) (hn : ¬ C p.block) : w'.frozen? p = false :=
  (World.frozen?_of_block (w := w) (h.block p.block (World.block_lt_of_cell? w p hc) hn)).trans hf
/-- what changes in new blocks alone -/
theorem Chg.below {C : Nat → Prop} {a w w' : World} (h : Chg C w w') (k : Ext a w) (hC : ∀ b, C b → a.heap.size ≤ b) : Ext a w' :=
  ⟨h.os.trans k.os, h.tape.trans k.tape, h.output.trans k.output, Nat.le_trans k.size h.size, fun b hb => (h.block b (Nat.lt_of_lt_of_le hb k.size) fun hc => by have := hC b hc; omega).trans (k.block b hb)⟩
theorem Chg.own {C : Nat → Prop} {w w' : World} (h : Chg C w w') {base : Nat} {e : TypeId} {size : Nat} {v : Value} {n : Nat} {xs : List Value} (hv : w.ownsRow base e size v n xs) (hn : ∀ k, v.ownBlock = some k → ¬ C k) : w'.ownsRow base e size v n xs := by
  refine ⟨hv.1, ?_⟩
  rcases hv.2 with h2 | ⟨g, cap, cur, he, hb, hg, r⟩
  · exact .inl h2
  · exact .inr ⟨g, cap, cur, he, hb, by rw [h.block g (Array.getElem?_eq_some_iff.1 hg).1 (hn g (by rw [he]; rfl))]; exact hg, r⟩
/-- a row of flat data beside what changes -/
theorem OwnOf.chg {α : Type} {R : Rep α} (hR : R.flat) {C : Nat → Prop} {w w' : World} {S : Nat → Prop} {base : Nat} {e : TypeId} {v : Value} {xs : List α} (h : OwnOf R w S base e v xs) (hx : Chg C w w') (hn : ∀ k, v.ownBlock = some k → ¬ C k) : OwnOf R w' S base e v xs := by
  obtain ⟨css, h1, h2⟩ := h
  exact ⟨css, h1.flatView hR, hx.own h2 hn⟩
theorem SliceOf.chg {α : Type} {R : Rep α} {C : Nat → Prop} {w w' : World} {S : Nat → Prop} {v : Value} {xs : List α} (h : SliceOf R (on w S) v xs) (hx : Chg C w w') (hS : ∀ k, S k → ¬ C k) : SliceOf R (on w' S) v xs :=
  h.ext fun p u e => by
    obtain ⟨h1, h2⟩ := on_some.1 e
    exact on_some.2 ⟨h1, hx.at h2 (hS _ h1)⟩
theorem OwnOf.form {α : Type} {R : Rep α} {w : World} {S : Nat → Prop} {base : Nat} {e : TypeId} {v : Value} {xs : List α} (h : OwnOf R w S base e v xs) : (v = .slice none 0 0 ∧ xs = []) ∨ ∃ g cap, v = .slice (some ⟨g, 0, none⟩) xs.length cap ∧ base ≤ g ∧ xs.length ≤ cap ∧ cap ≤ maxLen := by
  obtain ⟨css, h1, _, h2⟩ := h
  rcases h2 with ⟨rfl, h2⟩ | ⟨g, cap, cur, rfl, hb, hg, h3, h4, _⟩
  · exact .inl ⟨rfl, List.eq_nil_of_length_eq_zero h2⟩
  · exact .inr ⟨g, cap, rfl, hb, h3, h4⟩

end Go.Proofs.YtdgpbpbjlnlijaaGreatDoor

/- Contracts of the comparisons: cmp.Compare at int and int64, cmp.Or at int, value.Compare, value.CompareRows, slices.Compare, bag.Compare. -/
namespace Go.Proofs.YtdgpbpbjlnlijaaGreatDoor
open Go.RowKit

/-- -1, 0 or 1 as a is less than, equal to or greater than b -/
def cmpI (a b : Int) : Int := if a < b then -1 else if b < a then 1 else 0

theorem isNaN_int (a : Int) (w : World) : Calls Tryz.prog 157 #[.int .i64 a] w fun e w' => e = .returned (.bool false) ∧ w = w' := by
  go_enter Tryz.func157, Tryz.ntmps157
  go_wp2
  go_ret
  exact ⟨rfl, rfl⟩
theorem isNaN_int64 (a : Int) (w : World) : Calls Tryz.prog 236 #[.int .i64 a] w fun e w' => e = .returned (.bool false) ∧ w = w' := by
  go_enter Tryz.func236, Tryz.ntmps236
  go_wp2
  go_ret
  exact ⟨rfl, rfl⟩
theorem compare_int (a b : Int) (w : World) : Calls Tryz.prog 112 #[.int .i64 a, .int .i64 b] w fun e w' => e = .returned (.int .i64 (cmpI a b)) ∧ w = w' := by
  go_enter Tryz.func112, Tryz.ntmps112
  go_wp2_with (go_at_call 157; refine (isNaN_int _ _).mono ?_; rintro e w' ⟨rfl, rfl⟩)
  all_goals
    go_ret
    refine ⟨ret_int ?_, rfl⟩
    unfold cmpI
    repeat (first | rw [if_pos (by omega)] | rw [if_neg (by omega)])
theorem compare_int64 (a b : Int) (w : World) : Calls Tryz.prog 191 #[.int .i64 a, .int .i64 b] w fun e w' => e = .returned (.int .i64 (cmpI a b)) ∧ w = w' := by
  go_enter Tryz.func191, Tryz.ntmps191
  go_wp2_with (go_at_call 236; refine (isNaN_int64 _ _).mono ?_; rintro e w' ⟨rfl, rfl⟩)
  all_goals
    go_ret
    refine ⟨ret_int ?_, rfl⟩
    unfold cmpI
    repeat (first | rw [if_pos (by omega)] | rw [if_neg (by omega)])

/-- the first that is not 0 -/
def orI : List Int → Int
  | [] => 0
  | x :: xs => if x = 0 then orI xs else x
theorem orI_drop (l : List Int) (k : Nat) (hk : k < l.length) : orI (l.drop k) = if l[k] = 0 then orI (l.drop (k + 1)) else l[k] := by
  rw [List.drop_eq_getElem_cons hk]; rfl

set_option maxHeartbeats 1000000 in
theorem or_any (b o cap : Nat) (l : List Int) (w : World) (hcap : l.length ≤ maxLen) (hl : ∀ k (h : k < l.length), w.cell? ⟨b, o + k, none⟩ = some (.int .i64 l[k])) :
    Calls Tryz.prog 114 #[.slice (some ⟨b, o, none⟩) l.length cap] w fun e w' => e = .returned (.int .i64 (orI l)) ∧ w = w' := by
  unfold maxLen at hcap
  go_enter Tryz.func114, Tryz.ntmps114
  go_wp2_with fail
  go_loop [8] (fun i => ∃ k : Nat, k ≤ l.length ∧ i = .int .i64 k ∧ orI l = orI (l.drop k)) (fun i => l.length - (intOf i).toNat)
  case atStart => exact ⟨0, by omega, rfl, rfl⟩
  case round =>
    obtain ⟨k, hk, rfl, ho⟩ := hrel
    have HO := Lib.hid ho
    clear ho
    by_cases hlt : k < l.length
    · have c := hl k hlt
      have hd := orI_drop l k hlt
      generalize l[k] = x at c hd
      have hdi : decide ((k : Int) < (l.length : Int)) = true := by simp; omega
      have hdj : (k : Int) < (l.length : Int) := by omega
      have HD := Lib.hid hd
      clear hd hl
      by_cases hx : x = 0
      · have hb : (x != 0) = false := by simp [hx]
        have HX := Lib.hid hx
        clear hx
        go_wp2_with fail
        go_round
        case rel => exact ⟨k + 1, by omega, by go_num, by rw [HO.out, HD.out, if_pos HX.out]⟩
        case measure => simp [intOf]; omega
      · have hb : (x != 0) = true := by simp [hx]
        have HX := Lib.hid hx
        clear hx
        go_wp2_with fail
        go_ret
        exact ⟨ret_int (by rw [HO.out, HD.out, if_neg HX.out]), rfl⟩
    · have : k = l.length := by omega
      subst this
      go_wp2_with fail
      go_ret
      exact ⟨ret_int (by rw [HO.out, List.drop_length]; rfl), rfl⟩

end Go.Proofs.YtdgpbpbjlnlijaaGreatDoor

/- What a region that draws its order keeps: cells that were there are there behind a growth of the world. -/
namespace Go.Proofs.YtdgpbpbjlnlijaaGreatDoor
open Go.RowKit

theorem keepE3 {W wa wb : World} {p1 p2 p3 : Addr} {v1 v2 v3 : Value} (h : Ext W wa ∧ wa.cell? p1 = some v1 ∧ wa.cell? p2 = some v2 ∧ wa.cell? p3 = some v3) (hx : Ext wa wb) : Ext W wb ∧ wb.cell? p1 = some v1 ∧ wb.cell? p2 = some v2 ∧ wb.cell? p3 = some v3 :=
  ⟨h.1.trans hx, hx.at (h.2.1), hx.at (h.2.2.1), hx.at (h.2.2.2)⟩
theorem keepE4 {W wa wb : World} {p1 p2 p3 p4 : Addr} {v1 v2 v3 v4 : Value} (h : Ext W wa ∧ wa.cell? p1 = some v1 ∧ wa.cell? p2 = some v2 ∧ wa.cell? p3 = some v3 ∧ wa.cell? p4 = some v4) (hx : Ext wa wb) : Ext W wb ∧ wb.cell? p1 = some v1 ∧ wb.cell? p2 = some v2 ∧ wb.cell? p3 = some v3 ∧ wb.cell? p4 = some v4 :=
  ⟨h.1.trans hx, hx.at (h.2.1), hx.at (h.2.2.1), hx.at (h.2.2.2.1), hx.at (h.2.2.2.2)⟩
theorem keepE5 {W wa wb : World} {p1 p2 p3 p4 p5 : Addr} {v1 v2 v3 v4 v5 : Value} (h : Ext W wa ∧ wa.cell? p1 = some v1 ∧ wa.cell? p2 = some v2 ∧ wa.cell? p3 = some v3 ∧ wa.cell? p4 = some v4 ∧ wa.cell? p5 = some v5) (hx : Ext wa wb) : Ext W wb ∧ wb.cell? p1 = some v1 ∧ wb.cell? p2 = some v2 ∧ wb.cell? p3 = some v3 ∧ wb.cell? p4 = some v4 ∧ wb.cell? p5 = some v5 :=
  ⟨h.1.trans hx, hx.at (h.2.1), hx.at (h.2.2.1), hx.at (h.2.2.2.1), hx.at (h.2.2.2.2.1), hx.at (h.2.2.2.2.2)⟩
theorem keepE6 {W wa wb : World} {p1 p2 p3 p4 p5 p6 : Addr} {v1 v2 v3 v4 v5 v6 : Value} (h : Ext W wa ∧ wa.cell? p1 = some v1 ∧ wa.cell? p2 = some v2 ∧ wa.cell? p3 = some v3 ∧ wa.cell? p4 = some v4 ∧ wa.cell? p5 = some v5 ∧ wa.cell? p6 = some v6) (hx : Ext wa wb) : Ext W wb ∧ wb.cell? p1 = some v1 ∧ wb.cell? p2 = some v2 ∧ wb.cell? p3 = some v3 ∧ wb.cell? p4 = some v4 ∧ wb.cell? p5 = some v5 ∧ wb.cell? p6 = some v6 :=
  ⟨h.1.trans hx, hx.at (h.2.1), hx.at (h.2.2.1), hx.at (h.2.2.2.1), hx.at (h.2.2.2.2.1), hx.at (h.2.2.2.2.2.1), hx.at (h.2.2.2.2.2.2)⟩
theorem keepE8 {W wa wb : World} {p1 p2 p3 p4 p5 p6 p7 p8 : Addr} {v1 v2 v3 v4 v5 v6 v7 v8 : Value} (h : Ext W wa ∧ wa.cell? p1 = some v1 ∧ wa.cell? p2 = some v2 ∧ wa.cell? p3 = some v3 ∧ wa.cell? p4 = some v4 ∧ wa.cell? p5 = some v5 ∧ wa.cell? p6 = some v6 ∧ wa.cell? p7 = some v7 ∧ wa.cell? p8 = some v8) (hx : Ext wa wb) : Ext W wb ∧ wb.cell? p1 = some v1 ∧ wb.cell? p2 = some v2 ∧ wb.cell? p3 = some v3 ∧ wb.cell? p4 = some v4 ∧ wb.cell? p5 = some v5 ∧ wb.cell? p6 = some v6 ∧ wb.cell? p7 = some v7 ∧ wb.cell? p8 = some v8 :=
  ⟨h.1.trans hx, hx.at (h.2.1), hx.at (h.2.2.1), hx.at (h.2.2.2.1), hx.at (h.2.2.2.2.1), hx.at (h.2.2.2.2.2.1), hx.at (h.2.2.2.2.2.2.1), hx.at (h.2.2.2.2.2.2.2.1), hx.at (h.2.2.2.2.2.2.2.2)⟩
theorem keepE12 {W wa wb : World} {p1 p2 p3 p4 p5 p6 p7 p8 p9 p10 p11 p12 : Addr} {v1 v2 v3 v4 v5 v6 v7 v8 v9 v10 v11 v12 : Value} (h : Ext W wa ∧ wa.cell? p1 = some v1 ∧ wa.cell? p2 = some v2 ∧ wa.cell? p3 = some v3 ∧ wa.cell? p4 = some v4 ∧ wa.cell? p5 = some v5 ∧ wa.cell? p6 = some v6 ∧ wa.cell? p7 = some v7 ∧ wa.cell? p8 = some v8 ∧ wa.cell? p9 = some v9 ∧ wa.cell? p10 = some v10 ∧ wa.cell? p11 = some v11 ∧ wa.cell? p12 = some v12) (hx : Ext wa wb) : Ext W wb ∧ wb.cell? p1 = some v1 ∧ wb.cell? p2 = some v2 ∧ wb.cell? p3 = some v3 ∧ wb.cell? p4 = some v4 ∧ wb.cell? p5 = some v5 ∧ wb.cell? p6 = some v6 ∧ wb.cell? p7 = some v7 ∧ wb.cell? p8 = some v8 ∧ wb.cell? p9 = some v9 ∧ wb.cell? p10 = some v10 ∧ wb.cell? p11 = some v11 ∧ wb.cell? p12 = some v12 :=
  ⟨h.1.trans hx, hx.at (h.2.1), hx.at (h.2.2.1), hx.at (h.2.2.2.1), hx.at (h.2.2.2.2.1), hx.at (h.2.2.2.2.2.1), hx.at (h.2.2.2.2.2.2.1), hx.at (h.2.2.2.2.2.2.2.1), hx.at (h.2.2.2.2.2.2.2.2.1), hx.at (h.2.2.2.2.2.2.2.2.2.1), hx.at (h.2.2.2.2.2.2.2.2.2.2.1), hx.at (h.2.2.2.2.2.2.2.2.2.2.2.1), hx.at (h.2.2.2.2.2.2.2.2.2.2.2.2)⟩
theorem keepG4 {W wa wb : World} {p1 p2 p3 p4 : Addr} {v1 v2 v3 v4 : Value} (h : Gro W wa ∧ wa.cell? p1 = some v1 ∧ wa.cell? p2 = some v2 ∧ wa.cell? p3 = some v3 ∧ wa.cell? p4 = some v4) (hx : Gro wa wb) : Gro W wb ∧ wb.cell? p1 = some v1 ∧ wb.cell? p2 = some v2 ∧ wb.cell? p3 = some v3 ∧ wb.cell? p4 = some v4 :=
  ⟨h.1.trans hx, hx.at (h.2.1), hx.at (h.2.2.1), hx.at (h.2.2.2.1), hx.at (h.2.2.2.2)⟩
theorem keepG6 {W wa wb : World} {p1 p2 p3 p4 p5 p6 : Addr} {v1 v2 v3 v4 v5 v6 : Value} (h : Gro W wa ∧ wa.cell? p1 = some v1 ∧ wa.cell? p2 = some v2 ∧ wa.cell? p3 = some v3 ∧ wa.cell? p4 = some v4 ∧ wa.cell? p5 = some v5 ∧ wa.cell? p6 = some v6) (hx : Gro wa wb) : Gro W wb ∧ wb.cell? p1 = some v1 ∧ wb.cell? p2 = some v2 ∧ wb.cell? p3 = some v3 ∧ wb.cell? p4 = some v4 ∧ wb.cell? p5 = some v5 ∧ wb.cell? p6 = some v6 :=
  ⟨h.1.trans hx, hx.at (h.2.1), hx.at (h.2.2.1), hx.at (h.2.2.2.1), hx.at (h.2.2.2.2.1), hx.at (h.2.2.2.2.2.1), hx.at (h.2.2.2.2.2.2)⟩
end Go.Proofs.YtdgpbpbjlnlijaaGreatDoor
