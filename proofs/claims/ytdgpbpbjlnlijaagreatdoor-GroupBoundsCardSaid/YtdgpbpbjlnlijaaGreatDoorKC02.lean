/- joined texts of a proof: Kit, Rep, Step, Bld, PlainK, Laid, TabH, BagA -/
import Derived.WalkKit
import Derived.WalkSpells
import Derived.WalkLawsBesides
import Derived.Deep.LoopGhost
import Derived.Lib.Hide
import Derived.Deep.Slices
import Derived.Deep.AppendLies
import Derived.Laws.AppendOwnNone
import Derived.Sort.Grow
import Derived.Deep.RegionLaw
import Derived.Test.YtdgpbpbjlnlijaaGreatDoorKC01
import Derived.Lib.AppendStr
import Derived.Lib.Builder
import Derived.Lib.OthersKept
import Derived.Laws.Externs
import Derived.Lib.ItoaNum
import Derived.Test.YtdgpbpbjlnlijaaGreatDoorRows
import Derived.ProofKit
import Derived.LaidMore
import Derived.Lib.LaidTab
import Derived.MakeChecks
import Derived.Stop.LaidErr
import Derived.ChangeSame
import Derived.Test.YtdgpbpbjlnlijaaGreatDoorProg
import Derived.Deep.QuietTactic
import Derived.BigQuiet
import Derived.Deep.RegionHeld3

/- Small lemmas on worlds, rows and lists that the walks of this seat use; no program is named here. -/
namespace Go.Proofs.YtdgpbpbjlnlijaaGreatDoor
open Go.RowKit

theorem ret_bool {a b : Bool} (h : a = b) : Ending.returned (.bool a) = .returned (.bool b) := by rw [h]
theorem ret_int {k : IntKind} {a b : Int} (h : a = b) : Ending.returned (.int k a) = .returned (.int k b) := by rw [h]

/-- what stood below a number reads as it did -/
theorem bcell {B : Nat} {W w1 : World} (hb : Below B W w1) : (∀ b o, b < B → w1.cell? ⟨b, o, none⟩ = W.cell? ⟨b, o, none⟩) ∧ (∀ b o, b < B → w1.frozen? ⟨b, o, none⟩ = W.frozen? ⟨b, o, none⟩) :=
  ⟨fun b o h => hb.cell (p := ⟨b, o, none⟩) h, fun b o h => hb.frozen (p := ⟨b, o, none⟩) h⟩

theorem below_drewN {B : Nat} {a w : World} (h : Below B a w) (n : Nat) : Below B a (w.drewN n) := ⟨h.os, h.tape, h.output, h.size, h.block⟩

theorem add_lit (b o j : Nat) : (⟨b, o, none⟩ : Addr).add j = ⟨b, o + j, none⟩ := by simp [Addr.add]

/-- the cells of a new block -/
theorem cells_new (w : World) (xs : List Value) (T : TypeId) : ∀ j u, xs[j]? = some u → (w.alloc (.cells xs.toArray T)).cell? ((⟨w.heap.size, 0, none⟩ : Addr).add j) = some u := by
  intro j u h
  rw [add_lit, World.cell?_alloc_at _ _ _ _ rfl]
  simpa using h

/-- a row of the call's own that holds something: where it lies, and its cells -/
theorem own_cells {w : World} {base : Nat} {e : TypeId} {size : Nat} {v : Value} {n : Nat} {xs : List Value} (h : w.ownsRow base e size v n xs) (hn : 0 < n) :
    ∃ g cap, v = .slice (some ⟨g, 0, none⟩) n cap ∧ base ≤ g ∧ g < w.heap.size ∧ n ≤ cap ∧ cap ≤ maxLen ∧ (∀ j u, xs[j]? = some u → w.cell? ⟨g, j, none⟩ = some u) := by
  rcases h.2 with ⟨_, h0⟩ | ⟨g, cap, cur, hv, hb, hg, h1, h2, _, _⟩
  · omega
  · refine ⟨g, cap, hv, hb, (Array.getElem?_eq_some_iff.1 hg).1, h1, h2, fun j u hj => ?_⟩
    have := h.cells (g := g) (by rw [hv]; rfl) j u hj
    rwa [add_lit, Nat.zero_add] at this

theorem ownsRow_weak {w : World} {base base' : Nat} {e : TypeId} {size : Nat} {v : Value} {n : Nat} {xs : List Value} (h : w.ownsRow base e size v n xs) (hb : base' ≤ base) : w.ownsRow base' e size v n xs := by
  obtain ⟨h1, h2⟩ := h
  refine ⟨h1, ?_⟩
  rcases h2 with h2 | ⟨g, cap, cur, hv, hg, r⟩
  · exact .inl h2
  · exact .inr ⟨g, cap, cur, hv, by omega, r⟩

/-- everything that was there is as it was; there may be new blocks -/
abbrev Ext (w w' : World) : Prop := Below w.heap.size w w'
theorem Ext.refl (w : World) : Ext w w := Below.refl _ _
theorem Ext.trans {a b c : World} (h : Ext a b) (k : Ext b c) : Ext a c := Below.trans h (k.mono h.size)
theorem Ext.alloc {a w : World} (h : Ext a w) (o : Obj) : Ext a (w.alloc o) := Below.alloc h h.size o
theorem Ext.drewN {a w : World} (h : Ext a w) (n : Nat) : Ext a (w.drewN n) := below_drewN h n
theorem Ext.drew {a w : World} (h : Ext a w) : Ext a w.drew := Below.drew h
theorem Ext.at {w w' : World} (h : Ext w w') {p : Addr} {v : Value} (hc : w.cell? p = some v) : w'.cell? p = some v :=
  (Below.cell h (World.block_lt_of_cell? w p hc)).trans hc
theorem Ext.unfrozen {w w' : World} (h : Ext w w') {p : Addr} {v : Value} (hc : w.cell? p = some v) (hf : w.frozen? p = false) : w'.frozen? p = false :=
  (Below.frozen h (World.block_lt_of_cell? w p hc)).trans hf
theorem cell_alloc {w : World} {p : Addr} {v : Value} (h : w.cell? p = some v) (o : Obj) : (w.alloc o).cell? p = some v :=
  (Ext.alloc (Ext.refl w) o).at h
theorem cell_set {w : World} {p q : Addr} {v u : Value} (h : w.cell? p = some v) (hq : q.block ≠ p.block) : (w.setCell q u).cell? p = some v := by
  rw [World.cell?_setCell_other _ _ _ _ (by intro e; exact hq (by rw [e]))]; exact h
theorem cell_lt {w : World} {b o : Nat} {v : Value} (h : w.cell? ⟨b, o, none⟩ = some v) : b < w.heap.size := World.block_lt_of_cell? w ⟨b, o, none⟩ h

/-- v is a slice of n elements whose cells read as xs; where there are none nothing is said of its place -/
def SliceAt (w : World) (v : Value) (n : Nat) (xs : List Value) : Prop :=
  ∃ a cap, v = .slice a n cap ∧ n ≤ cap ∧ cap ≤ maxLen ∧ (xs = [] ∨ ∃ b o, a = some ⟨b, o, none⟩ ∧ ∀ j u, xs[j]? = some u → w.cell? ⟨b, o + j, none⟩ = some u)
theorem SliceAt.ext {w w' : World} {v : Value} {n : Nat} {xs : List Value} (h : SliceAt w v n xs) (hx : Ext w w') : SliceAt w' v n xs := by
  obtain ⟨a, cap, hv, h1, h2, h3⟩ := h
  refine ⟨a, cap, hv, h1, h2, ?_⟩
  rcases h3 with h3 | ⟨b, o, ha, h3⟩
  · exact .inl h3
  · exact .inr ⟨b, o, ha, fun j u hj => hx.at (h3 j u hj)⟩
theorem SliceAt.nil (w : World) : SliceAt w (.slice none 0 0) 0 [] := ⟨none, 0, rfl, Nat.le_refl _, by simp [maxLen], .inl rfl⟩
/-- a row of the call's own is such a slice -/
theorem SliceAt.own {w : World} {base : Nat} {e : TypeId} {size : Nat} {v : Value} {n : Nat} {xs : List Value} (h : w.ownsRow base e size v n xs) : SliceAt w v n xs := by
  by_cases hn : 0 < n
  · obtain ⟨g, cap, h1, _, _, h4, h5, h6⟩ := own_cells h hn
    exact ⟨_, cap, h1, h4, h5, .inr ⟨g, 0, rfl, fun j u hj => by rw [Nat.zero_add]; exact h6 j u hj⟩⟩
  · have hxs : xs = [] := List.eq_nil_of_length_eq_zero (by rw [h.1]; simp [Nat.eq_zero_of_not_pos hn])
    rcases h.2 with ⟨hv, h0⟩ | ⟨g, cap, cur, hv, hb, hg, h1, h2, _, _⟩
    · subst h0; exact ⟨none, 0, hv, Nat.le_refl _, by simp [maxLen], .inl hxs⟩
    · exact ⟨_, cap, hv, h1, h2, .inl hxs⟩

theorem take_eq_succ {α : Type} {l l' : List α} {i : Nat} (h : l.take i = l'.take i) (h1 : i < l.length) (h2 : i < l'.length) (e : l[i] = l'[i]) : l.take (i + 1) = l'.take (i + 1) := by
  rw [List.take_succ_eq_append_getElem h1, List.take_succ_eq_append_getElem h2, h, e]

end Go.Proofs.YtdgpbpbjlnlijaaGreatDoor

/- How Go's data lie in memory: a datum's cells, slices of data, and what is kept when the world grows; no program is named here. -/
namespace Go.Proofs.YtdgpbpbjlnlijaaGreatDoor
open Go.RowKit Go.Deep

/-- what the cells hold, or a part of that -/
abbrev View := Addr → Option Value
def Sub (h h' : View) : Prop := ∀ p v, h p = some v → h' p = some v
theorem Sub.refl (h : View) : Sub h h := fun _ _ e => e
theorem Sub.trans {a b c : View} (h : Sub a b) (k : Sub b c) : Sub a c := fun p v e => k p v (h p v e)
open Classical in
/-- the world's cells in the blocks of S alone -/
noncomputable def on (w : World) (S : Nat → Prop) : View := fun p => if S p.block then w.cell? p else none
theorem on_some {w : World} {S : Nat → Prop} {p : Addr} {v : Value} : on w S p = some v ↔ S p.block ∧ w.cell? p = some v := by
  unfold on
  split
  · simp [*]
  · simp [*]
theorem on_sub (w : World) (S : Nat → Prop) : Sub (on w S) w.cell? := fun _ _ e => (on_some.1 e).2
theorem on_mono (w : World) {S T : Nat → Prop} (h : ∀ k, k < w.heap.size → S k → T k) : Sub (on w S) (on w T) := fun p _ e => by
  obtain ⟨h1, h2⟩ := on_some.1 e
  exact on_some.2 ⟨h _ (World.block_lt_of_cell? w p h2) h1, h2⟩
theorem Ext.sub {w w' : World} (h : Ext w w') (S : Nat → Prop) : Sub (on w S) (on w' S) := fun p v e => by
  obtain ⟨h1, h2⟩ := on_some.1 e
  exact on_some.2 ⟨h1, h.at h2⟩
theorem Ext.full {w w' : World} (h : Ext w w') : Sub w.cell? w'.cell? := fun _ _ e => h.at e
/-- the cells that lie below B are kept by whatever keeps what is below B -/
theorem below_sub {w w' : World} {B : Nat} (h : Below B w w') {S : Nat → Prop} (hS : ∀ k, S k → k < B) : Sub (on w S) (on w' S) := fun p v e => by
  obtain ⟨h1, h2⟩ := on_some.1 e
  exact on_some.2 ⟨h1, (h.cell (hS _ h1)).trans h2⟩
theorem grown_sub {w w' : World} {row : Option Nat} (h : w.grownBy w' row) {S : Nat → Prop} (hS : ∀ k, S k → some k ≠ row) : Sub (on w S) (on w' S) := fun p v e => by
  obtain ⟨h1, h2⟩ := on_some.1 e
  exact on_some.2 ⟨h1, h.cell h2 (hS _ h1)⟩
theorem set_sub (w : World) (p : Addr) (v : Value) {S : Nat → Prop} (hS : ¬ S p.block) : Sub (on w S) (on (w.setCell p v) S) := fun q u e => by
  obtain ⟨h1, h2⟩ := on_some.1 e
  exact on_some.2 ⟨h1, cell_set h2 fun e => hS (e ▸ h1)⟩
theorem full_on (w : World) (S : Nat → Prop) (h : ∀ k, k < w.heap.size → S k) : Sub w.cell? (on w S) := fun p _ e => on_some.2 ⟨h _ (World.block_lt_of_cell? w p e), e⟩

/-- a slice's cells, in a view -/
def VSlice (h : View) (v : Value) (n : Nat) (xs : List Value) : Prop :=
  (v = .slice none 0 0 ∧ n = 0 ∧ xs = []) ∨
  ∃ ad cap, v = .slice (some ad) n cap ∧ n ≤ cap ∧ cap ≤ maxLen ∧ (xs = [] ∨ ∃ b o, ad = ⟨b, o, none⟩ ∧ ∀ j u, xs[j]? = some u → h ⟨b, o + j, none⟩ = some u)
theorem VSlice.sub {h h' : View} {v : Value} {n : Nat} {xs : List Value} (k : VSlice h v n xs) (hs : Sub h h') : VSlice h' v n xs := by
  rcases k with k | ⟨ad, cap, hv, h1, h2, h3⟩
  · exact .inl k
  · refine .inr ⟨ad, cap, hv, h1, h2, ?_⟩
    rcases h3 with h3 | ⟨b, o, ha, h3⟩
    · exact .inl h3
    · exact .inr ⟨b, o, ha, fun j u hj => hs _ _ (h3 j u hj)⟩
theorem VSlice.nil (h : View) : VSlice h (.slice none 0 0) 0 [] := .inl ⟨rfl, rfl, rfl⟩
theorem VSlice.own {w : World} {base : Nat} {e : TypeId} {size : Nat} {v : Value} {n : Nat} {xs : List Value} (h : w.ownsRow base e size v n xs) : VSlice (on w (fun k => base ≤ k)) v n xs := by
  rcases h.2 with ⟨hv, h0⟩ | ⟨g, cap, cur, hv, hb, hg, h1, h2, _, _⟩
  · subst h0
    exact .inl ⟨hv, rfl, List.eq_nil_of_length_eq_zero (by rw [h.1]; simp)⟩
  · refine .inr ⟨_, cap, hv, h1, h2, .inr ⟨g, 0, rfl, fun j u hj => on_some.2 ⟨hb, ?_⟩⟩⟩
    have := h.cells (g := g) (by rw [hv]; rfl) j u hj
    rwa [add_lit] at this
/-- a slice as a source: nil, or an address and the cells behind it -/
theorem VSlice.src {h : View} {v : Value} {n : Nat} {xs : List Value} (k : VSlice h v n xs) :
    (v = .slice none 0 0 ∧ n = 0 ∧ xs = []) ∨ ∃ ad cap, v = .slice (some ad) n cap ∧ n ≤ cap ∧ cap ≤ maxLen ∧ ∀ j u, xs[j]? = some u → h (ad.add j) = some u := by
  rcases k with k | ⟨ad, cap, hv, h1, h2, h3⟩
  · exact .inl k
  · refine .inr ⟨ad, cap, hv, h1, h2, fun j u hj => ?_⟩
    rcases h3 with h3 | ⟨b, o, rfl, h3⟩
    · rw [h3] at hj; simp at hj
    · rw [add_lit]; exact h3 j u hj

/-- how a datum lies in cells -/
structure Rep (α : Type) where
  size : Nat
  holds : View → List Value → α → Prop
  len : ∀ {w cs x}, holds w cs x → cs.length = size
  ext : ∀ {w w' cs x}, holds w cs x → Sub w w' → holds w' cs x
  one : ∀ {w cs x}, holds w cs x → ∀ u ∈ cs, u.oneCell' = true

/-- the cells of some data, one list for each -/
def RepAll {α : Type} (R : Rep α) (w : View) : List (List Value) → List α → Prop
  | [], [] => True
  | c :: cs, x :: xs => R.holds w c x ∧ RepAll R w cs xs
  | _, _ => False

section
variable {α : Type} {R : Rep α} {w w' : View}
theorem RepAll.nil : RepAll R w [] [] := trivial
theorem RepAll.ext {css : List (List Value)} {xs : List α} (h : RepAll R w css xs) (hx : Sub w w') : RepAll R w' css xs := by
  induction css generalizing xs with
  | nil => cases xs with
    | nil => trivial
    | cons x xs => exact h.elim
  | cons c css ih => cases xs with
    | nil => exact h.elim
    | cons x xs => exact ⟨R.ext h.1 hx, ih h.2⟩
theorem RepAll.length {css : List (List Value)} {xs : List α} (h : RepAll R w css xs) : css.length = xs.length := by
  induction css generalizing xs with
  | nil => cases xs with
    | nil => rfl
    | cons x xs => exact h.elim
  | cons c css ih => cases xs with
    | nil => exact h.elim
    | cons x xs => simp [ih h.2]
theorem RepAll.flat {css : List (List Value)} {xs : List α} (h : RepAll R w css xs) : css.flatten.length = xs.length * R.size := by
  induction css generalizing xs with
  | nil => cases xs with
    | nil => simp
    | cons x xs => exact h.elim
  | cons c css ih => cases xs with
    | nil => exact h.elim
    | cons x xs => simp [ih h.2, R.len h.1, Nat.succ_mul]; omega
theorem RepAll.append {c1 c2 : List (List Value)} {x1 x2 : List α} (h1 : RepAll R w c1 x1) (h2 : RepAll R w c2 x2) : RepAll R w (c1 ++ c2) (x1 ++ x2) := by
  induction c1 generalizing x1 with
  | nil => cases x1 with
    | nil => exact h2
    | cons x xs => exact h1.elim
  | cons c css ih => cases x1 with
    | nil => exact h1.elim
    | cons x xs => exact ⟨h1.1, ih h1.2⟩
theorem RepAll.one {c : List Value} {x : α} (h : R.holds w c x) : RepAll R w [c] [x] := ⟨h, trivial⟩
/-- the i-th datum: its cells, and where they stand in the row -/
theorem RepAll.at {css : List (List Value)} {xs : List α} (h : RepAll R w css xs) (i : Nat) (hi : i < xs.length) :
    ∃ c, R.holds w c xs[i] ∧ css[i]? = some c ∧ ∀ j u, c[j]? = some u → css.flatten[i * R.size + j]? = some u := by
  induction css generalizing xs i with
  | nil => cases xs with
    | nil => simp at hi
    | cons x xs => exact h.elim
  | cons c css ih => cases xs with
    | nil => exact h.elim
    | cons x xs =>
      cases i with
      | zero =>
        refine ⟨c, h.1, rfl, fun j u hj => ?_⟩
        have hl : j < c.length := (List.getElem?_eq_some_iff.1 hj).1
        simp [List.getElem?_append_left hl, hj]
      | succ i =>
        obtain ⟨d, h1, h2, h3⟩ := ih h.2 i (by simpa using hi)
        refine ⟨d, h1, h2, fun j u hj => ?_⟩
        have := h3 j u hj
        have hc := R.len h.1
        rw [List.flatten_cons, List.getElem?_append_right (by rw [hc, Nat.succ_mul]; omega), hc]
        rwa [show (i + 1) * R.size + j - R.size = i * R.size + j from by rw [Nat.succ_mul]; omega]
theorem RepAll.ones {css : List (List Value)} {xs : List α} (h : RepAll R w css xs) : ∀ u ∈ css.flatten, u.oneCell' = true := by
  induction css generalizing xs with
  | nil => simp
  | cons c css ih => cases xs with
    | nil => exact h.elim
    | cons x xs =>
      intro u hu
      rw [List.flatten_cons] at hu
      rcases List.mem_append.1 hu with hu | hu
      · exact R.one h.1 u hu
      · exact ih h.2 u hu
theorem RepAll.take {css : List (List Value)} {xs : List α} (h : RepAll R w css xs) (n : Nat) : RepAll R w (css.take n) (xs.take n) := by
  induction css generalizing xs n with
  | nil => cases xs with
    | nil => simp [RepAll]
    | cons x xs => exact h.elim
  | cons c css ih => cases xs with
    | nil => exact h.elim
    | cons x xs => cases n with
      | zero => trivial
      | succ n => exact ⟨h.1, ih h.2 n⟩
theorem RepAll.drop {css : List (List Value)} {xs : List α} (h : RepAll R w css xs) (n : Nat) : RepAll R w (css.drop n) (xs.drop n) := by
  induction css generalizing xs n with
  | nil => cases xs with
    | nil => simp [RepAll]
    | cons x xs => exact h.elim
  | cons c css ih => cases xs with
    | nil => exact h.elim
    | cons x xs => cases n with
      | zero => exact h
      | succ n => exact ih h.2 n
end

/-- v is a slice that holds the data xs -/
def SliceOf {α : Type} (R : Rep α) (w : View) (v : Value) (xs : List α) : Prop := ∃ css, RepAll R w css xs ∧ VSlice w v xs.length css.flatten

theorem SliceOf.ext {α : Type} {R : Rep α} {w w' : View} {v : Value} {xs : List α} (h : SliceOf R w v xs) (hx : Sub w w') : SliceOf R w' v xs := by
  obtain ⟨css, h1, h2⟩ := h
  exact ⟨css, h1.ext hx, h2.sub hx⟩
theorem SliceOf.nil {α : Type} (R : Rep α) (w : View) : SliceOf R w (.slice none 0 0) [] := ⟨[], trivial, VSlice.nil w⟩
/-- the value's form; and where there is something, the place of each datum -/
theorem SliceOf.form {α : Type} {R : Rep α} {w : View} {v : Value} {xs : List α} (h : SliceOf R w v xs) :
    ∃ a cap, v = .slice a xs.length cap ∧ xs.length ≤ cap ∧ cap ≤ maxLen ∧ (0 < R.size → 0 < xs.length → ∃ b o, a = some ⟨b, o, none⟩) := by
  obtain ⟨css, h1, h2⟩ := h
  rcases h2 with ⟨hv, h0, _⟩ | ⟨ad, cap, hv, hc1, hc2, h2⟩
  · exact ⟨none, 0, by rw [hv, h0], by omega, by simp [maxLen], fun _ h => by omega⟩
  · refine ⟨some ad, cap, hv, hc1, hc2, fun hs hx => ?_⟩
    rcases h2 with h2 | ⟨b, o, ha, _⟩
    · have := h1.flat
      rw [h2] at this
      have : xs.length * R.size = 0 := by simpa using this.symm
      rcases Nat.mul_eq_zero.1 this with h | h <;> omega
    · exact ⟨b, o, by rw [ha]⟩
theorem SliceOf.at {α : Type} {R : Rep α} {w : View} {b o n cap : Nat} {xs : List α} (h : SliceOf R w (.slice (some ⟨b, o, none⟩) n cap) xs) (i : Nat) (hi : i < xs.length) :
    ∃ c, R.holds w c xs[i] ∧ ∀ j u, c[j]? = some u → w ⟨b, o + i * R.size + j, none⟩ = some u := by
  obtain ⟨css, h1, h2⟩ := h
  obtain ⟨c, g1, _, g3⟩ := h1.at i hi
  refine ⟨c, g1, fun j u hj => ?_⟩
  rcases h2 with ⟨hv, _⟩ | ⟨ad, cap', hv, hc1, hc2, h2⟩
  · cases hv
  · rcases h2 with h2 | ⟨b', o', ha, h2⟩
    · have := g3 j u hj
      rw [h2] at this
      simp at this
    · injection hv with e1 e2 e3
      rw [ha] at e1
      injection e1 with e1
      injection e1 with e4 e5
      subst e4 e5
      rw [Nat.add_assoc]
      exact h2 _ u (g3 j u hj)

/-- the blocks that are not v's own row -/
def avoid (S : Nat → Prop) (v : Value) (k : Nat) : Prop := some k ≠ v.ownBlock ∧ S k
/-- a row of the call's own that holds the data xs; what these lead to lies elsewhere, in S -/
def OwnOf {α : Type} (R : Rep α) (w : World) (S : Nat → Prop) (base : Nat) (e : TypeId) (v : Value) (xs : List α) : Prop := ∃ css, RepAll R (on w (avoid S v)) css xs ∧ w.ownsRow base e R.size v xs.length css.flatten
theorem OwnOf.slice {α : Type} {R : Rep α} {w : World} {S : Nat → Prop} {base : Nat} {e : TypeId} {v : Value} {xs : List α} (h : OwnOf R w S base e v xs) : SliceOf R w.cell? v xs := by
  obtain ⟨css, h1, h2⟩ := h
  exact ⟨css, h1.ext (on_sub _ _), (VSlice.own h2).sub (on_sub _ _)⟩
theorem OwnOf.sliceIn {α : Type} {R : Rep α} {w : World} {S T : Nat → Prop} {base : Nat} {e : TypeId} {v : Value} {xs : List α} (h : OwnOf R w S base e v xs) (hS : ∀ k, k < w.heap.size → S k → T k) (hb : ∀ k, base ≤ k → T k) : SliceOf R (on w T) v xs := by
  obtain ⟨css, h1, h2⟩ := h
  exact ⟨css, h1.ext (on_mono _ fun k hk hs => hS k hk hs.2), (VSlice.own h2).sub (on_mono _ fun k _ hk => hb k hk)⟩
theorem OwnOf.weak {α : Type} {R : Rep α} {w : World} {S T : Nat → Prop} {base base' : Nat} {e : TypeId} {v : Value} {xs : List α} (h : OwnOf R w S base e v xs) (hS : ∀ k, k < w.heap.size → S k → T k) (hb : base' ≤ base) : OwnOf R w T base' e v xs := by
  obtain ⟨css, h1, h2⟩ := h
  exact ⟨css, h1.ext (on_mono _ fun k hk hs => ⟨hs.1, hS k hk hs.2⟩), ownsRow_weak h2 hb⟩
theorem OwnOf.nil {α : Type} (R : Rep α) (w : World) (S : Nat → Prop) (base : Nat) (e : TypeId) : OwnOf R w S base e (.slice none 0 0) [] := ⟨[], trivial, World.ownsRow_nil _ _ _ _⟩
theorem own_ext {w w' : World} {base : Nat} {e : TypeId} {size : Nat} {v : Value} {n : Nat} {xs : List Value} (h : w.ownsRow base e size v n xs) (hx : Ext w w') : w'.ownsRow base e size v n xs := by
  refine ⟨h.1, ?_⟩
  rcases h.2 with h2 | ⟨g, cap, cur, hv, hb, hg, r⟩
  · exact .inl h2
  · exact .inr ⟨g, cap, cur, hv, hb, by rw [hx.block g (Array.getElem?_eq_some_iff.1 hg).1]; exact hg, r⟩
theorem OwnOf.ext {α : Type} {R : Rep α} {w w' : World} {S : Nat → Prop} {base : Nat} {e : TypeId} {v : Value} {xs : List α} (h : OwnOf R w S base e v xs) (hx : Ext w w') : OwnOf R w' S base e v xs := by
  obtain ⟨css, h1, h2⟩ := h
  exact ⟨css, h1.ext (hx.sub _), own_ext h2 hx⟩
theorem OwnOf.lt {α : Type} {R : Rep α} {w : World} {S : Nat → Prop} {base : Nat} {e : TypeId} {v : Value} {xs : List α} (h : OwnOf R w S base e v xs) : ∀ k, v.ownBlock = some k → base ≤ k ∧ k < w.heap.size := by
  obtain ⟨css, _, h2⟩ := h
  exact h2.lt
/-- behind an append of one datum -/
theorem OwnOf.push {α : Type} {R : Rep α} {W w1 : World} {S : Nat → Prop} {base : Nat} {e : TypeId} {v : Value} {xs : List α} {css : List (List Value)} {c : List Value} {y : α} {g cap : Nat}
    (h1 : RepAll R (on W (avoid S v)) css xs) (hy : R.holds (on W (avoid S v)) c y)
    (hown : w1.ownsRow base e R.size (.slice (some ⟨g, 0, none⟩) (xs.length + 1) cap) (xs.length + 1) (css.flatten ++ c)) (hg : W.grownBy w1 v.ownBlock) (hat : v.ownBlock = some g ∨ g = W.heap.size) :
    OwnOf R w1 S base e (.slice (some ⟨g, 0, none⟩) (xs.length + 1) cap) (xs ++ [y]) := by
  have hs : Sub (on W (avoid S v)) (on w1 (avoid S (.slice (some ⟨g, 0, none⟩) (xs.length + 1) cap))) := by
    intro p u e
    obtain ⟨e1, e2⟩ := on_some.1 e
    refine on_some.2 ⟨⟨?_, e1.2⟩, hg.cell e2 e1.1⟩
    replace e1 := e1.1
    rcases hat with hat | hat
    · rw [hat] at e1
      exact e1
    · have := World.block_lt_of_cell? W p e2
      simp [Value.ownBlock]
      omega
  refine ⟨css ++ [c], (h1.ext hs).append (RepAll.one (R.ext hy hs)), ?_⟩
  simpa using hown

section
variable {P : Program} {w : World} {ops : Array Oper} {rest : List Oper} {o : Oper} {a : Act} {Q : Exit → Act → World → Prop}
/-- 'append(out, x)': out the call's own row of data -/
theorem wpList_append_one {α : Type} (R : Rep α) (S : Nat → Prop) (hgd : o.guard = none) (s x : Operand) (t : TypeId)
    (ho : o.op = .call { callee := .builtin .append, args := #[s, x], argTypes := #[t, t] })
    (base : Nat) (e : TypeId) (i : TypeInfo) (z : Value) (bytes : Nat) (ht : P.underlying t = some (.slice e)) (hi : P.info? e = some i) (hz : i.zero = some z)
    (hsize : i.size = R.size) (hby : i.bytes = bytes) (hzs : z.cells.size = R.size) (hsz : 0 < R.size)
    (v : Value) (xs : List α) (hs : a.eval s = v) (hown : OwnOf R w S base e v xs)
    (ad : Addr) (c : Nat) (y : α) (news : List Value) (hx : a.eval x = .slice (some ad) 1 c) (hy : R.holds (on w (avoid S v)) news y) (hnews : ∀ j u, news[j]? = some u → w.cell? (ad.add j) = some u)
    (h63 : xs.length + 1 ≤ maxLen) (hbytes : (xs.length + 1) * bytes ≤ 140737488355328) (hbase : base ≤ w.heap.size)
    (h : ∀ g cap w', OwnOf R w' S base e (.slice (some ⟨g, 0, none⟩) (xs.length + 1) cap) (xs ++ [y]) → w.grownBy w' v.ownBlock → (v.ownBlock = some g ∨ g = w.heap.size) → wpList P ops Q rest (a.put o.dst (.slice (some ⟨g, 0, none⟩) (xs.length + 1) cap)) w') : wpList P ops Q (o :: rest) a w := by
  obtain ⟨css, h1, h2⟩ := hown
  exact wpList_append_lies w hgd s x t ho base e i z R.size bytes ht hi hz hsize hby hzs hsz v xs.length css.flatten hs h2 ad 1 c news hx (by rw [R.len hy, Nat.one_mul]) hnews (R.one hy) (by omega) h63 hbytes hbase w.heap.size rfl
    fun g cap w' g1 g2 g3 _ => h g cap w' (OwnOf.push h1 hy g1 g2 g3) g2 g3
end

/-- behind an append of the data of a slice -/
theorem OwnOf.pushAll {α : Type} {R : Rep α} {W w1 : World} {S : Nat → Prop} {base : Nat} {e : TypeId} {v v' : Value} {xs ys : List α} {css dss : List (List Value)}
    (h1 : RepAll R (on W (avoid S v)) css xs) (hy : RepAll R (on W (avoid S v)) dss ys)
    (hown : w1.ownsRow base e R.size v' (xs.length + ys.length) (css.flatten ++ dss.flatten)) (hg : W.grownBy w1 v.ownBlock) (hat : v'.ownBlock = v.ownBlock ∨ v'.ownBlock = some W.heap.size) :
    OwnOf R w1 S base e v' (xs ++ ys) := by
  have hs : Sub (on W (avoid S v)) (on w1 (avoid S v')) := by
    intro p u e
    obtain ⟨e1, e2⟩ := on_some.1 e
    refine on_some.2 ⟨⟨?_, e1.2⟩, hg.cell e2 e1.1⟩
    rcases hat with hat | hat
    · rw [hat]; exact e1.1
    · have := World.block_lt_of_cell? W p e2
      rw [hat]
      simp
      omega
  refine ⟨css ++ dss, (h1.ext hs).append (hy.ext hs), ?_⟩
  simpa using hown

section
variable {P : Program} {w : World} {ops : Array Oper} {rest : List Oper} {o : Oper} {a : Act} {Q : Exit → Act → World → Prop}
/-- 'append(out, xs...)': out the call's own row of data, xs whatever slice of such data that does not lead into it -/
theorem wpList_append_all {α : Type} (R : Rep α) (S : Nat → Prop) (hgd : o.guard = none) (s x : Operand) (t : TypeId)
    (ho : o.op = .call { callee := .builtin .append, args := #[s, x], argTypes := #[t, t] })
    (base : Nat) (e : TypeId) (i : TypeInfo) (z : Value) (bytes : Nat) (ht : P.underlying t = some (.slice e)) (hi : P.info? e = some i) (hz : i.zero = some z)
    (hsize : i.size = R.size) (hby : i.bytes = bytes) (hzs : z.cells.size = R.size) (hsz : 0 < R.size)
    (v : Value) (xs : List α) (hs : a.eval s = v) (hown : OwnOf R w S base e v xs)
    (u : Value) (ys : List α) (hx : a.eval x = u) (hy : SliceOf R (on w (avoid S v)) u ys)
    (h63 : xs.length + ys.length ≤ maxLen) (hbytes : (xs.length + ys.length) * bytes ≤ 140737488355328) (hbase : base ≤ w.heap.size)
    (h : ∀ v' w', OwnOf R w' S base e v' (xs ++ ys) → w.grownBy w' v.ownBlock → (v'.ownBlock = v.ownBlock ∨ v'.ownBlock = some w.heap.size) → wpList P ops Q rest (a.put o.dst v') w') : wpList P ops Q (o :: rest) a w := by
  obtain ⟨css, h1, h2⟩ := hown
  obtain ⟨dss, h3, h4⟩ := hy
  rcases h4.src with ⟨rfl, hn, hd⟩ | ⟨ad, cap, rfl, _, _, hc⟩
  · have hys : ys = [] := List.eq_nil_of_length_eq_zero hn
    subst hys
    exact wpList_append_own_none hgd s x t ho base e i R.size ht hi v xs.length css.flatten hs h2 hx
      (h v w (by rw [List.append_nil]; exact ⟨css, h1, h2⟩) ⟨rfl, rfl, rfl, Nat.le_refl _, fun _ _ _ => rfl⟩ (.inl rfl))
  · exact wpList_append_own_at w hgd s x t ho base e i z R.size bytes ht hi hz hsize hby hzs hsz v xs.length css.flatten hs h2 ad ys.length cap dss.flatten hx h3.flat (fun j u hj => (on_some.1 (hc j u hj)).2) h3.ones h63 hbytes hbase
      fun v' w' g1 g2 _ g3 => h v' w' (OwnOf.pushAll h1 h3 g1 g2 g3) g2 g3
end

/-- ints -/
def Rep.int : Rep Int where
  size := 1
  holds _ cs x := cs = [.int .i64 x] ∧ -9223372036854775808 ≤ x ∧ x ≤ 9223372036854775807
  len := by rintro w cs x ⟨rfl, _⟩; rfl
  ext := by rintro w w' cs x h _; exact h
  one := by rintro w cs x ⟨rfl, _⟩; simp [Value.oneCell']

/-- a scalar value of the program -/
structure Val where
  kind : Int
  n : Int
  s : ByteArray
def Rep.val : Rep Val where
  size := 3
  holds _ cs x := cs = [.int .i64 x.kind, .int .i64 x.n, .string x.s] ∧ (-9223372036854775808 ≤ x.kind ∧ x.kind ≤ 9223372036854775807) ∧ (-9223372036854775808 ≤ x.n ∧ x.n ≤ 9223372036854775807) ∧ x.s.size ≤ maxLen
  len := by rintro w cs x ⟨rfl, _⟩; rfl
  ext := by rintro w w' cs x h _; exact h
  one := by rintro w cs x ⟨rfl, _⟩; simp [Value.oneCell']

/-- slices, as cells -/
def Rep.slice {α : Type} (R : Rep α) : Rep (List α) where
  size := 1
  holds w cs xs := ∃ v, cs = [v] ∧ SliceOf R w v xs
  len := by rintro w cs x ⟨v, rfl, _⟩; rfl
  ext := by rintro w w' cs x ⟨v, rfl, h⟩ hx; exact ⟨v, rfl, h.ext hx⟩
  one := by
    rintro w cs x ⟨v, rfl, h⟩
    obtain ⟨a, cap, rfl, _⟩ := h.form
    simp [Value.oneCell']

/-- a row of a relation -/
structure Row where
  vals : List Val
  lin : List Int
def Rep.row : Rep Row where
  size := 2
  holds w cs r := ∃ a b, cs = [a, b] ∧ SliceOf Rep.val w a r.vals ∧ SliceOf Rep.int w b r.lin
  len := by rintro w cs x ⟨a, b, rfl, _⟩; rfl
  ext := by rintro w w' cs x ⟨a, b, rfl, h1, h2⟩ hx; exact ⟨a, b, rfl, h1.ext hx, h2.ext hx⟩
  one := by
    rintro w cs x ⟨a, b, rfl, h1, h2⟩
    obtain ⟨a', cap, rfl, _⟩ := h1.form
    obtain ⟨b', cap', rfl, _⟩ := h2.form
    simp [Value.oneCell']

/-- a row of the values alone, and a tuple -/
structure Tup where
  vals : List Val
  from_ : Int
  to_ : Int
  lin : List Int
def Rep.tup : Rep Tup where
  size := 4
  holds w cs r := ∃ a b, cs = [a, .int .i64 r.from_, .int .i64 r.to_, b] ∧ SliceOf Rep.val w a r.vals ∧ SliceOf Rep.int w b r.lin ∧ (-9223372036854775808 ≤ r.from_ ∧ r.from_ ≤ 9223372036854775807) ∧ (-9223372036854775808 ≤ r.to_ ∧ r.to_ ≤ 9223372036854775807)
  len := by rintro w cs x ⟨a, b, rfl, _⟩; rfl
  ext := by rintro w w' cs x ⟨a, b, rfl, h1, h2, h3⟩ hx; exact ⟨a, b, rfl, h1.ext hx, h2.ext hx, h3⟩
  one := by
    rintro w cs x ⟨a, b, rfl, h1, h2, _⟩
    obtain ⟨a', cap, rfl, _⟩ := h1.form
    obtain ⟨b', cap', rfl, _⟩ := h2.form
    simp [Value.oneCell']

/-- data that lead nowhere: how they lie does not hang on the view -/
def Rep.flat {α : Type} (R : Rep α) : Prop := ∀ h h' cs x, R.holds h cs x → R.holds h' cs x
theorem flat_int : Rep.int.flat := fun _ _ _ _ h => h
theorem flat_val : Rep.val.flat := fun _ _ _ _ h => h
theorem RepAll.flatView {α : Type} {R : Rep α} (hR : R.flat) {h h' : View} {css : List (List Value)} {xs : List α} (k : RepAll R h css xs) : RepAll R h' css xs := by
  induction css generalizing xs with
  | nil => cases xs with
    | nil => trivial
    | cons x xs => exact k.elim
  | cons c css ih => cases xs with
    | nil => exact k.elim
    | cons x xs => exact ⟨hR _ _ _ _ k.1, ih k.2⟩
/-- a row of the call's own of such data: it is new as a whole -/
theorem OwnOf.fresh {α : Type} {R : Rep α} (hR : R.flat) {w : World} {S : Nat → Prop} {base : Nat} {e : TypeId} {v : Value} {xs : List α} (h : OwnOf R w S base e v xs) : SliceOf R (on w (fun k => base ≤ k)) v xs := by
  obtain ⟨css, h1, h2⟩ := h
  exact ⟨css, h1.flatView hR, VSlice.own h2⟩
theorem SliceOf.flatOn {α : Type} {R : Rep α} (hR : R.flat) {w : World} {S : Nat → Prop} {v : Value} {xs : List α} (h : SliceOf R w.cell? v xs) (hv : ∀ ad n c, v = .slice (some ad) n c → S ad.block) : SliceOf R (on w S) v xs := by
  obtain ⟨css, h1, h2⟩ := h
  refine ⟨css, h1.flatView hR, ?_⟩
  rcases h2 with h2 | ⟨ad, cap, rfl, g1, g2, g3⟩
  · exact .inl h2
  · refine .inr ⟨ad, cap, rfl, g1, g2, ?_⟩
    rcases g3 with g3 | ⟨b, o, rfl, g3⟩
    · exact .inl g3
    · exact .inr ⟨b, o, rfl, fun j u hj => on_some.2 ⟨hv ⟨b, o, none⟩ _ _ rfl, g3 j u hj⟩⟩
theorem OwnOf.made {α : Type} (R : Rep α) (w : World) (S : Nat → Prop) (e : TypeId) : OwnOf R (w.alloc (.cells #[] e)) S w.heap.size e (.slice (some ⟨w.heap.size, 0, none⟩) 0 0) [] :=
  ⟨[], trivial, World.ownsRow_made w #[] 0 (Nat.le_refl _) (Nat.zero_le _) (by simp)⟩

/-- the cells of the i-th datum, as a walk reads them -/
theorem int_at {w : View} {b o n cap : Nat} {xs : List Int} (h : SliceOf Rep.int w (.slice (some ⟨b, o, none⟩) n cap) xs) (i : Nat) (hi : i < xs.length) :
    w ⟨b, o + i, none⟩ = some (.int .i64 xs[i]) ∧ -9223372036854775808 ≤ xs[i] ∧ xs[i] ≤ 9223372036854775807 := by
  obtain ⟨c, ⟨rfl, h1⟩, h2⟩ := h.at i hi
  have := h2 0 _ rfl
  rw [show Rep.int.size = 1 from rfl, Nat.mul_one, Nat.add_zero] at this
  exact ⟨this, h1⟩
theorem val_at {w : View} {b o n cap : Nat} {xs : List Val} (h : SliceOf Rep.val w (.slice (some ⟨b, o, none⟩) n cap) xs) (i : Nat) (hi : i < xs.length) :
    w ⟨b, o + i * 3, none⟩ = some (.int .i64 xs[i].kind) ∧ w ⟨b, o + i * 3 + 1, none⟩ = some (.int .i64 xs[i].n) ∧ w ⟨b, o + i * 3 + 2, none⟩ = some (.string xs[i].s) := by
  obtain ⟨c, ⟨rfl, _⟩, h2⟩ := h.at i hi
  exact ⟨h2 0 _ rfl, h2 1 _ rfl, h2 2 _ rfl⟩
theorem row_at {w : View} {b o n cap : Nat} {xs : List Row} (h : SliceOf Rep.row w (.slice (some ⟨b, o, none⟩) n cap) xs) (i : Nat) (hi : i < xs.length) :
    ∃ u v, w ⟨b, o + i * 2, none⟩ = some u ∧ w ⟨b, o + i * 2 + 1, none⟩ = some v ∧ SliceOf Rep.val w u xs[i].vals ∧ SliceOf Rep.int w v xs[i].lin := by
  obtain ⟨c, ⟨u, v, rfl, g1, g2⟩, h2⟩ := h.at i hi
  exact ⟨u, v, h2 0 _ rfl, h2 1 _ rfl, g1, g2⟩
theorem tup_at {w : View} {b o n cap : Nat} {xs : List Tup} (h : SliceOf Rep.tup w (.slice (some ⟨b, o, none⟩) n cap) xs) (i : Nat) (hi : i < xs.length) :
    ∃ u v, w ⟨b, o + i * 4, none⟩ = some u ∧ w ⟨b, o + i * 4 + 1, none⟩ = some (.int .i64 xs[i].from_) ∧ w ⟨b, o + i * 4 + 2, none⟩ = some (.int .i64 xs[i].to_) ∧ w ⟨b, o + i * 4 + 3, none⟩ = some v ∧
      SliceOf Rep.val w u xs[i].vals ∧ SliceOf Rep.int w v xs[i].lin ∧ (-9223372036854775808 ≤ xs[i].from_ ∧ xs[i].from_ ≤ 9223372036854775807) ∧ (-9223372036854775808 ≤ xs[i].to_ ∧ xs[i].to_ ≤ 9223372036854775807) := by
  obtain ⟨c, ⟨u, v, rfl, g1, g2, g3⟩, h2⟩ := h.at i hi
  exact ⟨u, v, h2 0 _ rfl, h2 1 _ rfl, h2 2 _ rfl, h2 3 _ rfl, g1, g2, g3⟩

/-- the world has grown by draws and new blocks alone -/
structure Gro (w w' : World) : Prop where
  ext : Ext w w'
  drawn : w.drawn ≤ w'.drawn
theorem Gro.refl (w : World) : Gro w w := ⟨Ext.refl w, Nat.le_refl _⟩
theorem Gro.trans {a b c : World} (h : Gro a b) (k : Gro b c) : Gro a c := ⟨h.ext.trans k.ext, Nat.le_trans h.drawn k.drawn⟩
theorem Gro.alloc {a w : World} (h : Gro a w) (o : Obj) : Gro a (w.alloc o) := ⟨h.ext.alloc o, h.drawn⟩
theorem Gro.drew {a w : World} (h : Gro a w) : Gro a w.drew := ⟨h.ext.drew, Nat.le_trans h.drawn (Nat.le_succ _)⟩
theorem Gro.drewN {a w : World} (h : Gro a w) (n : Nat) : Gro a (w.drewN n) := ⟨h.ext.drewN n, Nat.le_trans h.drawn (Nat.le_add_right _ _)⟩
theorem Gro.setCell {a w : World} (h : Gro a w) {p : Addr} (hp : a.heap.size ≤ p.block) (u : Value) : Gro a (w.setCell p u) := ⟨Below.setCell h.ext hp u, h.drawn⟩
theorem Gro.at {w w' : World} (h : Gro w w') {p : Addr} {v : Value} (hc : w.cell? p = some v) : w'.cell? p = some v := h.ext.at hc
theorem Gro.grown {w w' : World} (h : Gro w w') : ∃ n os, w' = Go.Sort.grow (w.drewN n) os := by
  obtain ⟨⟨h1, h2, h3, h4, h5⟩, h6⟩ := h
  refine ⟨w'.drawn - w.drawn, w'.heap.extract w.heap.size w'.heap.size, ?_⟩
  have hh : w'.heap = w.heap ++ w'.heap.extract w.heap.size w'.heap.size := by
    apply Array.ext_getElem?
    intro i
    rw [Array.getElem?_append]
    split
    · exact h5 i (by assumption)
    · rw [Array.getElem?_extract]
      split
      · congr 1; omega
      · rw [Array.getElem?_eq_none (by omega)]
  have hd : w'.drawn = w.drawn + (w'.drawn - w.drawn) := by omega
  cases w'
  simp only [Go.Sort.grow, World.drewN] at *
  subst h1 h2 h3
  congr 1
theorem Gro.of_grow (w : World) (n : Nat) (os : Array Obj) : Gro w (Go.Sort.grow (w.drewN n) os) :=
  ⟨⟨rfl, rfl, rfl, by simp [Go.Sort.grow, World.drewN], fun k hk => Go.Sort.heap_grow_old _ _ hk⟩, Nat.le_add_right _ _⟩

end Go.Proofs.YtdgpbpbjlnlijaaGreatDoor

/- append of a whole slice, as a step of a region that draws its order; no program is named here. -/
namespace Go.Proofs.YtdgpbpbjlnlijaaGreatDoor
open Go.RowKit

section
variable {P : Program} {w : World} {o : Oper} {a : Act} {K : Act → World → Prop} {Q : Exit → Act → World → Prop} {E : Prop}
/-- the arm for the operation of slot n alone: '(with_reducible refine key_op n ?_); ..' fails at once elsewhere -/
theorem key_op {yd : Nat → Option Bool} (n : Nat) {op : Op} {ty : TypeId} {pos : String} {after : Array Edge} {g : Option (Nat × Bool)} (h : if Region.wanted ⟨some n, op, ty, pos, after, g⟩ yd = true then Oper.wp P ⟨some n, op, ty, pos, after, g⟩ a w K Q else E) :
    if Region.wanted ⟨some n, op, ty, pos, after, g⟩ yd = true then Oper.wp P ⟨some n, op, ty, pos, after, g⟩ a w K Q else E := h
theorem step_append_all {α : Type} {yd : Nat → Option Bool} (R : Rep α) (S : Nat → Prop) (hgd : o.guard = none) (s x : Operand) (t : TypeId)
    (ho : o.op = .call { callee := .builtin .append, args := #[s, x], argTypes := #[t, t] })
    (base : Nat) (e : TypeId) (i : TypeInfo) (z : Value) (bytes : Nat) (ht : P.underlying t = some (.slice e)) (hi : P.info? e = some i) (hz : i.zero = some z)
    (hsize : i.size = R.size) (hby : i.bytes = bytes) (hzs : z.cells.size = R.size) (hsz : 0 < R.size)
    (v : Value) (xs : List α) (hs : a.eval s = v) (hown : OwnOf R w S base e v xs)
    (u : Value) (ys : List α) (hx : a.eval x = u) (hy : SliceOf R (on w (avoid S v)) u ys)
    (h63 : xs.length + ys.length ≤ maxLen) (hbytes : (xs.length + ys.length) * bytes ≤ 140737488355328) (hbase : base ≤ w.heap.size)
    (h : ∀ v' w', OwnOf R w' S base e v' (xs ++ ys) → w.grownBy w' v.ownBlock → (v'.ownBlock = v.ownBlock ∨ v'.ownBlock = some w.heap.size) → K (a.put o.dst v') w') :
    if Region.wanted o yd = true then Oper.wp P o a w K Q else E := by
  have hw : Region.wanted o yd = true := by simp [Region.wanted, hgd]
  rw [if_pos hw]
  obtain ⟨css, h1, h2⟩ := hown
  obtain ⟨dss, h3, h4⟩ := hy
  rcases h4.src with ⟨rfl, hn, hd⟩ | ⟨ad, cap, rfl, _, _, hc⟩
  · have hys : ys = [] := List.eq_nil_of_length_eq_zero hn
    subst hys
    have hrun := run_append_owned_none (P := P) (w := w) base t o.type e i R.size ht hi v xs.length css.flatten h2
    unfold Oper.wp
    simp [execOp, ho, resolve, invoke, builtin, hs, hx, hrun, Result.andThen]
    exact h v w (by rw [List.append_nil]; exact ⟨css, h1, h2⟩) ⟨rfl, rfl, rfl, Nat.le_refl _, fun _ _ _ => rfl⟩ (.inl rfl)
  · obtain ⟨v', w', hr, g1, g2, _, g3⟩ := run_append_own_at (P := P) w base t o.type e i z R.size bytes ht hi hz hsize hby hzs hsz v xs.length css.flatten h2 ad ys.length cap dss.flatten h3.flat (fun j u hj => (on_some.1 (hc j u hj)).2) h3.ones h63 hbytes hbase
    unfold Oper.wp execOp
    simp only [ho, resolve, invoke, builtin, Sem.run_bind, Sem.run_pure, Result.andThen_ok, List.map_toArray, List.map_cons, List.map_nil, hs, hx, hr]
    exact h v' w' (OwnOf.pushAll h1 h3 g1 g2 g3) g2 g3
end

theorem Ext.grownNew {a w w' : World} {v : Value} (h : Ext a w) (hg : w.grownBy w' v.ownBlock) (hv : ∀ k, v.ownBlock = some k → a.heap.size ≤ k) : Ext a w' :=
  Below.grown h hg h.size hv
theorem own_nil (B : Nat) : ∀ k, (Value.slice none 0 0).ownBlock = some k → B ≤ k := fun k h => by cases h
theorem OwnOf.base {α : Type} {R : Rep α} {w : World} {S : Nat → Prop} {base : Nat} {e : TypeId} {v : Value} {xs : List α} (h : OwnOf R w S base e v xs) : ∀ k, v.ownBlock = some k → base ≤ k := fun k hk => (h.lt k hk).1
theorem all_nil (w : World) : Sub w.cell? (on w (avoid (fun _ => True) (.slice none 0 0))) := full_on _ _ fun k _ => ⟨by simp [Value.ownBlock], trivial⟩
/-- one int, in a view -/
theorem int_lone (h : View) (b : Nat) (x : Int) (hr : -9223372036854775808 ≤ x ∧ x ≤ 9223372036854775807) (h0 : h ⟨b, 0, none⟩ = some (.int .i64 x)) : SliceOf Rep.int h (.slice (some ⟨b, 0, none⟩) 1 1) [x] :=
  ⟨[[.int .i64 x]], ⟨⟨rfl, hr⟩, trivial⟩, .inr ⟨_, 1, rfl, Nat.le_refl _, by simp [maxLen], .inr ⟨b, 0, rfl, fun j u hj => by
    match j, hj with
    | 0, hj => simp at hj; rw [← hj]; exact h0⟩⟩⟩
/-- a row of its own in a later world, seen away from another of its own -/
theorem SliceOf.away {α : Type} {R : Rep α} (hR : R.flat) {w w' : World} {v u : Value} {xs : List α} (h : SliceOf R w.cell? v xs) (hx : Ext w w') (hv : ∀ k, u.ownBlock = some k → w.heap.size ≤ k) : SliceOf R (on w' (avoid (fun _ => True) u)) v xs := by
  obtain ⟨css, h1, h2⟩ := h
  exact ⟨css, h1.flatView hR, h2.sub fun p x e => on_some.2 ⟨⟨fun e2 => by have := hv _ e2.symm; have := World.block_lt_of_cell? w p e; omega, trivial⟩, hx.at e⟩⟩

theorem lone_new {w : World} {v : Value} {x : Int} {xs : List Int} {S : Nat → Prop} {base : Nat} {e T : TypeId} (hr : -9223372036854775808 ≤ x ∧ x ≤ 9223372036854775807) (own : OwnOf Rep.int w S base e v xs) :
    SliceOf Rep.int (on (w.alloc (.cells #[.int .i64 x] T)) (avoid (fun _ => True) v)) (.slice (some ⟨w.heap.size, 0, none⟩) 1 1) [x] :=
  int_lone _ _ x hr (on_some.2 ⟨⟨fun e => Nat.lt_irrefl _ (own.lt _ e.symm).2, trivial⟩, cells_new w [.int .i64 x] T 0 _ rfl⟩)
theorem lone_old {w w1 : World} {v u : Value} {x : Int} {T : TypeId} (hr : -9223372036854775808 ≤ x ∧ x ≤ 9223372036854775807) (hg : (w.alloc (.cells #[.int .i64 x] T)).drew.grownBy w1 u.ownBlock) (hu : u.ownBlock = none) (hat : v.ownBlock = u.ownBlock ∨ v.ownBlock = some (w.alloc (.cells #[.int .i64 x] T)).drew.heap.size) :
    SliceOf Rep.int (on w1 (avoid (fun _ => True) v)) (.slice (some ⟨w.heap.size, 0, none⟩) 1 1) [x] := by
  refine int_lone _ _ x hr (on_some.2 ⟨⟨fun e => ?_, trivial⟩, hg.cell ?_ (by rw [hu]; simp)⟩)
  · rcases hat with hat | hat
    · rw [hat, hu] at e; simp at e
    · rw [hat] at e; simp at e
  · exact (Ext.refl _).drew.at (cells_new w [.int .i64 x] T 0 _ rfl)
theorem slice_lit {α : Type} (R : Rep α) (w : World) (cells : List Value) (T : TypeId) (css : List (List Value)) (xs : List α) (hc : css.flatten = cells) (h : RepAll R (w.alloc (.cells cells.toArray T)).cell? css xs) (hl : xs.length ≤ maxLen) :
    SliceOf R (w.alloc (.cells cells.toArray T)).cell? (.slice (some ⟨w.heap.size, 0, none⟩) xs.length xs.length) xs := by
  refine ⟨css, h, .inr ⟨_, _, rfl, Nat.le_refl _, hl, .inr ⟨_, 0, rfl, fun j u hj => ?_⟩⟩⟩
  rw [World.cell?_alloc_at _ _ _ _ rfl]
  rw [hc] at hj
  simpa using hj

end Go.Proofs.YtdgpbpbjlnlijaaGreatDoor

/- strings.Builder's writing methods (the copy check's stray arm is not reached), and what the tables give -/
namespace Go.Proofs.YtdgpbpbjlnlijaaGreatDoor
open Go.RowKit

theorem sizeBld : (Tryz.prog.info? 138).map (·.size) = some 2 := by kernel_rfl
theorem liesBld : liesAt Tryz.prog Tryz.prog.depth 138 (2 / Tryz.prog.cellsOf 138) 0 138 1 = true := by kernel_rfl
theorem infoByte : (Tryz.prog.info? 5).map (fun i => (i.zero, i.size, i.bytes)) = some (some (.int .u8 0), 1, 1) := by kernel_rfl

/-- a builder in block b that holds the bytes -/
def Bld (b : Nat) (bs : List UInt8) (w : World) : Prop := Lib.IsBuilder 138 5 b b (Lib.byteCells bs) w
theorem Bld.fresh (w : World) : Bld w.heap.size [] (w.alloc (.cells #[.pointer none, .slice none 0 0] 138)) := Lib.fresh_isBuilder _ _ w
theorem Ext.grows {w w' : World} (h : Ext w w') : w.grownBy w' none := ⟨h.os, h.tape, h.output, h.size, fun i hi _ => h.block i hi⟩
theorem Bld.lt {b : Nat} {bs : List UInt8} {w : World} (h : Bld b bs w) : b < w.heap.size := by
  rcases h with h | h <;> exact h.lt
theorem Bld.ext {b : Nat} {bs : List UInt8} {w w' : World} (h : Bld b bs w) (hx : Ext w w') : Bld b bs w' := by
  have hlt := h.lt
  rcases h with ⟨h1, v, h2, h3, h4⟩ | ⟨h1, v, h2, h3, h4⟩
  · exact .inl ⟨h1, v, (hx.block b hlt).trans h2, h3.kept (Ext.grows hx) (by cases v.ownBlock <;> simp), h4⟩
  · exact .inr ⟨h1, v, (hx.block b hlt).trans h2, h3.kept (Ext.grows hx) (by cases v.ownBlock <;> simp), h4⟩

set_option maxHeartbeats 1000000 in
set_option maxRecDepth 100000 in
theorem copyCheck_used (b : Nat) (w : World) (h0 : w.cell? ⟨b, 0, none⟩ = some (.pointer (some ⟨b, 0, none⟩))) :
    Calls Tryz.prog 130 #[.pointer (some ⟨b, 0, none⟩)] w fun e w' => e = .returned (.tuple #[]) ∧ w' = w := by
  obtain ⟨j, hj, _⟩ := Option.map_eq_some_iff.1 sizeBld
  go_enter Tryz.func130, Tryz.ntmps130
  go_wp2
  rw [Lib.run_neq_ptr_same w _ Tryz.underlying135 hj]
  go_wp2
  go_end0
  exact ⟨rfl, rfl⟩

set_option maxHeartbeats 1000000 in
set_option maxRecDepth 100000 in
theorem copyCheck_fresh (b : Nat) (w : World) (h0 : w.cell? ⟨b, 0, none⟩ = some (.pointer none)) (hsh : w.shape? b = some (138, 2)) (hfz : w.frozen? ⟨b, 0, none⟩ = false) :
    Calls Tryz.prog 130 #[.pointer (some ⟨b, 0, none⟩)] w fun e w' => e = .returned (.tuple #[]) ∧ w' = w.setCell ⟨b, 0, none⟩ (.pointer (some ⟨b, 0, none⟩)) := by
  obtain ⟨j, hj, hjs⟩ := Option.map_eq_some_iff.1 sizeBld
  go_enter Tryz.func130, Tryz.ntmps130
  go_wp2
  rw [Lib.run_to_unsafe w ⟨b, 0, none⟩ Tryz.underlying135 Tryz.underlying239 hj (by rw [hjs]; decide) hsh (Nat.zero_lt_succ 1)]
  simp only [Result.andThen]
  rw [Oper.upon_value]
  go_wp2
  rw [run_callFunc_extern Tryz.func182 (by kernel_rfl) (by kernel_rfl) (by kernel_rfl) (e := Extern.AbiNoEscape.same) (by kernel_rfl)]
  rw [Lib.run_noEscape]
  simp only [Result.andThen]
  rw [Oper.upon_value]
  go_wp2
  rw [Lib.run_from_unsafe w ⟨b, 0, none⟩ Tryz.underlying239 Tryz.underlying135 hj hsh liesBld]
  simp only [Result.andThen]
  rw [Oper.upon_value]
  go_wp2
  go_end0
  exact ⟨rfl, rfl⟩

theorem row_block {w : World} {base : Nat} {e : TypeId} {k n : Nat} {v : Value} {xs : List Value} (h : w.ownsRow base e k v n xs) : ∀ g, v.ownBlock = some g → ∃ c fz, w.heap[g]? = some (.cells c e fz) := by
  intro g hg
  rcases h.2 with ⟨rfl, _⟩ | ⟨g', cap, cur, rfl, _, hgg, _⟩
  · cases hg
  · cases hg
    exact ⟨_, _, hgg⟩
theorem copyCheck_any (b : Nat) (bs : List UInt8) (w : World) (h : Bld b bs w) :
    Calls Tryz.prog 130 #[.pointer (some ⟨b, 0, none⟩)] w fun e w' => e = .returned (.tuple #[]) ∧ (Lib.BuilderAt 138 5 b b (.pointer (some ⟨b, 0, none⟩)) (Lib.byteCells bs) w' ∧ Below b w w' ∧ Lib.OthersKept 5 (some b) w w') := by
  rcases h with h | h
  · refine (copyCheck_fresh b w h.cell0 h.shape h.frozen0).mono ?_
    rintro e w' ⟨rfl, rfl⟩
    exact ⟨rfl, h.used _, (Below.refl b w).setCell (p := ⟨b, 0, none⟩) h.1 _, (Lib.OthersKept.refl _ _ w).setCell ⟨b, 0, none⟩ rfl _⟩
  · refine (copyCheck_used b w h.cell0).mono ?_
    rintro e w' ⟨rfl, rfl⟩
    exact ⟨rfl, h, Below.refl b _, Lib.OthersKept.refl _ _ _⟩

set_option maxHeartbeats 2000000 in
set_option maxRecDepth 100000 in
theorem writeString_any (b : Nat) (bs : List UInt8) (s : List UInt8) (w : World) (h : Bld b bs w) (hlen : bs.length + s.length ≤ 140737488355328) :
    Calls Tryz.prog 86 #[.pointer (some ⟨b, 0, none⟩), .string ⟨s.toArray⟩] w fun e w' => e = .returned (.tuple #[.int .i64 s.length, .nilIface]) ∧ Bld b (bs ++ s) w' ∧ Below b w w' ∧ Lib.OthersKept 5 (some b) w w' := by
  obtain ⟨i0, hi, hz0, hz1, hz2⟩ := info_parts infoByte
  have hlt := h.lt
  have hsz : (⟨s.toArray⟩ : ByteArray).size = s.length := by simp [ByteArray.size]
  go_enter Tryz.func86, Tryz.ntmps86
  go_wp2_with fail
  refine (copyCheck_any b bs _ h).mono ?_
  rintro e w1 ⟨rfl, h1, hb1, ho1⟩
  obtain ⟨hB, v, hbk, hown, hne⟩ := h1
  have c0 : w1.cell? ⟨b, 0, none⟩ = some (.pointer (some ⟨b, 0, none⟩)) := by rw [Lib.cell_of_heap hbk]; rfl
  have c1 : w1.cell? ⟨b, 1, none⟩ = some v := by rw [Lib.cell_of_heap hbk]; rfl
  have hbl : (Lib.byteCells bs).length = bs.length := by simp [Lib.byteCells]
  go_wp2_with (at_builtin; refine Lib.wpList_append_own_string _ rfl _ _ 136 9 rfl b 5 i0 Tryz.underlying136 Tryz.underlying9 hi hz0 hz1 hz2 _ _ _ rfl hown ⟨s.toArray⟩ rfl ?c3 ?c4 ?c5 ?_)
  case c3 => rw [hsz, hbl]; unfold maxLen; omega
  case c4 => rw [hsz, hbl]; omega
  case c5 => have := hb1.size; omega
  intro v' w2 hown' hgrow _
  have hlt : b < w1.heap.size := by
    rcases Nat.lt_or_ge b w1.heap.size with h' | h'
    · exact h'
    · simp [Array.getElem?_eq_none h'] at hbk
  have hb2 : w2.heap[b]? = some (.cells #[.pointer (some ⟨b, 0, none⟩), v] 138 (0, 0)) := by
    rw [hgrow.block b hlt (fun e => hne e.symm)]
    exact hbk
  have d0 : w2.cell? ⟨b, 0, none⟩ = some (.pointer (some ⟨b, 0, none⟩)) := by rw [Lib.cell_of_heap hb2]; rfl
  have d1 : w2.cell? ⟨b, 1, none⟩ = some v := by rw [Lib.cell_of_heap hb2]; rfl
  have f1 : w2.frozen? ⟨b, 1, none⟩ = false := Lib.frozen_of_heap hb2 1
  obtain ⟨ao, n', cap, rfl⟩ : ∃ ao n' cap, v' = .slice ao n' cap := by
    rcases hown'.2 with ⟨hv, _⟩ | ⟨g, cap, cur, hv, _⟩
    · exact ⟨_, _, _, hv⟩
    · exact ⟨_, _, _, hv⟩
  go_wp2
  go_ret2
  have hcells : Lib.byteCells bs ++ Lib.strCells ⟨s.toArray⟩ = Lib.byteCells (bs ++ s) := by rw [show Lib.strCells ⟨s.toArray⟩ = Lib.byteCells s from rfl]; simp [Lib.byteCells]
  refine ⟨?_, ?_, ?_, ?_⟩
  · rfl
  · refine .inr ?_
    rw [← hcells]
    exact Lib.BuilderAt.put (T := 138) (e := 5) hB hb2 (bs' := Lib.byteCells bs ++ Lib.strCells ⟨s.toArray⟩) (by rw [List.length_append, Lib.strCells_length, hsz, hbl]; exact hown') (by decide)
  · exact (hb1.grown hgrow (by have := hb1.size; omega) (fun k hk => (hown.lt k hk).1)).setCell (p := ⟨b, 1, none⟩) hB _
  · exact (ho1.grown hgrow (row_block hown)).setCell ⟨b, 1, none⟩ rfl _

/-- a block of another type stands -/
theorem kept_at {b k : Nat} {w w' : World} {cs : Array Value} {T : TypeId} {fz : Nat × Nat} (h : Lib.OthersKept 5 (some b) w w') (hk : w.heap[k]? = some (.cells cs T fz)) (hb : k ≠ b) (hT : T ≠ 5) : w'.heap[k]? = some (.cells cs T fz) :=
  h k _ hk (fun e => hb (Option.some.inj e)) (fun c fz' e => by cases e; exact hT rfl)

end Go.Proofs.YtdgpbpbjlnlijaaGreatDoor

/- plain: the key of a row is its own; no program in sight -/
namespace Go.Proofs.YtdgpbpbjlnlijaaGreatDoor
open Go.Lib

def numCh (c : UInt8) : Bool := decide (c = 45) || (decide (48 ≤ c.toNat) && decide (c.toNat ≤ 57))
theorem digit_ch {d : Nat} (h : d < 10) : (UInt8.ofNat (48 + d)).toNat = 48 + d := by
  simp only [UInt8.toNat_ofNat']
  omega
theorem digits_ch (u : Nat) : ∀ c ∈ decDigits u, 48 ≤ c.toNat ∧ c.toNat ≤ 57 := by
  induction u using decDigits.induct with
  | case1 u h =>
    rw [decDigits, dif_pos h]
    intro c hc
    rw [List.mem_singleton] at hc
    subst hc
    rw [digit_ch h]
    omega
  | case2 u h ih =>
    rw [decDigits, dif_neg h]
    intro c hc
    rcases List.mem_append.1 hc with hc | hc
    · exact ih c hc
    · rw [List.mem_singleton] at hc
      subst hc
      rw [digit_ch (by omega)]
      omega
theorem digits_ne (u : Nat) : decDigits u ≠ [] := by
  rw [decDigits]
  split <;> simp
def readDec (l : List UInt8) : Nat := l.foldl (fun v c => v * 10 + (c.toNat - 48)) 0
theorem readDec_digits (u : Nat) : readDec (decDigits u) = u := by
  induction u using decDigits.induct with
  | case1 u h =>
    rw [decDigits, dif_pos h]
    show 0 * 10 + ((UInt8.ofNat (48 + u)).toNat - 48) = u
    rw [digit_ch h]
    omega
  | case2 u h ih =>
    rw [decDigits, dif_neg h]
    unfold readDec at ih ⊢
    rw [List.foldl_append, ih]
    show u / 10 * 10 + ((UInt8.ofNat (48 + u % 10)).toNat - 48) = u
    rw [digit_ch (by omega)]
    omega
theorem digits_inj {u v : Nat} (h : decDigits u = decDigits v) : u = v := by rw [← readDec_digits u, h, readDec_digits]
theorem minus_digits {u v : Nat} (h : 45 :: decDigits u = decDigits v) : False := by
  have := digits_ch v 45 (by rw [← h]; simp)
  have e : (45 : UInt8).toNat = 45 := rfl
  omega
theorem itoa_inj {a b : Int} (h : itoa a = itoa b) : a = b := by
  unfold itoa at h
  split at h <;> split at h
  · injection h with _ h
    have := digits_inj h
    omega
  · exact (minus_digits h).elim
  · exact (minus_digits h.symm).elim
  · have := digits_inj h
    omega
theorem itoa_ch (n : Int) : ∀ c ∈ itoa n, numCh c = true := by
  have key : ∀ u, ∀ c ∈ decDigits u, numCh c = true := fun u c hc => by
    have := digits_ch u c hc
    unfold numCh
    simp [this.1, this.2]
  unfold itoa
  split
  · intro c hc
    rcases List.mem_cons.1 hc with rfl | hc
    · rfl
    · exact key _ c hc
  · exact key _
/-- nothing more of a number -/
def Over (x : List UInt8) : Prop := ∀ c r, x = c :: r → numCh c = false
theorem Over.nil : Over [] := fun c r h => by cases h
theorem Over.cons {c : UInt8} {r : List UInt8} (h : numCh c = false) : Over (c :: r) := fun c' r' e => by cases e; exact h
theorem take_num (n : Int) {x : List UInt8} (hx : Over x) : (itoa n ++ x).takeWhile numCh = itoa n ∧ (itoa n ++ x).dropWhile numCh = x := by
  rw [List.takeWhile_append_of_pos (itoa_ch n), List.dropWhile_append_of_pos (itoa_ch n)]
  cases x with
  | nil => simp
  | cons c r => rw [List.takeWhile_cons_of_neg (by rw [hx c r rfl]; decide), List.dropWhile_cons_of_neg (by rw [hx c r rfl]; decide)]; simp
theorem split_num {a b : Int} {x y : List UInt8} (hx : Over x) (hy : Over y) (h : itoa a ++ x = itoa b ++ y) : a = b ∧ x = y := by
  obtain ⟨h1, h2⟩ := take_num a hx
  obtain ⟨h3, h4⟩ := take_num b hy
  rw [h] at h1 h2
  exact ⟨itoa_inj (h1.symm.trans h3), h2.symm.trans h4⟩
def keyVal (v : Val) : List UInt8 := itoa v.kind ++ 44 :: (itoa v.n ++ 44 :: (itoa v.s.size ++ 58 :: v.s.data.toList))
def keyVals (vs : List Val) : List UInt8 := vs.flatMap keyVal
def keyLin (l : List Int) : List UInt8 := l.flatMap fun id => 44 :: itoa id
def keyRow (r : Row) : List UInt8 := itoa r.vals.length ++ 59 :: (keyVals r.vals ++ keyLin r.lin)
theorem keyVal_inj {v u : Val} {x y : List UInt8} (h : keyVal v ++ x = keyVal u ++ y) : v = u ∧ x = y := by
  unfold keyVal at h
  simp only [List.append_assoc, List.cons_append] at h
  obtain ⟨h1, h⟩ := split_num (Over.cons (by decide)) (Over.cons (by decide)) h
  injection h with _ h
  obtain ⟨h2, h⟩ := split_num (Over.cons (by decide)) (Over.cons (by decide)) h
  injection h with _ h
  obtain ⟨h3, h⟩ := split_num (Over.cons (by decide)) (Over.cons (by decide)) h
  injection h with _ h
  have hl : v.s.data.toList.length = u.s.data.toList.length := by
    have e1 : v.s.data.toList.length = v.s.size := Array.length_toList
    have e2 : u.s.data.toList.length = u.s.size := Array.length_toList
    omega
  obtain ⟨h4, h5⟩ := List.append_inj h hl
  obtain ⟨k1, n1, ⟨⟨s1⟩⟩⟩ := v
  obtain ⟨k2, n2, ⟨⟨s2⟩⟩⟩ := u
  simp only at h1 h2 h4
  subst h1 h2 h4
  exact ⟨rfl, h5⟩
theorem keyVals_inj : ∀ {vs us : List Val} {x y : List UInt8}, vs.length = us.length → keyVals vs ++ x = keyVals us ++ y → vs = us ∧ x = y := by
  intro vs
  induction vs with
  | nil =>
    intro us x y hl h
    cases us with
    | nil => exact ⟨rfl, h⟩
    | cons u us => cases hl
  | cons v vs ih =>
    intro us x y hl h
    cases us with
    | nil => cases hl
    | cons u us =>
      unfold keyVals at h ih
      rw [List.flatMap_cons, List.flatMap_cons, List.append_assoc, List.append_assoc] at h
      obtain ⟨h1, h2⟩ := keyVal_inj h
      obtain ⟨h3, h4⟩ := ih (by simpa using hl) h2
      exact ⟨by rw [h1, h3], h4⟩
theorem keyLin_over (l : List Int) : Over (keyLin l) := by
  cases l with
  | nil => exact Over.nil
  | cons x l => exact Over.cons (by decide)
theorem keyLin_inj : ∀ {l k : List Int}, keyLin l = keyLin k → l = k := by
  intro l
  induction l with
  | nil =>
    intro k h
    cases k with
    | nil => rfl
    | cons x k => unfold keyLin at h; rw [List.flatMap_cons] at h; cases h
  | cons x l ih =>
    intro k h
    cases k with
    | nil => unfold keyLin at h; rw [List.flatMap_cons] at h; cases h
    | cons y k =>
      unfold keyLin at h
      rw [List.flatMap_cons, List.flatMap_cons, List.cons_append, List.cons_append] at h
      injection h with _ h
      obtain ⟨h1, h2⟩ := split_num (keyLin_over l) (keyLin_over k) h
      rw [h1, ih h2]
theorem keyRow_inj {a b : Row} (h : keyRow a = keyRow b) : a = b := by
  unfold keyRow at h
  obtain ⟨h1, h⟩ := split_num (Over.cons (by decide)) (Over.cons (by decide)) h
  injection h with _ h
  obtain ⟨h2, h3⟩ := keyVals_inj (by omega) h
  obtain ⟨v1, l1⟩ := a
  obtain ⟨v2, l2⟩ := b
  simp only at h2 h3
  rw [h2, keyLin_inj h3]

end Go.Proofs.YtdgpbpbjlnlijaaGreatDoor

/- the tables and variables that the starting world has laid; numerals -/
namespace Go.Proofs.YtdgpbpbjlnlijaaGreatDoor
open Go.RowKit

theorem var_ext {P : Program} {w w' : World} {name : String} {cs : Array Value} (h : w.var? P name = some cs) (hx : Ext w w') : w'.var? P name = some cs := by
  unfold World.var? at h ⊢
  obtain ⟨g, hg, hc⟩ := Option.bind_eq_some_iff.1 h
  rw [hg]
  simp only [Option.bind_some]
  cases hb : w.heap[g]? with
  | none => rw [hb] at hc; cases hc
  | some o =>
    have hlt : g < w.heap.size := (Array.getElem?_eq_some_iff.1 hb).1
    rw [hx.block g hlt]
    exact hc
/-- strconv's table of powers lies in w -/
def TabW (w : World) : Prop := Lib.TabIs Tryz.prog w "internal/strconv.uint64pow10" .u64 Lib.pow10Tab
theorem TabW.ext {w w' : World} (h : TabW w) (hx : Ext w w') : TabW w' := var_ext h hx
/-- the variable allDays lies in w -/
def DaysW (w : World) : Prop := w.var? Tryz.prog "annalist/group.allDays" = some #[.int .i64 0, .int .i64 1000000]
theorem DaysW.ext {w w' : World} (h : DaysW w) (hx : Ext w w') : DaysW w' := var_ext h hx
theorem days_cells {w : World} (h : DaysW w) : w.cell? ⟨0, 0, none⟩ = some (.int .i64 0) ∧ w.cell? ⟨0, 1, none⟩ = some (.int .i64 1000000) := by
  unfold DaysW World.var? at h
  rw [show Tryz.prog.globalNamed "annalist/group.allDays" = some 0 by kernel_rfl] at h
  simp only [Option.bind_some] at h
  split at h
  · rename_i cs T fz hb
    injection h with h
    subst h
    exact ⟨by rw [Lib.cell_of_heap hb]; rfl, by rw [Lib.cell_of_heap hb]; rfl⟩
  · cases h
theorem ext_grow {w w' : World} (h : ∃ k os, w' = Go.Sort.grow (w.drewN k) os) : Ext w w' := by
  obtain ⟨k, os, rfl⟩ := h
  exact (Gro.of_grow w k os).ext
theorem itoa_any (n : Int) (w : World) (h0 : -9223372036854775808 ≤ n) (h1 : n ≤ 9223372036854775807) (ht : TabW w) :
    Calls Tryz.prog 87 #[.int .i64 n] w fun e w' => e = .returned (.string ⟨(Lib.itoa n).toArray⟩) ∧ Ext w w' :=
  (Tryz.strconv_Itoa n h0 h1 w ht).mono fun _ _ h => ⟨h.1, ext_grow h.2⟩
theorem formatInt_any (n : Int) (w : World) (h0 : -9223372036854775808 ≤ n) (h1 : n ≤ 9223372036854775807) (ht : TabW w) :
    Calls Tryz.prog 88 #[.int .i64 n, .int .i64 10] w fun e w' => e = .returned (.string ⟨(Lib.itoa n).toArray⟩) ∧ Ext w w' :=
  (Tryz.strconv_FormatInt_10 n h0 h1 w ht).mono fun _ _ h => ⟨h.1, ext_grow h.2⟩
theorem val_cells {h : View} {b o n cap : Nat} {xs : List Val} (k : SliceOf Rep.val h (.slice (some ⟨b, o, none⟩) n cap) xs) (i : Nat) (hi : i < xs.length) :
    h ⟨b, o + i * 3, none⟩ = some (.int .i64 xs[i].kind) ∧ h ⟨b, o + i * 3 + 1, none⟩ = some (.int .i64 xs[i].n) ∧ h ⟨b, o + i * 3 + 2, none⟩ = some (.string xs[i].s) ∧ (-9223372036854775808 ≤ xs[i].kind ∧ xs[i].kind ≤ 9223372036854775807) ∧ (-9223372036854775808 ≤ xs[i].n ∧ xs[i].n ≤ 9223372036854775807) := by
  obtain ⟨c, ⟨rfl, h3, h4, _⟩, h2⟩ := k.at i hi
  exact ⟨h2 0 _ rfl, h2 1 _ rfl, h2 2 _ rfl, h3, h4⟩

end Go.Proofs.YtdgpbpbjlnlijaaGreatDoor

/- what the listed variables give: the table of powers and the period of all days -/
namespace Go.Proofs.YtdgpbpbjlnlijaaGreatDoor
open Go.ChangeShapes Go.RowKit

def laid4 : List (String × DataW Unit) := [("math/bits.deBruijn32tab", Rows.laid_math_bits_deBruijn32tab), ("math/bits.deBruijn64tab", Rows.laid_math_bits_deBruijn64tab), ("internal/strconv.uint64pow10", Rows.laid_internal_strconv_uint64pow10), ("annalist/group.allDays", Rows.laid_annalist_group_allDays)]
theorem door_met (os : Os) (args : Array Value) : laidMetH Tryz.prog laid4 ((World.doorLaid Tryz.prog 29 os).forCall (fun _ _ => 0) ⟨#[], args, []⟩).memory :=
  laidMetH_of_parts3 (fuel := 8) (laidMet_of_run' 8 (by kernel_rfl) (by kernel_rfl)) (by kernel_rfl) (by kernel_rfl)
set_option maxRecDepth 100000 in
theorem days_head {W : World} (h : laidMet Tryz.prog [("annalist/group.allDays", Rows.laid_annalist_group_allDays)] W) : DaysW W := by
  obtain ⟨ps, ⟨g, t, cs, fuel, p, q, hg, ht, hv, hd, _, _⟩, _⟩ := h
  obtain rfl := Option.some.inj ((show Tryz.prog.globalNamed "annalist/group.allDays" = some 0 by kernel_rfl).symm.trans hg)
  obtain rfl := Option.some.inj ((show (Tryz.prog.globals[0]?).map (·.type) = some 52 by kernel_rfl).symm.trans ht)
  obtain ⟨y0, y1, n, hx, hl, h0, h1⟩ := trod_struct2 Tryz.underlying52 hd
  obtain ⟨z0, c0, rfl, _⟩ := DataW.trod_int Tryz.underlying3 h0
  obtain ⟨z1, c1, rfl, _⟩ := DataW.trod_int Tryz.underlying3 h1
  have e0 : z0 = 0 ∧ z1 = 1000000 := by
    have h := congrArg Prod.fst hx
    unfold Rows.laid_annalist_group_allDays at h
    simp only [DataW.agg.injEq, List.cons.injEq, DataW.lit.injEq, Lit.int.injEq, true_and, and_true] at h
    exact ⟨h.1.symm, h.2.symm⟩
  obtain ⟨rfl, rfl⟩ := e0
  have hc : Tryz.prog.cellsOf 52 = 2 := by kernel_rfl
  rw [hc] at hl
  unfold DaysW
  rw [hv]
  obtain ⟨l⟩ := cs
  match l, hl with
  | [a, b], _ =>
    have hci : Tryz.prog.cellsOf 3 = 1 := by kernel_rfl
    dsimp only at c0 c1
    rw [hci] at c0 c1
    simp at c0 c1
    rw [c0, c1]
set_option maxRecDepth 100000 in
theorem of_laid {W : World} (h : laidMetH Tryz.prog laid4 W) : TabW W ∧ DaysW W := by
  rw [MakeChecks.laidMetH_plain _ _ _ (by kernel_rfl)] at h
  have h3 := laidMet.tail (laidMet.tail h)
  exact ⟨Lib.tabIs_of_head (k := .u64) (zs := Lib.pow10Tab) (g := 1) (t := 287) (e := 205) (n := 20) (by kernel_rfl) (by kernel_rfl) Tryz.underlying287 Tryz.underlying205 (by kernel_rfl) (by kernel_rfl) h3, days_head (laidMet.tail h3)⟩

end Go.Proofs.YtdgpbpbjlnlijaaGreatDoor

/- Contracts of the comparisons: cmp.Compare at int and int64, cmp.Or at int, value.Compare, value.CompareRows, slices.Compare, bag.Compare. -/
namespace Go.Proofs.YtdgpbpbjlnlijaaGreatDoor
open Go.RowKit

/-- -1, 0 or 1 as a is less than, equal to or greater than b -/
def cmpI (a b : Int) : Int := if a < b then -1 else if b < a then 1 else 0

theorem isNaN_int (a : Int) (w : World) : Calls Tryz.prog 157 #[.int .i64 a] w fun e w' => e = .returned (.bool false) ∧ w = w' := by
  go_enter Tryz.func157, Tryz.ntmps157
  go_wp2
  go_ret
  exact ⟨rfl, rfl⟩
theorem isNaN_int64 (a : Int) (w : World) : Calls Tryz.prog 236 #[.int .i64 a] w fun e w' => e = .returned (.bool false) ∧ w = w' := by
  go_enter Tryz.func236, Tryz.ntmps236
  go_wp2
  go_ret
  exact ⟨rfl, rfl⟩
theorem compare_int (a b : Int) (w : World) : Calls Tryz.prog 112 #[.int .i64 a, .int .i64 b] w fun e w' => e = .returned (.int .i64 (cmpI a b)) ∧ w = w' := by
  go_enter Tryz.func112, Tryz.ntmps112
  go_wp2_with (go_at_call 157; refine (isNaN_int _ _).mono ?_; rintro e w' ⟨rfl, rfl⟩)
  all_goals
    go_ret
    refine ⟨ret_int ?_, rfl⟩
    unfold cmpI
    repeat (first | rw [if_pos (by omega)] | rw [if_neg (by omega)])
theorem compare_int64 (a b : Int) (w : World) : Calls Tryz.prog 191 #[.int .i64 a, .int .i64 b] w fun e w' => e = .returned (.int .i64 (cmpI a b)) ∧ w = w' := by
  go_enter Tryz.func191, Tryz.ntmps191
  go_wp2_with (go_at_call 236; refine (isNaN_int64 _ _).mono ?_; rintro e w' ⟨rfl, rfl⟩)
  all_goals
    go_ret
    refine ⟨ret_int ?_, rfl⟩
    unfold cmpI
    repeat (first | rw [if_pos (by omega)] | rw [if_neg (by omega)])

/-- the first that is not 0 -/
def orI : List Int → Int
  | [] => 0
  | x :: xs => if x = 0 then orI xs else x
theorem orI_drop (l : List Int) (k : Nat) (hk : k < l.length) : orI (l.drop k) = if l[k] = 0 then orI (l.drop (k + 1)) else l[k] := by
  rw [List.drop_eq_getElem_cons hk]; rfl

set_option maxHeartbeats 1000000 in
theorem or_any (b o cap : Nat) (l : List Int) (w : World) (hcap : l.length ≤ maxLen) (hl : ∀ k (h : k < l.length), w.cell? ⟨b, o + k, none⟩ = some (.int .i64 l[k])) :
    Calls Tryz.prog 114 #[.slice (some ⟨b, o, none⟩) l.length cap] w fun e w' => e = .returned (.int .i64 (orI l)) ∧ w = w' := by
  unfold maxLen at hcap
  go_enter Tryz.func114, Tryz.ntmps114
  go_wp2_with fail
  go_loop [8] (fun i => ∃ k : Nat, k ≤ l.length ∧ i = .int .i64 k ∧ orI l = orI (l.drop k)) (fun i => l.length - (intOf i).toNat)
  case atStart => exact ⟨0, by omega, rfl, rfl⟩
  case round =>
    obtain ⟨k, hk, rfl, ho⟩ := hrel
    have HO := Lib.hid ho
    clear ho
    by_cases hlt : k < l.length
    · have c := hl k hlt
      have hd := orI_drop l k hlt
      generalize l[k] = x at c hd
      have hdi : decide ((k : Int) < (l.length : Int)) = true := by simp; omega
      have hdj : (k : Int) < (l.length : Int) := by omega
      have HD := Lib.hid hd
      clear hd hl
      by_cases hx : x = 0
      · have hb : (x != 0) = false := by simp [hx]
        have HX := Lib.hid hx
        clear hx
        go_wp2_with fail
        go_round
        case rel => exact ⟨k + 1, by omega, by go_num, by rw [HO.out, HD.out, if_pos HX.out]⟩
        case measure => simp [intOf]; omega
      · have hb : (x != 0) = true := by simp [hx]
        have HX := Lib.hid hx
        clear hx
        go_wp2_with fail
        go_ret
        exact ⟨ret_int (by rw [HO.out, HD.out, if_neg HX.out]), rfl⟩
    · have : k = l.length := by omega
      subst this
      go_wp2_with fail
      go_ret
      exact ⟨ret_int (by rw [HO.out, List.drop_length]; rfl), rfl⟩

end Go.Proofs.YtdgpbpbjlnlijaaGreatDoor
