/- Small lemmas on worlds, rows and lists that the walks of this seat use; no program is named here. -/
import Derived.WalkKit
import Derived.WalkSpells
import Derived.WalkLawsBesides
import Derived.Deep.LoopGhost
import Derived.Lib.Hide
namespace Go.Proofs.YtdgpbpbjlnlijaaGreat
open Go.RowKit

theorem ret_bool {a b : Bool} (h : a = b) : Ending.returned (.bool a) = .returned (.bool b) := by rw [h]
theorem ret_int {k : IntKind} {a b : Int} (h : a = b) : Ending.returned (.int k a) = .returned (.int k b) := by rw [h]

/-- what stood below a number reads as it did -/
theorem bcell {B : Nat} {W w1 : World} (hb : Below B W w1) : (∀ b o, b < B → w1.cell? ⟨b, o, none⟩ = W.cell? ⟨b, o, none⟩) ∧ (∀ b o, b < B → w1.frozen? ⟨b, o, none⟩ = W.frozen? ⟨b, o, none⟩) :=
  ⟨fun b o h => hb.cell (p := ⟨b, o, none⟩) h, fun b o h => hb.frozen (p := ⟨b, o, none⟩) h⟩

theorem below_drewN {B : Nat} {a w : World} (h : Below B a w) (n : Nat) : Below B a (w.drewN n) := ⟨h.os, h.tape, h.output, h.size, h.block⟩

theorem add_lit (b o j : Nat) : (⟨b, o, none⟩ : Addr).add j = ⟨b, o + j, none⟩ := by simp [Addr.add]

/-- the cells of a new block -/
theorem cells_new (w : World) (xs : List Value) (T : TypeId) : ∀ j u, xs[j]? = some u → (w.alloc (.cells xs.toArray T)).cell? ((⟨w.heap.size, 0, none⟩ : Addr).add j) = some u := by
  intro j u h
  rw [add_lit, World.cell?_alloc_at _ _ _ _ rfl]
  simpa using h

/-- a row of the call's own that holds something: where it lies, and its cells -/
theorem own_cells {w : World} {base : Nat} {e : TypeId} {size : Nat} {v : Value} {n : Nat} {xs : List Value} (h : w.ownsRow base e size v n xs) (hn : 0 < n) :
    ∃ g cap, v = .slice (some ⟨g, 0, none⟩) n cap ∧ base ≤ g ∧ g < w.heap.size ∧ n ≤ cap ∧ cap ≤ maxLen ∧ (∀ j u, xs[j]? = some u → w.cell? ⟨g, j, none⟩ = some u) := by
  rcases h.2 with ⟨_, h0⟩ | ⟨g, cap, cur, hv, hb, hg, h1, h2, _, _⟩
  · omega
  · refine ⟨g, cap, hv, hb, (Array.getElem?_eq_some_iff.1 hg).1, h1, h2, fun j u hj => ?_⟩
    have := h.cells (g := g) (by rw [hv]; rfl) j u hj
    rwa [add_lit, Nat.zero_add] at this

theorem ownsRow_weak {w : World} {base base' : Nat} {e : TypeId} {size : Nat} {v : Value} {n : Nat} {xs : List Value} (h : w.ownsRow base e size v n xs) (hb : base' ≤ base) : w.ownsRow base' e size v n xs := by
  obtain ⟨h1, h2⟩ := h
  refine ⟨h1, ?_⟩
  rcases h2 with h2 | ⟨g, cap, cur, hv, hg, r⟩
  · exact .inl h2
  · exact .inr ⟨g, cap, cur, hv, by omega, r⟩

/-- everything that was there is as it was; there may be new blocks -/
abbrev Ext (w w' : World) : Prop := Below w.heap.size w w'
theorem Ext.refl (w : World) : Ext w w := Below.refl _ _
theorem Ext.trans {a b c : World} (h : Ext a b) (k : Ext b c) : Ext a c := Below.trans h (k.mono h.size)
theorem Ext.alloc {a w : World} (h : Ext a w) (o : Obj) : Ext a (w.alloc o) := Below.alloc h h.size o
theorem Ext.drewN {a w : World} (h : Ext a w) (n : Nat) : Ext a (w.drewN n) := below_drewN h n
theorem Ext.drew {a w : World} (h : Ext a w) : Ext a w.drew := Below.drew h
theorem Ext.at {w w' : World} (h : Ext w w') {p : Addr} {v : Value} (hc : w.cell? p = some v) : w'.cell? p = some v :=
  (Below.cell h (World.block_lt_of_cell? w p hc)).trans hc
theorem Ext.unfrozen {w w' : World} (h : Ext w w') {p : Addr} {v : Value} (hc : w.cell? p = some v) (hf : w.frozen? p = false) : w'.frozen? p = false :=
  (Below.frozen h (World.block_lt_of_cell? w p hc)).trans hf
theorem cell_alloc {w : World} {p : Addr} {v : Value} (h : w.cell? p = some v) (o : Obj) : (w.alloc o).cell? p = some v :=
  (Ext.alloc (Ext.refl w) o).at h
theorem cell_set {w : World} {p q : Addr} {v u : Value} (h : w.cell? p = some v) (hq : q.block ≠ p.block) : (w.setCell q u).cell? p = some v := by
  rw [World.cell?_setCell_other _ _ _ _ (by intro e; exact hq (by rw [e]))]; exact h
theorem cell_lt {w : World} {b o : Nat} {v : Value} (h : w.cell? ⟨b, o, none⟩ = some v) : b < w.heap.size := World.block_lt_of_cell? w ⟨b, o, none⟩ h

/-- v is a slice of n elements whose cells read as xs; where there are none nothing is said of its place -/
def SliceAt (w : World) (v : Value) (n : Nat) (xs : List Value) : Prop :=
  ∃ a cap, v = .slice a n cap ∧ n ≤ cap ∧ cap ≤ maxLen ∧ (xs = [] ∨ ∃ b o, a = some ⟨b, o, none⟩ ∧ ∀ j u, xs[j]? = some u → w.cell? ⟨b, o + j, none⟩ = some u)
theorem SliceAt.ext {w w' : World} {v : Value} {n : Nat} {xs : List Value} (h : SliceAt w v n xs) (hx : Ext w w') : SliceAt w' v n xs := by
  obtain ⟨a, cap, hv, h1, h2, h3⟩ := h
  refine ⟨a, cap, hv, h1, h2, ?_⟩
  rcases h3 with h3 | ⟨b, o, ha, h3⟩
  · exact .inl h3
  · exact .inr ⟨b, o, ha, fun j u hj => hx.at (h3 j u hj)⟩
theorem SliceAt.nil (w : World) : SliceAt w (.slice none 0 0) 0 [] := ⟨none, 0, rfl, Nat.le_refl _, by simp [maxLen], .inl rfl⟩
/-- a row of the call's own is such a slice -/
theorem SliceAt.own {w : World} {base : Nat} {e : TypeId} {size : Nat} {v : Value} {n : Nat} {xs : List Value} (h : w.ownsRow base e size v n xs) : SliceAt w v n xs := by
  by_cases hn : 0 < n
  · obtain ⟨g, cap, h1, _, _, h4, h5, h6⟩ := own_cells h hn
    exact ⟨_, cap, h1, h4, h5, .inr ⟨g, 0, rfl, fun j u hj => by rw [Nat.zero_add]; exact h6 j u hj⟩⟩
  · have hxs : xs = [] := List.eq_nil_of_length_eq_zero (by rw [h.1]; simp [Nat.eq_zero_of_not_pos hn])
    rcases h.2 with ⟨hv, h0⟩ | ⟨g, cap, cur, hv, hb, hg, h1, h2, _, _⟩
    · subst h0; exact ⟨none, 0, hv, Nat.le_refl _, by simp [maxLen], .inl hxs⟩
    · exact ⟨_, cap, hv, h1, h2, .inl hxs⟩

theorem take_eq_succ {α : Type} {l l' : List α} {i : Nat} (h : l.take i = l'.take i) (h1 : i < l.length) (h2 : i < l'.length) (e : l[i] = l'[i]) : l.take (i + 1) = l'.take (i + 1) := by
  rw [List.take_succ_eq_append_getElem h1, List.take_succ_eq_append_getElem h2, h, e]

end Go.Proofs.YtdgpbpbjlnlijaaGreat
