/- what changes in named blocks alone, and the rows of one's own that stand beside; no program is named here. -/
import Derived.Test.YtdgpbpbjlnlijaaGreatRep
namespace Go.Proofs.YtdgpbpbjlnlijaaGreat
open Go.RowKit

/-- of the old blocks only those of C may have changed -/
structure Chg (C : Nat → Prop) (w w' : World) : Prop where
  os : w'.os = w.os
  tape : w'.tape = w.tape
  output : w'.output = w.output
  size : w.heap.size ≤ w'.heap.size
  block : ∀ k, k < w.heap.size → ¬ C k → w'.heap[k]? = w.heap[k]?
theorem Chg.refl (C : Nat → Prop) (w : World) : Chg C w w := ⟨rfl, rfl, rfl, Nat.le_refl _, fun _ _ _ => rfl⟩
theorem Chg.trans {C : Nat → Prop} {a b c : World} (h : Chg C a b) (k : Chg C b c) : Chg C a c :=
  ⟨k.os.trans h.os, k.tape.trans h.tape, k.output.trans h.output, Nat.le_trans h.size k.size, fun i hi hc => (k.block i (Nat.lt_of_lt_of_le hi h.size) hc).trans (h.block i hi hc)⟩
theorem Chg.mono {C D : Nat → Prop} {a b : World} (h : Chg C a b) (hd : ∀ k, k < a.heap.size → C k → D k) : Chg D a b := ⟨h.os, h.tape, h.output, h.size, fun k hk hc => h.block k hk fun e => hc (hd k hk e)⟩
theorem Ext.chg {a b : World} (h : Ext a b) (C : Nat → Prop) : Chg C a b := ⟨h.os, h.tape, h.output, h.size, fun k hk _ => h.block k hk⟩
theorem chg_grown {a b : World} {row : Option Nat} (h : a.grownBy b row) : Chg (fun k => row = some k) a b := ⟨h.os, h.tape, h.output, h.size, fun k hk hc => h.block k hk fun e => hc e.symm⟩
theorem chg_set (w : World) (p : Addr) (u : Value) : Chg (fun k => k = p.block) w (w.setCell p u) := ⟨rfl, rfl, rfl, by simp [World.setCell], fun k _ hc => Below.heap_setCell _ _ _ _ hc⟩
theorem Chg.drew {C : Nat → Prop} {a w : World} (h : Chg C a w) : Chg C a w.drew := ⟨h.os, h.tape, h.output, h.size, h.block⟩
theorem Chg.drewN {C : Nat → Prop} {a w : World} (h : Chg C a w) (n : Nat) : Chg C a (w.drewN n) := ⟨h.os, h.tape, h.output, h.size, h.block⟩
theorem Chg.alloc {C : Nat → Prop} {a w : World} (h : Chg C a w) (o : Obj) : Chg C a (w.alloc o) := h.trans (((Ext.refl w).alloc o).chg C)
theorem Chg.ext {C : Nat → Prop} {a w w' : World} (h : Chg C a w) (k : Ext w w') : Chg C a w' := h.trans (k.chg C)
theorem Chg.gro {C : Nat → Prop} {a w w' : World} (h : Chg C a w) (k : Gro w w') : Chg C a w' := h.ext k.ext
/-- a store into a block that may change, or that is new -/
theorem Chg.setCell {C : Nat → Prop} {a w : World} (h : Chg C a w) {p : Addr} (hp : C p.block ∨ a.heap.size ≤ p.block) (u : Value) : Chg C a (w.setCell p u) :=
  ⟨h.os, h.tape, h.output, Nat.le_trans h.size (by simp [World.setCell]), fun k hk hc => by
    rw [Below.heap_setCell]
    · exact h.block k hk hc
    · rintro rfl; rcases hp with hp | hp
      · exact hc hp
      · omega⟩
theorem Chg.grown {C : Nat → Prop} {a w w' : World} {row : Option Nat} (h : Chg C a w) (hg : w.grownBy w' row) (hr : ∀ k, row = some k → C k ∨ a.heap.size ≤ k) : Chg C a w' :=
  ⟨hg.os.trans h.os, hg.tape.trans h.tape, hg.output.trans h.output, Nat.le_trans h.size hg.size, fun k hk hc => by
    rw [hg.block k (Nat.lt_of_lt_of_le hk h.size) (fun e => by rcases hr k e.symm with hr | hr; exact hc hr; omega)]
    exact h.block k hk hc⟩
theorem Chg.at {C : Nat → Prop} {w w' : World} (h : Chg C w w') {p : Addr} {v : Value} (hc : w.cell? p = some v) (hn : ¬ C p.block) : w'.cell? p = some v :=
  (World.cell?_of_block (w := w) (h.block p.block (World.block_lt_of_cell? w p hc) hn)).trans hc
theorem Chg.free {C : Nat → Prop} {w w' : World} (h : Chg C w w') {p : Addr} {v : Value} (hc : w.cell? p = some v) (hf : w.frozen? p = false) (hn : ¬ C p.block) : w'.frozen? p = false :=
  (World.frozen?_of_block (w := w) (h.block p.block (World.block_lt_of_cell? w p hc) hn)).trans hf
/-- what changes in new blocks alone -/
theorem Chg.below {C : Nat → Prop} {a w w' : World} (h : Chg C w w') (k : Ext a w) (hC : ∀ b, C b → a.heap.size ≤ b) : Ext a w' :=
  ⟨h.os.trans k.os, h.tape.trans k.tape, h.output.trans k.output, Nat.le_trans k.size h.size, fun b hb => (h.block b (Nat.lt_of_lt_of_le hb k.size) fun hc => by have := hC b hc; omega).trans (k.block b hb)⟩
theorem Chg.own {C : Nat → Prop} {w w' : World} (h : Chg C w w') {base : Nat} {e : TypeId} {size : Nat} {v : Value} {n : Nat} {xs : List Value} (hv : w.ownsRow base e size v n xs) (hn : ∀ k, v.ownBlock = some k → ¬ C k) : w'.ownsRow base e size v n xs := by
  refine ⟨hv.1, ?_⟩
  rcases hv.2 with h2 | ⟨g, cap, cur, he, hb, hg, r⟩
  · exact .inl h2
  · exact .inr ⟨g, cap, cur, he, hb, by rw [h.block g (Array.getElem?_eq_some_iff.1 hg).1 (hn g (by rw [he]; rfl))]; exact hg, r⟩
/-- a row of flat data beside what changes -/
theorem OwnOf.chg {α : Type} {R : Rep α} (hR : R.flat) {C : Nat → Prop} {w w' : World} {S : Nat → Prop} {base : Nat} {e : TypeId} {v : Value} {xs : List α} (h : OwnOf R w S base e v xs) (hx : Chg C w w') (hn : ∀ k, v.ownBlock = some k → ¬ C k) : OwnOf R w' S base e v xs := by
  obtain ⟨css, h1, h2⟩ := h
  exact ⟨css, h1.flatView hR, hx.own h2 hn⟩
theorem SliceOf.chg {α : Type} {R : Rep α} {C : Nat → Prop} {w w' : World} {S : Nat → Prop} {v : Value} {xs : List α} (h : SliceOf R (on w S) v xs) (hx : Chg C w w') (hS : ∀ k, S k → ¬ C k) : SliceOf R (on w' S) v xs :=
  h.ext fun p u e => by
    obtain ⟨h1, h2⟩ := on_some.1 e
    exact on_some.2 ⟨h1, hx.at h2 (hS _ h1)⟩
theorem OwnOf.form {α : Type} {R : Rep α} {w : World} {S : Nat → Prop} {base : Nat} {e : TypeId} {v : Value} {xs : List α} (h : OwnOf R w S base e v xs) : (v = .slice none 0 0 ∧ xs = []) ∨ ∃ g cap, v = .slice (some ⟨g, 0, none⟩) xs.length cap ∧ base ≤ g ∧ xs.length ≤ cap ∧ cap ≤ maxLen := by
  obtain ⟨css, h1, _, h2⟩ := h
  rcases h2 with ⟨rfl, h2⟩ | ⟨g, cap, cur, rfl, hb, hg, h3, h4, _⟩
  · exact .inl ⟨rfl, List.eq_nil_of_length_eq_zero h2⟩
  · exact .inr ⟨g, cap, rfl, hb, h3, h4⟩

end Go.Proofs.YtdgpbpbjlnlijaaGreat
