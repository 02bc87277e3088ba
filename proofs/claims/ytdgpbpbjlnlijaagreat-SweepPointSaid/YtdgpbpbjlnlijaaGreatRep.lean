/- How Go's data lie in memory: a datum's cells, slices of data, and what is kept when the world grows; no program is named here. -/
import Derived.Test.YtdgpbpbjlnlijaaGreatKit
import Derived.Deep.Slices
import Derived.Deep.AppendLies
import Derived.Laws.AppendOwnNone
import Derived.Sort.Grow
namespace Go.Proofs.YtdgpbpbjlnlijaaGreat
open Go.RowKit Go.Deep

/-- what the cells hold, or a part of that -/
abbrev View := Addr → Option Value
def Sub (h h' : View) : Prop := ∀ p v, h p = some v → h' p = some v
theorem Sub.refl (h : View) : Sub h h := fun _ _ e => e
theorem Sub.trans {a b c : View} (h : Sub a b) (k : Sub b c) : Sub a c := fun p v e => k p v (h p v e)
open Classical in
/-- the world's cells in the blocks of S alone -/
noncomputable def on (w : World) (S : Nat → Prop) : View := fun p => if S p.block then w.cell? p else none
theorem on_some {w : World} {S : Nat → Prop} {p : Addr} {v : Value} : on w S p = some v ↔ S p.block ∧ w.cell? p = some v := by
  unfold on
  split
  · simp [*]
  · simp [*]
theorem on_sub (w : World) (S : Nat → Prop) : Sub (on w S) w.cell? := fun _ _ e => (on_some.1 e).2
theorem on_mono (w : World) {S T : Nat → Prop} (h : ∀ k, k < w.heap.size → S k → T k) : Sub (on w S) (on w T) := fun p _ e => by
  obtain ⟨h1, h2⟩ := on_some.1 e
  exact on_some.2 ⟨h _ (World.block_lt_of_cell? w p h2) h1, h2⟩
theorem Ext.sub {w w' : World} (h : Ext w w') (S : Nat → Prop) : Sub (on w S) (on w' S) := fun p v e => by
  obtain ⟨h1, h2⟩ := on_some.1 e
  exact on_some.2 ⟨h1, h.at h2⟩
theorem Ext.full {w w' : World} (h : Ext w w') : Sub w.cell? w'.cell? := fun _ _ e => h.at e
/-- the cells that lie below B are kept by whatever keeps what is below B -/
theorem below_sub {w w' : World} {B : Nat} (h : Below B w w') {S : Nat → Prop} (hS : ∀ k, S k → k < B) : Sub (on w S) (on w' S) := fun p v e => by
  obtain ⟨h1, h2⟩ := on_some.1 e
  exact on_some.2 ⟨h1, (h.cell (hS _ h1)).trans h2⟩
theorem grown_sub {w w' : World} {row : Option Nat} (h : w.grownBy w' row) {S : Nat → Prop} (hS : ∀ k, S k → some k ≠ row) : Sub (on w S) (on w' S) := fun p v e => by
  obtain ⟨h1, h2⟩ := on_some.1 e
  exact on_some.2 ⟨h1, h.cell h2 (hS _ h1)⟩
theorem set_sub (w : World) (p : Addr) (v : Value) {S : Nat → Prop} (hS : ¬ S p.block) : Sub (on w S) (on (w.setCell p v) S) := fun q u e => by
  obtain ⟨h1, h2⟩ := on_some.1 e
  exact on_some.2 ⟨h1, cell_set h2 fun e => hS (e ▸ h1)⟩
theorem full_on (w : World) (S : Nat → Prop) (h : ∀ k, k < w.heap.size → S k) : Sub w.cell? (on w S) := fun p _ e => on_some.2 ⟨h _ (World.block_lt_of_cell? w p e), e⟩

/-- a slice's cells, in a view -/
def VSlice (h : View) (v : Value) (n : Nat) (xs : List Value) : Prop :=
  (v = .slice none 0 0 ∧ n = 0 ∧ xs = []) ∨
  ∃ ad cap, v = .slice (some ad) n cap ∧ n ≤ cap ∧ cap ≤ maxLen ∧ (xs = [] ∨ ∃ b o, ad = ⟨b, o, none⟩ ∧ ∀ j u, xs[j]? = some u → h ⟨b, o + j, none⟩ = some u)
theorem VSlice.sub {h h' : View} {v : Value} {n : Nat} {xs : List Value} (k : VSlice h v n xs) (hs : Sub h h') : VSlice h' v n xs := by
  rcases k with k | ⟨ad, cap, hv, h1, h2, h3⟩
  · exact .inl k
  · refine .inr ⟨ad, cap, hv, h1, h2, ?_⟩
    rcases h3 with h3 | ⟨b, o, ha, h3⟩
    · exact .inl h3
    · exact .inr ⟨b, o, ha, fun j u hj => hs _ _ (h3 j u hj)⟩
theorem VSlice.nil (h : View) : VSlice h (.slice none 0 0) 0 [] := .inl ⟨rfl, rfl, rfl⟩
theorem VSlice.own {w : World} {base : Nat} {e : TypeId} {size : Nat} {v : Value} {n : Nat} {xs : List Value} (h : w.ownsRow base e size v n xs) : VSlice (on w (fun k => base ≤ k)) v n xs := by
  rcases h.2 with ⟨hv, h0⟩ | ⟨g, cap, cur, hv, hb, hg, h1, h2, _, _⟩
  · subst h0
    exact .inl ⟨hv, rfl, List.eq_nil_of_length_eq_zero (by rw [h.1]; simp)⟩
  · refine .inr ⟨_, cap, hv, h1, h2, .inr ⟨g, 0, rfl, fun j u hj => on_some.2 ⟨hb, ?_⟩⟩⟩
    have := h.cells (g := g) (by rw [hv]; rfl) j u hj
    rwa [add_lit] at this
/-- a slice as a source: nil, or an address and the cells behind it -/
theorem VSlice.src {h : View} {v : Value} {n : Nat} {xs : List Value} (k : VSlice h v n xs) :
    (v = .slice none 0 0 ∧ n = 0 ∧ xs = []) ∨ ∃ ad cap, v = .slice (some ad) n cap ∧ n ≤ cap ∧ cap ≤ maxLen ∧ ∀ j u, xs[j]? = some u → h (ad.add j) = some u := by
  rcases k with k | ⟨ad, cap, hv, h1, h2, h3⟩
  · exact .inl k
  · refine .inr ⟨ad, cap, hv, h1, h2, fun j u hj => ?_⟩
    rcases h3 with h3 | ⟨b, o, rfl, h3⟩
    · rw [h3] at hj; simp at hj
    · rw [add_lit]; exact h3 j u hj

/-- how a datum lies in cells -/
structure Rep (α : Type) where
  size : Nat
  holds : View → List Value → α → Prop
  len : ∀ {w cs x}, holds w cs x → cs.length = size
  ext : ∀ {w w' cs x}, holds w cs x → Sub w w' → holds w' cs x
  one : ∀ {w cs x}, holds w cs x → ∀ u ∈ cs, u.oneCell' = true

/-- the cells of some data, one list for each -/
def RepAll {α : Type} (R : Rep α) (w : View) : List (List Value) → List α → Prop
  | [], [] => True
  | c :: cs, x :: xs => R.holds w c x ∧ RepAll R w cs xs
  | _, _ => False

section
variable {α : Type} {R : Rep α} {w w' : View}
theorem RepAll.nil : RepAll R w [] [] := trivial
theorem RepAll.ext {css : List (List Value)} {xs : List α} (h : RepAll R w css xs) (hx : Sub w w') : RepAll R w' css xs := by
  induction css generalizing xs with
  | nil => cases xs with
    | nil => trivial
    | cons x xs => exact h.elim
  | cons c css ih => cases xs with
    | nil => exact h.elim
    | cons x xs => exact ⟨R.ext h.1 hx, ih h.2⟩
theorem RepAll.length {css : List (List Value)} {xs : List α} (h : RepAll R w css xs) : css.length = xs.length := by
  induction css generalizing xs with
  | nil => cases xs with
    | nil => rfl
    | cons x xs => exact h.elim
  | cons c css ih => cases xs with
    | nil => exact h.elim
    | cons x xs => simp [ih h.2]
theorem RepAll.flat {css : List (List Value)} {xs : List α} (h : RepAll R w css xs) : css.flatten.length = xs.length * R.size := by
  induction css generalizing xs with
  | nil => cases xs with
    | nil => simp
    | cons x xs => exact h.elim
  | cons c css ih => cases xs with
    | nil => exact h.elim
    | cons x xs => simp [ih h.2, R.len h.1, Nat.succ_mul]; omega
theorem RepAll.append {c1 c2 : List (List Value)} {x1 x2 : List α} (h1 : RepAll R w c1 x1) (h2 : RepAll R w c2 x2) : RepAll R w (c1 ++ c2) (x1 ++ x2) := by
  induction c1 generalizing x1 with
  | nil => cases x1 with
    | nil => exact h2
    | cons x xs => exact h1.elim
  | cons c css ih => cases x1 with
    | nil => exact h1.elim
    | cons x xs => exact ⟨h1.1, ih h1.2⟩
theorem RepAll.one {c : List Value} {x : α} (h : R.holds w c x) : RepAll R w [c] [x] := ⟨h, trivial⟩
/-- the i-th datum: its cells, and where they stand in the row -/
theorem RepAll.at {css : List (List Value)} {xs : List α} (h : RepAll R w css xs) (i : Nat) (hi : i < xs.length) :
    ∃ c, R.holds w c xs[i] ∧ css[i]? = some c ∧ ∀ j u, c[j]? = some u → css.flatten[i * R.size + j]? = some u := by
  induction css generalizing xs i with
  | nil => cases xs with
    | nil => simp at hi
    | cons x xs => exact h.elim
  | cons c css ih => cases xs with
    | nil => exact h.elim
    | cons x xs =>
      cases i with
      | zero =>
        refine ⟨c, h.1, rfl, fun j u hj => ?_⟩
        have hl : j < c.length := (List.getElem?_eq_some_iff.1 hj).1
        simp [List.getElem?_append_left hl, hj]
      | succ i =>
        obtain ⟨d, h1, h2, h3⟩ := ih h.2 i (by simpa using hi)
        refine ⟨d, h1, h2, fun j u hj => ?_⟩
        have := h3 j u hj
        have hc := R.len h.1
        rw [List.flatten_cons, List.getElem?_append_right (by rw [hc, Nat.succ_mul]; omega), hc]
        rwa [show (i + 1) * R.size + j - R.size = i * R.size + j from by rw [Nat.succ_mul]; omega]
theorem RepAll.ones {css : List (List Value)} {xs : List α} (h : RepAll R w css xs) : ∀ u ∈ css.flatten, u.oneCell' = true := by
  induction css generalizing xs with
  | nil => simp
  | cons c css ih => cases xs with
    | nil => exact h.elim
    | cons x xs =>
      intro u hu
      rw [List.flatten_cons] at hu
      rcases List.mem_append.1 hu with hu | hu
      · exact R.one h.1 u hu
      · exact ih h.2 u hu
theorem RepAll.take {css : List (List Value)} {xs : List α} (h : RepAll R w css xs) (n : Nat) : RepAll R w (css.take n) (xs.take n) := by
  induction css generalizing xs n with
  | nil => cases xs with
    | nil => simp [RepAll]
    | cons x xs => exact h.elim
  | cons c css ih => cases xs with
    | nil => exact h.elim
    | cons x xs => cases n with
      | zero => trivial
      | succ n => exact ⟨h.1, ih h.2 n⟩
theorem RepAll.drop {css : List (List Value)} {xs : List α} (h : RepAll R w css xs) (n : Nat) : RepAll R w (css.drop n) (xs.drop n) := by
  induction css generalizing xs n with
  | nil => cases xs with
    | nil => simp [RepAll]
    | cons x xs => exact h.elim
  | cons c css ih => cases xs with
    | nil => exact h.elim
    | cons x xs => cases n with
      | zero => exact h
      | succ n => exact ih h.2 n
end

/-- v is a slice that holds the data xs -/
def SliceOf {α : Type} (R : Rep α) (w : View) (v : Value) (xs : List α) : Prop := ∃ css, RepAll R w css xs ∧ VSlice w v xs.length css.flatten

theorem SliceOf.ext {α : Type} {R : Rep α} {w w' : View} {v : Value} {xs : List α} (h : SliceOf R w v xs) (hx : Sub w w') : SliceOf R w' v xs := by
  obtain ⟨css, h1, h2⟩ := h
  exact ⟨css, h1.ext hx, h2.sub hx⟩
theorem SliceOf.nil {α : Type} (R : Rep α) (w : View) : SliceOf R w (.slice none 0 0) [] := ⟨[], trivial, VSlice.nil w⟩
/-- the value's form; and where there is something, the place of each datum -/
theorem SliceOf.form {α : Type} {R : Rep α} {w : View} {v : Value} {xs : List α} (h : SliceOf R w v xs) :
    ∃ a cap, v = .slice a xs.length cap ∧ xs.length ≤ cap ∧ cap ≤ maxLen ∧ (0 < R.size → 0 < xs.length → ∃ b o, a = some ⟨b, o, none⟩) := by
  obtain ⟨css, h1, h2⟩ := h
  rcases h2 with ⟨hv, h0, _⟩ | ⟨ad, cap, hv, hc1, hc2, h2⟩
  · exact ⟨none, 0, by rw [hv, h0], by omega, by simp [maxLen], fun _ h => by omega⟩
  · refine ⟨some ad, cap, hv, hc1, hc2, fun hs hx => ?_⟩
    rcases h2 with h2 | ⟨b, o, ha, _⟩
    · have := h1.flat
      rw [h2] at this
      have : xs.length * R.size = 0 := by simpa using this.symm
      rcases Nat.mul_eq_zero.1 this with h | h <;> omega
    · exact ⟨b, o, by rw [ha]⟩
theorem SliceOf.at {α : Type} {R : Rep α} {w : View} {b o n cap : Nat} {xs : List α} (h : SliceOf R w (.slice (some ⟨b, o, none⟩) n cap) xs) (i : Nat) (hi : i < xs.length) :
    ∃ c, R.holds w c xs[i] ∧ ∀ j u, c[j]? = some u → w ⟨b, o + i * R.size + j, none⟩ = some u := by
  obtain ⟨css, h1, h2⟩ := h
  obtain ⟨c, g1, _, g3⟩ := h1.at i hi
  refine ⟨c, g1, fun j u hj => ?_⟩
  rcases h2 with ⟨hv, _⟩ | ⟨ad, cap', hv, hc1, hc2, h2⟩
  · cases hv
  · rcases h2 with h2 | ⟨b', o', ha, h2⟩
    · have := g3 j u hj
      rw [h2] at this
      simp at this
    · injection hv with e1 e2 e3
      rw [ha] at e1
      injection e1 with e1
      injection e1 with e4 e5
      subst e4 e5
      rw [Nat.add_assoc]
      exact h2 _ u (g3 j u hj)

/-- the blocks that are not v's own row -/
def avoid (S : Nat → Prop) (v : Value) (k : Nat) : Prop := some k ≠ v.ownBlock ∧ S k
/-- a row of the call's own that holds the data xs; what these lead to lies elsewhere, in S -/
def OwnOf {α : Type} (R : Rep α) (w : World) (S : Nat → Prop) (base : Nat) (e : TypeId) (v : Value) (xs : List α) : Prop := ∃ css, RepAll R (on w (avoid S v)) css xs ∧ w.ownsRow base e R.size v xs.length css.flatten
theorem OwnOf.slice {α : Type} {R : Rep α} {w : World} {S : Nat → Prop} {base : Nat} {e : TypeId} {v : Value} {xs : List α} (h : OwnOf R w S base e v xs) : SliceOf R w.cell? v xs := by
  obtain ⟨css, h1, h2⟩ := h
  exact ⟨css, h1.ext (on_sub _ _), (VSlice.own h2).sub (on_sub _ _)⟩
theorem OwnOf.sliceIn {α : Type} {R : Rep α} {w : World} {S T : Nat → Prop} {base : Nat} {e : TypeId} {v : Value} {xs : List α} (h : OwnOf R w S base e v xs) (hS : ∀ k, k < w.heap.size → S k → T k) (hb : ∀ k, base ≤ k → T k) : SliceOf R (on w T) v xs := by
  obtain ⟨css, h1, h2⟩ := h
  exact ⟨css, h1.ext (on_mono _ fun k hk hs => hS k hk hs.2), (VSlice.own h2).sub (on_mono _ fun k _ hk => hb k hk)⟩
theorem OwnOf.weak {α : Type} {R : Rep α} {w : World} {S T : Nat → Prop} {base base' : Nat} {e : TypeId} {v : Value} {xs : List α} (h : OwnOf R w S base e v xs) (hS : ∀ k, k < w.heap.size → S k → T k) (hb : base' ≤ base) : OwnOf R w T base' e v xs := by
  obtain ⟨css, h1, h2⟩ := h
  exact ⟨css, h1.ext (on_mono _ fun k hk hs => ⟨hs.1, hS k hk hs.2⟩), ownsRow_weak h2 hb⟩
theorem OwnOf.nil {α : Type} (R : Rep α) (w : World) (S : Nat → Prop) (base : Nat) (e : TypeId) : OwnOf R w S base e (.slice none 0 0) [] := ⟨[], trivial, World.ownsRow_nil _ _ _ _⟩
theorem own_ext {w w' : World} {base : Nat} {e : TypeId} {size : Nat} {v : Value} {n : Nat} {xs : List Value} (h : w.ownsRow base e size v n xs) (hx : Ext w w') : w'.ownsRow base e size v n xs := by
  refine ⟨h.1, ?_⟩
  rcases h.2 with h2 | ⟨g, cap, cur, hv, hb, hg, r⟩
  · exact .inl h2
  · exact .inr ⟨g, cap, cur, hv, hb, by rw [hx.block g (Array.getElem?_eq_some_iff.1 hg).1]; exact hg, r⟩
theorem OwnOf.ext {α : Type} {R : Rep α} {w w' : World} {S : Nat → Prop} {base : Nat} {e : TypeId} {v : Value} {xs : List α} (h : OwnOf R w S base e v xs) (hx : Ext w w') : OwnOf R w' S base e v xs := by
  obtain ⟨css, h1, h2⟩ := h
  exact ⟨css, h1.ext (hx.sub _), own_ext h2 hx⟩
theorem OwnOf.lt {α : Type} {R : Rep α} {w : World} {S : Nat → Prop} {base : Nat} {e : TypeId} {v : Value} {xs : List α} (h : OwnOf R w S base e v xs) : ∀ k, v.ownBlock = some k → base ≤ k ∧ k < w.heap.size := by
  obtain ⟨css, _, h2⟩ := h
  exact h2.lt
/-- behind an append of one datum -/
theorem OwnOf.push {α : Type} {R : Rep α} {W w1 : World} {S : Nat → Prop} {base : Nat} {e : TypeId} {v : Value} {xs : List α} {css : List (List Value)} {c : List Value} {y : α} {g cap : Nat}
    (h1 : RepAll R (on W (avoid S v)) css xs) (hy : R.holds (on W (avoid S v)) c y)
    (hown : w1.ownsRow base e R.size (.slice (some ⟨g, 0, none⟩) (xs.length + 1) cap) (xs.length + 1) (css.flatten ++ c)) (hg : W.grownBy w1 v.ownBlock) (hat : v.ownBlock = some g ∨ g = W.heap.size) :
    OwnOf R w1 S base e (.slice (some ⟨g, 0, none⟩) (xs.length + 1) cap) (xs ++ [y]) := by
  have hs : Sub (on W (avoid S v)) (on w1 (avoid S (.slice (some ⟨g, 0, none⟩) (xs.length + 1) cap))) := by
    intro p u e
    obtain ⟨e1, e2⟩ := on_some.1 e
    refine on_some.2 ⟨⟨?_, e1.2⟩, hg.cell e2 e1.1⟩
    replace e1 := e1.1
    rcases hat with hat | hat
    · rw [hat] at e1
      exact e1
    · have := World.block_lt_of_cell? W p e2
      simp [Value.ownBlock]
      omega
  refine ⟨css ++ [c], (h1.ext hs).append (RepAll.one (R.ext hy hs)), ?_⟩
  simpa using hown

section
variable {P : Program} {w : World} {ops : Array Oper} {rest : List Oper} {o : Oper} {a : Act} {Q : Exit → Act → World → Prop}
/-- 'append(out, x)': out the call's own row of data -/
theorem wpList_append_one {α : Type} (R : Rep α) (S : Nat → Prop) (hgd : o.guard = none) (s x : Operand) (t : TypeId)
    (ho : o.op = .call { callee := .builtin .append, args := #[s, x], argTypes := #[t, t] })
    (base : Nat) (e : TypeId) (i : TypeInfo) (z : Value) (bytes : Nat) (ht : P.underlying t = some (.slice e)) (hi : P.info? e = some i) (hz : i.zero = some z)
    (hsize : i.size = R.size) (hby : i.bytes = bytes) (hzs : z.cells.size = R.size) (hsz : 0 < R.size)
    (v : Value) (xs : List α) (hs : a.eval s = v) (hown : OwnOf R w S base e v xs)
    (ad : Addr) (c : Nat) (y : α) (news : List Value) (hx : a.eval x = .slice (some ad) 1 c) (hy : R.holds (on w (avoid S v)) news y) (hnews : ∀ j u, news[j]? = some u → w.cell? (ad.add j) = some u)
    (h63 : xs.length + 1 ≤ maxLen) (hbytes : (xs.length + 1) * bytes ≤ 140737488355328) (hbase : base ≤ w.heap.size)
    (h : ∀ g cap w', OwnOf R w' S base e (.slice (some ⟨g, 0, none⟩) (xs.length + 1) cap) (xs ++ [y]) → w.grownBy w' v.ownBlock → (v.ownBlock = some g ∨ g = w.heap.size) → wpList P ops Q rest (a.put o.dst (.slice (some ⟨g, 0, none⟩) (xs.length + 1) cap)) w') : wpList P ops Q (o :: rest) a w := by
  obtain ⟨css, h1, h2⟩ := hown
  exact wpList_append_lies w hgd s x t ho base e i z R.size bytes ht hi hz hsize hby hzs hsz v xs.length css.flatten hs h2 ad 1 c news hx (by rw [R.len hy, Nat.one_mul]) hnews (R.one hy) (by omega) h63 hbytes hbase w.heap.size rfl
    fun g cap w' g1 g2 g3 _ => h g cap w' (OwnOf.push h1 hy g1 g2 g3) g2 g3
end

/-- behind an append of the data of a slice -/
theorem OwnOf.pushAll {α : Type} {R : Rep α} {W w1 : World} {S : Nat → Prop} {base : Nat} {e : TypeId} {v v' : Value} {xs ys : List α} {css dss : List (List Value)}
    (h1 : RepAll R (on W (avoid S v)) css xs) (hy : RepAll R (on W (avoid S v)) dss ys)
    (hown : w1.ownsRow base e R.size v' (xs.length + ys.length) (css.flatten ++ dss.flatten)) (hg : W.grownBy w1 v.ownBlock) (hat : v'.ownBlock = v.ownBlock ∨ v'.ownBlock = some W.heap.size) :
    OwnOf R w1 S base e v' (xs ++ ys) := by
  have hs : Sub (on W (avoid S v)) (on w1 (avoid S v')) := by
    intro p u e
    obtain ⟨e1, e2⟩ := on_some.1 e
    refine on_some.2 ⟨⟨?_, e1.2⟩, hg.cell e2 e1.1⟩
    rcases hat with hat | hat
    · rw [hat]; exact e1.1
    · have := World.block_lt_of_cell? W p e2
      rw [hat]
      simp
      omega
  refine ⟨css ++ dss, (h1.ext hs).append (hy.ext hs), ?_⟩
  simpa using hown

section
variable {P : Program} {w : World} {ops : Array Oper} {rest : List Oper} {o : Oper} {a : Act} {Q : Exit → Act → World → Prop}
/-- 'append(out, xs...)': out the call's own row of data, xs whatever slice of such data that does not lead into it -/
theorem wpList_append_all {α : Type} (R : Rep α) (S : Nat → Prop) (hgd : o.guard = none) (s x : Operand) (t : TypeId)
    (ho : o.op = .call { callee := .builtin .append, args := #[s, x], argTypes := #[t, t] })
    (base : Nat) (e : TypeId) (i : TypeInfo) (z : Value) (bytes : Nat) (ht : P.underlying t = some (.slice e)) (hi : P.info? e = some i) (hz : i.zero = some z)
    (hsize : i.size = R.size) (hby : i.bytes = bytes) (hzs : z.cells.size = R.size) (hsz : 0 < R.size)
    (v : Value) (xs : List α) (hs : a.eval s = v) (hown : OwnOf R w S base e v xs)
    (u : Value) (ys : List α) (hx : a.eval x = u) (hy : SliceOf R (on w (avoid S v)) u ys)
    (h63 : xs.length + ys.length ≤ maxLen) (hbytes : (xs.length + ys.length) * bytes ≤ 140737488355328) (hbase : base ≤ w.heap.size)
    (h : ∀ v' w', OwnOf R w' S base e v' (xs ++ ys) → w.grownBy w' v.ownBlock → (v'.ownBlock = v.ownBlock ∨ v'.ownBlock = some w.heap.size) → wpList P ops Q rest (a.put o.dst v') w') : wpList P ops Q (o :: rest) a w := by
  obtain ⟨css, h1, h2⟩ := hown
  obtain ⟨dss, h3, h4⟩ := hy
  rcases h4.src with ⟨rfl, hn, hd⟩ | ⟨ad, cap, rfl, _, _, hc⟩
  · have hys : ys = [] := List.eq_nil_of_length_eq_zero hn
    subst hys
    exact wpList_append_own_none hgd s x t ho base e i R.size ht hi v xs.length css.flatten hs h2 hx
      (h v w (by rw [List.append_nil]; exact ⟨css, h1, h2⟩) ⟨rfl, rfl, rfl, Nat.le_refl _, fun _ _ _ => rfl⟩ (.inl rfl))
  · exact wpList_append_own_at w hgd s x t ho base e i z R.size bytes ht hi hz hsize hby hzs hsz v xs.length css.flatten hs h2 ad ys.length cap dss.flatten hx h3.flat (fun j u hj => (on_some.1 (hc j u hj)).2) h3.ones h63 hbytes hbase
      fun v' w' g1 g2 _ g3 => h v' w' (OwnOf.pushAll h1 h3 g1 g2 g3) g2 g3
end

/-- ints -/
def Rep.int : Rep Int where
  size := 1
  holds _ cs x := cs = [.int .i64 x] ∧ -9223372036854775808 ≤ x ∧ x ≤ 9223372036854775807
  len := by rintro w cs x ⟨rfl, _⟩; rfl
  ext := by rintro w w' cs x h _; exact h
  one := by rintro w cs x ⟨rfl, _⟩; simp [Value.oneCell']

/-- a scalar value of the program -/
structure Val where
  kind : Int
  n : Int
  s : ByteArray
def Rep.val : Rep Val where
  size := 3
  holds _ cs x := cs = [.int .i64 x.kind, .int .i64 x.n, .string x.s] ∧ (-9223372036854775808 ≤ x.kind ∧ x.kind ≤ 9223372036854775807) ∧ (-9223372036854775808 ≤ x.n ∧ x.n ≤ 9223372036854775807) ∧ x.s.size ≤ maxLen
  len := by rintro w cs x ⟨rfl, _⟩; rfl
  ext := by rintro w w' cs x h _; exact h
  one := by rintro w cs x ⟨rfl, _⟩; simp [Value.oneCell']

/-- slices, as cells -/
def Rep.slice {α : Type} (R : Rep α) : Rep (List α) where
  size := 1
  holds w cs xs := ∃ v, cs = [v] ∧ SliceOf R w v xs
  len := by rintro w cs x ⟨v, rfl, _⟩; rfl
  ext := by rintro w w' cs x ⟨v, rfl, h⟩ hx; exact ⟨v, rfl, h.ext hx⟩
  one := by
    rintro w cs x ⟨v, rfl, h⟩
    obtain ⟨a, cap, rfl, _⟩ := h.form
    simp [Value.oneCell']

/-- a row of a relation -/
structure Row where
  vals : List Val
  lin : List Int
def Rep.row : Rep Row where
  size := 2
  holds w cs r := ∃ a b, cs = [a, b] ∧ SliceOf Rep.val w a r.vals ∧ SliceOf Rep.int w b r.lin
  len := by rintro w cs x ⟨a, b, rfl, _⟩; rfl
  ext := by rintro w w' cs x ⟨a, b, rfl, h1, h2⟩ hx; exact ⟨a, b, rfl, h1.ext hx, h2.ext hx⟩
  one := by
    rintro w cs x ⟨a, b, rfl, h1, h2⟩
    obtain ⟨a', cap, rfl, _⟩ := h1.form
    obtain ⟨b', cap', rfl, _⟩ := h2.form
    simp [Value.oneCell']

/-- a row of the values alone, and a tuple -/
structure Tup where
  vals : List Val
  from_ : Int
  to_ : Int
  lin : List Int
def Rep.tup : Rep Tup where
  size := 4
  holds w cs r := ∃ a b, cs = [a, .int .i64 r.from_, .int .i64 r.to_, b] ∧ SliceOf Rep.val w a r.vals ∧ SliceOf Rep.int w b r.lin ∧ (-9223372036854775808 ≤ r.from_ ∧ r.from_ ≤ 9223372036854775807) ∧ (-9223372036854775808 ≤ r.to_ ∧ r.to_ ≤ 9223372036854775807)
  len := by rintro w cs x ⟨a, b, rfl, _⟩; rfl
  ext := by rintro w w' cs x ⟨a, b, rfl, h1, h2, h3⟩ hx; exact ⟨a, b, rfl, h1.ext hx, h2.ext hx, h3⟩
  one := by
    rintro w cs x ⟨a, b, rfl, h1, h2, _⟩
    obtain ⟨a', cap, rfl, _⟩ := h1.form
    obtain ⟨b', cap', rfl, _⟩ := h2.form
    simp [Value.oneCell']

/-- data that lead nowhere: how they lie does not hang on the view -/
def Rep.flat {α : Type} (R : Rep α) : Prop := ∀ h h' cs x, R.holds h cs x → R.holds h' cs x
theorem flat_int : Rep.int.flat := fun _ _ _ _ h => h
theorem flat_val : Rep.val.flat := fun _ _ _ _ h => h
theorem RepAll.flatView {α : Type} {R : Rep α} (hR : R.flat) {h h' : View} {css : List (List Value)} {xs : List α} (k : RepAll R h css xs) : RepAll R h' css xs := by
  induction css generalizing xs with
  | nil => cases xs with
    | nil => trivial
    | cons x xs => exact k.elim
  | cons c css ih => cases xs with
    | nil => exact k.elim
    | cons x xs => exact ⟨hR _ _ _ _ k.1, ih k.2⟩
/-- a row of the call's own of such data: it is new as a whole -/
theorem OwnOf.fresh {α : Type} {R : Rep α} (hR : R.flat) {w : World} {S : Nat → Prop} {base : Nat} {e : TypeId} {v : Value} {xs : List α} (h : OwnOf R w S base e v xs) : SliceOf R (on w (fun k => base ≤ k)) v xs := by
  obtain ⟨css, h1, h2⟩ := h
  exact ⟨css, h1.flatView hR, VSlice.own h2⟩
theorem SliceOf.flatOn {α : Type} {R : Rep α} (hR : R.flat) {w : World} {S : Nat → Prop} {v : Value} {xs : List α} (h : SliceOf R w.cell? v xs) (hv : ∀ ad n c, v = .slice (some ad) n c → S ad.block) : SliceOf R (on w S) v xs := by
  obtain ⟨css, h1, h2⟩ := h
  refine ⟨css, h1.flatView hR, ?_⟩
  rcases h2 with h2 | ⟨ad, cap, rfl, g1, g2, g3⟩
  · exact .inl h2
  · refine .inr ⟨ad, cap, rfl, g1, g2, ?_⟩
    rcases g3 with g3 | ⟨b, o, rfl, g3⟩
    · exact .inl g3
    · exact .inr ⟨b, o, rfl, fun j u hj => on_some.2 ⟨hv ⟨b, o, none⟩ _ _ rfl, g3 j u hj⟩⟩
theorem OwnOf.made {α : Type} (R : Rep α) (w : World) (S : Nat → Prop) (e : TypeId) : OwnOf R (w.alloc (.cells #[] e)) S w.heap.size e (.slice (some ⟨w.heap.size, 0, none⟩) 0 0) [] :=
  ⟨[], trivial, World.ownsRow_made w #[] 0 (Nat.le_refl _) (Nat.zero_le _) (by simp)⟩

/-- the cells of the i-th datum, as a walk reads them -/
theorem int_at {w : View} {b o n cap : Nat} {xs : List Int} (h : SliceOf Rep.int w (.slice (some ⟨b, o, none⟩) n cap) xs) (i : Nat) (hi : i < xs.length) :
    w ⟨b, o + i, none⟩ = some (.int .i64 xs[i]) ∧ -9223372036854775808 ≤ xs[i] ∧ xs[i] ≤ 9223372036854775807 := by
  obtain ⟨c, ⟨rfl, h1⟩, h2⟩ := h.at i hi
  have := h2 0 _ rfl
  rw [show Rep.int.size = 1 from rfl, Nat.mul_one, Nat.add_zero] at this
  exact ⟨this, h1⟩
theorem val_at {w : View} {b o n cap : Nat} {xs : List Val} (h : SliceOf Rep.val w (.slice (some ⟨b, o, none⟩) n cap) xs) (i : Nat) (hi : i < xs.length) :
    w ⟨b, o + i * 3, none⟩ = some (.int .i64 xs[i].kind) ∧ w ⟨b, o + i * 3 + 1, none⟩ = some (.int .i64 xs[i].n) ∧ w ⟨b, o + i * 3 + 2, none⟩ = some (.string xs[i].s) := by
  obtain ⟨c, ⟨rfl, _⟩, h2⟩ := h.at i hi
  exact ⟨h2 0 _ rfl, h2 1 _ rfl, h2 2 _ rfl⟩
theorem row_at {w : View} {b o n cap : Nat} {xs : List Row} (h : SliceOf Rep.row w (.slice (some ⟨b, o, none⟩) n cap) xs) (i : Nat) (hi : i < xs.length) :
    ∃ u v, w ⟨b, o + i * 2, none⟩ = some u ∧ w ⟨b, o + i * 2 + 1, none⟩ = some v ∧ SliceOf Rep.val w u xs[i].vals ∧ SliceOf Rep.int w v xs[i].lin := by
  obtain ⟨c, ⟨u, v, rfl, g1, g2⟩, h2⟩ := h.at i hi
  exact ⟨u, v, h2 0 _ rfl, h2 1 _ rfl, g1, g2⟩
theorem tup_at {w : View} {b o n cap : Nat} {xs : List Tup} (h : SliceOf Rep.tup w (.slice (some ⟨b, o, none⟩) n cap) xs) (i : Nat) (hi : i < xs.length) :
    ∃ u v, w ⟨b, o + i * 4, none⟩ = some u ∧ w ⟨b, o + i * 4 + 1, none⟩ = some (.int .i64 xs[i].from_) ∧ w ⟨b, o + i * 4 + 2, none⟩ = some (.int .i64 xs[i].to_) ∧ w ⟨b, o + i * 4 + 3, none⟩ = some v ∧
      SliceOf Rep.val w u xs[i].vals ∧ SliceOf Rep.int w v xs[i].lin ∧ (-9223372036854775808 ≤ xs[i].from_ ∧ xs[i].from_ ≤ 9223372036854775807) ∧ (-9223372036854775808 ≤ xs[i].to_ ∧ xs[i].to_ ≤ 9223372036854775807) := by
  obtain ⟨c, ⟨u, v, rfl, g1, g2, g3⟩, h2⟩ := h.at i hi
  exact ⟨u, v, h2 0 _ rfl, h2 1 _ rfl, h2 2 _ rfl, h2 3 _ rfl, g1, g2, g3⟩

/-- the world has grown by draws and new blocks alone -/
structure Gro (w w' : World) : Prop where
  ext : Ext w w'
  drawn : w.drawn ≤ w'.drawn
theorem Gro.refl (w : World) : Gro w w := ⟨Ext.refl w, Nat.le_refl _⟩
theorem Gro.trans {a b c : World} (h : Gro a b) (k : Gro b c) : Gro a c := ⟨h.ext.trans k.ext, Nat.le_trans h.drawn k.drawn⟩
theorem Gro.alloc {a w : World} (h : Gro a w) (o : Obj) : Gro a (w.alloc o) := ⟨h.ext.alloc o, h.drawn⟩
theorem Gro.drew {a w : World} (h : Gro a w) : Gro a w.drew := ⟨h.ext.drew, Nat.le_trans h.drawn (Nat.le_succ _)⟩
theorem Gro.drewN {a w : World} (h : Gro a w) (n : Nat) : Gro a (w.drewN n) := ⟨h.ext.drewN n, Nat.le_trans h.drawn (Nat.le_add_right _ _)⟩
theorem Gro.setCell {a w : World} (h : Gro a w) {p : Addr} (hp : a.heap.size ≤ p.block) (u : Value) : Gro a (w.setCell p u) := ⟨Below.setCell h.ext hp u, h.drawn⟩
theorem Gro.at {w w' : World} (h : Gro w w') {p : Addr} {v : Value} (hc : w.cell? p = some v) : w'.cell? p = some v := h.ext.at hc
theorem Gro.grown {w w' : World} (h : Gro w w') : ∃ n os, w' = Go.Sort.grow (w.drewN n) os := by
  obtain ⟨⟨h1, h2, h3, h4, h5⟩, h6⟩ := h
  refine ⟨w'.drawn - w.drawn, w'.heap.extract w.heap.size w'.heap.size, ?_⟩
  have hh : w'.heap = w.heap ++ w'.heap.extract w.heap.size w'.heap.size := by
    apply Array.ext_getElem?
    intro i
    rw [Array.getElem?_append]
    split
    · exact h5 i (by assumption)
    · rw [Array.getElem?_extract]
      split
      · congr 1; omega
      · rw [Array.getElem?_eq_none (by omega)]
  have hd : w'.drawn = w.drawn + (w'.drawn - w.drawn) := by omega
  cases w'
  simp only [Go.Sort.grow, World.drewN] at *
  subst h1 h2 h3
  congr 1
theorem Gro.of_grow (w : World) (n : Nat) (os : Array Obj) : Gro w (Go.Sort.grow (w.drewN n) os) :=
  ⟨⟨rfl, rfl, rfl, by simp [Go.Sort.grow, World.drewN], fun k hk => Go.Sort.heap_grow_old _ _ hk⟩, Nat.le_add_right _ _⟩

end Go.Proofs.YtdgpbpbjlnlijaaGreat
