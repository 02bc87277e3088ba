/- Plain facts on the fifteen periods, the marks and the relations that Compose hands back. -/
import Derived.Test.YtjhbndbfgbkccaaPerB
import Derived.Deep.LoopGhost
namespace Go.Proofs.Ytjhbndbfgbkccaa
open Go.RowKit

theorem infoPer : (Try.prog.info? 23).map (fun i => (i.zero, i.size, i.bytes)) = some (some (.agg #[.int .i64 0, .int .i64 0]), 2, 16) := by kernel_rfl
theorem infoInt : (Try.prog.info? 3).map (fun i => (i.zero, i.size, i.bytes)) = some (some (.int .i64 0), 1, 8) := by kernel_rfl

/-- the periods that start at a or later, of those that end by 5, the first being (a, b) -/
def rowL (a : Nat) (n : Nat) : List (Int × Int) := (List.range n).map fun j => ((a : Int), ((a + 1 + j : Nat) : Int))
def perL (i : Nat) : List (Int × Int) := (List.range i).flatMap fun a => rowL a (5 - a)
def perCells (l : List (Int × Int)) : List Value := l.flatMap fun p => [.int .i64 p.1, .int .i64 p.2]

theorem perL_succ (k : Nat) : perL (k + 1) = perL k ++ rowL k (5 - k) := by simp [perL, List.range_succ]
theorem rowL_succ (a n : Nat) : rowL a (n + 1) = rowL a n ++ [((a : Int), ((a + 1 + n : Nat) : Int))] := by simp [rowL, List.range_succ]
theorem rowL_len (a n : Nat) : (rowL a n).length = n := by simp [rowL]
theorem perCells_app (a b : List (Int × Int)) : perCells (a ++ b) = perCells a ++ perCells b := by simp [perCells]
theorem perL_le (k : Nat) : (perL k).length ≤ 5 * k := by
  induction k with
  | zero => simp [perL]
  | succ k ih => rw [perL_succ, List.length_append, rowL_len]; omega

def perAt (k : Nat) : Int × Int := (perL 5).getD k (0, 0)
theorem all_cells {w : World} {base : Nat} {e : TypeId} {v : Value} (h : w.ownsRow base e 2 v (perL 5).length (perCells (perL 5))) :
    ∃ g cap, v = .slice (some ⟨g, 0, none⟩) 15 cap ∧ base ≤ g ∧ g < w.heap.size ∧ 15 ≤ cap ∧ cap ≤ maxLen ∧ (∀ k, k < 15 → w.cell? ⟨g, k * 2, none⟩ = some (.int .i64 (perAt k).1) ∧ w.cell? ⟨g, k * 2 + 1, none⟩ = some (.int .i64 (perAt k).2)) := by
  obtain ⟨g, cap, h1, h2, h3, h4, h5, h6⟩ := own_cells h (by decide)
  refine ⟨g, cap, h1, h2, h3, h4, h5, fun k hk => ⟨h6 _ _ ?_, h6 _ _ ?_⟩⟩
  · iterate 15 (rcases k with _ | k; · rfl)
    omega
  · iterate 15 (rcases k with _ | k; · rfl)
    omega

/-- what the loops hold of memory: the fifteen periods in block g, the fourteen marks in block p -/
structure CompSt (B g p : Nat) (M : Nat → Bool) (w wr : World) : Prop where
  all : ∀ k, k < 15 → wr.cell? ⟨g, k * 2, none⟩ = some (.int .i64 (perAt k).1) ∧ wr.cell? ⟨g, k * 2 + 1, none⟩ = some (.int .i64 (perAt k).2)
  marks : ∀ t, t < 14 → wr.cell? ⟨p, t, none⟩ = some (.bool (M t)) ∧ wr.frozen? ⟨p, t, none⟩ = false
  gp : g ≠ p
  gs : g < wr.heap.size
  ps : p < wr.heap.size
  pB : B ≤ p
  bel : Below B w wr
theorem CompSt.alloc {B g p : Nat} {M : Nat → Bool} {w wr : World} (h : CompSt B g p M w wr) (o : Obj) : CompSt B g p M w (wr.alloc o) := by
  obtain ⟨h1, h2, h3, h4, h5, h6, h7⟩ := h
  refine ⟨fun k hk => ?_, fun t ht => ?_, h3, by simp; omega, by simp; omega, h6, h7.alloc (by omega) o⟩
  · rw [World.cell?_alloc_past _ _ _ h4, World.cell?_alloc_past _ _ _ h4]; exact h1 k hk
  · rw [World.cell?_alloc_past _ _ _ h5, World.frozen?_alloc_past _ _ _ h5]; exact h2 t ht
theorem CompSt.below {B g p : Nat} {M : Nat → Bool} {w wr w' : World} (h : CompSt B g p M w wr) {N : Nat} (hb : Below N wr w') (hN : wr.heap.size ≤ N) : CompSt B g p M w w' := by
  obtain ⟨h1, h2, h3, h4, h5, h6, h7⟩ := h
  have hz := hb.size
  refine ⟨fun k hk => ?_, fun t ht => ?_, h3, by omega, by omega, h6, h7.trans (hb.mono (by omega))⟩
  · have hg : g < N := by omega
    rw [hb.cell hg, hb.cell hg]; exact h1 k hk
  · have hg : p < N := by omega
    rw [hb.cell hg, hb.frozen hg]; exact h2 t ht
theorem CompSt.set {B g p : Nat} {M : Nat → Bool} {w wr : World} (h : CompSt B g p M w wr) (t : Nat) : CompSt B g p (fun u => if u = t then true else M u) w (wr.setCell ⟨p, t, none⟩ (.bool true)) := by
  obtain ⟨h1, h2, h3, h4, h5, h6, h7⟩ := h
  refine ⟨fun k hk => ?_, fun u hu => ?_, h3, by simpa using h4, by simpa using h5, h6, h7.setCell (by exact h6) _⟩
  · rw [World.cell?_setCell_other _ _ _ _ (by simp), World.cell?_setCell_other _ _ _ _ (by simp)]; exact h1 k hk
  · rw [World.frozen?_setCell]
    refine ⟨?_, (h2 u hu).2⟩
    by_cases e : u = t
    · subst e; rw [if_pos rfl]; exact World.cell?_setCell_same _ _ _ (h2 u hu).1
    · rw [if_neg e, World.cell?_setCell_other _ _ _ _ (by simp)]; exact (h2 u hu).1

/-- a period that lies in a block of its own -/
structure Box (N : Nat) (a b : Int) (w : World) : Prop where
  fst : w.cell? ⟨N, 0, none⟩ = some (.int .i64 a)
  snd : w.cell? ⟨N, 1, none⟩ = some (.int .i64 b)
  lt : N < w.heap.size
theorem Box.alloc {N : Nat} {a b : Int} {w : World} (h : Box N a b w) (o : Obj) : Box N a b (w.alloc o) :=
  ⟨by rw [World.cell?_alloc_past _ _ _ h.lt]; exact h.fst, by rw [World.cell?_alloc_past _ _ _ h.lt]; exact h.snd, by have := h.lt; simp; omega⟩
theorem Box.below {N : Nat} {a b : Int} {w w' : World} (h : Box N a b w) {B : Nat} (hb : Below B w w') (hN : N < B) : Box N a b w' :=
  ⟨by rw [hb.cell (by exact hN)]; exact h.fst, by rw [hb.cell (by exact hN)]; exact h.snd, by have := h.lt; have := hb.size; omega⟩
theorem Box.set {N : Nat} {a b : Int} {w : World} (h : Box N a b w) {p : Addr} (hp : p.block ≠ N) (v : Value) : Box N a b (w.setCell p v) :=
  ⟨by rw [World.cell?_setCell_other _ _ _ _ (by intro e; apply hp; rw [e])]; exact h.fst, by rw [World.cell?_setCell_other _ _ _ _ (by intro e; apply hp; rw [e])]; exact h.snd, by simpa using h.lt⟩
theorem Box.new (w : World) (a b : Int) (T : TypeId) : Box w.heap.size a b (w.alloc (.cells #[.int .i64 a, .int .i64 b] T)) :=
  ⟨by rw [World.cell?_alloc_at _ _ _ _ rfl]; rfl, by rw [World.cell?_alloc_at _ _ _ _ rfl]; rfl, by simp⟩

theorem perAt_valid (k : Nat) (hk : k < 15) : validB (perAt k).1 (perAt k).2 = true := by
  iterate 15 (rcases k with _ | k; · rfl)
  omega
def noMarks : Obj := .cells #[.bool false, .bool false, .bool false, .bool false, .bool false, .bool false, .bool false, .bool false, .bool false, .bool false, .bool false, .bool false, .bool false, .bool false] 46
theorem noMarks_at (w : World) (t : Nat) (ht : t < 14) : (w.alloc noMarks).cell? ⟨w.heap.size, t, none⟩ = some (.bool false) ∧ (w.alloc noMarks).frozen? ⟨w.heap.size, t, none⟩ = false := by
  unfold noMarks
  rw [World.cell?_alloc_at _ _ _ _ rfl, World.frozen?_alloc_at _ _ _ _ rfl]
  iterate 14 (rcases t with _ | t; · exact ⟨rfl, rfl⟩)
  omega
def relP (a b : Int × Int) : Int := relI a.1 a.2 b.1 b.2
/-- marked once the first period is below i .. -/
def DoneA (F : Nat → Nat → Nat → Nat → Prop) (t i : Nat) : Prop := ∃ x, x < i ∧ ∃ y, y < 15 ∧ ∃ z, z < 15 ∧ F t x y z
/-- .. or it is i, and the second one below j .. -/
def DoneB (F : Nat → Nat → Nat → Nat → Prop) (t i j : Nat) : Prop := DoneA F t i ∨ ∃ y, y < j ∧ ∃ z, z < 15 ∧ F t i y z
/-- .. or that is j, and the third one below k -/
def DoneC (F : Nat → Nat → Nat → Nat → Prop) (t i j k : Nat) : Prop := DoneB F t i j ∨ ∃ z, z < k ∧ F t i j z
/-- the loops of package period: the middle period first -/
def FP (r s : Int) (t x y z : Nat) : Prop := relP (perAt y) (perAt x) = r ∧ relP (perAt x) (perAt z) = s ∧ relP (perAt y) (perAt z) = (t : Int)
/-- the loops of the reference -/
def FR (r s : Int) (t x y z : Nat) : Prop := relP (perAt x) (perAt y) = r ∧ relP (perAt y) (perAt z) = s ∧ relP (perAt x) (perAt z) = (t : Int)

theorem relI_nat (a b c d : Int) : ∃ t : Nat, relI a b c d = (t : Int) ∧ t < 14 := by
  refine ⟨(relI a b c d).toNat, ?_, ?_⟩ <;> (unfold relI; (repeat' split) <;> simp)
theorem doneC_hit {M : Nat → Bool} {F : Nat → Nat → Nat → Nat → Prop} {i j k t u : Nat} (hM : M u = true ↔ DoneC F u i j k) (hF : F u i j k ↔ u = t) :
    ((if u = t then true else M u) = true ↔ DoneC F u i j (k + 1)) := by
  constructor
  · intro h
    by_cases e : u = t
    · exact .inr ⟨k, by omega, hF.2 e⟩
    · rw [if_neg e] at h
      rcases hM.1 h with h | ⟨c, hc, h⟩
      · exact .inl h
      · exact .inr ⟨c, by omega, h⟩
  · intro h
    by_cases e : u = t
    · rw [if_pos e]
    · rw [if_neg e]
      rcases h with h | ⟨c, hc, h⟩
      · exact hM.2 (.inl h)
      · by_cases e2 : c = k
        · subst e2; exact (e (hF.1 h)).elim
        · exact hM.2 (.inr ⟨c, by omega, h⟩)
theorem doneC_miss {M : Nat → Bool} {F : Nat → Nat → Nat → Nat → Prop} {i j k u : Nat} (hM : M u = true ↔ DoneC F u i j k) (hF : ¬ F u i j k) :
    (M u = true ↔ DoneC F u i j (k + 1)) := by
  rw [hM]
  constructor
  · rintro (h | ⟨c, hc, h⟩)
    · exact .inl h
    · exact .inr ⟨c, by omega, h⟩
  · rintro (h | ⟨c, hc, h⟩)
    · exact .inl h
    · by_cases e : c = k
      · subst e; exact (hF h).elim
      · exact .inr ⟨c, by omega, h⟩
theorem doneB_next {M : Nat → Bool} {F : Nat → Nat → Nat → Nat → Prop} {i j u : Nat} (hM : M u = true ↔ DoneC F u i j 15) : (M u = true ↔ DoneB F u i (j + 1)) := by
  rw [hM]
  constructor
  · rintro ((h | ⟨a, ha, h⟩) | h)
    · exact .inl h
    · exact .inr ⟨a, by omega, h⟩
    · exact .inr ⟨j, by omega, h⟩
  · rintro (h | ⟨a, ha, h⟩)
    · exact .inl (.inl h)
    · by_cases e : a = j
      · subst e; exact .inr h
      · exact .inl (.inr ⟨a, by omega, h⟩)
theorem doneB_miss {M : Nat → Bool} {F : Nat → Nat → Nat → Nat → Prop} {i j u : Nat} (hM : M u = true ↔ DoneB F u i j) (hF : ∀ z, ¬ F u i j z) :
    (M u = true ↔ DoneB F u i (j + 1)) := by
  rw [hM]
  constructor
  · rintro (h | ⟨a, ha, h⟩)
    · exact .inl h
    · exact .inr ⟨a, by omega, h⟩
  · rintro (h | ⟨a, ha, z, hz, h⟩)
    · exact .inl h
    · by_cases e : a = j
      · subst e; exact (hF z h).elim
      · exact .inr ⟨a, by omega, z, hz, h⟩
theorem doneA_next {M : Nat → Bool} {F : Nat → Nat → Nat → Nat → Prop} {i u : Nat} (hM : M u = true ↔ DoneB F u i 15) : (M u = true ↔ DoneA F u (i + 1)) := by
  rw [hM]
  constructor
  · rintro (⟨b, hb, h⟩ | h)
    · exact ⟨b, by omega, h⟩
    · exact ⟨i, by omega, h⟩
  · rintro ⟨b, hb, h⟩
    by_cases e : b = i
    · subst e; exact .inr h
    · exact .inl ⟨b, by omega, h⟩
theorem hitF {q1 q2 q3 r s : Int} {u t : Nat} (h2 : q1 = r) (h4 : q2 = s) (h5 : q3 = (t : Int)) : (q1 = r ∧ q2 = s ∧ q3 = (u : Int)) ↔ u = t := by
  constructor
  · rintro ⟨_, _, h⟩; omega
  · rintro rfl; exact ⟨h2, h4, h5⟩

/-- whether t is among the relations that are possible -/
def compOk (r s : Int) (t : Nat) : Bool := (List.range 15).any fun b => (List.range 15).any fun a => (List.range 15).any fun c =>
  decide (relP (perAt a) (perAt b) = r) && (decide (relP (perAt b) (perAt c) = s) && decide (relP (perAt a) (perAt c) = (t : Int)))
theorem compOk_iff (r s : Int) (t : Nat) : compOk r s t = true ↔ DoneA (FP r s) t 15 := by
  simp [compOk, DoneA, FP]
theorem compOk_iffR (r s : Int) (t : Nat) : compOk r s t = true ↔ DoneA (FR r s) t 15 := by
  simp only [compOk, DoneA, FR, List.any_eq_true, List.mem_range, Bool.and_eq_true, decide_eq_true_eq]
  exact ⟨fun ⟨b, hb, a, ha, c, hc, h⟩ => ⟨a, ha, b, hb, c, hc, h⟩, fun ⟨a, ha, b, hb, c, hc, h⟩ => ⟨b, hb, a, ha, c, hc, h⟩⟩
/-- .. the first n of them, in order -/
def compUp (r s : Int) (n : Nat) : List Int := ((List.range n).filter fun j => compOk r s (1 + j)).map fun j => ((1 + j : Nat) : Int)
def compL (r s : Int) : List Int := compUp r s 13
theorem compUp_le (r s : Int) (n : Nat) : (compUp r s n).length ≤ n := by
  have := List.length_filter_le (fun j => compOk r s (1 + j)) (List.range n)
  simpa [compUp] using this
theorem compUp_hit (r s : Int) (n : Nat) (h : compOk r s (1 + n) = true) : compUp r s (n + 1) = compUp r s n ++ [((1 + n : Nat) : Int)] := by
  simp [compUp, List.range_succ, List.filter_append, h]
theorem compUp_miss (r s : Int) (n : Nat) (h : compOk r s (1 + n) = false) : compUp r s (n + 1) = compUp r s n := by
  simp [compUp, List.range_succ, List.filter_append, h]

end Go.Proofs.Ytjhbndbfgbkccaa
