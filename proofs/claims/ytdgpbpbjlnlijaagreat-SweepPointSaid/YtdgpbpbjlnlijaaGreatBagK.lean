/- the reference's Sort -/
import Derived.Test.YtdgpbpbjlnlijaaGreatBagJ
import Derived.IntWalk
namespace Go.Proofs.YtdgpbpbjlnlijaaGreat
open Go.RowKit

theorem RepAll.flatten_take {α : Type} {R : Rep α} {w : View} {css : List (List Value)} {xs : List α} (h : RepAll R w css xs) (k : Nat) : (css.take k).flatten = css.flatten.take (k * R.size) := by
  induction css generalizing xs k with
  | nil => simp
  | cons c css ih => cases xs with
    | nil => exact h.elim
    | cons x xs => cases k with
      | zero => simp
      | succ k =>
        have hc := R.len h.1
        rw [List.take_succ_cons, List.flatten_cons, List.flatten_cons, ih h.2, List.take_append, hc, Nat.succ_mul, List.take_of_length_le (l := c) (by rw [hc]; omega), Nat.add_sub_cancel]
theorem RepAll.flatten_drop {α : Type} {R : Rep α} {w : View} {css : List (List Value)} {xs : List α} (h : RepAll R w css xs) (k : Nat) : (css.drop k).flatten = css.flatten.drop (k * R.size) := by
  induction css generalizing xs k with
  | nil => simp
  | cons c css ih => cases xs with
    | nil => exact h.elim
    | cons x xs => cases k with
      | zero => simp
      | succ k =>
        have hc := R.len h.1
        rw [List.drop_succ_cons, List.flatten_cons, ih h.2, List.drop_append, hc, Nat.succ_mul, List.drop_of_length_le (l := c) (by rw [hc]; omega), Nat.add_sub_cancel, List.nil_append]
theorem SliceOf.takeV {α : Type} {R : Rep α} {w : View} {b o cap n : Nat} {xs : List α} (h : SliceOf R w (.slice (some ⟨b, o, none⟩) n cap) xs) (k : Nat) (hk : k ≤ xs.length) :
    SliceOf R w (.slice (some ⟨b, o, none⟩) k cap) (xs.take k) := by
  obtain ⟨css, h1, h2⟩ := h
  refine ⟨css.take k, h1.take k, ?_⟩
  have hl : (xs.take k).length = k := by simp; omega
  rw [hl, h1.flatten_take]
  rcases h2 with ⟨he, _⟩ | ⟨ad, c, he, g1, g2, g3⟩
  · cases he
  · injection he with e1 e2 e3
    injection e1 with e1
    subst e1 e2 e3
    refine .inr ⟨_, cap, rfl, by omega, g2, ?_⟩
    rcases g3 with g3 | ⟨b', o', ha, g3⟩
    · exact .inl (by rw [g3]; simp)
    · refine .inr ⟨b', o', ha, fun j u hj => ?_⟩
      rw [List.getElem?_take] at hj
      split at hj
      · exact g3 j u hj
      · cases hj
theorem SliceOf.dropV {α : Type} {R : Rep α} {w : View} {b o cap n : Nat} {xs : List α} (h : SliceOf R w (.slice (some ⟨b, o, none⟩) n cap) xs) (k : Nat) (hk : k ≤ xs.length) :
    SliceOf R w (.slice (some ⟨b, o + k * R.size, none⟩) (xs.length - k) (cap - k)) (xs.drop k) := by
  obtain ⟨css, h1, h2⟩ := h
  refine ⟨css.drop k, h1.drop k, ?_⟩
  rw [List.length_drop, h1.flatten_drop]
  rcases h2 with ⟨he, _⟩ | ⟨ad, c, he, g1, g2, g3⟩
  · cases he
  · injection he with e1 e2 e3
    injection e1 with e1
    subst e1 e2 e3
    refine .inr ⟨_, cap - k, rfl, by omega, by omega, ?_⟩
    rcases g3 with g3 | ⟨b', o', ha, g3⟩
    · exact .inl (by rw [g3]; simp)
    · injection ha with ha1 ha2
      subst ha1 ha2
      refine .inr ⟨b, _, rfl, fun j u hj => ?_⟩
      rw [List.getElem?_drop] at hj
      rw [Nat.add_assoc]
      exact g3 _ u hj

/-- two sorted lists as one -/
def mergeBy {α : Type} (c : α → α → Int) (l l' : List α) : List α := List.merge l l' fun a b => decide (c a b ≤ 0)
theorem sort_halves {α : Type} {c : α → α → Int} (h : Ord3 c) (l : List α) (k : Nat) : mergeBy c (sortBy c (l.take k)) (sortBy c (l.drop k)) = sortBy c l := by
  have hle : ∀ a b : α, (decide (c a b ≤ 0) = true ↔ c a b ≤ 0) := fun a b => by simp
  refine sortBy_unique h ?_ ?_
  · refine (List.merge_perm_append _).trans ?_
    refine ((sortBy_perm c _).append (sortBy_perm c _)).trans ?_
    rw [List.take_append_drop]
  · have := List.pairwise_merge (le := fun a b => decide (c a b ≤ 0)) (fun a b d h1 h2 => by simp only [decide_eq_true_eq] at *; exact h.le_tr a b d h1 h2)
      (fun a b => by simp only [Bool.or_eq_true, decide_eq_true_eq]; exact h.le_total a b) (sortBy c (l.take k)) (sortBy c (l.drop k)) ((sortBy_pair h _).imp (by simp)) ((sortBy_pair h _).imp (by simp))
    exact this.imp (by simp)
theorem merge_left {α : Type} (c : α → α → Int) (l l' : List α) (i j : Nat) (hi : i < l.length) (h : ∀ hj : j < l'.length, c l[i] l'[j] ≤ 0) :
    mergeBy c (l.drop i) (l'.drop j) = l[i] :: mergeBy c (l.drop (i + 1)) (l'.drop j) := by
  unfold mergeBy
  rw [List.drop_eq_getElem_cons hi]
  by_cases hj : j < l'.length
  · rw [List.drop_eq_getElem_cons hj, List.cons_merge_cons, if_pos (by simpa using h hj)]
  · have e : l'.drop j = [] := List.drop_eq_nil_of_le (by omega)
    rw [e]
    simp
theorem merge_right {α : Type} (c : α → α → Int) (l l' : List α) (i j : Nat) (hj : j < l'.length) (h : ∀ hi : i < l.length, ¬ c l[i] l'[j] ≤ 0) :
    mergeBy c (l.drop i) (l'.drop j) = l'[j] :: mergeBy c (l.drop i) (l'.drop (j + 1)) := by
  unfold mergeBy
  rw [List.drop_eq_getElem_cons hj]
  by_cases hi : i < l.length
  · rw [List.drop_eq_getElem_cons hi, List.cons_merge_cons, if_neg (by simpa using h hi)]
  · have e : l.drop i = [] := List.drop_eq_nil_of_le (by omega)
    rw [e]
    simp
theorem old_avoid {α : Type} {R : Rep α} {W w' : World} {S : Nat → Prop} {e : TypeId} {v : Value} {xs : List α} (hb : Below W.heap.size W w') (hown : OwnOf R w' S W.heap.size e v xs) :
    Sub (on W (fun k => k < W.heap.size)) (on w' (avoid (fun k => k < W.heap.size) v)) :=
  (below_sub hb fun _ h => h).trans (on_mono _ fun k _ hk => ⟨fun he => by have := (hown.lt k he.symm).1; omega, hk⟩)
theorem full_nil (w : World) : Sub w.cell? (on w (avoid (fun _ => True) (.slice none 0 0))) := full_on _ _ fun k _ => ⟨by simp [Value.ownBlock], trivial⟩
theorem sortBy_short {α : Type} (c : α → α → Int) (l : List α) (h : l.length < 2) : sortBy c l = l := by
  match l, h with
  | [], _ => simp [sortBy]
  | [a], _ => simp [sortBy]

end Go.Proofs.YtdgpbpbjlnlijaaGreat
