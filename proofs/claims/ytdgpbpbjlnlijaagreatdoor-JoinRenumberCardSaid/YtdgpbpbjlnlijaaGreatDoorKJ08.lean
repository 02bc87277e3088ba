/- joined texts of a proof: PlainJ, MatI, GenB, BagM, BagN, GenC, ShelfE -/
import Derived.Test.YtdgpbpbjlnlijaaGreatDoorKJ07
import Derived.IntWalk
import Derived.Test.YtdgpbpbjlnlijaaGreatDoorKJ04
import Derived.Deep.RegionLaw
import Derived.Laws.OwnMore
import Derived.OneCell
import Derived.Shelf.Spec.SlicesGrow
import Derived.Ground.Names8Prog
import Derived.Test.YtdgpbpbjlnlijaaGreatDoorProg

/- plain: joins over time and their timeslices; no program in sight -/
namespace Go.Proofs.YtdgpbpbjlnlijaaGreatDoor
open Go.RowKit

def pairRow (x y : Row) : Row := ⟨x.vals ++ y.vals, mergeL x.lin y.lin⟩
/-- the two together, where they meet -/
def meetT (x y : Tup) : List Tup := if validT x = true ∧ validT y = true ∧ max x.from_ y.from_ < min x.to_ y.to_ then [tupOf (pairRow (tupRow x) (tupRow y)) ⟨max x.from_ y.from_, min x.to_ y.to_⟩] else []
def tupD : Tup := ⟨[], 0, 0, []⟩
def pairT (a b : List Tup) (p : Pair) : Tup := tupOf (pairRow (tupRow (a.getD p.a tupD)) (tupRow (b.getD p.b tupD))) ⟨p.from_, p.to_⟩
def joinRaw (tr : List Val → Bool) (a b : List Tup) : List Tup := ((pairsOf a b).map (pairT a b)).filter fun t => tr t.vals
theorem drop_head {α : Type} {l m : List α} {k : Nat} {x : α} (h : l.drop k = x :: m) (d : α) : l.getD k d = x ∧ l.drop (k + 1) = m := by
  have h1 : l[k]? = some x := by
    have := congrArg List.head? h
    rw [List.head?_drop] at this
    exact this
  refine ⟨by rw [List.getD_eq_getElem?_getD, h1]; rfl, ?_⟩
  rw [← List.drop_drop, h]
  rfl
theorem raw_inner (a b : List Tup) (i : Nat) (t : Tup) (ht : a.getD i tupD = t) : ∀ (l : List Tup) (k : Nat), b.drop k = l → ((evs true k l).flatMap (meet ⟨false, i, t.from_, t.to_⟩)).map (pairT a b) = l.flatMap (meetT t) := by
  intro l
  induction l with
  | nil => intro k _; rfl
  | cons y l ih =>
    intro k hk
    obtain ⟨h1, h2⟩ := drop_head hk tupD
    rw [evs, List.flatMap_cons, List.map_append, List.flatMap_cons, ih (k + 1) h2]
    congr 1
    unfold meet meetT
    have e : ((false : Bool) ≠ true ∧ okEv ⟨false, i, t.from_, t.to_⟩ = true ∧ okEv ⟨true, k, y.from_, y.to_⟩ = true ∧ max t.from_ y.from_ < min t.to_ y.to_) ↔ (validT t = true ∧ validT y = true ∧ max t.from_ y.from_ < min t.to_ y.to_) := by
      constructor
      · rintro ⟨_, g⟩; exact g
      · exact fun g => ⟨by decide, g⟩
    by_cases c : validT t = true ∧ validT y = true ∧ max t.from_ y.from_ < min t.to_ y.to_
    · rw [if_pos (e.2 c), if_pos c, List.map_cons, List.map_nil]
      unfold pairT mkPair
      simp only [Bool.false_eq_true, if_false, ht, h1]
    · rw [if_neg (fun g => c (e.1 g)), if_neg c]
      rfl
theorem raw_join (a b : List Tup) : (rawPairs a b).map (pairT a b) = a.flatMap fun x => b.flatMap (meetT x) := by
  have h : ∀ (l : List Tup) (k : Nat), a.drop k = l → ((evs false k l).flatMap fun x => (evs true 0 b).flatMap (meet x)).map (pairT a b) = l.flatMap fun x => b.flatMap (meetT x) := by
    intro l
    induction l with
    | nil => intro k _; rfl
    | cons t l ih =>
      intro k hk
      obtain ⟨h1, h2⟩ := drop_head hk tupD
      rw [evs, List.flatMap_cons, List.map_append, List.flatMap_cons, ih (k + 1) h2, raw_inner a b k t h1 b 0 rfl]
  exact h a 0 rfl

theorem slice_flatX {α : Type} (ks : List α) (G : α → List Tup) (t : Int) : sliceRows (ks.flatMap G) t = ks.flatMap fun r => sliceRows (G r) t := by
  induction ks with
  | nil => rfl
  | cons r ks ih => rw [List.flatMap_cons, List.flatMap_cons, sliceRows_append, ih]
theorem filter_flat {α β : Type} (p : β → Bool) (f : α → List β) (l : List α) : (l.flatMap f).filter p = l.flatMap fun x => (f x).filter p := by
  induction l with
  | nil => rfl
  | cons x l ih => rw [List.flatMap_cons, List.filter_append, ih, List.flatMap_cons]
theorem flat_filter {α β : Type} (p : α → Bool) (f : α → List β) (l : List α) : (l.flatMap fun x => if p x = true then f x else []) = (l.filter p).flatMap f := by
  induction l with
  | nil => rfl
  | cons x l ih =>
    rw [List.flatMap_cons, ih, List.filter_cons]
    split
    · rw [List.flatMap_cons]
    · rfl
theorem flat_perm2 {α β : Type} (f g : α → List β) (l : List α) : (l.flatMap f ++ l.flatMap g).Perm (l.flatMap fun x => f x ++ g x) := by
  induction l with
  | nil => exact .refl _
  | cons x l ih =>
    rw [List.flatMap_cons, List.flatMap_cons, List.flatMap_cons]
    have h1 : ((f x ++ l.flatMap f) ++ (g x ++ l.flatMap g)).Perm ((f x ++ g x) ++ (l.flatMap f ++ l.flatMap g)) := by
      rw [List.append_assoc, List.append_assoc]
      refine List.Perm.append_left _ ?_
      rw [← List.append_assoc, ← List.append_assoc]
      exact List.Perm.append_right _ List.perm_append_comm
    exact h1.trans (List.Perm.append_left _ ih)
/-- the join of two timeslices -/
def joinRow (tr : List Val → Bool) (B : List Row) (x : Row) : List Row := (B.map (pairRow x)).filter fun r => tr r.vals
def snapJoin (tr : List Val → Bool) (A B : List Row) : List Row := A.flatMap (joinRow tr B)
theorem joinRow_flat (tr : List Val → Bool) (B : List Row) (x : Row) : joinRow tr B x = B.flatMap fun y => if tr (x.vals ++ y.vals) = true then [pairRow x y] else [] := by
  unfold joinRow
  induction B with
  | nil => rfl
  | cons y B ih =>
    rw [List.map_cons, List.filter_cons, ih, List.flatMap_cons]
    show (if tr (x.vals ++ y.vals) = true then _ else _) = _
    split <;> rfl
theorem meet_slice (tr : List Val → Bool) (t : Int) (x y : Tup) : sliceRows ((meetT x y).filter fun z => tr z.vals) t = if holdsAt t x = true then (if holdsAt t y = true then (if tr (x.vals ++ y.vals) = true then [pairRow (tupRow x) (tupRow y)] else []) else []) else [] := by
  unfold meetT
  by_cases c : validT x = true ∧ validT y = true ∧ max x.from_ y.from_ < min x.to_ y.to_
  · rw [if_pos c]
    have hvx := validB_lt (show validB x.from_ x.to_ = true from c.1)
    have hvy := validB_lt (show validB y.from_ y.to_ = true from c.2.1)
    have hv : validT (tupOf (pairRow (tupRow x) (tupRow y)) ⟨max x.from_ y.from_, min x.to_ y.to_⟩) = true := by
      unfold validT validB tupOf
      simp only [Bool.and_eq_true, decide_eq_true_eq]
      omega
    have hh : holdsAt t (tupOf (pairRow (tupRow x) (tupRow y)) ⟨max x.from_ y.from_, min x.to_ y.to_⟩) = (holdsAt t x && holdsAt t y) := by
      unfold holdsAt
      rw [hv, c.1, c.2.1, Bool.true_and, Bool.true_and, Bool.true_and, Bool.eq_iff_iff]
      unfold tupOf
      simp only [Bool.and_eq_true, decide_eq_true_eq]
      omega
    rw [List.filter_cons, List.filter_nil]
    show sliceRows (if tr (x.vals ++ y.vals) = true then _ else _) t = _
    unfold sliceRows
    by_cases c3 : tr (x.vals ++ y.vals) = true
    · rw [if_pos c3, List.filter_cons, List.filter_nil, hh, if_pos c3]
      cases holdsAt t x <;> cases holdsAt t y <;> rfl
    · rw [if_neg c3, if_neg c3]
      cases holdsAt t x <;> cases holdsAt t y <;> rfl
  · rw [if_neg c]
    by_cases c1 : holdsAt t x = true
    · by_cases c2 : holdsAt t y = true
      · exfalso
        apply c
        unfold holdsAt at c1 c2
        simp only [Bool.and_eq_true, decide_eq_true_eq] at c1 c2
        exact ⟨c1.1.1, c2.1.1, by omega⟩
      · rw [if_pos c1, if_neg c2]; rfl
    · rw [if_neg c1]; rfl
theorem slice_flatRow {β : Type} (l : List Tup) (t : Int) (f : Row → List β) : (sliceRows l t).flatMap f = (l.filter (holdsAt t)).flatMap fun x => f (tupRow x) := by
  unfold sliceRows
  rw [List.flatMap_map]
theorem join_rows (tr : List Val → Bool) (a b : List Tup) (t : Int) : (sliceRows (joinRaw tr a b) t).Perm (snapJoin tr (sliceRows a t) (sliceRows b t)) := by
  have h1 : (joinRaw tr a b).Perm (((rawPairs a b).map (pairT a b)).filter fun t => tr t.vals) := ((pairsOf_perm a b).map _).filter _
  have h2 : (sliceRows (joinRaw tr a b) t).Perm (sliceRows (((rawPairs a b).map (pairT a b)).filter fun t => tr t.vals) t) := (h1.filter _).map _
  refine h2.trans (List.Perm.of_eq ?_)
  rw [raw_join, filter_flat, slice_flatX]
  unfold snapJoin
  rw [slice_flatRow, ← flat_filter]
  refine flat_congr fun x _ => ?_
  rw [filter_flat, slice_flatX, joinRow_flat, slice_flatRow, ← flat_filter]
  by_cases c : holdsAt t x = true
  · rw [if_pos c]
    refine flat_congr fun y _ => ?_
    rw [meet_slice, if_pos c]
    rfl
  · rw [if_neg c]
    rw [List.flatMap_eq_nil_iff]
    intro y _
    rw [meet_slice, if_neg c]
noncomputable def innerT (tr : List Val → Bool) (a b : List Tup) : List Tup := normT (joinRaw tr a b)
theorem joinRow_perm (tr : List Val → Bool) {B B' : List Row} (h : B.Perm B') (x : Row) : (joinRow tr B x).Perm (joinRow tr B' x) := (h.map _).filter _
theorem flat_permF {α β : Type} {f g : α → List β} (l : List α) (h : ∀ x ∈ l, (f x).Perm (g x)) : (l.flatMap f).Perm (l.flatMap g) := by
  induction l with
  | nil => exact .refl _
  | cons x l ih => rw [List.flatMap_cons, List.flatMap_cons]; exact (h x (by simp)).append (ih fun y hy => h y (by simp [hy]))
theorem snapJoin_perm (tr : List Val → Bool) {A A' B B' : List Row} (h : A.Perm A') (k : B.Perm B') : (snapJoin tr A B).Perm (snapJoin tr A' B') := (h.flatMap_right _).trans (flat_permF _ fun x _ => joinRow_perm tr k x)
theorem inner_congr (tr : List Val → Bool) {a a' b b' : List Tup} (h : ∀ t, (sliceRows a t).Perm (sliceRows a' t)) (k : ∀ t, (sliceRows b t).Perm (sliceRows b' t)) : innerT tr a b = innerT tr a' b' :=
  normT_congr fun t => (join_rows tr a b t).trans ((snapJoin_perm tr (h t) (k t)).trans (join_rows tr a' b' t).symm)

/-- what is left of [at, to) beside the set -/
def subP1 (tz : Int) : Int → List Per → List Per
  | at_, [] => if at_ < tz then [⟨at_, tz⟩] else []
  | at_, q :: qs => if q.to_ ≤ at_ ∨ tz ≤ q.from_ then subP1 tz at_ qs else (if at_ < q.from_ then [⟨at_, q.from_⟩] else []) ++ subP1 tz q.to_ qs
theorem subP1_ends (tz : Int) : ∀ (qs : List Per) (at_ : Int), ∀ p ∈ subP1 tz at_ qs, at_ ≤ p.from_ ∧ p.from_ < p.to_ ∧ p.to_ ≤ tz := by
  intro qs
  induction qs with
  | nil =>
    intro at_ p hp
    unfold subP1 at hp
    split at hp
    · rw [List.mem_singleton] at hp; subst hp; simp only; omega
    · cases hp
  | cons q qs ih =>
    intro at_ p hp
    unfold subP1 at hp
    split at hp
    · exact ih at_ p hp
    · rename_i c
      rcases List.mem_append.1 hp with hp | hp
      · split at hp
        · rw [List.mem_singleton] at hp; subst hp; simp only; omega
        · cases hp
      · have := ih _ p hp; omega
open Classical in
theorem subP1_at (tz x : Int) : ∀ (qs : List Per) (at_ : Int), NormPer qs → ((subP1 tz at_ qs).filter (perHas x)).length = if at_ ≤ x ∧ x < tz ∧ ¬ inPer qs x then 1 else 0 := by
  intro qs
  induction qs with
  | nil =>
    intro at_ _
    unfold subP1
    by_cases c : at_ ≤ x ∧ x < tz
    · rw [if_pos (by omega), if_pos ⟨c.1, c.2, inPer_nil⟩, List.filter_cons, List.filter_nil, if_pos (by unfold perHas; simp [c])]
      rfl
    · have e : (if at_ ≤ x ∧ x < tz ∧ ¬ inPer [] x then 1 else 0) = 0 := if_neg fun h => c ⟨h.1, h.2.1⟩
      rw [e]
      split
      · rw [List.filter_cons, List.filter_nil, if_neg (by unfold perHas; simpa using c)]; rfl
      · rfl
  | cons q qs ih =>
    intro at_ hn
    obtain ⟨n1, n2⟩ := hn.head
    have hq : inPer (q :: qs) x ↔ (q.from_ ≤ x ∧ x < q.to_) ∨ inPer qs x := inPer_cons
    have hlater : inPer qs x → q.to_ < x := fun ⟨p, hp, h1, _⟩ => by have := n2 p hp; omega
    unfold subP1
    by_cases c : q.to_ ≤ at_ ∨ tz ≤ q.from_
    · rw [if_pos c, ih at_ hn.tail]
      by_cases c2 : inPer qs x
      · rw [if_neg (fun h => h.2.2 c2), if_neg (fun h => h.2.2 (hq.2 (.inr c2)))]
      · by_cases c3 : at_ ≤ x ∧ x < tz
        · rw [if_pos ⟨c3.1, c3.2, c2⟩, if_pos ⟨c3.1, c3.2, fun h => by
            rcases hq.1 h with h | h
            · omega
            · exact c2 h⟩]
        · rw [if_neg (fun h => c3 ⟨h.1, h.2.1⟩), if_neg (fun h => c3 ⟨h.1, h.2.1⟩)]
    · rw [if_neg c, List.filter_append, List.length_append, ih q.to_ hn.tail]
      have hone : ((if at_ < q.from_ then [(⟨at_, q.from_⟩ : Per)] else []).filter (perHas x)).length = if at_ ≤ x ∧ x < q.from_ then 1 else 0 := by
        by_cases c2 : at_ ≤ x ∧ x < q.from_
        · rw [if_pos c2, if_pos (by omega), List.filter_cons, List.filter_nil, if_pos (by unfold perHas; simp [c2])]; rfl
        · rw [if_neg c2]
          split
          · rw [List.filter_cons, List.filter_nil, if_neg (by unfold perHas; simpa using c2)]; rfl
          · rfl
      rw [hone]
      by_cases c2 : inPer qs x
      · have := hlater c2
        rw [if_neg (by omega), if_neg (fun h => h.2.2 c2), if_neg (fun h => h.2.2 (hq.2 (.inr c2)))]
      · by_cases c3 : x < q.from_
        · rw [if_neg (show ¬ (q.to_ ≤ x ∧ x < tz ∧ ¬ inPer qs x) from fun h => by omega)]
          by_cases c4 : at_ ≤ x
          · rw [if_pos ⟨c4, c3⟩, if_pos ⟨c4, by omega, fun h => by
              rcases hq.1 h with h | h
              · omega
              · exact c2 h⟩]
          · rw [if_neg (fun h => c4 h.1), if_neg (fun h => c4 h.1)]
        · rw [if_neg (show ¬ (at_ ≤ x ∧ x < q.from_) from fun h => c3 h.2)]
          by_cases c4 : x < q.to_
          · rw [if_neg (by omega), if_neg (fun h => h.2.2 (hq.2 (.inl ⟨by omega, c4⟩)))]
          · by_cases c5 : x < tz
            · rw [if_pos ⟨by omega, c5, c2⟩, if_pos ⟨by omega, c5, fun h => by
                rcases hq.1 h with h | h
                · omega
                · exact c2 h⟩]
            · rw [if_neg (fun h => c5 h.2.1), if_neg (fun h => c5 h.2.1)]
def subPs (a b : List Per) : List Per := (refNorm a).flatMap fun p => subP1 p.to_ p.from_ (refNorm b)
theorem refNorm_one (p : Per) : refNorm [p] = if validB p.from_ p.to_ = true then [p] else [] := by
  unfold refNorm
  rw [List.filter_cons, List.filter_nil]
  split
  · rfl
  · rfl
/-- the periods in which a tuple has partners -/
def partners (tr : List Val → Bool) (a b : List Tup) (i : Nat) : List Per := ((pairsOf a b).filter fun p => decide (p.a = i) && tr (pairT a b p).vals).map fun p => ⟨p.from_, p.to_⟩
def padRow (w : Nat) (r : Row) : Row := ⟨r.vals ++ List.replicate w nV, r.lin⟩
def padAt (tr : List Val → Bool) (w : Nat) (a b : List Tup) (k : Nat) : List Tup := (subPs [tupPer (a.getD k tupD)] (partners tr a b k)).map (tupOf (padRow w (tupRow (a.getD k tupD))))
def padUpto (tr : List Val → Bool) (w : Nat) (a b : List Tup) : Nat → List Tup
  | 0 => []
  | k + 1 => padUpto tr w a b k ++ padAt tr w a b k
def leftRaw (tr : List Val → Bool) (w : Nat) (a b : List Tup) : List Tup := joinRaw tr a b ++ padUpto tr w a b a.length
noncomputable def leftT (tr : List Val → Bool) (w : Nat) (a b : List Tup) : List Tup := normT (leftRaw tr w a b)
def padOf (w : Nat) (m : List Row) (x : Row) : List Row := if m.isEmpty = true then [padRow w x] else []
def snapLeft (tr : List Val → Bool) (w : Nat) (A B : List Row) : List Row := A.flatMap fun x => joinRow tr B x ++ padOf w (joinRow tr B x) x
theorem pairs_valid {a b : List Tup} {p : Pair} (h : p ∈ pairsOf a b) : validB p.from_ p.to_ = true := by
  obtain ⟨x, y, _, _, h3, h4, h5, h6, h7⟩ := rawPairs_iff.1 ((pairsOf_perm a b).mem_iff.1 h)
  have := validB_lt h6
  have := validB_lt h7
  unfold validB
  simp only [Bool.and_eq_true, decide_eq_true_eq]
  omega
theorem getD_some {α : Type} {l : List α} {k : Nat} {x d : α} (h : l[k]? = some x) : l.getD k d = x := by rw [List.getD_eq_getElem?_getD, h]; rfl
theorem joinRow_none (tr : List Val → Bool) (b : List Tup) (t : Int) (r : Row) : (joinRow tr (sliceRows b t) r).isEmpty = false ↔ ∃ y ∈ b, holdsAt t y = true ∧ tr (r.vals ++ y.vals) = true := by
  rw [List.isEmpty_eq_false_iff_exists_mem]
  unfold joinRow sliceRows
  constructor
  · rintro ⟨z, hz⟩
    obtain ⟨h1, h2⟩ := List.mem_filter.1 hz
    obtain ⟨u, hu, rfl⟩ := List.mem_map.1 h1
    obtain ⟨y, hy, rfl⟩ := List.mem_map.1 hu
    exact ⟨y, (List.mem_filter.1 hy).1, (List.mem_filter.1 hy).2, h2⟩
  · rintro ⟨y, h1, h2, h3⟩
    exact ⟨pairRow r (tupRow y), List.mem_filter.2 ⟨List.mem_map.2 ⟨tupRow y, List.mem_map.2 ⟨y, List.mem_filter.2 ⟨h1, h2⟩, rfl⟩, rfl⟩, h3⟩⟩
theorem partners_at (tr : List Val → Bool) (a b : List Tup) (k : Nat) (hk : k < a.length) (t : Int) (hh : holdsAt t a[k] = true) : inPer (refNorm (partners tr a b k)) t ↔ (joinRow tr (sliceRows b t) (tupRow a[k])).isEmpty = false := by
  rw [(refNorm_law _).2, joinRow_none]
  have hk2 : a[k]? = some a[k] := List.getElem?_eq_getElem hk
  unfold holdsAt at hh
  simp only [Bool.and_eq_true, decide_eq_true_eq] at hh
  constructor
  · rintro ⟨p, hp, h1, h2⟩
    obtain ⟨hp1, _⟩ := List.mem_filter.1 hp
    obtain ⟨q, hq, rfl⟩ := List.mem_map.1 hp1
    obtain ⟨hq1, hq2⟩ := List.mem_filter.1 hq
    simp only [Bool.and_eq_true, decide_eq_true_eq] at hq2
    obtain ⟨x, y, g1, g2, g3, g4, g5, g6, g7⟩ := rawPairs_iff.1 ((pairsOf_perm a b).mem_iff.1 hq1)
    have hx : a[k]? = some x := by rw [← hq2.1]; exact g1
    rw [hk2] at hx
    have hxe := Option.some.inj hx
    simp only at h1 h2
    refine ⟨y, List.mem_of_getElem? g2, ?_, ?_⟩
    · unfold holdsAt validT
      rw [g7, Bool.true_and]
      simp only [Bool.and_eq_true, decide_eq_true_eq]
      omega
    · have := hq2.2
      unfold pairT pairRow tupOf at this
      simp only [getD_some g1, getD_some g2] at this
      rw [hxe]
      exact this
  · rintro ⟨y, h1, h2, h3⟩
    obtain ⟨j, hj, rfl⟩ := List.getElem_of_mem h1
    unfold holdsAt at h2
    simp only [Bool.and_eq_true, decide_eq_true_eq] at h2
    have hv1 : validB a[k].from_ a[k].to_ = true := hh.1.1
    have hv2 : validB b[j].from_ b[j].to_ = true := h2.1.1
    have hj2 : b[j]? = some b[j] := List.getElem?_eq_getElem hj
    have hm : (⟨k, j, max a[k].from_ b[j].from_, min a[k].to_ b[j].to_⟩ : Pair) ∈ pairsOf a b := (pairsOf_perm a b).mem_iff.2 (rawPairs_iff.2 ⟨a[k], b[j], hk2, hj2, rfl, rfl, by simp only; omega, hv1, hv2⟩)
    refine ⟨⟨max a[k].from_ b[j].from_, min a[k].to_ b[j].to_⟩, List.mem_filter.2 ⟨?_, pairs_valid hm⟩, by simp only; omega, by simp only; omega⟩
    refine List.mem_map.2 ⟨_, List.mem_filter.2 ⟨hm, ?_⟩, rfl⟩
    simp only [decide_true, Bool.true_and]
    unfold pairT pairRow tupOf
    simp only [getD_some hk2, getD_some hj2]
    exact h3
theorem padAt_slice (tr : List Val → Bool) (w : Nat) (a b : List Tup) (k : Nat) (hk : k < a.length) (t : Int) : sliceRows (padAt tr w a b k) t = if holdsAt t a[k] = true then padOf w (joinRow tr (sliceRows b t) (tupRow a[k])) (tupRow a[k]) else [] := by
  have hg : a.getD k tupD = a[k] := getD_some (List.getElem?_eq_getElem hk)
  unfold padAt subPs
  rw [hg, refNorm_one]
  by_cases hv : validB (tupPer a[k]).from_ (tupPer a[k]).to_ = true
  · rw [if_pos hv, List.flatMap_cons, List.flatMap_nil, List.append_nil]
    have hvl := validB_lt hv
    have e1 : sliceRows ((subP1 (tupPer a[k]).to_ (tupPer a[k]).from_ (refNorm (partners tr a b k))).map (tupOf (padRow w (tupRow a[k])))) t = List.replicate ((subP1 (tupPer a[k]).to_ (tupPer a[k]).from_ (refNorm (partners tr a b k))).filter (perHas t)).length (padRow w (tupRow a[k])) := by
      unfold sliceRows
      rw [List.filter_map, List.map_map, show (tupRow ∘ tupOf (padRow w (tupRow a[k]))) = fun _ => padRow w (tupRow a[k]) from rfl, List.map_const']
      congr 2
      refine List.filter_congr fun p hp => ?_
      have hp := subP1_ends _ _ _ p hp
      have hvp : validB p.from_ p.to_ = true := by
        unfold validB
        simp only [Bool.and_eq_true, decide_eq_true_eq]
        omega
      simp only [Function.comp, holdsAt, validT, tupOf, perHas]
      rw [hvp, Bool.true_and]
      rfl
    have hlen := subP1_at (tupPer a[k]).to_ t (refNorm (partners tr a b k)) (tupPer a[k]).from_ (refNorm_law _).1
    have hlen1 := fun h => hlen.trans (if_pos h)
    have hlen0 := fun h => hlen.trans (if_neg h)
    rw [e1]
    have hpf : (tupPer a[k]).from_ = a[k].from_ := rfl
    have hpt : (tupPer a[k]).to_ = a[k].to_ := rfl
    have hv' : validT a[k] = true := hv
    have hh : holdsAt t a[k] = true ↔ (tupPer a[k]).from_ ≤ t ∧ t < (tupPer a[k]).to_ := by
      unfold holdsAt
      rw [hv', Bool.true_and, hpf, hpt]
      simp only [Bool.and_eq_true, decide_eq_true_eq]
    by_cases c : holdsAt t a[k] = true
    · have hp := partners_at tr a b k hk t c
      rw [if_pos c]
      unfold padOf
      obtain ⟨c1, c2⟩ := hh.1 c
      cases hm : (joinRow tr (sliceRows b t) (tupRow a[k])).isEmpty with
      | false => rw [hlen0 (fun h => h.2.2 (hp.2 hm)), if_neg (by simp)]; rfl
      | true => rw [hlen1 ⟨c1, c2, fun h => by rw [hp.1 h] at hm; cases hm⟩, if_pos rfl]; rfl
    · rw [hlen0 (fun h => c (hh.2 ⟨h.1, h.2.1⟩)), if_neg c]
      rfl
  · rw [if_neg hv]
    have : holdsAt t a[k] = false := by
      unfold holdsAt
      have : validT a[k] = false := by simpa using (show ¬ validT a[k] = true from hv)
      rw [this]
      rfl
    rw [this]
    rfl
theorem padUpto_slice (tr : List Val → Bool) (w : Nat) (a b : List Tup) (t : Int) (k : Nat) (hk : k ≤ a.length) : sliceRows (padUpto tr w a b k) t = ((a.take k).filter (holdsAt t)).flatMap fun x => padOf w (joinRow tr (sliceRows b t) (tupRow x)) (tupRow x) := by
  induction k with
  | zero => rfl
  | succ k ih =>
    rw [padUpto, sliceRows_append, ih (by omega), padAt_slice tr w a b k (by omega), List.take_succ_eq_append_getElem (by omega), List.filter_append, List.flatMap_append]
    congr 1
    rw [List.filter_cons, List.filter_nil]
    split
    · rw [List.flatMap_cons, List.flatMap_nil, List.append_nil]
    · rfl
theorem leftRaw_rows (tr : List Val → Bool) (w : Nat) (a b : List Tup) (t : Int) : (sliceRows (leftRaw tr w a b) t).Perm (snapLeft tr w (sliceRows a t) (sliceRows b t)) := by
  unfold leftRaw snapLeft
  rw [sliceRows_append, padUpto_slice tr w a b t a.length (Nat.le_refl _), List.take_length]
  have h1 := join_rows tr a b t
  unfold snapJoin at h1
  refine (h1.append_right _).trans ?_
  rw [← slice_flatRow (f := fun x => padOf w (joinRow tr (sliceRows b t) x) x)]
  exact flat_perm2 _ _ _
theorem padOf_perm (w : Nat) {m m' : List Row} (h : m.Perm m') (x : Row) : padOf w m x = padOf w m' x := by
  unfold padOf
  rw [h.isEmpty_eq]
theorem snapLeft_perm (tr : List Val → Bool) (w : Nat) {A A' B B' : List Row} (h : A.Perm A') (k : B.Perm B') : (snapLeft tr w A B).Perm (snapLeft tr w A' B') :=
  (h.flatMap_right _).trans (flat_permF _ fun x _ => by
    have h1 := joinRow_perm tr k x
    rw [padOf_perm w h1 x]
    exact h1.append_right _)
theorem left_congr (tr : List Val → Bool) (w : Nat) {a a' b b' : List Tup} (h : ∀ t, (sliceRows a t).Perm (sliceRows a' t)) (k : ∀ t, (sliceRows b t).Perm (sliceRows b' t)) : leftT tr w a b = leftT tr w a' b' :=
  normT_congr fun t => (leftRaw_rows tr w a b t).trans ((snapLeft_perm tr w (h t) (k t)).trans (leftRaw_rows tr w a' b' t).symm)

/-- a tuple cut at points -/
def cutT (t : Tup) : Int → List Int → List Tup
  | from_, [] => [⟨t.vals, from_, t.to_, t.lin⟩]
  | from_, p :: ps => if t.to_ ≤ p then [⟨t.vals, from_, t.to_, t.lin⟩] else if from_ < p then ⟨t.vals, from_, p, t.lin⟩ :: cutT t p ps else cutT t from_ ps
def splitT (l : List Tup) (P : List Int) : List Tup := l.flatMap fun t => if validT t = true then cutT t t.from_ P else []
theorem cutT_slice (t : Tup) (x : Int) : ∀ (P : List Int) (f : Int), validB f t.to_ = true → sliceRows (cutT t f P) x = if f ≤ x ∧ x < t.to_ then [tupRow t] else [] := by
  have hone : ∀ f g : Int, validB f g = true → sliceRows [⟨t.vals, f, g, t.lin⟩] x = if f ≤ x ∧ x < g then [tupRow t] else [] := fun f g h => by
    unfold sliceRows
    rw [List.filter_cons, List.filter_nil]
    have e : holdsAt x ⟨t.vals, f, g, t.lin⟩ = (decide (f ≤ x) && decide (x < g)) := by
      unfold holdsAt validT
      simp only
      rw [h, Bool.true_and]
    rw [e]
    by_cases c : f ≤ x ∧ x < g
    · rw [if_pos c, if_pos (by simp [c])]; rfl
    · rw [if_neg c, if_neg (by simpa using c)]; rfl
  intro P
  induction P with
  | nil => intro f h; exact hone f _ h
  | cons p P ih =>
    intro f h
    have hv := validB_lt h
    unfold cutT
    split
    · exact hone f _ h
    split
    · rename_i c1 c2
      have v1 : validB f p = true := by unfold validB; simp only [Bool.and_eq_true, decide_eq_true_eq]; omega
      have v2 : validB p t.to_ = true := by unfold validB; simp only [Bool.and_eq_true, decide_eq_true_eq]; omega
      have e : sliceRows (⟨t.vals, f, p, t.lin⟩ :: cutT t p P) x = sliceRows [⟨t.vals, f, p, t.lin⟩] x ++ sliceRows (cutT t p P) x := sliceRows_append [_] _ x
      rw [e, hone f p v1, ih p v2]
      by_cases a1 : f ≤ x ∧ x < p
      · rw [if_pos a1, if_neg (by omega), if_pos (by omega)]; rfl
      · rw [if_neg a1]
        by_cases a2 : p ≤ x ∧ x < t.to_
        · rw [if_pos a2, if_pos (by omega)]; rfl
        · rw [if_neg a2, if_neg (by omega)]; rfl
    · exact ih f h
theorem split_slice (l : List Tup) (P : List Int) (x : Int) : sliceRows (splitT l P) x = sliceRows l x := by
  unfold splitT
  rw [slice_flatX]
  induction l with
  | nil => rfl
  | cons t l ih =>
    rw [List.flatMap_cons, ih]
    have e : sliceRows (t :: l) x = sliceRows [t] x ++ sliceRows l x := sliceRows_append [t] l x
    rw [e]
    congr 1
    cases hv : validT t with
    | false =>
      rw [if_neg (by simp)]
      unfold sliceRows holdsAt
      rw [List.filter_cons, hv]
      rfl
    | true =>
      rw [if_pos rfl, cutT_slice t x P _ hv]
      unfold sliceRows
      rw [List.filter_cons, List.filter_nil]
      unfold holdsAt
      rw [hv, Bool.true_and]
      by_cases c : t.from_ ≤ x ∧ x < t.to_
      · rw [if_pos c, if_pos (by simp [c])]; rfl
      · rw [if_neg c, if_neg (by simpa using c)]; rfl

end Go.Proofs.YtdgpbpbjlnlijaaGreatDoor

/- what join.matches holds between its rounds; no program in sight -/
namespace Go.Proofs.YtdgpbpbjlnlijaaGreatDoor
open Go.RowKit

structure MInv (w : World) (pb n base : Nat) (T1 T2 : TypeId) (f : Nat → Value) (u : Value) (js : List Tup) (ps : Nat → List Per) : Prop where
  fam : Fam Rep.per w (fun _ => False) base T1 n f ps
  out : OwnOf Rep.tup w (Off f n pb) base T2 u js
  cell : ∀ i, i < n → w.cell? ⟨pb, i, none⟩ = some (f i)
  free : ∀ i, i < n → w.frozen? ⟨pb, i, none⟩ = false
  ap : ∀ i, i < n → Apart u (f i)
  lo : pb < base
  hi : base ≤ w.heap.size
section
variable {w w' : World} {pb n base : Nat} {T1 T2 : TypeId} {f : Nat → Value} {u : Value} {js : List Tup} {ps : Nat → List Per}
theorem MInv.ext (h : MInv w pb n base T1 T2 f u js ps) (hx : Ext w w') : MInv w' pb n base T1 T2 f u js ps :=
  ⟨h.fam.ext hx, h.out.ext hx, fun i hi => hx.at (h.cell i hi), fun i hi => hx.unfrozen (h.cell i hi) (h.free i hi), h.ap, h.lo, Nat.le_trans h.hi hx.size⟩
theorem MInv.push (h : MInv w pb n base T1 T2 f u js ps) {g a b : Nat} {ys : List Tup} (own : OwnOf Rep.tup w' (Off f n pb) base T2 (.slice (some ⟨g, 0, none⟩) a b) ys) (gr : w.grownBy w' u.ownBlock) (hg : u.ownBlock = some g ∨ g = w.heap.size) :
    MInv w' pb n base T1 T2 f (.slice (some ⟨g, 0, none⟩) a b) ys ps := by
  have hpb : ∀ k, u.ownBlock = some k → k ≠ pb := fun k hk e => by have := h.out.base k hk; have := h.lo; omega
  refine ⟨h.fam.keep gr (fun k hk => hk.elim) (fun i k hi hk e => h.ap i hi k e hk), own, fun i hi => cell_grown gr (h.cell i hi) hpb, fun i hi => ?_, fun i hi => ?_, h.lo, Nat.le_trans h.hi gr.size⟩
  · exact (World.frozen?_of_block (w := w) (gr.block pb (cell_lt (h.cell i hi)) fun e => hpb pb e.symm rfl)).trans (h.free i hi)
  · exact ((h.ap i hi).symm.grow (fun x hx => ((h.fam.own i hi).lt x hx).2) hg).symm
theorem MInv.part (h : MInv w pb n base T1 T2 f u js ps) {i : Nat} (hi : i < n) {g a b : Nat} {ys : List Per} (own : OwnOf Rep.per w' (fun _ => False) base T1 (.slice (some ⟨g, 0, none⟩) a b) ys) (gr : w.grownBy w' (f i).ownBlock) (hg : (f i).ownBlock = some g ∨ g = w.heap.size) :
    MInv (w'.setCell ⟨pb, i, none⟩ (.slice (some ⟨g, 0, none⟩) a b)) pb n base T1 T2 (updF f i (.slice (some ⟨g, 0, none⟩) a b)) u js (updF ps i ys) := by
  have hpb : ∀ k, (f i).ownBlock = some k → k ≠ pb := fun k hk e => by have := (h.fam.own i hi).base k hk; have := h.lo; omega
  have hc : ∀ j, j < n → w'.cell? ⟨pb, j, none⟩ = some (f j) := fun j hj => cell_grown gr (h.cell j hj) hpb
  refine ⟨(h.fam.step hi own gr hg (fun k hk => hk.elim)).set _ h.lo (fun h => h), (off_step h.out hi gr hg (h.ap i hi)).set _ h.lo (fun h => h.1 rfl), fun j hj => ?_, fun j hj => ?_, fun j hj => ?_, h.lo, ?_⟩
  · by_cases c : j = i
    · subst c
      rw [updF_same]
      exact World.cell?_setCell_same' _ _ _ (by rw [hc j hj]; rfl)
    · rw [updF_other _ _ c, World.cell?_setCell_other _ _ _ _ (by simp; try omega)]
      exact hc j hj
  · rw [World.frozen?_setCell]
    exact (World.frozen?_of_block (w := w) (gr.block pb (cell_lt (h.cell j hj)) fun e => hpb pb e.symm rfl)).trans (h.free j hj)
  · by_cases c : j = i
    · subst c
      rw [updF_same]
      exact (h.ap j hj).grow (fun x hx => (h.out.lt x hx).2) hg
    · rw [updF_other _ _ c]; exact h.ap j hj
  · exact Nat.le_trans h.hi (Nat.le_trans gr.size ((chg_set w' ⟨pb, i, none⟩ _).size))
theorem rep_fam {α : Type} {R : Rep α} {h : View} {f : Nat → Value} {xs : Nat → List α} (n : Nat) (k : ∀ i, i < n → SliceOf R h (f i) (xs i)) : RepAll (Rep.slice R) h ((List.range n).map fun i => [f i]) ((List.range n).map xs) := by
  induction n with
  | zero => trivial
  | succ n ih =>
    rw [List.range_succ, List.map_append, List.map_append]
    exact (ih fun i hi => k i (by omega)).append (RepAll.one ⟨_, rfl, k n (by omega)⟩)
theorem flat_sing {α β : Type} (f : α → β) (l : List α) : l.flatMap (fun i => [f i]) = l.map f := by
  induction l with
  | nil => rfl
  | cons x l ih => rw [List.flatMap_cons, ih]; rfl
theorem MInv.parts (h : MInv w pb n base T1 T2 f u js ps) (hn : n ≤ maxLen) : SliceOf (Rep.slice Rep.per) (on w (fun k => u.ownBlock ≠ some k)) (.slice (some ⟨pb, 0, none⟩) n n) ((List.range n).map ps) := by
  have hpb : u.ownBlock ≠ some pb := fun e => by have := h.out.base pb e; have := h.lo; omega
  refine ⟨_, rep_fam n (f := f) fun i hi => SliceOf.flatOn flat_per (h.fam.own i hi).slice fun ad m c e => fun e2 => h.ap i hi ad.block e2 (by rw [e]; rfl), ?_⟩
  rw [List.length_map, List.length_range]
  refine .inr ⟨_, n, rfl, Nat.le_refl _, hn, .inr ⟨pb, 0, rfl, fun j v hj => on_some.2 ⟨hpb, ?_⟩⟩⟩
  have e : ((List.range n).map fun i => [f i]).flatten = (List.range n).map f := by
    rw [← List.flatMap_def]
    exact flat_sing f _
  rw [e, List.getElem?_map] at hj
  rw [Nat.zero_add]
  by_cases c : j < n
  · rw [List.getElem?_range c] at hj
    have : f j = v := by simpa using hj
    rw [← this]
    exact h.cell j c
  · rw [List.getElem?_eq_none (by simpa using c)] at hj
    cases hj
end
/-- after k pairs -/
def joinUpto (tr : List Val → Bool) (a b : List Tup) (L : List Pair) (k : Nat) : List Tup := ((L.take k).map (pairT a b)).filter fun t => tr t.vals
def partUpto (tr : List Val → Bool) (a b : List Tup) (L : List Pair) (k i : Nat) : List Per := ((L.take k).filter fun p => decide (p.a = i) && tr (pairT a b p).vals).map fun p => ⟨p.from_, p.to_⟩
theorem joinUpto_snoc (tr : List Val → Bool) (a b : List Tup) (L : List Pair) (k : Nat) (h : k < L.length) : joinUpto tr a b L (k + 1) = joinUpto tr a b L k ++ if tr (pairT a b L[k]).vals = true then [pairT a b L[k]] else [] := by
  unfold joinUpto
  rw [List.take_succ_eq_append_getElem h, List.map_append, List.filter_append, List.map_cons, List.map_nil, List.filter_cons, List.filter_nil]
theorem joinUpto_no (tr : List Val → Bool) (a b : List Tup) (L : List Pair) (k : Nat) (h : k < L.length) (hn : tr (pairT a b L[k]).vals = false) : joinUpto tr a b L (k + 1) = joinUpto tr a b L k := by
  rw [joinUpto_snoc tr a b L k h, if_neg (by rw [hn]; decide), List.append_nil]
theorem joinUpto_yes (tr : List Val → Bool) (a b : List Tup) (L : List Pair) (k : Nat) (h : k < L.length) (hn : tr (pairT a b L[k]).vals = true) : joinUpto tr a b L (k + 1) = joinUpto tr a b L k ++ [pairT a b L[k]] := by
  rw [joinUpto_snoc tr a b L k h, if_pos hn]
theorem joinUpto_len (tr : List Val → Bool) (a b : List Tup) (L : List Pair) (k : Nat) : (joinUpto tr a b L k).length ≤ L.length := by
  unfold joinUpto
  refine Nat.le_trans (List.length_filter_le _ _) ?_
  rw [List.length_map]
  exact List.length_take_le' _ _
theorem partUpto_len (tr : List Val → Bool) (a b : List Tup) (L : List Pair) (k i : Nat) : (partUpto tr a b L k i).length ≤ L.length := by
  unfold partUpto
  rw [List.length_map]
  exact Nat.le_trans (List.length_filter_le _ _) (List.length_take_le' _ _)
theorem partUpto_no (tr : List Val → Bool) (a b : List Tup) (L : List Pair) (k : Nat) (h : k < L.length) (hn : tr (pairT a b L[k]).vals = false) : partUpto tr a b L (k + 1) = partUpto tr a b L k := by
  funext i
  unfold partUpto
  rw [List.take_succ_eq_append_getElem h, List.filter_append, List.map_append, List.filter_cons, List.filter_nil, hn, Bool.and_false, if_neg (by decide)]
  simp
theorem partUpto_yes (tr : List Val → Bool) (a b : List Tup) (L : List Pair) (k : Nat) (h : k < L.length) (hy : tr (pairT a b L[k]).vals = true) : partUpto tr a b L (k + 1) = updF (partUpto tr a b L k) L[k].a (partUpto tr a b L k L[k].a ++ [⟨L[k].from_, L[k].to_⟩]) := by
  funext i
  by_cases c : i = L[k].a
  · subst c
    rw [updF_same]
    unfold partUpto
    rw [List.take_succ_eq_append_getElem h, List.filter_append, List.map_append, List.filter_cons, List.filter_nil, hy, Bool.and_true, if_pos (by simp)]
    rfl
  · rw [updF_other _ _ c]
    unfold partUpto
    rw [List.take_succ_eq_append_getElem h, List.filter_append, List.map_append, List.filter_cons, List.filter_nil, if_neg (by simp; omega)]
    simp
end Go.Proofs.YtdgpbpbjlnlijaaGreatDoor

/- the tuples that the laws build out of numbers (annalistlaw0.Tuple) -/
namespace Go.Proofs.YtdgpbpbjlnlijaaGreatDoor
open Go.RowKit

/-- five numbers of 16 bits -/
structure Num5 where
  a : Int
  b : Int
  c : Int
  d : Int
  e : Int
def okNum (x : Num5) : Prop := (0 ≤ x.a ∧ x.a ≤ 65535) ∧ (0 ≤ x.b ∧ x.b ≤ 65535) ∧ (0 ≤ x.c ∧ x.c ≤ 65535) ∧ (0 ≤ x.d ∧ x.d ≤ 65535) ∧ (0 ≤ x.e ∧ x.e ≤ 65535)
def Rep.num : Rep Num5 where
  size := 5
  holds _ cs x := cs = [.int .u16 x.a, .int .u16 x.b, .int .u16 x.c, .int .u16 x.d, .int .u16 x.e] ∧ okNum x
  len := by rintro w cs x ⟨rfl, _⟩; rfl
  ext := by rintro w w' cs x h _; exact h
  one := by rintro w cs x ⟨rfl, _⟩; simp [Value.oneCell']
def genTup (x : Num5) : Tup := ⟨genVals x.c x.d, genFrom x.a, genTo x.a x.b, [1 + x.e % 5]⟩

/-- five cells of a block, kept by the store of four others -/
theorem keepW4 {W wa : World} {B b : Nat} {u0 u1 u2 u3 v0 v1 v2 v3 v4 : Value}
    (h : Ext W wa ∧ wa.cell? ⟨b, 0, none⟩ = some v0 ∧ wa.cell? ⟨b, 1, none⟩ = some v1 ∧ wa.cell? ⟨b, 2, none⟩ = some v2 ∧ wa.cell? ⟨b, 3, none⟩ = some v3 ∧ wa.cell? ⟨b, 4, none⟩ = some v4) (hB : W.heap.size ≤ B) (hb : B ≠ b) :
    Ext W ((((wa.setCell ⟨B, 0, none⟩ u0).setCell ⟨B, 1, none⟩ u1).setCell ⟨B, 2, none⟩ u2).setCell ⟨B, 3, none⟩ u3) ∧ ((((wa.setCell ⟨B, 0, none⟩ u0).setCell ⟨B, 1, none⟩ u1).setCell ⟨B, 2, none⟩ u2).setCell ⟨B, 3, none⟩ u3).cell? ⟨b, 0, none⟩ = some v0 ∧ ((((wa.setCell ⟨B, 0, none⟩ u0).setCell ⟨B, 1, none⟩ u1).setCell ⟨B, 2, none⟩ u2).setCell ⟨B, 3, none⟩ u3).cell? ⟨b, 1, none⟩ = some v1 ∧ ((((wa.setCell ⟨B, 0, none⟩ u0).setCell ⟨B, 1, none⟩ u1).setCell ⟨B, 2, none⟩ u2).setCell ⟨B, 3, none⟩ u3).cell? ⟨b, 2, none⟩ = some v2 ∧ ((((wa.setCell ⟨B, 0, none⟩ u0).setCell ⟨B, 1, none⟩ u1).setCell ⟨B, 2, none⟩ u2).setCell ⟨B, 3, none⟩ u3).cell? ⟨b, 3, none⟩ = some v3 ∧ ((((wa.setCell ⟨B, 0, none⟩ u0).setCell ⟨B, 1, none⟩ u1).setCell ⟨B, 2, none⟩ u2).setCell ⟨B, 3, none⟩ u3).cell? ⟨b, 4, none⟩ = some v4 :=
  ⟨Below.setCell (Below.setCell (Below.setCell (Below.setCell h.1 hB u0) hB u1) hB u2) hB u3, cell_set (cell_set (cell_set (cell_set h.2.1 hb) hb) hb) hb, cell_set (cell_set (cell_set (cell_set h.2.2.1 hb) hb) hb) hb, cell_set (cell_set (cell_set (cell_set h.2.2.2.1 hb) hb) hb) hb, cell_set (cell_set (cell_set (cell_set h.2.2.2.2.1 hb) hb) hb) hb, cell_set (cell_set (cell_set (cell_set h.2.2.2.2.2 hb) hb) hb) hb⟩
/-- four cells that may be written, as they stand in a later world -/
def Free4 (w : World) (B : Nat) : Prop := (∃ u, w.cell? ⟨B, 0, none⟩ = some u) ∧ (∃ u, w.cell? ⟨B, 1, none⟩ = some u) ∧ (∃ u, w.cell? ⟨B, 2, none⟩ = some u) ∧ (∃ u, w.cell? ⟨B, 3, none⟩ = some u) ∧ w.frozen? ⟨B, 0, none⟩ = false ∧ w.frozen? ⟨B, 1, none⟩ = false ∧ w.frozen? ⟨B, 2, none⟩ = false ∧ w.frozen? ⟨B, 3, none⟩ = false
theorem Free4.ext {w w' : World} {B : Nat} (h : Free4 w B) (hx : Ext w w') : Free4 w' B := by
  obtain ⟨⟨a, ha⟩, ⟨b, hb⟩, ⟨c, hc⟩, ⟨d, hd⟩, fa, fb, fc, fd⟩ := h
  exact ⟨⟨a, hx.at ha⟩, ⟨b, hx.at hb⟩, ⟨c, hx.at hc⟩, ⟨d, hx.at hd⟩, hx.unfrozen ha fa, hx.unfrozen hb fb, hx.unfrozen hc fc, hx.unfrozen hd fd⟩

theorem set4_read {wa : World} {B : Nat} (h : Free4 wa B) (u0 u1 u2 u3 : Value) :
    ((((wa.setCell ⟨B, 0, none⟩ u0).setCell ⟨B, 1, none⟩ u1).setCell ⟨B, 2, none⟩ u2).setCell ⟨B, 3, none⟩ u3).cell? ⟨B, 0, none⟩ = some u0 ∧ ((((wa.setCell ⟨B, 0, none⟩ u0).setCell ⟨B, 1, none⟩ u1).setCell ⟨B, 2, none⟩ u2).setCell ⟨B, 3, none⟩ u3).cell? ⟨B, 1, none⟩ = some u1 ∧ ((((wa.setCell ⟨B, 0, none⟩ u0).setCell ⟨B, 1, none⟩ u1).setCell ⟨B, 2, none⟩ u2).setCell ⟨B, 3, none⟩ u3).cell? ⟨B, 2, none⟩ = some u2 ∧ ((((wa.setCell ⟨B, 0, none⟩ u0).setCell ⟨B, 1, none⟩ u1).setCell ⟨B, 2, none⟩ u2).setCell ⟨B, 3, none⟩ u3).cell? ⟨B, 3, none⟩ = some u3 := by
  obtain ⟨⟨a, ha⟩, ⟨b, hb⟩, ⟨c, hc⟩, ⟨d, hd⟩, _⟩ := h
  refine ⟨?_, ?_, ?_, ?_⟩ <;> go_simp
theorem alloc4_read {w : World} {B : Nat} {u0 u1 u2 u3 : Value} (h : w.cell? ⟨B, 0, none⟩ = some u0 ∧ w.cell? ⟨B, 1, none⟩ = some u1 ∧ w.cell? ⟨B, 2, none⟩ = some u2 ∧ w.cell? ⟨B, 3, none⟩ = some u3) (o : Obj) :
    (w.alloc o).cell? ⟨B, 0, none⟩ = some u0 ∧ (w.alloc o).cell? ⟨B, 1, none⟩ = some u1 ∧ (w.alloc o).cell? ⟨B, 2, none⟩ = some u2 ∧ (w.alloc o).cell? ⟨B, 3, none⟩ = some u3 :=
  ⟨cell_alloc h.1 o, cell_alloc h.2.1 o, cell_alloc h.2.2.1 o, cell_alloc h.2.2.2 o⟩

theorem ret4 {P : Program} {fn : Func} {R : Ending → World → Prop} {a : Act} {wa : World} {B : Nat} {u0 u1 u2 u3 : Value} (h : Free4 wa B)
    (hr : (((((wa.setCell ⟨B, 0, none⟩ u0).setCell ⟨B, 1, none⟩ u1).setCell ⟨B, 2, none⟩ u2).setCell ⟨B, 3, none⟩ u3).cell? ⟨B, 0, none⟩ = some u0 ∧ ((((wa.setCell ⟨B, 0, none⟩ u0).setCell ⟨B, 1, none⟩ u1).setCell ⟨B, 2, none⟩ u2).setCell ⟨B, 3, none⟩ u3).cell? ⟨B, 1, none⟩ = some u1 ∧ ((((wa.setCell ⟨B, 0, none⟩ u0).setCell ⟨B, 1, none⟩ u1).setCell ⟨B, 2, none⟩ u2).setCell ⟨B, 3, none⟩ u3).cell? ⟨B, 2, none⟩ = some u2 ∧ ((((wa.setCell ⟨B, 0, none⟩ u0).setCell ⟨B, 1, none⟩ u1).setCell ⟨B, 2, none⟩ u2).setCell ⟨B, 3, none⟩ u3).cell? ⟨B, 3, none⟩ = some u3) → (results fn a.tmps).run P ((((wa.setCell ⟨B, 0, none⟩ u0).setCell ⟨B, 1, none⟩ u1).setCell ⟨B, 2, none⟩ u2).setCell ⟨B, 3, none⟩ u3) = .ok (.agg #[u0, u1, u2, u3]) ((((wa.setCell ⟨B, 0, none⟩ u0).setCell ⟨B, 1, none⟩ u1).setCell ⟨B, 2, none⟩ u2).setCell ⟨B, 3, none⟩ u3)) (hd : a.defers = [])
    (hR : R (.returned (.agg #[u0, u1, u2, u3])) ((((wa.setCell ⟨B, 0, none⟩ u0).setCell ⟨B, 1, none⟩ u1).setCell ⟨B, 2, none⟩ u2).setCell ⟨B, 3, none⟩ u3)) : bodyPost P fn R .ret a ((((wa.setCell ⟨B, 0, none⟩ u0).setCell ⟨B, 1, none⟩ u1).setCell ⟨B, 2, none⟩ u2).setCell ⟨B, 3, none⟩ u3) := bodyPost_ret (hr (set4_read h u0 u1 u2 u3)) hd hR
theorem ret4a {P : Program} {fn : Func} {R : Ending → World → Prop} {a : Act} {wa : World} {B : Nat} {u0 u1 u2 u3 : Value} {o : Obj} (h : Free4 wa B)
    (hr : ((((((wa.setCell ⟨B, 0, none⟩ u0).setCell ⟨B, 1, none⟩ u1).setCell ⟨B, 2, none⟩ u2).setCell ⟨B, 3, none⟩ u3).alloc o).cell? ⟨B, 0, none⟩ = some u0 ∧ (((((wa.setCell ⟨B, 0, none⟩ u0).setCell ⟨B, 1, none⟩ u1).setCell ⟨B, 2, none⟩ u2).setCell ⟨B, 3, none⟩ u3).alloc o).cell? ⟨B, 1, none⟩ = some u1 ∧ (((((wa.setCell ⟨B, 0, none⟩ u0).setCell ⟨B, 1, none⟩ u1).setCell ⟨B, 2, none⟩ u2).setCell ⟨B, 3, none⟩ u3).alloc o).cell? ⟨B, 2, none⟩ = some u2 ∧ (((((wa.setCell ⟨B, 0, none⟩ u0).setCell ⟨B, 1, none⟩ u1).setCell ⟨B, 2, none⟩ u2).setCell ⟨B, 3, none⟩ u3).alloc o).cell? ⟨B, 3, none⟩ = some u3) → (results fn a.tmps).run P (((((wa.setCell ⟨B, 0, none⟩ u0).setCell ⟨B, 1, none⟩ u1).setCell ⟨B, 2, none⟩ u2).setCell ⟨B, 3, none⟩ u3).alloc o) = .ok (.agg #[u0, u1, u2, u3]) (((((wa.setCell ⟨B, 0, none⟩ u0).setCell ⟨B, 1, none⟩ u1).setCell ⟨B, 2, none⟩ u2).setCell ⟨B, 3, none⟩ u3).alloc o)) (hd : a.defers = [])
    (hR : R (.returned (.agg #[u0, u1, u2, u3])) (((((wa.setCell ⟨B, 0, none⟩ u0).setCell ⟨B, 1, none⟩ u1).setCell ⟨B, 2, none⟩ u2).setCell ⟨B, 3, none⟩ u3).alloc o)) : bodyPost P fn R .ret a (((((wa.setCell ⟨B, 0, none⟩ u0).setCell ⟨B, 1, none⟩ u1).setCell ⟨B, 2, none⟩ u2).setCell ⟨B, 3, none⟩ u3).alloc o) := bodyPost_ret (hr (alloc4_read (set4_read h u0 u1 u2 u3) o)) hd hR

theorem sub4 (wa : World) {B : Nat} (u0 u1 u2 u3 : Value) {S : Nat → Prop} (hB : ¬ S B) : Sub (on wa S) (on ((((wa.setCell ⟨B, 0, none⟩ u0).setCell ⟨B, 1, none⟩ u1).setCell ⟨B, 2, none⟩ u2).setCell ⟨B, 3, none⟩ u3) S) :=
  (((set_sub wa _ u0 hB).trans (set_sub _ _ u1 hB)).trans (set_sub _ _ u2 hB)).trans (set_sub _ _ u3 hB)
theorem vals_end {w w2 w3 : World} {B : Nat} {u0 u1 u2 u3 v : Value} {T : Nat → Prop} {xs : List Val} (s2 : SliceOf Rep.val (on w2 T) v xs) (hT : ∀ k, k < w2.heap.size → T k → B < k) (hB : w.heap.size ≤ B) (hx : Ext w2 w3) :
    SliceOf Rep.val (on ((((w3.setCell ⟨B, 0, none⟩ u0).setCell ⟨B, 1, none⟩ u1).setCell ⟨B, 2, none⟩ u2).setCell ⟨B, 3, none⟩ u3) (fun j => w.heap.size ≤ j)) v xs :=
  s2.ext (((on_mono w2 (T := fun k => B < k) hT).trans (hx.sub _)).trans ((sub4 w3 u0 u1 u2 u3 (Nat.lt_irrefl B)).trans (on_mono _ fun k _ (hk : B < k) => Nat.le_trans hB (Nat.le_of_lt hk))))
theorem vals_enda {w w2 w3 : World} {B : Nat} {u0 u1 u2 u3 v : Value} {T : Nat → Prop} {xs : List Val} {o : Obj} (s2 : SliceOf Rep.val (on w2 T) v xs) (hT : ∀ k, k < w2.heap.size → T k → B < k) (hB : w.heap.size ≤ B) (hx : Ext w2 w3) :
    SliceOf Rep.val (on (((((w3.setCell ⟨B, 0, none⟩ u0).setCell ⟨B, 1, none⟩ u1).setCell ⟨B, 2, none⟩ u2).setCell ⟨B, 3, none⟩ u3).alloc o) (fun j => w.heap.size ≤ j)) v xs :=
  (vals_end (u0 := u0) (u1 := u1) (u2 := u2) (u3 := u3) s2 hT hB hx).ext (((Ext.refl _).alloc o).sub _)
theorem lin_end {w w3 : World} {B b : Nat} {u0 u1 u2 u3 : Value} {x : Int} (hr : -9223372036854775808 ≤ x ∧ x ≤ 9223372036854775807) (hb : w.heap.size ≤ b) (hne : B ≠ b) (hc : w3.cell? ⟨b, 0, none⟩ = some (.int .i64 x)) :
    SliceOf Rep.int (on ((((w3.setCell ⟨B, 0, none⟩ u0).setCell ⟨B, 1, none⟩ u1).setCell ⟨B, 2, none⟩ u2).setCell ⟨B, 3, none⟩ u3) (fun j => w.heap.size ≤ j)) (.slice (some ⟨b, 0, none⟩) 1 1) [x] :=
  int_lone _ _ _ hr (on_some.2 ⟨hb, cell_set (cell_set (cell_set (cell_set hc hne) hne) hne) hne⟩)
theorem lin_enda {w w3 : World} {B : Nat} {u0 u1 u2 u3 : Value} {x : Int} {T : TypeId} (hr : -9223372036854775808 ≤ x ∧ x ≤ 9223372036854775807) (hb : w.heap.size ≤ w3.heap.size) :
    SliceOf Rep.int (on (((((w3.setCell ⟨B, 0, none⟩ u0).setCell ⟨B, 1, none⟩ u1).setCell ⟨B, 2, none⟩ u2).setCell ⟨B, 3, none⟩ u3).alloc (.cells #[.int .i64 x] T)) (fun j => w.heap.size ≤ j)) (.slice (some ⟨w3.heap.size, 0, none⟩) 1 1) [x] := by
  have h := cells_new ((((w3.setCell ⟨B, 0, none⟩ u0).setCell ⟨B, 1, none⟩ u1).setCell ⟨B, 2, none⟩ u2).setCell ⟨B, 3, none⟩ u3) [.int .i64 x] T 0 _ rfl
  rw [show (((((w3.setCell ⟨B, 0, none⟩ u0).setCell ⟨B, 1, none⟩ u1).setCell ⟨B, 2, none⟩ u2).setCell ⟨B, 3, none⟩ u3).heap.size) = w3.heap.size by simp] at h
  exact int_lone _ _ _ hr (on_some.2 ⟨hb, h⟩)

set_option maxRecDepth 100000 in
set_option maxHeartbeats 4000000 in
theorem tuple_gen (x : Num5) (w : World) (h : okNum x) :
    Calls Tryz.prog 53 #[.agg #[.int .u16 x.a, .int .u16 x.b, .int .u16 x.c, .int .u16 x.d, .int .u16 x.e]] w fun e w' => ∃ a b, e = .returned (.agg #[a, .int .i64 (genTup x).from_, .int .i64 (genTup x).to_, b]) ∧ SliceOf Rep.val (on w' (fun j => w.heap.size ≤ j)) a (genTup x).vals ∧ SliceOf Rep.int (on w' (fun j => w.heap.size ≤ j)) b (genTup x).lin ∧ Ext w w' := by
  obtain ⟨⟨a0, a1⟩, ⟨b0, b1⟩, ⟨c0, c1⟩, ⟨d0, d1⟩, e0, e1⟩ := h
  obtain ⟨xa, xb, xc, xd, xe⟩ := x
  dsimp only [genTup] at *
  go_enter Tryz.func53, Tryz.ntmps53
  go_wp2_with fail
  have k0 : ((w.alloc (.cells #[.int .u16 xa, .int .u16 xb, .int .u16 xc, .int .u16 xd, .int .u16 xe] 96)).alloc (.cells #[.slice none 0 0, .int .i64 0, .int .i64 0, .slice none 0 0] 77)).cell? ⟨w.heap.size, 0, none⟩ = some (.int .u16 xa) := by go_simp
  have k1 : ((w.alloc (.cells #[.int .u16 xa, .int .u16 xb, .int .u16 xc, .int .u16 xd, .int .u16 xe] 96)).alloc (.cells #[.slice none 0 0, .int .i64 0, .int .i64 0, .slice none 0 0] 77)).cell? ⟨w.heap.size, 1, none⟩ = some (.int .u16 xb) := by go_simp
  have k2 : ((w.alloc (.cells #[.int .u16 xa, .int .u16 xb, .int .u16 xc, .int .u16 xd, .int .u16 xe] 96)).alloc (.cells #[.slice none 0 0, .int .i64 0, .int .i64 0, .slice none 0 0] 77)).cell? ⟨w.heap.size, 2, none⟩ = some (.int .u16 xc) := by go_simp
  have k3 : ((w.alloc (.cells #[.int .u16 xa, .int .u16 xb, .int .u16 xc, .int .u16 xd, .int .u16 xe] 96)).alloc (.cells #[.slice none 0 0, .int .i64 0, .int .i64 0, .slice none 0 0] 77)).cell? ⟨w.heap.size, 3, none⟩ = some (.int .u16 xd) := by go_simp
  have k4 : ((w.alloc (.cells #[.int .u16 xa, .int .u16 xb, .int .u16 xc, .int .u16 xd, .int .u16 xe] 96)).alloc (.cells #[.slice none 0 0, .int .i64 0, .int .i64 0, .slice none 0 0] 77)).cell? ⟨w.heap.size, 4, none⟩ = some (.int .u16 xe) := by go_simp
  have g0 : ((w.alloc (.cells #[.int .u16 xa, .int .u16 xb, .int .u16 xc, .int .u16 xd, .int .u16 xe] 96)).alloc (.cells #[.slice none 0 0, .int .i64 0, .int .i64 0, .slice none 0 0] 77)).cell? ⟨w.heap.size + 1, 0, none⟩ = some (.slice none 0 0) := by go_simp
  have f0 : ((w.alloc (.cells #[.int .u16 xa, .int .u16 xb, .int .u16 xc, .int .u16 xd, .int .u16 xe] 96)).alloc (.cells #[.slice none 0 0, .int .i64 0, .int .i64 0, .slice none 0 0] 77)).frozen? ⟨w.heap.size + 1, 0, none⟩ = false := by go_simp
  have g1 : ((w.alloc (.cells #[.int .u16 xa, .int .u16 xb, .int .u16 xc, .int .u16 xd, .int .u16 xe] 96)).alloc (.cells #[.slice none 0 0, .int .i64 0, .int .i64 0, .slice none 0 0] 77)).cell? ⟨w.heap.size + 1, 1, none⟩ = some (.int .i64 0) := by go_simp
  have f1 : ((w.alloc (.cells #[.int .u16 xa, .int .u16 xb, .int .u16 xc, .int .u16 xd, .int .u16 xe] 96)).alloc (.cells #[.slice none 0 0, .int .i64 0, .int .i64 0, .slice none 0 0] 77)).frozen? ⟨w.heap.size + 1, 1, none⟩ = false := by go_simp
  have g2 : ((w.alloc (.cells #[.int .u16 xa, .int .u16 xb, .int .u16 xc, .int .u16 xd, .int .u16 xe] 96)).alloc (.cells #[.slice none 0 0, .int .i64 0, .int .i64 0, .slice none 0 0] 77)).cell? ⟨w.heap.size + 1, 2, none⟩ = some (.int .i64 0) := by go_simp
  have f2 : ((w.alloc (.cells #[.int .u16 xa, .int .u16 xb, .int .u16 xc, .int .u16 xd, .int .u16 xe] 96)).alloc (.cells #[.slice none 0 0, .int .i64 0, .int .i64 0, .slice none 0 0] 77)).frozen? ⟨w.heap.size + 1, 2, none⟩ = false := by go_simp
  have g3 : ((w.alloc (.cells #[.int .u16 xa, .int .u16 xb, .int .u16 xc, .int .u16 xd, .int .u16 xe] 96)).alloc (.cells #[.slice none 0 0, .int .i64 0, .int .i64 0, .slice none 0 0] 77)).cell? ⟨w.heap.size + 1, 3, none⟩ = some (.slice none 0 0) := by go_simp
  have f3 : ((w.alloc (.cells #[.int .u16 xa, .int .u16 xb, .int .u16 xc, .int .u16 xd, .int .u16 xe] 96)).alloc (.cells #[.slice none 0 0, .int .i64 0, .int .i64 0, .slice none 0 0] 77)).frozen? ⟨w.heap.size + 1, 3, none⟩ = false := by go_simp
  have hxx : Ext w ((w.alloc (.cells #[.int .u16 xa, .int .u16 xb, .int .u16 xc, .int .u16 xd, .int .u16 xe] 96)).alloc (.cells #[.slice none 0 0, .int .i64 0, .int .i64 0, .slice none 0 0] 77)) := ((Ext.refl w).alloc _).alloc _
  generalize ((w.alloc (.cells #[.int .u16 xa, .int .u16 xb, .int .u16 xc, .int .u16 xd, .int .u16 xe] 96)).alloc (.cells #[.slice none 0 0, .int .i64 0, .int .i64 0, .slice none 0 0] 77)) = W1 at k0 k1 k2 k3 k4 g0 g1 g2 g3 f0 f1 f2 f3 hxx ⊢
  have hF0 : Free4 W1 (w.heap.size + 1) := ⟨⟨_, g0⟩, ⟨_, g1⟩, ⟨_, g2⟩, ⟨_, g3⟩, f0, f1, f2, f3⟩
  have hF1 : Free4 W1.drew (w.heap.size + 1) := Free4.ext hF0 (Ext.refl W1).drew
  have hz1 := cell_lt g0
  clear g0 g1 g2 g3 f0 f1 f2 f3
  have e2 : xe.tmod 5 = xe % 5 := Int.tmod_eq_emod_of_nonneg e0
  have e3 : IntKind.i64.wrap (xe % 5) = xe % 5 := IntWalk.i64_in _ (by omega)
  have e4 : IntKind.i64.wrap (1 + xe % 5) = 1 + xe % 5 := IntWalk.i64_in _ (by omega)
  have hS0 : Ext w W1.drew ∧ W1.drew.cell? ⟨w.heap.size, 0, none⟩ = some (.int .u16 xa) ∧ W1.drew.cell? ⟨w.heap.size, 1, none⟩ = some (.int .u16 xb) ∧ W1.drew.cell? ⟨w.heap.size, 2, none⟩ = some (.int .u16 xc) ∧ W1.drew.cell? ⟨w.heap.size, 3, none⟩ = some (.int .u16 xd) ∧ W1.drew.cell? ⟨w.heap.size, 4, none⟩ = some (.int .u16 xe) := ⟨hxx.drew, k0, k1, k2, k3, k4⟩
  go_region_held3 (fun w' => Ext w w' ∧ w'.cell? ⟨w.heap.size, 0, none⟩ = some (.int .u16 xa) ∧ w'.cell? ⟨w.heap.size, 1, none⟩ = some (.int .u16 xb) ∧ w'.cell? ⟨w.heap.size, 2, none⟩ = some (.int .u16 xc) ∧ w'.cell? ⟨w.heap.size, 3, none⟩ = some (.int .u16 xd) ∧ w'.cell? ⟨w.heap.size, 4, none⟩ = some (.int .u16 xe))
    (first | with_reducible assumption | with_reducible exact keepE5 (by assumption) hx2 | with_reducible exact keepE5 (by assumption) hx3 | with_reducible exact keepE5 (by assumption) ((Ext.refl _).alloc _) | with_reducible exact keepW4 (by assumption) (Nat.le_succ _) (Nat.succ_ne_self _) | with_reducible exact keepE5 (keepW4 (by assumption) (Nat.le_succ _) (Nat.succ_ne_self _)) ((Ext.refl _).alloc _))
    (first | (go_at_call 66; refine (vals_gen xc xd _ c0 c1 d0 d1).mono ?_; rintro e w2 ⟨v2, rfl, s2, hx2⟩; obtain ⟨p2, q2, rfl, _⟩ := s2.form; have hS2 : Ext w w2 ∧ w2.cell? ⟨w.heap.size, 0, none⟩ = some (.int .u16 xa) ∧ w2.cell? ⟨w.heap.size, 1, none⟩ = some (.int .u16 xb) ∧ w2.cell? ⟨w.heap.size, 2, none⟩ = some (.int .u16 xc) ∧ w2.cell? ⟨w.heap.size, 3, none⟩ = some (.int .u16 xd) ∧ w2.cell? ⟨w.heap.size, 4, none⟩ = some (.int .u16 xe) := (by with_reducible exact keepE5 (by assumption) hx2); have hF2 : Free4 w2 (w.heap.size + 1) := (by first | exact Free4.ext (by assumption) hx2 | exact Free4.ext (by assumption) (((Ext.refl _).alloc _).trans hx2) | exact Free4.ext hF0 ((((Ext.refl W1).alloc _).drew).trans hx2)); obtain ⟨⟨m20, y20⟩, ⟨m21, y21⟩, ⟨m22, y22⟩, ⟨m23, y23⟩, y24, y25, y26, y27⟩ := id hF2; have z2 := cell_lt y20) | (go_at_call 101; refine (period_gen xa xb _ a0 a1 b0 b1).mono ?_; rintro e w3 ⟨rfl, hx3⟩; have hS3 : Ext w w3 ∧ w3.cell? ⟨w.heap.size, 0, none⟩ = some (.int .u16 xa) ∧ w3.cell? ⟨w.heap.size, 1, none⟩ = some (.int .u16 xb) ∧ w3.cell? ⟨w.heap.size, 2, none⟩ = some (.int .u16 xc) ∧ w3.cell? ⟨w.heap.size, 3, none⟩ = some (.int .u16 xd) ∧ w3.cell? ⟨w.heap.size, 4, none⟩ = some (.int .u16 xe) := (by with_reducible exact keepE5 (by assumption) hx3); have hF3 : Free4 w3 (w.heap.size + 1) := (by first | exact Free4.ext (by assumption) hx3 | exact Free4.ext (by assumption) (((Ext.refl _).alloc _).trans hx3) | exact Free4.ext hF0 ((((Ext.refl W1).alloc _).drew).trans hx3)); obtain ⟨⟨m30, y30⟩, ⟨m31, y31⟩, ⟨m32, y32⟩, ⟨m33, y33⟩, y34, y35, y36, y37⟩ := id hF3; have z3 := cell_lt y30))
  all_goals
    have hfin := And.left ‹Ext w (_ : World) ∧ _›
    clear hS0
    go_wp2_with fail
    have hr : -9223372036854775808 ≤ 1 + xe % 5 ∧ 1 + xe % 5 ≤ 9223372036854775807 := by omega
  · with_reducible refine ret4a hF3 ?_ ?_ ?_
    · intro j
      simp [results, Tryz.results53, go_sem, j]
    · rfl
    exact ⟨_, _, rfl, vals_enda s2 (fun k _ hk => by simp at hk; omega) (by omega) hx3, lin_enda hr (by omega), hfin⟩
  · with_reducible refine ret4 hF3 ?_ ?_ ?_
    · intro j
      simp [results, Tryz.results53, go_sem, j]
    · rfl
    exact ⟨_, _, rfl, vals_end s2 (fun k _ hk => by simp at hk; omega) (by omega) (((Ext.refl w2).alloc _).trans hx3), lin_end hr (by omega) (by omega) (hx3.at (cells_new w2 [.int .i64 (1 + xe % 5)] 3 0 _ rfl)), hfin⟩
  · with_reducible refine ret4 hF3 ?_ ?_ ?_
    · intro j
      simp [results, Tryz.results53, go_sem, j]
    · rfl
    exact ⟨_, _, rfl, vals_end s2 (fun k _ hk => by simp at hk; omega) (by omega) hx3, lin_end hr (by omega) (by omega) (hx3.at (hx2.at ((Ext.refl _).drew.at (cells_new W1 [.int .i64 (1 + xe % 5)] 3 0 _ rfl)))), hfin⟩

end Go.Proofs.YtdgpbpbjlnlijaaGreatDoor

/- bag.runs -/
namespace Go.Proofs.YtdgpbpbjlnlijaaGreatDoor
open Go.RowKit Go.Deep

/-- rows in runs of equal values: each run is whole -/
inductive Runs : List (List Row) → Prop
  | nil : Runs []
  | snoc (rs : List (List Row)) (run : List Row) (v : List Val) : Runs rs → run ≠ [] → (∀ r ∈ run, r.vals = v) → (∀ p, rs.flatten.getLast? = some p → p.vals ≠ v) → Runs (rs ++ [run])
/-- .. up to the k-th row -/
def RunsTo (l : List Row) (k : Nat) (done : List (List Row)) (cur : List Row) : Prop :=
  ∃ v, Runs done ∧ cur ≠ [] ∧ (∀ r ∈ cur, r.vals = v) ∧ (∀ p, done.flatten.getLast? = some p → p.vals ≠ v) ∧ done.flatten ++ cur = l.take k
/-- the row of runs while its last run grows: that one's cells are the call's own too -/
structure RunsAt (w : World) (base : Nat) (e1 e2 : TypeId) (v u : Value) (done : List (List Row)) (cur : List Row) : Prop where
  us : ∃ css, RepAll (Rep.slice Rep.row) (on w (fun k => some k ≠ v.ownBlock ∧ some k ≠ u.ownBlock)) css done ∧ w.ownsRow base e1 1 v (done.length + 1) (css.flatten ++ [u])
  cur : OwnOf Rep.row w (fun k => k < base) base e2 u cur
  ne : ∀ k, u.ownBlock = some k → v.ownBlock ≠ some k
section
variable {P : Program} {w : World} {ops : Array Oper} {rest : List Oper} {o : Oper} {a : Act} {Q : Exit → Act → World → Prop}
theorem step_append_one {α : Type} {K : Act → World → Prop} {E : Prop} (R : Rep α) (S : Nat → Prop) (hgd : o.guard = none) (s x : Operand) (t : TypeId)
    (ho : o.op = .call { callee := .builtin .append, args := #[s, x], argTypes := #[t, t] })
    (base : Nat) (e : TypeId) (i : TypeInfo) (z : Value) (bytes : Nat) (ht : P.underlying t = some (.slice e)) (hi : P.info? e = some i) (hz : i.zero = some z)
    (hsize : i.size = R.size) (hby : i.bytes = bytes) (hzs : z.cells.size = R.size) (hsz : 0 < R.size)
    (v : Value) (xs : List α) (hs : a.eval s = v) (hown : OwnOf R w S base e v xs)
    (ad : Addr) (c : Nat) (y : α) (news : List Value) (hx : a.eval x = .slice (some ad) 1 c) (hy : R.holds (on w (avoid S v)) news y) (hnews : ∀ j u, news[j]? = some u → w.cell? (ad.add j) = some u)
    (h63 : xs.length + 1 ≤ maxLen) (hbytes : (xs.length + 1) * bytes ≤ 140737488355328) (hbase : base ≤ w.heap.size)
    (h : ∀ g cap w', OwnOf R w' S base e (.slice (some ⟨g, 0, none⟩) (xs.length + 1) cap) (xs ++ [y]) → w.grownBy w' v.ownBlock → (v.ownBlock = some g ∨ g = w.heap.size) → K (a.put o.dst (.slice (some ⟨g, 0, none⟩) (xs.length + 1) cap)) w') :
    if Region.wanted o (yielded ops a.tmps) = true then Oper.wp P o a w K Q else E := by
  obtain ⟨css, h1, h2⟩ := hown
  exact step_append_lies w hgd s x t ho base e i z R.size bytes ht hi hz hsize hby hzs hsz v xs.length css.flatten hs h2 ad 1 c news hx (by rw [R.len hy, Nat.one_mul]) hnews (R.one hy) (by omega) h63 hbytes hbase w.heap.size rfl
    fun g cap w' g1 g2 g3 _ => h g cap w' (OwnOf.push h1 hy g1 g2 g3) g2 g3
end
end Go.Proofs.YtdgpbpbjlnlijaaGreatDoor

/- bag.Diff -/
namespace Go.Proofs.YtdgpbpbjlnlijaaGreatDoor
open Go.RowKit Go.Deep

/-- the rows that go beyond b's multiplicity, in their order; pre: those that came before -/
def surpA (b : List Row) : List Row → List Row → List Row
  | _, [] => []
  | pre, r :: rest => if mult r.vals b ≤ mult r.vals pre then r :: surpA b (pre ++ [r]) rest else surpA b (pre ++ [r]) rest
end Go.Proofs.YtdgpbpbjlnlijaaGreatDoor

/- annalistlaw0.Tuples and Rows -/
namespace Go.Proofs.YtdgpbpbjlnlijaaGreatDoor
open Go.RowKit

theorem infoTup : (Tryz.prog.info? 77).map (fun i => (i.zero, i.size, i.bytes)) = some (some (.agg #[.slice none 0 0, .int .i64 0, .int .i64 0, .slice none 0 0]), Rep.tup.size, 64) := by kernel_rfl
theorem num_at {w : View} {b o n cap : Nat} {xs : List Num5} (h : SliceOf Rep.num w (.slice (some ⟨b, o, none⟩) n cap) xs) (i : Nat) (hi : i < xs.length) :
    w ⟨b, o + i * 5, none⟩ = some (.int .u16 xs[i].a) ∧ w ⟨b, o + i * 5 + 1, none⟩ = some (.int .u16 xs[i].b) ∧ w ⟨b, o + i * 5 + 2, none⟩ = some (.int .u16 xs[i].c) ∧ w ⟨b, o + i * 5 + 3, none⟩ = some (.int .u16 xs[i].d) ∧ w ⟨b, o + i * 5 + 4, none⟩ = some (.int .u16 xs[i].e) ∧ okNum xs[i] := by
  obtain ⟨c, ⟨rfl, h1⟩, h2⟩ := h.at i hi
  exact ⟨h2 0 _ rfl, h2 1 _ rfl, h2 2 _ rfl, h2 3 _ rfl, h2 4 _ rfl, h1⟩
def genTups (l : List Num5) (most : Nat) : List Tup := (l.take most).map genTup
theorem genTups_len (l : List Num5) (most : Nat) : (genTups l most).length ≤ most := by simp [genTups]; omega

set_option maxRecDepth 100000 in
set_option maxHeartbeats 4000000 in
theorem tuples_gen (v : Value) (l : List Num5) (most : Nat) (hmost : most ≤ 1000) (w : World) (hv : SliceOf Rep.num w.cell? v l) :
    Calls Tryz.prog 19 #[v, .int .i64 most] w fun e w' => ∃ v', e = .returned v' ∧ SliceOf Rep.tup (on w' (since w)) v' (genTups l most) ∧ Ext w w' := by
  obtain ⟨i0, hi, hz0, hz1, hz2⟩ := info_parts infoTup
  obtain ⟨pa, ca, rfl, ha1, ha2, ha3⟩ := hv.form
  unfold maxLen at ha2
  go_enter Tryz.func19, Tryz.ntmps19
  go_wp2_with fail
  go_loopg [5, 6] l.length (fun gk out i wr => ∃ k : Nat, k ≤ l.length ∧ k ≤ most ∧ gk = l.length - k ∧ i = .int .i64 k ∧ OwnOf Rep.tup wr (since w) w.heap.size 77 out (genTups l k) ∧ Ext w wr)
  case atStart => exact ⟨0, by omega, by omega, rfl, rfl, OwnOf.nil _ _ _ _ _, Ext.refl w⟩
  case round =>
    obtain ⟨k, hk, hkm, rfl, rfl, hown, hx⟩ := hrel
    by_cases hlt : k < l.length ∧ k < most
    · obtain ⟨hlt, hlt2⟩ := hlt
      obtain ⟨ba, oa, rfl⟩ := ha3 (by decide) (by omega)
      obtain ⟨c1, c2, c3, c4, c5, hok⟩ := num_at hv k hlt
      have htk : genTups l (k + 1) = genTups l k ++ [genTup l[k]] := by unfold genTups; rw [List.take_succ_eq_append_getElem hlt, List.map_append]; rfl
      have hlen : (genTups l k).length = k := by simp [genTups]; omega
      replace c1 := hx.at c1
      replace c2 := hx.at c2
      replace c3 := hx.at c3
      replace c4 := hx.at c4
      replace c5 := hx.at c5
      generalize l[k] = x at c1 c2 c3 c4 c5 hok htk
      have HT := Lib.hid htk
      have HO := Lib.hid hown
      have HOK := Lib.hid hok
      have HLEN := Lib.hid hlen
      have hd : decide ((k : Int) < (l.length : Int)) = true := by simp; omega
      have hd2 : decide ((k : Int) < (most : Int)) = true := by simp; omega
      clear htk hown hok hlen hv ha3
      go_wp2_with fail
      refine (tuple_gen x _ HOK.out).mono ?_
      rintro e w2 ⟨a, b, rfl, t1, t2, hx2⟩
      obtain ⟨a2, k2, rfl, _⟩ := t1.form
      obtain ⟨b2, j2, rfl, _⟩ := t2.form
      have T1 := Lib.hid t1
      have T2 := Lib.hid t2
      have hz := hx2.size
      have hw := hx.size
      clear t1 t2 c1 c2 c3 c4 c5
      go_wp2_with (at_builtin; refine wpList_append_one Rep.tup (since w) rfl _ _ 22 rfl w.heap.size 77 i0 _ 64 Tryz.underlying22 hi hz0 hz1 hz2 rfl (by decide) _ (genTups l k) rfl ((HO.out.ext hx2).ext ((Ext.refl _).alloc _)) ⟨w2.heap.size, 0, none⟩ 1 (genTup x) [.slice a2 (genTup x).vals.length k2, .int .i64 (genTup x).from_, .int .i64 (genTup x).to_, .slice b2 (genTup x).lin.length j2] rfl ?c1 ?c2 ?c3 ?c4 ?c5 ?_)
      case c1 =>
        have hlt2 := HO.out.lt
        have hs : ∀ u : Value, (∀ j, u.ownBlock = some j → j < wr.heap.size) → Sub (on w2 (fun j => wr.heap.size ≤ j)) (on (w2.alloc (.cells #[.slice a2 (genTup x).vals.length k2, .int .i64 (genTup x).from_, .int .i64 (genTup x).to_, .slice b2 (genTup x).lin.length j2] 77)) (avoid (since w) u)) := fun u hu => by
          refine (((Ext.refl w2).alloc _).sub _).trans (on_mono _ fun j _ hj => ⟨fun he => ?_, ?_⟩)
          · have := hu j he.symm
            omega
          · simp only [since]
            omega
        have hg := gen_per x.a x.b
        exact ⟨_, _, rfl, T1.out.ext (hs _ fun j hj => (hlt2 j hj).2), T2.out.ext (hs _ fun j hj => (hlt2 j hj).2), by simp only [genTup]; omega, by simp only [genTup]; omega⟩
      case c2 => exact cells_new w2 [.slice a2 (genTup x).vals.length k2, .int .i64 (genTup x).from_, .int .i64 (genTup x).to_, .slice b2 (genTup x).lin.length j2] _
      case c3 => rw [HLEN.out]; unfold maxLen; omega
      case c4 => rw [HLEN.out]; omega
      case c5 => simp; omega
      intro g cap w3 hown3 hgr _
      go_wp2_with fail
      go_roundg (l.length - (k + 1))
      case measure => omega
      case rel =>
        refine ⟨k + 1, by omega, by omega, rfl, by go_num, by rw [HT.out]; exact hown3, ?_⟩
        exact Below.grown ((hx.trans hx2).alloc _) hgr (by simp; omega) (fun j hj => (HO.out.lt j hj).1)
    · have hd : (decide ((k : Int) < (l.length : Int)) && decide ((k : Int) < (most : Int))) = false := by
        rw [Bool.and_eq_false_iff]
        simp only [decide_eq_false_iff_not]
        omega
      have hfull : genTups l k = genTups l most := by
        unfold genTups
        by_cases h : k < l.length
        · rw [show k = most by omega]
        · rw [List.take_of_length_le (by omega), List.take_of_length_le (by omega)]
      have hend : (¬ (k : Int) < (l.length : Int)) ∨ ((k : Int) < (l.length : Int) ∧ ¬ (k : Int) < (most : Int)) := by omega
      rw [hfull] at hown
      have hs := hown.sliceIn (T := since w) (fun _ _ h => h) (fun _ h => h)
      obtain ⟨pf, qf, rfl, _⟩ := hs.form
      have HS := Lib.hid hs
      clear hown hs hfull hd hv ha3
      rcases hend with hend | ⟨hd1, hend⟩
      · have hd1 : decide ((k : Int) < (l.length : Int)) = false := by simpa using hend
        go_wp2_with fail
        go_ret
        exact ⟨_, rfl, HS.out, hx⟩
      · have hd2 : decide ((k : Int) < (most : Int)) = false := by simpa using hend
        go_wp2_with fail
        go_ret
        exact ⟨_, rfl, HS.out, hx⟩

/-- a tuple without its period -/
def rowOf (t : Tup) : Row := ⟨t.vals, t.lin⟩
def genRows (l : List Num5) (most : Nat) : List Row := (genTups l most).map rowOf
end Go.Proofs.YtdgpbpbjlnlijaaGreatDoor

/-
  DERIVED: THE SHELF's CONTRACTS AT THIS DUMP, IN PLAIN WORDS (tools/lay-plain.mjs out of 'TryzShelfE.lean', which tools/lay-shelf.mjs wrote): THE SAME DECLARATIONS UNDER THE SAME NAMES: 'import', 'namespace', 'open', 'def', 'theorem' AND NOTHING ELSE: no command of the shelf's: FOR A HAND-IN. Each laying: the table of numbers ('.._ren') and one theorem, a field a fact of the dump's own or the kernel's comparison; each contract: ONE APPLICATION.
-/
namespace Go.Proofs
open Go.Shelf
def Tryz.growVal_ren : Go.Shelf.Ren := ⟨fun | 4 => 123 | n => n, fun | 22 => 40 | 25 => 44 | 3 => 3 | 4 => 4 | 9 => 9 | 20 => 20 | 0 => 0 | n => n, fun | n => n⟩
theorem Tryz.growVal : Go.Proofs.Lays8.n4 Tryz.prog Tryz.growVal_ren := {
  mixed := by kernel_rfl
  f4 := ⟨Tryz.f123.name, by decide, Tryz.func123.trans (congrArg some (by kernel_rfl))⟩
  t0 := Tryz.underlying0
  a0 := Tryz.isAgg0
  z0 := Tryz.sizeOf0
  v0 := Tryz.zeroValue0
  t3 := Tryz.underlying3
  a3 := Tryz.isAgg3
  z3 := Tryz.sizeOf3
  v3 := Tryz.zeroValue3
  t4 := Tryz.underlying4
  a4 := Tryz.isAgg4
  z4 := Tryz.sizeOf4
  v4 := Tryz.zeroValue4
  t9 := Tryz.underlying9
  a9 := Tryz.isAgg9
  z9 := Tryz.sizeOf9
  v9 := Tryz.zeroValue9
  t20 := Tryz.underlying20
  a20 := Tryz.isAgg20
  z20 := Tryz.sizeOf20
  v20 := Tryz.zeroValue20
  t22 := Tryz.underlying40
  a22 := Tryz.isAgg40
  z22 := Tryz.sizeOf40
  v22 := Tryz.zeroValue40 }
def Tryz.growTup_ren : Go.Shelf.Ren := ⟨fun | 4 => 121 | n => n, fun | 22 => 22 | 25 => 77 | 3 => 3 | 4 => 4 | 9 => 9 | 20 => 20 | 0 => 0 | n => n, fun | n => n⟩
theorem Tryz.growTup : Go.Proofs.Lays8.n4 Tryz.prog Tryz.growTup_ren := {
  mixed := by kernel_rfl
  f4 := ⟨Tryz.f121.name, by decide, Tryz.func121.trans (congrArg some (by kernel_rfl))⟩
  t0 := Tryz.underlying0
  a0 := Tryz.isAgg0
  z0 := Tryz.sizeOf0
  v0 := Tryz.zeroValue0
  t3 := Tryz.underlying3
  a3 := Tryz.isAgg3
  z3 := Tryz.sizeOf3
  v3 := Tryz.zeroValue3
  t4 := Tryz.underlying4
  a4 := Tryz.isAgg4
  z4 := Tryz.sizeOf4
  v4 := Tryz.zeroValue4
  t9 := Tryz.underlying9
  a9 := Tryz.isAgg9
  z9 := Tryz.sizeOf9
  v9 := Tryz.zeroValue9
  t20 := Tryz.underlying20
  a20 := Tryz.isAgg20
  z20 := Tryz.sizeOf20
  v20 := Tryz.zeroValue20
  t22 := Tryz.underlying22
  a22 := Tryz.isAgg22
  z22 := Tryz.sizeOf22
  v22 := Tryz.zeroValue22 }
end Go.Proofs
