/- the reference's Sort -/
import Derived.Test.YtmjfbfigdkolaaaBagJ
import Derived.IntWalk
namespace Go.Proofs.Ytmjfbfigdkolaaa
open Go.RowKit

theorem RepAll.flatten_take {α : Type} {R : Rep α} {w : View} {css : List (List Value)} {xs : List α} (h : RepAll R w css xs) (k : Nat) : (css.take k).flatten = css.flatten.take (k * R.size) := by
  induction css generalizing xs k with
  | nil => simp
  | cons c css ih => cases xs with
    | nil => exact h.elim
    | cons x xs => cases k with
      | zero => simp
      | succ k =>
        have hc := R.len h.1
        rw [List.take_succ_cons, List.flatten_cons, List.flatten_cons, ih h.2, List.take_append, hc, Nat.succ_mul, List.take_of_length_le (l := c) (by rw [hc]; omega), Nat.add_sub_cancel]
theorem RepAll.flatten_drop {α : Type} {R : Rep α} {w : View} {css : List (List Value)} {xs : List α} (h : RepAll R w css xs) (k : Nat) : (css.drop k).flatten = css.flatten.drop (k * R.size) := by
  induction css generalizing xs k with
  | nil => simp
  | cons c css ih => cases xs with
    | nil => exact h.elim
    | cons x xs => cases k with
      | zero => simp
      | succ k =>
        have hc := R.len h.1
        rw [List.drop_succ_cons, List.flatten_cons, ih h.2, List.drop_append, hc, Nat.succ_mul, List.drop_of_length_le (l := c) (by rw [hc]; omega), Nat.add_sub_cancel, List.nil_append]
theorem SliceOf.takeV {α : Type} {R : Rep α} {w : View} {b o cap n : Nat} {xs : List α} (h : SliceOf R w (.slice (some ⟨b, o, none⟩) n cap) xs) (k : Nat) (hk : k ≤ xs.length) :
    SliceOf R w (.slice (some ⟨b, o, none⟩) k cap) (xs.take k) := by
  obtain ⟨css, h1, h2⟩ := h
  refine ⟨css.take k, h1.take k, ?_⟩
  have hl : (xs.take k).length = k := by simp; omega
  rw [hl, h1.flatten_take]
  rcases h2 with ⟨he, _⟩ | ⟨ad, c, he, g1, g2, g3⟩
  · cases he
  · injection he with e1 e2 e3
    injection e1 with e1
    subst e1 e2 e3
    refine .inr ⟨_, cap, rfl, by omega, g2, ?_⟩
    rcases g3 with g3 | ⟨b', o', ha, g3⟩
    · exact .inl (by rw [g3]; simp)
    · refine .inr ⟨b', o', ha, fun j u hj => ?_⟩
      rw [List.getElem?_take] at hj
      split at hj
      · exact g3 j u hj
      · cases hj
theorem SliceOf.dropV {α : Type} {R : Rep α} {w : View} {b o cap n : Nat} {xs : List α} (h : SliceOf R w (.slice (some ⟨b, o, none⟩) n cap) xs) (k : Nat) (hk : k ≤ xs.length) :
    SliceOf R w (.slice (some ⟨b, o + k * R.size, none⟩) (xs.length - k) (cap - k)) (xs.drop k) := by
  obtain ⟨css, h1, h2⟩ := h
  refine ⟨css.drop k, h1.drop k, ?_⟩
  rw [List.length_drop, h1.flatten_drop]
  rcases h2 with ⟨he, _⟩ | ⟨ad, c, he, g1, g2, g3⟩
  · cases he
  · injection he with e1 e2 e3
    injection e1 with e1
    subst e1 e2 e3
    refine .inr ⟨_, cap - k, rfl, by omega, by omega, ?_⟩
    rcases g3 with g3 | ⟨b', o', ha, g3⟩
    · exact .inl (by rw [g3]; simp)
    · injection ha with ha1 ha2
      subst ha1 ha2
      refine .inr ⟨b, _, rfl, fun j u hj => ?_⟩
      rw [List.getElem?_drop] at hj
      rw [Nat.add_assoc]
      exact g3 _ u hj

/-- two sorted lists as one -/
def mergeBy {α : Type} (c : α → α → Int) (l l' : List α) : List α := List.merge l l' fun a b => decide (c a b ≤ 0)
theorem sort_halves {α : Type} {c : α → α → Int} (h : Ord3 c) (l : List α) (k : Nat) : mergeBy c (sortBy c (l.take k)) (sortBy c (l.drop k)) = sortBy c l := by
  have hle : ∀ a b : α, (decide (c a b ≤ 0) = true ↔ c a b ≤ 0) := fun a b => by simp
  refine sortBy_unique h ?_ ?_
  · refine (List.merge_perm_append _).trans ?_
    refine ((sortBy_perm c _).append (sortBy_perm c _)).trans ?_
    rw [List.take_append_drop]
  · have := List.pairwise_merge (le := fun a b => decide (c a b ≤ 0)) (fun a b d h1 h2 => by simp only [decide_eq_true_eq] at *; exact h.le_tr a b d h1 h2)
      (fun a b => by simp only [Bool.or_eq_true, decide_eq_true_eq]; exact h.le_total a b) (sortBy c (l.take k)) (sortBy c (l.drop k)) ((sortBy_pair h _).imp (by simp)) ((sortBy_pair h _).imp (by simp))
    exact this.imp (by simp)
theorem merge_left {α : Type} (c : α → α → Int) (l l' : List α) (i j : Nat) (hi : i < l.length) (h : ∀ hj : j < l'.length, c l[i] l'[j] ≤ 0) :
    mergeBy c (l.drop i) (l'.drop j) = l[i] :: mergeBy c (l.drop (i + 1)) (l'.drop j) := by
  unfold mergeBy
  rw [List.drop_eq_getElem_cons hi]
  by_cases hj : j < l'.length
  · rw [List.drop_eq_getElem_cons hj, List.cons_merge_cons, if_pos (by simpa using h hj)]
  · have e : l'.drop j = [] := List.drop_eq_nil_of_le (by omega)
    rw [e]
    simp
theorem merge_right {α : Type} (c : α → α → Int) (l l' : List α) (i j : Nat) (hj : j < l'.length) (h : ∀ hi : i < l.length, ¬ c l[i] l'[j] ≤ 0) :
    mergeBy c (l.drop i) (l'.drop j) = l'[j] :: mergeBy c (l.drop i) (l'.drop (j + 1)) := by
  unfold mergeBy
  rw [List.drop_eq_getElem_cons hj]
  by_cases hi : i < l.length
  · rw [List.drop_eq_getElem_cons hi, List.cons_merge_cons, if_neg (by simpa using h hi)]
  · have e : l.drop i = [] := List.drop_eq_nil_of_le (by omega)
    rw [e]
    simp
theorem old_avoid {α : Type} {R : Rep α} {W w' : World} {S : Nat → Prop} {e : TypeId} {v : Value} {xs : List α} (hb : Below W.heap.size W w') (hown : OwnOf R w' S W.heap.size e v xs) :
    Sub (on W (fun k => k < W.heap.size)) (on w' (avoid (fun k => k < W.heap.size) v)) :=
  (below_sub hb fun _ h => h).trans (on_mono _ fun k _ hk => ⟨fun he => by have := (hown.lt k he.symm).1; omega, hk⟩)
theorem full_nil (w : World) : Sub w.cell? (on w (avoid (fun _ => True) (.slice none 0 0))) := full_on _ _ fun k _ => ⟨by simp [Value.ownBlock], trivial⟩
theorem sortBy_short {α : Type} (c : α → α → Int) (l : List α) (h : l.length < 2) : sortBy c l = l := by
  match l, h with
  | [], _ => simp [sortBy]
  | [a], _ => simp [sortBy]

set_option maxRecDepth 100000 in
set_option maxHeartbeats 2000000 in
theorem ref_sort_step (l : List Row) (hl : l.length ≤ 1048576)
    (ih : ∀ (l' : List Row) (v : Value) (w : World), SliceOf Rep.row w.cell? v l' → l'.length < l.length → Calls Try.prog 17 #[v] w fun e w' => ∃ v', e = .returned v' ∧ SliceOf Rep.row w'.cell? v' (sortBy cmpRow l') ∧ Ext w w')
    (v : Value) (w : World) (hv : SliceOf Rep.row w.cell? v l) :
    Calls Try.prog 17 #[v] w fun e w' => ∃ v', e = .returned v' ∧ SliceOf Rep.row w'.cell? v' (sortBy cmpRow l) ∧ Ext w w' := by
  obtain ⟨i0, hi, hz0, hz1, hz2⟩ := info_parts infoRow
  obtain ⟨pa, ca, rfl, ha1, ha2, ha3⟩ := hv.form
  have HV := Lib.hid hv
  unfold maxLen at ha2
  go_enter Try.func17, Try.ntmps17
  by_cases h2 : l.length < 2
  · have hd : decide ((l.length : Int) < 2) = true := by simp; omega
    have hs := sortBy_short cmpRow l h2
    have HS := Lib.hid hs
    clear hv ha3 hs
    go_wp2_with (at_builtin; refine wpList_append_all Rep.row (fun _ => True) rfl _ _ 22 rfl w.heap.size 32 i0 _ 48 Try.underlying22 hi hz0 hz1 hz2 rfl (by decide) _ [] rfl (OwnOf.nil _ _ _ _ _) _ l rfl (HV.out.ext (full_nil w)) ?c1 ?c2 ?c3 ?_)
    case c1 => simp [maxLen]; omega
    case c2 => simp; omega
    case c3 => exact Nat.le_refl _
    intro v' w1 hown hgr _
    go_wp2_with fail
    go_ret
    exact ⟨v', rfl, by rw [HS.out]; simpa using hown.slice, Below.grown (Ext.refl w) hgr (Nat.le_refl _) (fun k hk => by simp [Value.ownBlock] at hk)⟩
  · have hd : decide ((l.length : Int) < 2) = false := by simp; omega
    obtain ⟨ba, oa, rfl⟩ := ha3 (by decide) (by omega)
    have h1 := HV.out.takeV (l.length / 2) (by omega)
    have h2 : SliceOf Rep.row w.cell? (.slice (some ⟨ba, oa + l.length / 2 * 2, none⟩) (l.length - l.length / 2) (ca - l.length / 2)) (l.drop (l.length / 2)) := HV.out.dropV (l.length / 2) (by omega)
    have HS := Lib.hid (sort_halves ord_row l (l.length / 2))
    have H1 := Lib.hid h1
    have H2 := Lib.hid h2
    have hl1 : (l.take (l.length / 2)).length < l.length := by simp; omega
    have hl2 : (l.drop (l.length / 2)).length < l.length := by simp; omega
    have hxr := Ext.refl w
    generalize hm : l.length / 2 = m at h1 h2 HS H1 H2 hl1 hl2
    have hq1 : (l.length : Int).tdiv 2 = (m : Int) := by rw [Int.tdiv_eq_ediv_of_nonneg (by omega)]; omega
    have hq2 : (l.length : Int) / 2 = (m : Int) := by omega
    have hq3 : IntKind.i64.wrap (m : Int) = (m : Int) := Go.IntWalk.i64_in _ (by omega)
    have hq4 : IntKind.i64.wrap ((l.length : Int).tdiv 2) = (m : Int) := by rw [hq1, hq3]
    have hm1 : (0 : Int) ≤ (m : Int) := by omega
    have hm2 : (m : Int) ≤ (l.length : Int) := by omega
    have hm3 : (m : Int) ≤ (ca : Int) := by omega
    clear hv ha3 h1 h2 hm
    go_wp2_with fail
    go_region_held3 (fun w' => Ext w w')
      (first | exact hxr.drew | assumption | exact Ext.trans (by assumption) hxA | exact Ext.trans (by assumption) hxB)
      (first | (go_at_call 17; refine (ih (l.take m) _ _ (by with_reducible exact H1.out.ext (‹Ext w _›).full) hl1).mono ?_; rintro e wA ⟨vA, rfl, sA, hxA⟩) | (go_at_call 17; refine (ih (l.drop m) _ _ (by with_reducible exact H2.out.ext (‹Ext w _›).full) hl2).mono ?_; rintro e wB ⟨vB, rfl, sB, hxB⟩))
    all_goals (first
      | (have tA := sA.ext hxB.full; have tB := sB.ext (Sub.refl _))
      | (have tB := sB.ext hxA.full; have tA := sA.ext (Sub.refl _)))
    all_goals (have hx0 := ‹Ext w _›)
    all_goals clear sA sB hxA hxB
    obtain ⟨a1, k1, rfl, hA1, hA2, hA3⟩ := tA.form
    obtain ⟨a2, k2, rfl, hB1, hB2, hB3⟩ := tB.form
    have hla : (sortBy cmpRow (l.take m)).length + (sortBy cmpRow (l.drop m)).length = l.length := by rw [sortBy_length, sortBy_length]; simp; omega
    generalize sortBy cmpRow (l.take m) = la at *
    generalize sortBy cmpRow (l.drop m) = lb at *
    have A0 := Lib.hid (tA.ext (full_on _ (fun k => k < wB.heap.size) fun k hk => hk))
    have B0 := Lib.hid (tB.ext (full_on _ (fun k => k < wB.heap.size) fun k hk => hk))
    unfold maxLen at hA2 hB2
    clear tA tB
    go_wp2_with fail
    go_loopg [5, 6, 7] (la.length + lb.length) (fun gk out i j wr => ∃ p q : Nat, p ≤ la.length ∧ q ≤ lb.length ∧ gk = (la.length - p) + (lb.length - q) ∧ i = .int .i64 p ∧ j = .int .i64 q ∧ (∃ xs, xs.length = p + q ∧ OwnOf Rep.row wr (fun k => k < wB.heap.size) wB.heap.size 32 out xs ∧ xs ++ mergeBy cmpRow (la.drop p) (lb.drop q) = sortBy cmpRow l) ∧ Below wB.heap.size wB wr)
    case atStart => exact ⟨0, 0, by omega, by omega, by omega, rfl, rfl, ⟨[], rfl, OwnOf.nil _ _ _ _ _, by simpa using HS.out⟩, Below.refl _ _⟩
    case round =>
      obtain ⟨p, q, hpl, hql, rfl, rfl, rfl, ⟨xs, hxs, hown, hxm⟩, hbw⟩ := hrel
      have HO := Lib.hid hown
      have HX := Lib.hid hxm
      clear hown hxm
      by_cases hp : p < la.length
      · by_cases hq : q < lb.length
        · obtain ⟨b1, o1, rfl⟩ := hA3 (by decide) (by omega)
          obtain ⟨u1, u2, c1, c2, s1, s2⟩ := row_at A0.out p hp
          replace c1 := (on_some.1 (below_sub hbw (fun _ h => h) _ _ c1)).2
          replace c2 := (on_some.1 (below_sub hbw (fun _ h => h) _ _ c2)).2
          obtain ⟨b2, o2, rfl⟩ := hB3 (by decide) (by omega)
          obtain ⟨v1, v2, d1, d2, t1, t2⟩ := row_at B0.out q hq
          replace d1 := (on_some.1 (below_sub hbw (fun _ h => h) _ _ d1)).2
          replace d2 := (on_some.1 (below_sub hbw (fun _ h => h) _ _ d2)).2
          have hmL : cmpRow la[p] lb[q] ≤ 0 → _ := fun h => merge_left cmpRow la lb p q hp (fun _ => h)
          have hmR : ¬ cmpRow la[p] lb[q] ≤ 0 → _ := fun h => merge_right cmpRow la lb p q hq (fun _ => h)
          have hd1 : decide ((p : Int) < (la.length : Int)) = true := by simp; omega
          have hd2 : ((q : Int) == (lb.length : Int)) = false := by simp; omega
          have hd3 : (p : Int) < (la.length : Int) := by omega
          have hd4 : (q : Int) < (lb.length : Int) := by omega
          have hsv : Sub (on wB (fun k => k < wB.heap.size)) wr.cell? := (below_sub hbw (fun _ h => h)).trans (on_sub _ _)
          generalize la[p] = x at s1 s2 hmL hmR
          generalize lb[q] = y at t1 t2 hmL hmR
          have S1 := Lib.hid s1
          have S2 := Lib.hid s2
          obtain ⟨p1, q1, rfl, _⟩ := s1.form
          obtain ⟨p2, q2, rfl, _⟩ := s2.form
          clear s1 s2
          have T1 := Lib.hid t1
          have T2 := Lib.hid t2
          obtain ⟨p3, q3, rfl, _⟩ := t1.form
          obtain ⟨p4, q4, rfl, _⟩ := t2.form
          clear t1 t2
          by_cases hc : cmpRow x y ≤ 0
          · have hm := hmL hc
            have hb : decide (cmpRow y x < 0) = false := by have := ord_row.anti x y; simp; omega
            have HM := Lib.hid hm
            have HB := Lib.hid hb
            clear hm hmL hmR hc hb
            have hxr := Gro.refl wr
            go_wp2_with fail
            go_region_held3 (fun w' => Gro wr w' ∧ w'.cell? ⟨b1, o1 + p * 2, none⟩ = some (.slice p1 x.vals.length q1) ∧ w'.cell? ⟨b1, o1 + p * 2 + 1, none⟩ = some (.slice p2 x.lin.length q2) ∧ w'.cell? ⟨b2, o2 + q * 2, none⟩ = some (.slice p3 y.vals.length q3) ∧ w'.cell? ⟨b2, o2 + q * 2 + 1, none⟩ = some (.slice p4 y.lin.length q4))
              (first | exact ⟨hxr.drew, c1, c2, d1, d2⟩ | assumption | exact keepG4 (by assumption) hx2)
              (first | (go_at_call 44; refine (ref_less _ _ _ _ y x _ (by exact T1.out.ext ((hsv).trans (And.left ‹Gro wr _ ∧ _›).ext.full)) (by exact S1.out.ext ((hsv).trans (And.left ‹Gro wr _ ∧ _›).ext.full)) (by exact T2.out.ext ((hsv).trans (And.left ‹Gro wr _ ∧ _›).ext.full)) (by exact S2.out.ext ((hsv).trans (And.left ‹Gro wr _ ∧ _›).ext.full))).mono ?_; rintro e w2 ⟨rfl, hx2⟩))
            all_goals (obtain ⟨hfin, _⟩ := ‹Gro wr _ ∧ _›)
            all_goals clear hxr
            all_goals clear d1 d2
            all_goals rw [HB.out]
            all_goals (
              replace c1 := hfin.at c1
              replace c2 := hfin.at c2
              have HO2 := Lib.hid (HO.out.ext hfin.ext)
              have hbw2 := Below.trans hbw (hfin.ext.mono hbw.size)
              clear hfin
              go_wp2_with (at_builtin; refine wpList_append_one Rep.row (fun k => k < wB.heap.size) rfl _ _ 22 rfl wB.heap.size 32 i0 _ 48 Try.underlying22 hi hz0 hz1 hz2 rfl (by decide) _ xs rfl (HO2.out.ext ((Ext.refl _).alloc _)) ⟨_, 0, none⟩ 1 x [.slice p1 x.vals.length q1, .slice p2 x.lin.length q2] rfl ?c1 ?c2 ?c3 ?c4 ?c5 ?_)
              case c1 =>
                have hs := old_avoid (Below.alloc hbw2 hbw2.size (.cells #[.slice p1 x.vals.length q1, .slice p2 x.lin.length q2] 32)) (HO2.out.ext ((Ext.refl _).alloc _))
                exact ⟨_, _, rfl, S1.out.ext hs, S2.out.ext hs⟩
              case c2 => exact cells_new _ [.slice p1 x.vals.length q1, .slice p2 x.lin.length q2] _
              case c3 => rw [hxs]; unfold maxLen; omega
              case c4 => rw [hxs]; omega
              case c5 => have := hbw2.size; (try simp at this); simp; omega
              intro g cap w3 hown3 hgr _
              go_wp2_with fail
              go_roundg ((la.length - p) + (lb.length - q) - 1)
              case measure => omega
              case rel =>
                refine ⟨p + 1, q, by omega, by omega, by omega, by go_num, rfl, ⟨xs ++ [x], by simp; omega, hown3, by rw [← HX.out, HM.out]; simp⟩, ?_⟩
                exact Below.grown (Below.alloc hbw2 hbw2.size _) hgr (by have := hbw2.size; (try simp at this); simp; omega) (fun j hj => (HO2.out.lt j hj).1))
          · have hm := hmR hc
            have hb : decide (cmpRow y x < 0) = true := by have := ord_row.anti x y; simp; omega
            have HM := Lib.hid hm
            have HB := Lib.hid hb
            clear hm hmL hmR hc hb
            have hxr := Gro.refl wr
            go_wp2_with fail
            go_region_held3 (fun w' => Gro wr w' ∧ w'.cell? ⟨b1, o1 + p * 2, none⟩ = some (.slice p1 x.vals.length q1) ∧ w'.cell? ⟨b1, o1 + p * 2 + 1, none⟩ = some (.slice p2 x.lin.length q2) ∧ w'.cell? ⟨b2, o2 + q * 2, none⟩ = some (.slice p3 y.vals.length q3) ∧ w'.cell? ⟨b2, o2 + q * 2 + 1, none⟩ = some (.slice p4 y.lin.length q4))
              (first | exact ⟨hxr.drew, c1, c2, d1, d2⟩ | assumption | exact keepG4 (by assumption) hx2)
              (first | (go_at_call 44; refine (ref_less _ _ _ _ y x _ (by exact T1.out.ext ((hsv).trans (And.left ‹Gro wr _ ∧ _›).ext.full)) (by exact S1.out.ext ((hsv).trans (And.left ‹Gro wr _ ∧ _›).ext.full)) (by exact T2.out.ext ((hsv).trans (And.left ‹Gro wr _ ∧ _›).ext.full)) (by exact S2.out.ext ((hsv).trans (And.left ‹Gro wr _ ∧ _›).ext.full))).mono ?_; rintro e w2 ⟨rfl, hx2⟩))
            all_goals (obtain ⟨hfin, _⟩ := ‹Gro wr _ ∧ _›)
            all_goals clear hxr
            all_goals clear c1 c2
            all_goals rw [HB.out]
            all_goals (
              replace d1 := hfin.at d1
              replace d2 := hfin.at d2
              have HO2 := Lib.hid (HO.out.ext hfin.ext)
              have hbw2 := Below.trans hbw (hfin.ext.mono hbw.size)
              clear hfin
              go_wp2_with (at_builtin; refine wpList_append_one Rep.row (fun k => k < wB.heap.size) rfl _ _ 22 rfl wB.heap.size 32 i0 _ 48 Try.underlying22 hi hz0 hz1 hz2 rfl (by decide) _ xs rfl (HO2.out.ext ((Ext.refl _).alloc _)) ⟨_, 0, none⟩ 1 y [.slice p3 y.vals.length q3, .slice p4 y.lin.length q4] rfl ?c1 ?c2 ?c3 ?c4 ?c5 ?_)
              case c1 =>
                have hs := old_avoid (Below.alloc hbw2 hbw2.size (.cells #[.slice p3 y.vals.length q3, .slice p4 y.lin.length q4] 32)) (HO2.out.ext ((Ext.refl _).alloc _))
                exact ⟨_, _, rfl, T1.out.ext hs, T2.out.ext hs⟩
              case c2 => exact cells_new _ [.slice p3 y.vals.length q3, .slice p4 y.lin.length q4] _
              case c3 => rw [hxs]; unfold maxLen; omega
              case c4 => rw [hxs]; omega
              case c5 => have := hbw2.size; (try simp at this); simp; omega
              intro g cap w3 hown3 hgr _
              go_wp2_with fail
              go_roundg ((la.length - p) + (lb.length - q) - 1)
              case measure => omega
              case rel =>
                refine ⟨p, q + 1, by omega, by omega, by omega, rfl, by go_num, ⟨xs ++ [y], by simp; omega, hown3, by rw [← HX.out, HM.out]; simp⟩, ?_⟩
                exact Below.grown (Below.alloc hbw2 hbw2.size _) hgr (by have := hbw2.size; (try simp at this); simp; omega) (fun j hj => (HO2.out.lt j hj).1))
        · obtain ⟨b1, o1, rfl⟩ := hA3 (by decide) (by omega)
          obtain ⟨u1, u2, c1, c2, s1, s2⟩ := row_at A0.out p hp
          replace c1 := (on_some.1 (below_sub hbw (fun _ h => h) _ _ c1)).2
          replace c2 := (on_some.1 (below_sub hbw (fun _ h => h) _ _ c2)).2
          have hm := merge_left cmpRow la lb p q hp (fun h => absurd h hq)
          have hql : q = lb.length := by omega
          have hd1 : decide ((p : Int) < (la.length : Int)) = true := by simp; omega
          have hd2 : ((q : Int) == (lb.length : Int)) = true := by simp; omega
          have hd3 : (p : Int) < (la.length : Int) := by omega
          generalize la[p] = x at s1 s2 hm
          have S1 := Lib.hid s1
          have S2 := Lib.hid s2
          obtain ⟨p1, q1, rfl, _⟩ := s1.form
          obtain ⟨p2, q2, rfl, _⟩ := s2.form
          clear s1 s2
          clear hql
          have HM := Lib.hid hm
          clear hm
          go_wp2_with fail
          go_quiet (fail)
          all_goals (have hfin := (Gro.refl wr).drewN nq)
          all_goals (
            replace c1 := hfin.at c1
            replace c2 := hfin.at c2
            have HO2 := Lib.hid (HO.out.ext hfin.ext)
            have hbw2 := Below.trans hbw (hfin.ext.mono hbw.size)
            clear hfin
            go_wp2_with (at_builtin; refine wpList_append_one Rep.row (fun k => k < wB.heap.size) rfl _ _ 22 rfl wB.heap.size 32 i0 _ 48 Try.underlying22 hi hz0 hz1 hz2 rfl (by decide) _ xs rfl (HO2.out.ext ((Ext.refl _).alloc _)) ⟨_, 0, none⟩ 1 x [.slice p1 x.vals.length q1, .slice p2 x.lin.length q2] rfl ?c1 ?c2 ?c3 ?c4 ?c5 ?_)
            case c1 =>
              have hs := old_avoid (Below.alloc hbw2 hbw2.size (.cells #[.slice p1 x.vals.length q1, .slice p2 x.lin.length q2] 32)) (HO2.out.ext ((Ext.refl _).alloc _))
              exact ⟨_, _, rfl, S1.out.ext hs, S2.out.ext hs⟩
            case c2 => exact cells_new _ [.slice p1 x.vals.length q1, .slice p2 x.lin.length q2] _
            case c3 => rw [hxs]; unfold maxLen; omega
            case c4 => rw [hxs]; omega
            case c5 => have := hbw2.size; (try simp at this); simp; omega
            intro g cap w3 hown3 hgr _
            go_wp2_with fail
            go_roundg ((la.length - p) + (lb.length - q) - 1)
            case measure => omega
            case rel =>
              refine ⟨p + 1, q, by omega, by omega, by omega, by go_num, rfl, ⟨xs ++ [x], by simp; omega, hown3, by rw [← HX.out, HM.out]; simp⟩, ?_⟩
              exact Below.grown (Below.alloc hbw2 hbw2.size _) hgr (by have := hbw2.size; (try simp at this); simp; omega) (fun j hj => (HO2.out.lt j hj).1))
      · by_cases hq : q < lb.length
        · obtain ⟨b2, o2, rfl⟩ := hB3 (by decide) (by omega)
          obtain ⟨v1, v2, d1, d2, t1, t2⟩ := row_at B0.out q hq
          replace d1 := (on_some.1 (below_sub hbw (fun _ h => h) _ _ d1)).2
          replace d2 := (on_some.1 (below_sub hbw (fun _ h => h) _ _ d2)).2
          have hm := merge_right cmpRow la lb p q hq (fun h => absurd h hp)
          have hd1 : decide ((p : Int) < (la.length : Int)) = false := by simp; omega
          have hd5 : decide ((q : Int) < (lb.length : Int)) = true := by simp; omega
          have hd2 : ((q : Int) == (lb.length : Int)) = false := by simp; omega
          have hd4 : (q : Int) < (lb.length : Int) := by omega
          generalize lb[q] = y at t1 t2 hm
          have T1 := Lib.hid t1
          have T2 := Lib.hid t2
          obtain ⟨p3, q3, rfl, _⟩ := t1.form
          obtain ⟨p4, q4, rfl, _⟩ := t2.form
          clear t1 t2
          have HM := Lib.hid hm
          clear hm
          go_wp2_with fail
          go_quiet (fail)
          all_goals (have hfin := (Gro.refl wr).drewN nq)
          all_goals (
            replace d1 := hfin.at d1
            replace d2 := hfin.at d2
            have HO2 := Lib.hid (HO.out.ext hfin.ext)
            have hbw2 := Below.trans hbw (hfin.ext.mono hbw.size)
            clear hfin
            go_wp2_with (at_builtin; refine wpList_append_one Rep.row (fun k => k < wB.heap.size) rfl _ _ 22 rfl wB.heap.size 32 i0 _ 48 Try.underlying22 hi hz0 hz1 hz2 rfl (by decide) _ xs rfl (HO2.out.ext ((Ext.refl _).alloc _)) ⟨_, 0, none⟩ 1 y [.slice p3 y.vals.length q3, .slice p4 y.lin.length q4] rfl ?c1 ?c2 ?c3 ?c4 ?c5 ?_)
            case c1 =>
              have hs := old_avoid (Below.alloc hbw2 hbw2.size (.cells #[.slice p3 y.vals.length q3, .slice p4 y.lin.length q4] 32)) (HO2.out.ext ((Ext.refl _).alloc _))
              exact ⟨_, _, rfl, T1.out.ext hs, T2.out.ext hs⟩
            case c2 => exact cells_new _ [.slice p3 y.vals.length q3, .slice p4 y.lin.length q4] _
            case c3 => rw [hxs]; unfold maxLen; omega
            case c4 => rw [hxs]; omega
            case c5 => have := hbw2.size; (try simp at this); simp; omega
            intro g cap w3 hown3 hgr _
            go_wp2_with fail
            go_roundg ((la.length - p) + (lb.length - q) - 1)
            case measure => omega
            case rel =>
              refine ⟨p, q + 1, by omega, by omega, by omega, rfl, by go_num, ⟨xs ++ [y], by simp; omega, hown3, by rw [← HX.out, HM.out]; simp⟩, ?_⟩
              exact Below.grown (Below.alloc hbw2 hbw2.size _) hgr (by have := hbw2.size; (try simp at this); simp; omega) (fun j hj => (HO2.out.lt j hj).1))
        · have hd1 : decide ((p : Int) < (la.length : Int)) = false := by simp; omega
          have hd5 : decide ((q : Int) < (lb.length : Int)) = false := by simp; omega
          have hfn : xs = sortBy cmpRow l := by
            have e1 : la.drop p = [] := List.drop_eq_nil_of_le (by omega)
            have e2 : lb.drop q = [] := List.drop_eq_nil_of_le (by omega)
            rw [← HX.out, e1, e2]
            simp [mergeBy]
          have HN := Lib.hid hfn
          clear hfn
          go_wp2_with fail
          go_ret
          exact ⟨_, rfl, by rw [← HN.out]; exact HO.out.slice, Ext.trans hx0 (hbw.mono (Nat.le_refl _))⟩

theorem ref_sort (n : Nat) : ∀ (l : List Row), l.length ≤ n → ∀ (v : Value) (w : World), l.length ≤ 1048576 → SliceOf Rep.row w.cell? v l → Calls Try.prog 17 #[v] w fun e w' => ∃ v', e = .returned v' ∧ SliceOf Rep.row w'.cell? v' (sortBy cmpRow l) ∧ Ext w w' := by
  induction n with
  | zero => exact fun l hl v w hf hv => ref_sort_step l hf (fun l' _ _ _ h => by omega) v w hv
  | succ n ih => exact fun l hl v w hf hv => ref_sort_step l hf (fun l' v' w' hv' h => ih l' (by omega) v' w' (by omega) hv') v w hv

end Go.Proofs.Ytmjfbfigdkolaaa
