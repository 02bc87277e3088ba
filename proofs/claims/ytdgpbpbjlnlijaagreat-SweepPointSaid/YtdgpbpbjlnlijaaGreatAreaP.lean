/- plain: the sum of the lengths is the sum of depth times length; no program in sight -/
import Derived.Test.YtdgpbpbjlnlijaaGreatPlainD
namespace Go.Proofs.YtdgpbpbjlnlijaaGreat

def sumN (g : Nat → Int) : Nat → Int
  | 0 => 0
  | k + 1 => sumN g k + g k
theorem sumN_congr (f g : Nat → Int) (k : Nat) (h : ∀ i, i < k → f i = g i) : sumN f k = sumN g k := by
  induction k with
  | zero => rfl
  | succ k ih => rw [sumN, sumN, ih fun i hi => h i (by omega), h k (by omega)]
theorem sumN_add (f g : Nat → Int) (k : Nat) : sumN (fun i => f i + g i) k = sumN f k + sumN g k := by
  induction k with
  | zero => rfl
  | succ k ih => rw [sumN, sumN, sumN, ih]; omega
theorem sumN_zero (k : Nat) : sumN (fun _ => 0) k = 0 := by
  induction k with
  | zero => rfl
  | succ k ih => rw [sumN, ih]; rfl
/-- the length of what lies between ascending points -/
def dP (P : List Int) (i : Nat) : Int := P[i + 1]! - P[i]!
theorem asc_at {P : List Int} (hP : P.Pairwise (· < ·)) {i j : Nat} (hij : i < j) (hj : j < P.length) : P[i]! < P[j]! := by
  rw [getElem!_pos P i (by omega), getElem!_pos P j hj]
  exact List.pairwise_iff_getElem.1 hP i j (by omega) hj hij
theorem gap {P : List Int} (hP : P.Pairwise (· < ·)) {y : Int} (hy : y ∈ P) {k : Nat} (hk : k + 1 < P.length) (h : P[k]! < y) : P[k + 1]! ≤ y := by
  obtain ⟨j, hj, rfl⟩ := List.getElem_of_mem hy
  have h1 : P[j] = P[j]! := (getElem!_pos P j hj).symm
  rw [h1] at h ⊢
  by_cases e : j ≤ k
  · rcases Nat.lt_or_eq_of_le e with e | e
    · have := asc_at hP e (by omega); omega
    · subst e; omega
  · by_cases e2 : j = k + 1
    · subst e2; omega
    · have := asc_at hP (show k + 1 < j by omega) hj; omega
theorem first_le {P : List Int} (hP : P.Pairwise (· < ·)) {x : Int} (hx : x ∈ P) : P[0]! ≤ x := by
  obtain ⟨j, hj, rfl⟩ := List.getElem_of_mem hx
  rw [show P[j] = P[j]! from (getElem!_pos P j hj).symm]
  rcases Nat.eq_zero_or_pos j with e | e
  · subst e; omega
  · have := asc_at hP e hj; omega
theorem le_last {P : List Int} (hP : P.Pairwise (· < ·)) {x : Int} (hx : x ∈ P) : x ≤ P[P.length - 1]! := by
  obtain ⟨j, hj, rfl⟩ := List.getElem_of_mem hx
  rw [show P[j] = P[j]! from (getElem!_pos P j hj).symm]
  by_cases e : j = P.length - 1
  · subst e; omega
  · have := asc_at hP (show j < P.length - 1 by omega) (by omega); omega
def ind (b : Bool) : Int := if b = true then 1 else 0
def inI (x y z : Int) : Bool := decide (x ≤ z) && decide (z < y)
theorem tele {P : List Int} (hP : P.Pairwise (· < ·)) {x y : Int} (hx : x ∈ P) (hy : y ∈ P) (hxy : x < y) (k : Nat) (hk : k < P.length) :
    sumN (fun i => dP P i * ind (inI x y P[i]!)) k = min y P[k]! - min x P[k]! := by
  induction k with
  | zero => have := first_le hP hx; simp only [sumN]; omega
  | succ k ih =>
    rw [sumN, ih (by omega)]
    have hlt := asc_at hP (show k < k + 1 by omega) hk
    unfold dP ind inI
    by_cases h1 : x ≤ P[k]!
    · by_cases h2 : P[k]! < y
      · have := gap hP hy hk h2
        simp only [h1, h2, decide_true, Bool.and_self, if_true, Int.mul_one]
        omega
      · simp only [h1, h2, decide_true, decide_false, Bool.and_false, Bool.false_eq_true, if_false, Int.mul_zero]
        omega
    · have := gap hP hx hk (by omega)
      simp only [h1, decide_false, Bool.false_and, Bool.false_eq_true, if_false, Int.mul_zero]
      omega
theorem tele_all {P : List Int} (hP : P.Pairwise (· < ·)) {x y : Int} (hx : x ∈ P) (hy : y ∈ P) (hxy : x < y) : sumN (fun i => dP P i * ind (inI x y P[i]!)) (P.length - 1) = y - x := by
  have hl : 0 < P.length := List.length_pos_of_mem hx
  rw [tele hP hx hy hxy _ (by omega)]
  have h1 := le_last hP hx
  have h2 := le_last hP hy
  omega
/-- the sum of the lengths -/
def lens : List Tup → Int
  | [] => 0
  | t :: l => (t.to_ - t.from_) + lens l
theorem lens_snoc (l : List Tup) (t : Tup) : lens (l ++ [t]) = lens l + t.to_ - t.from_ := by
  induction l with
  | nil => simp [lens]
  | cons x l ih => rw [List.cons_append, lens, lens, ih]; omega
theorem sum_cnt {P : List Int} (hP : P.Pairwise (· < ·)) : ∀ (l : List Tup), (∀ t ∈ l, validT t = true) → (∀ x ∈ bnd l, x ∈ P) → sumN (fun i => dP P i * (cntAt l P[i]! : Int)) (P.length - 1) = lens l := by
  intro l
  induction l with
  | nil => intro _ _; simp only [cntAt, List.filter_nil, List.length_nil, lens]; rw [← sumN_zero (P.length - 1)]; exact sumN_congr _ _ _ fun i _ => by simp
  | cons t l ih =>
    intro hv hb
    have ht := hv t (by simp)
    have hbt : bnd (t :: l) = [t.from_, t.to_] ++ bnd l := by simp [bnd, ht]
    rw [hbt] at hb
    have ih' := ih (fun u hu => hv u (by simp [hu])) fun x hx => hb x (by simp [hx])
    have hlt := validB_lt ht
    have h2 := tele_all hP (hb t.from_ (by simp)) (hb t.to_ (by simp)) hlt.2.1
    rw [lens, ← ih', ← h2, ← sumN_add]
    refine sumN_congr _ _ _ fun i _ => ?_
    have hc : (cntAt (t :: l) P[i]! : Int) = ind (inI t.from_ t.to_ P[i]!) + cntAt l P[i]! := by
      unfold cntAt
      rw [List.filter_cons]
      have hh : holdsAt P[i]! t = inI t.from_ t.to_ P[i]! := by simp [holdsAt, inI, ht]
      rw [hh]
      unfold ind
      split <;> simp <;> omega
    rw [hc, Int.mul_add]
def area : List StepI → Int
  | [] => 0
  | s :: l => (s.to_ - s.from_) * s.n + area l
def cov : List StepI → Int
  | [] => 0
  | s :: l => (if 0 < s.n then s.to_ - s.from_ else 0) + cov l
theorem area_append (a b : List StepI) : area (a ++ b) = area a + area b := by
  induction a with
  | nil => simp [area]
  | cons x a ih => rw [List.cons_append, area, area, ih]; omega
theorem cov_append (a b : List StepI) : cov (a ++ b) = cov a + cov b := by
  induction a with
  | nil => simp [cov]
  | cons x a ih => rw [List.cons_append, cov, cov, ih]; omega
/-- steps follow one another, none is empty, neighbours differ -/
def StepRuns (d : List StepI) : Prop := (∀ s ∈ d, s.from_ < s.to_) ∧ ∀ i (h : i + 1 < d.length), d[i].to_ = d[i + 1].from_ ∧ d[i].n ≠ d[i + 1].n
theorem steps_sum {P : List Int} (hP : P.Pairwise (· < ·)) (f : Nat → Int) (k : Nat) (hk : k < P.length) :
    area (stepsOf P f k) = sumN (fun i => dP P i * f i) k ∧ cov (stepsOf P f k) = sumN (fun i => dP P i * ind (decide (0 < f i))) k ∧ StepRuns (stepsOf P f k) ∧ (∀ p, (stepsOf P f k).getLast? = some p → p.to_ = P[k]!) ∧ (0 < k → (stepsOf P f k).getLast? ≠ none) := by
  induction k with
  | zero => exact ⟨rfl, rfl, ⟨by simp [stepsOf], fun i h => by simp [stepsOf] at h⟩, by simp [stepsOf], fun h => by omega⟩
  | succ k ih =>
    obtain ⟨h1, h2, h3, h4, h5⟩ := ih (by omega)
    have hlt := asc_at hP (show k < k + 1 by omega) hk
    rw [stepsOf]
    simp only [sumN]
    have hd : dP P k = P[k + 1]! - P[k]! := rfl
    generalize P[k]! = u at *
    generalize P[k + 1]! = v at *
    simp only [hd]
    unfold addStep
    cases hg : (stepsOf P f k).getLast? with
    | none =>
      have hnil : stepsOf P f k = [] := List.getLast?_eq_none_iff.1 hg
      have hk0 : k = 0 := by
        rcases Nat.eq_zero_or_pos k with h | h
        · exact h
        · exact absurd hg (h5 h)
      have e0 : sumN (fun i => dP P i * f i) k = 0 := by rw [hk0]; rfl
      have e1 : sumN (fun i => dP P i * ind (decide (0 < f i))) k = 0 := by rw [hk0]; rfl
      rw [e0, e1]
      refine ⟨by simp [area], ?_, ⟨fun s hs => ?_, fun i h => by simp at h⟩, fun p hp => ?_, fun _ => by simp⟩
      · simp only [cov, ind, decide_eq_true_eq]
        split <;> simp
      · rw [List.mem_singleton] at hs; subst hs; exact hlt
      · simp at hp; subst hp; rfl
    | some p =>
      have hp := h4 p hg
      obtain ⟨l, hl⟩ : ∃ l, stepsOf P f k = l ++ [p] := by
        obtain ⟨l, hl⟩ := List.getLast?_eq_some_iff.1 hg
        exact ⟨l, hl⟩
      rw [hl] at h1 h2 h3 ⊢
      rw [area_append] at h1
      rw [cov_append] at h2
      simp only [area, cov, Int.add_zero] at h1 h2
      have hpl := h3.1 p (by simp)
      by_cases hn : p.n = f k
      · simp only [hn, if_true, List.dropLast_concat]
        refine ⟨?_, ?_, ⟨fun s hs => ?_, fun i h => ?_⟩, fun q hq => ?_, fun _ => by simp⟩
        · rw [area_append, ← h1]
          simp only [area, Int.add_zero]
          rw [hn, ← hp, Int.add_assoc, ← Int.add_mul]
          congr 2
          omega
        · rw [cov_append, ← h2]
          simp only [cov, Int.add_zero, ind, decide_eq_true_eq, hn]
          split <;> simp <;> omega
        · rcases List.mem_append.1 hs with h | h
          · exact h3.1 s (by simp [h])
          · rw [List.mem_singleton] at h; subst h; simp only; omega
        · have := h3.2 i (by simpa using h)
          by_cases e : i + 1 < l.length
          · rw [List.getElem_append_left (by omega), List.getElem_append_left e] at this ⊢
            exact this
          · have ei : i + 1 = l.length := by simp at h; omega
            rw [List.getElem_append_left (by omega), List.getElem_append_right (by omega)] at this ⊢
            simp only [ei, Nat.sub_self, List.getElem_cons_zero] at this ⊢
            rw [← hn]
            exact this
        · simp at hq; subst hq; rfl
      · simp only [hn, if_false]
        refine ⟨?_, ?_, ⟨fun s hs => ?_, fun i h => ?_⟩, fun q hq => ?_, fun _ => by simp⟩
        · rw [area_append, area_append, ← h1]
          simp only [area, Int.add_zero]
        · rw [cov_append, cov_append, ← h2]
          simp only [cov, Int.add_zero, ind, decide_eq_true_eq]
          split <;> split <;> simp
        · rcases List.mem_append.1 hs with h | h
          · exact h3.1 s h
          · rw [List.mem_singleton] at h; subst h; exact hlt
        · by_cases e : i + 1 < (l ++ [p]).length
          · rw [List.getElem_append_left (by omega), List.getElem_append_left e]
            exact h3.2 i e
          · have ei : i + 1 = (l ++ [p]).length := by simp at h e ⊢; omega
            have hi : i = l.length := by simp only [List.length_append, List.length_singleton] at ei; omega
            have hgl : (l ++ [p] ++ [(⟨u, v, f k⟩ : StepI)])[i]'(by omega) = p := by
              rw [List.getElem_append_left (by omega), List.getElem_append_right (by omega)]
              simp [hi]
            have hgr : (l ++ [p] ++ [(⟨u, v, f k⟩ : StepI)])[i + 1]'h = ⟨u, v, f k⟩ := by
              rw [List.getElem_append_right (by omega)]
              simp [ei]
            rw [hgl, hgr]
            exact ⟨hp, hn⟩
        · simp at hq; subst hq; rfl
def perLen : List Per → Int
  | [] => 0
  | p :: s => (p.to_ - p.from_) + perLen s
theorem perLen_snoc (s : List Per) (p : Per) : perLen (s ++ [p]) = perLen s + p.to_ - p.from_ := by
  induction s with
  | nil => simp [perLen]
  | cons x s ih => rw [List.cons_append, perLen, perLen, ih]; omega
theorem sum_norm {P : List Int} (hP : P.Pairwise (· < ·)) : ∀ (s : List Per), NormPer s → (∀ p ∈ s, p.from_ ∈ P ∧ p.to_ ∈ P) → ∀ (g : Int → Bool), (∀ x, g x = true ↔ inPer s x) → sumN (fun i => dP P i * ind (g P[i]!)) (P.length - 1) = perLen s := by
  intro s
  induction s with
  | nil =>
    intro _ _ g hg
    rw [perLen, ← sumN_zero (P.length - 1)]
    refine sumN_congr _ _ _ fun i _ => ?_
    have : g P[i]! = false := by
      cases h : g P[i]!
      · rfl
      · exact absurd ((hg _).1 h) inPer_nil
    rw [this]
    simp [ind]
  | cons p s ih =>
    intro hN hb g hg
    obtain ⟨hp1, hp2⟩ := hN.head
    have h2 := tele_all hP (hb p (by simp)).1 (hb p (by simp)).2 hp1
    have hins : ∀ x, inPer s x → p.to_ < x := fun x ⟨q, hq, h3, _⟩ => by have := hp2 q hq; omega
    have ih' := ih hN.tail (fun q hq => hb q (by simp [hq])) (fun x => g x && !inI p.from_ p.to_ x) fun x => by
      rw [Bool.and_eq_true, hg x, inPer_cons]
      simp only [inI, Bool.not_eq_true', Bool.and_eq_false_iff, decide_eq_false_iff_not]
      constructor
      · rintro ⟨h3 | h3, h4⟩
        · omega
        · exact h3
      · intro h3
        have := hins x h3
        exact ⟨.inr h3, by omega⟩
    rw [perLen, ← ih', ← h2, ← sumN_add]
    refine sumN_congr _ _ _ fun i _ => ?_
    rw [← Int.mul_add]
    congr 1
    unfold ind
    cases h3 : inI p.from_ p.to_ P[i]! with
    | true =>
      have : g P[i]! = true := (hg _).2 (inPer_cons.2 (.inl (by simpa [inI] using h3)))
      rw [this]
      simp
    | false => simp
/-- the ends of the normal form are ends of the periods -/
def Ends (L : List Int) (s : List Per) : Prop := ∀ p ∈ s, p.from_ ∈ L ∧ p.to_ ∈ L
theorem ends_min {L : List Int} {x y : Int} (hx : x ∈ L) (hy : y ∈ L) : min x y ∈ L ∧ max x y ∈ L := by
  rcases Int.le_total x y with h | h
  · rw [Int.min_eq_left h, Int.max_eq_right h]; exact ⟨hx, hy⟩
  · rw [Int.min_eq_right h, Int.max_eq_left h]; exact ⟨hy, hx⟩
theorem absorb_ends {L : List Int} : ∀ (s : List Per) (p : Per), Ends L s → (p.from_ ∈ L ∧ p.to_ ∈ L) → ((absorb s p).1.from_ ∈ L ∧ (absorb s p).1.to_ ∈ L) ∧ Ends L (absorb s p).2 := by
  intro s
  induction s with
  | nil => intro p _ hp; exact ⟨hp, fun q hq => by cases hq⟩
  | cons q s ih =>
    intro p hs hp
    have hq := hs q (by simp)
    unfold absorb
    split
    · exact ih _ (fun r hr => hs r (by simp [hr])) ⟨(ends_min hp.1 hq.1).1, (ends_min hp.2 hq.2).2⟩
    · exact ⟨hp, hs⟩
theorem insPer_ends {L : List Int} : ∀ (s : List Per) (p : Per), Ends L s → (p.from_ ∈ L ∧ p.to_ ∈ L) → Ends L (insPer s p) := by
  intro s
  induction s with
  | nil => intro p _ hp q hq; simp [insPer] at hq; subst hq; exact hp
  | cons q s ih =>
    intro p hs hp
    unfold insPer
    split
    · intro r hr
      rcases List.mem_cons.1 hr with rfl | hr
      · exact hs _ (by simp)
      · exact ih p (fun x hx => hs x (by simp [hx])) hp r hr
    · obtain ⟨h1, h2⟩ := absorb_ends (q :: s) p hs hp
      intro r hr
      rcases List.mem_cons.1 hr with rfl | hr
      · exact h1
      · exact h2 r hr
theorem refNorm_ends {L : List Int} (l : List Per) (h : ∀ p ∈ l, validB p.from_ p.to_ = true → p.from_ ∈ L ∧ p.to_ ∈ L) : Ends L (refNorm l) := by
  have key : ∀ (l out : List Per), Ends L out → (∀ p ∈ l, p.from_ ∈ L ∧ p.to_ ∈ L) → Ends L (l.foldl insPer out) := by
    intro l
    induction l with
    | nil => intro out ho _; exact ho
    | cons p l ih => intro out ho hl; exact ih _ (insPer_ends out p ho (hl p (by simp))) fun q hq => hl q (by simp [hq])
  exact key _ [] (fun p hp => by cases hp) fun p hp => by
    obtain ⟨h1, h2⟩ := List.mem_filter.1 hp
    exact h p h1 h2
def tupPer (t : Tup) : Per := ⟨t.from_, t.to_⟩
theorem area_law (l : List Tup) (hv : ∀ t ∈ l, validT t = true) : area (depthOf l) = lens l ∧ cov (depthOf l) = perLen (refNorm (l.map tupPer)) ∧ StepRuns (depthOf l) := by
  obtain ⟨p1, p2, _⟩ := pts_law l
  by_cases h0 : 0 < (pts l).length
  · obtain ⟨h1, h2, h3, _⟩ := steps_sum p1 (fun i => (cntAt l (pts l)[i]! : Int)) ((pts l).length - 1) (by omega)
    refine ⟨h1.trans (sum_cnt p1 l hv fun x hx => (p2 x).2 hx), ?_, h3⟩
    obtain ⟨n1, n2⟩ := refNorm_law (l.map tupPer)
    refine h2.trans (sum_norm p1 _ n1 ?_ (fun x => decide (0 < (cntAt l x : Int))) fun x => ?_)
    · refine refNorm_ends _ fun p hp hpv => ?_
      obtain ⟨t, ht, rfl⟩ := List.mem_map.1 hp
      have hb : t.from_ ∈ bnd l ∧ t.to_ ∈ bnd l := by
        unfold bnd
        refine ⟨List.mem_flatMap.2 ⟨t, ht, ?_⟩, List.mem_flatMap.2 ⟨t, ht, ?_⟩⟩ <;> simp [hv t ht]
      exact ⟨(p2 _).2 hb.1, (p2 _).2 hb.2⟩
    · rw [n2 x, decide_eq_true_eq]
      unfold cntAt
      constructor
      · intro h
        have hl : 0 < (l.filter (holdsAt x)).length := by omega
        obtain ⟨t, ht⟩ := List.exists_mem_of_length_pos hl
        obtain ⟨g1, g2⟩ := List.mem_filter.1 ht
        simp only [holdsAt, Bool.and_eq_true, decide_eq_true_eq] at g2
        exact ⟨tupPer t, List.mem_filter.2 ⟨List.mem_map_of_mem g1, g2.1.1⟩, g2.1.2, g2.2⟩
      · rintro ⟨p, hp, g1, g2⟩
        obtain ⟨g3, g4⟩ := List.mem_filter.1 hp
        obtain ⟨t, ht, rfl⟩ := List.mem_map.1 g3
        have : t ∈ l.filter (holdsAt x) := List.mem_filter.2 ⟨ht, by simp only [holdsAt, Bool.and_eq_true, decide_eq_true_eq]; exact ⟨⟨g4, g1⟩, g2⟩⟩
        have := List.length_pos_of_mem this
        omega
  · have hp : pts l = [] := List.eq_nil_of_length_eq_zero (by omega)
    have hl : l = [] := by
      cases l with
      | nil => rfl
      | cons t l =>
        have : t.from_ ∈ pts (t :: l) := (p2 _).2 (by simp [bnd, hv t (by simp)])
        rw [hp] at this
        cases this
    subst hl
    have hd : depthOf [] = [] := by unfold depthOf; rw [hp]; rfl
    rw [hd]
    exact ⟨rfl, rfl, ⟨fun s hs => by simp at hs, fun i h => by simp at h⟩⟩

end Go.Proofs.YtdgpbpbjlnlijaaGreat
