/- plain: pairs and depth at one point of time; no program in sight -/
import Derived.Test.YtdgpbpbjlnlijaaGreatAreaP
namespace Go.Proofs.YtdgpbpbjlnlijaaGreat

/-- the start holds at t -/
def hE (t : Int) (e : Ev) : Bool := validB e.from_ e.to_ && decide (e.from_ ≤ t) && decide (t < e.to_)
/-- the pair's overlap holds t -/
def inP (t : Int) (p : Pair) : Bool := decide (p.from_ ≤ t) && decide (t < p.to_)
theorem meet_at (t : Int) {x y : Ev} (h : x.side ≠ y.side) : ((meet x y).filter (inP t)).length = if hE t x = true ∧ hE t y = true then 1 else 0 := by
  unfold meet
  by_cases hk : x.side ≠ y.side ∧ okEv x = true ∧ okEv y = true ∧ max x.from_ y.from_ < min x.to_ y.to_
  · rw [if_pos hk]
    obtain ⟨_, h1, h2, h3⟩ := hk
    unfold okEv at h1 h2
    have e : inP t (mkPair x y) = (hE t x && hE t y) := by
      unfold inP mkPair hE
      rw [h1, h2, Bool.eq_iff_iff]
      simp only [Bool.and_eq_true, decide_eq_true_eq, true_and]
      omega
    rw [List.filter_cons, List.filter_nil, e]
    cases hE t x <;> cases hE t y <;> rfl
  · rw [if_neg hk, List.filter_nil, List.length_nil, if_neg]
    rintro ⟨h1, h2⟩
    unfold hE at h1 h2
    simp only [Bool.and_eq_true, decide_eq_true_eq] at h1 h2
    exact hk ⟨h, h1.1.1, h2.1.1, by omega⟩
theorem meet_row (t : Int) {x : Ev} (hx : x.side = false) : ∀ (m : List Ev), (∀ y ∈ m, y.side = true) → ((m.flatMap (meet x)).filter (inP t)).length = if hE t x = true then (m.filter (hE t)).length else 0 := by
  intro m
  induction m with
  | nil => intro _; simp
  | cons y m ih =>
    intro hm
    have hy := hm y (by simp)
    rw [List.flatMap_cons, List.filter_append, List.length_append, ih fun z hz => hm z (by simp [hz]), meet_at t (by rw [hx, hy]; decide), List.filter_cons]
    cases hE t x <;> cases hE t y <;> simp <;> omega
theorem meet_all (t : Int) {m : List Ev} (hm : ∀ y ∈ m, y.side = true) : ∀ (l : List Ev), (∀ x ∈ l, x.side = false) → ((l.flatMap fun x => m.flatMap (meet x)).filter (inP t)).length = (l.filter (hE t)).length * (m.filter (hE t)).length := by
  intro l
  induction l with
  | nil => intro _; simp
  | cons x l ih =>
    intro hl
    rw [List.flatMap_cons, List.filter_append, List.length_append, ih fun z hz => hl z (by simp [hz]), meet_row t (hl x (by simp)) m hm, List.filter_cons]
    cases hE t x with
    | false => simp
    | true => simp [Nat.succ_mul]; omega
theorem evs_hold (c : Bool) (t : Int) (l : List Tup) : ∀ i, ((evs c i l).filter (hE t)).length = cntAt l t := by
  induction l with
  | nil => intro i; rfl
  | cons x l ih =>
    intro i
    have h1 := ih (i + 1)
    unfold cntAt at h1 ⊢
    rw [evs, List.filter_cons, List.filter_cons]
    have e : hE t ⟨c, i, x.from_, x.to_⟩ = holdsAt t x := rfl
    rw [e]
    cases holdsAt t x <;> simp [h1]
theorem pairs_at (a b : List Tup) (t : Int) : ((pairsOf a b).filter (inP t)).length = cntAt a t * cntAt b t := by
  rw [((pairsOf_perm a b).filter _).length_eq]
  unfold rawPairs
  rw [meet_all t (fun y hy => (evs_mem hy).1) _ fun x hx => (evs_mem hx).1, evs_hold, evs_hold]

/-- what the last step that holds t says -/
def valAt (t : Int) (l : List StepI) : Int := l.foldl (fun d s => if s.from_ ≤ t ∧ t < s.to_ then s.n else d) 0
theorem valAt_snoc (t : Int) (l : List StepI) (s : StepI) : valAt t (l ++ [s]) = if s.from_ ≤ t ∧ t < s.to_ then s.n else valAt t l := by
  unfold valAt
  rw [List.foldl_append]
  rfl
theorem steps_at {P : List Int} (hP : P.Pairwise (· < ·)) (f : Nat → Int) (t g : Int) (k : Nat) (hk : k < P.length) (hg : ∀ i, i < k → P[i]! ≤ t → t < P[i + 1]! → f i = g) :
    valAt t (stepsOf P f k) = if P[0]! ≤ t ∧ t < P[k]! then g else 0 := by
  induction k with
  | zero => rw [if_neg (by omega)]; rfl
  | succ k ih =>
    have ih' := ih (by omega) fun i hi => hg i (by omega)
    have hgk := hg k (by omega)
    obtain ⟨_, _, h3, h4, h5⟩ := steps_sum hP f k (by omega)
    have hlt := asc_at hP (show k < k + 1 by omega) hk
    have h0k : P[0]! ≤ P[k]! := by
      rcases Nat.eq_zero_or_pos k with e | e
      · subst e; exact Int.le_refl _
      · have := asc_at hP e (by omega); omega
    rw [stepsOf]
    unfold addStep
    cases hgl : (stepsOf P f k).getLast? with
    | none =>
      have hk0 : k = 0 := by
        rcases Nat.eq_zero_or_pos k with h | h
        · exact h
        · exact absurd hgl (h5 h)
      subst hk0
      show valAt t ([] ++ [_]) = _
      rw [valAt_snoc]
      simp only
      by_cases hc : P[0]! ≤ t ∧ t < P[0 + 1]!
      · rw [if_pos hc, if_pos hc, hgk hc.1 hc.2]
      · rw [if_neg hc, if_neg hc]; rfl
    | some p =>
      have hp := h4 p hgl
      obtain ⟨l, hl⟩ := List.getLast?_eq_some_iff.1 hgl
      rw [hl] at ih' h3 ⊢
      rw [valAt_snoc] at ih'
      have hpl := h3.1 p (by simp)
      by_cases hn : p.n = f k
      · simp only [hn, if_true, List.dropLast_concat]
        rw [valAt_snoc]
        simp only
        by_cases c1 : t < P[k]!
        · have e1 : (p.from_ ≤ t ∧ t < P[k + 1]!) ↔ (p.from_ ≤ t ∧ t < p.to_) := by omega
          have e2 : (P[0]! ≤ t ∧ t < P[k + 1]!) ↔ (P[0]! ≤ t ∧ t < P[k]!) := by omega
          simp only [e1, e2, ← hn]
          exact ih'
        · by_cases c2 : t < P[k + 1]!
          · rw [if_pos (by omega), if_pos (by omega)]
            exact hgk (by omega) c2
          · rw [if_neg (by omega), if_neg (by omega)]
            rw [if_neg (by omega), if_neg (by omega)] at ih'
            exact ih'
      · simp only [hn, if_false]
        rw [valAt_snoc, valAt_snoc]
        simp only
        by_cases c1 : t < P[k]!
        · have e2 : (P[0]! ≤ t ∧ t < P[k + 1]!) ↔ (P[0]! ≤ t ∧ t < P[k]!) := by omega
          rw [if_neg (by omega)]
          simp only [e2]
          exact ih'
        · by_cases c2 : t < P[k + 1]!
          · rw [if_pos (by omega), if_pos (by omega)]
            exact hgk (by omega) c2
          · rw [if_neg (by omega), if_neg (show ¬ (P[0]! ≤ t ∧ t < P[k + 1]!) by omega), ih', if_neg (by omega)]
/-- no boundary between: the same tuples hold -/
theorem hold_between {P : List Int} (hP : P.Pairwise (· < ·)) {i : Nat} (hi : i + 1 < P.length) {t : Int} (h1 : P[i]! ≤ t) (h2 : t < P[i + 1]!) (l : List Tup) (hb : ∀ x ∈ bnd l, x ∈ P) : ∀ x ∈ l, holdsAt P[i]! x = holdsAt t x := by
  intro x hx
  unfold holdsAt
  cases hv : validB x.from_ x.to_ with
  | false =>
    have : validT x = false := hv
    simp [this]
  | true =>
    have hm : ∀ z, z = x.from_ ∨ z = x.to_ → z ∈ P := fun z hz => hb z (by
      unfold bnd
      refine List.mem_flatMap.2 ⟨x, hx, ?_⟩
      have : validT x = true := hv
      rw [this, if_pos rfl]
      rcases hz with rfl | rfl <;> simp)
    have g1 := gap hP (hm x.from_ (.inl rfl)) hi
    have g2 := gap hP (hm x.to_ (.inr rfl)) hi
    have : validT x = true := hv
    rw [this, Bool.true_and, Bool.true_and, Bool.eq_iff_iff]
    simp only [Bool.and_eq_true, decide_eq_true_eq]
    omega
theorem cnt_between {P : List Int} (hP : P.Pairwise (· < ·)) {i : Nat} (hi : i + 1 < P.length) {t : Int} (h1 : P[i]! ≤ t) (h2 : t < P[i + 1]!) (l : List Tup) (hb : ∀ x ∈ bnd l, x ∈ P) : cntAt l P[i]! = cntAt l t := by
  unfold cntAt
  rw [List.filter_congr (hold_between hP hi h1 h2 l hb)]
theorem cnt_out {P : List Int} (hP : P.Pairwise (· < ·)) {t : Int} (l : List Tup) (hb : ∀ x ∈ bnd l, x ∈ P) (h : t < P[0]! ∨ P[P.length - 1]! ≤ t) : cntAt l t = 0 := by
  unfold cntAt
  rw [List.length_eq_zero_iff, List.filter_eq_nil_iff]
  intro x hx hc
  unfold holdsAt at hc
  simp only [Bool.and_eq_true, decide_eq_true_eq] at hc
  have hv : validT x = true := hc.1.1
  have hm : ∀ z, z = x.from_ ∨ z = x.to_ → z ∈ P := fun z hz => hb z (by
    unfold bnd
    refine List.mem_flatMap.2 ⟨x, hx, ?_⟩
    rw [hv, if_pos rfl]
    rcases hz with rfl | rfl <;> simp)
  have g1 := first_le hP (hm x.from_ (.inl rfl))
  have g2 := le_last hP (hm x.to_ (.inr rfl))
  omega
theorem depth_at (l : List Tup) (t : Int) : valAt t (depthOf l) = (cntAt l t : Int) := by
  obtain ⟨p1, p2, _⟩ := pts_law l
  show valAt t (stepsOf (pts l) (fun i => (cntAt l (pts l)[i]! : Int)) ((pts l).length - 1)) = _
  by_cases h0 : 0 < (pts l).length
  · rw [steps_at p1 (fun i => (cntAt l (pts l)[i]! : Int)) t (cntAt l t : Int) _ (by omega) fun i hi h1 h2 => by rw [cnt_between p1 (by omega) h1 h2 l fun x hx => (p2 x).2 hx]]
    by_cases hc : (pts l)[0]! ≤ t ∧ t < (pts l)[(pts l).length - 1]!
    · rw [if_pos hc]
    · rw [if_neg hc, cnt_out p1 l (fun x hx => (p2 x).2 hx) (by omega)]; rfl
  · have e : pts l = [] := List.length_eq_zero_iff.1 (by omega)
    have hz : cntAt l t = 0 := by
      unfold cntAt
      rw [List.length_eq_zero_iff, List.filter_eq_nil_iff]
      intro x hx hc
      unfold holdsAt at hc
      simp only [Bool.and_eq_true, decide_eq_true_eq] at hc
      have hv : validT x = true := hc.1.1
      have : x.from_ ∈ pts l := (p2 _).2 (by
        unfold bnd
        refine List.mem_flatMap.2 ⟨x, hx, ?_⟩
        rw [hv, if_pos rfl]
        simp)
      rw [e] at this
      cases this
    rw [e, hz]
    rfl

end Go.Proofs.YtdgpbpbjlnlijaaGreat
