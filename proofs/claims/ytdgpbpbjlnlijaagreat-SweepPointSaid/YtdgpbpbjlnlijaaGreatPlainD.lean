/- DepthP, NormP, joined -/
import Derived.Test.YtdgpbpbjlnlijaaGreatPlainS
import Derived.Test.YtdgpbpbjlnlijaaGreatBagS

/- plain: the number of tuples that hold, as a function of time; no program in sight -/
namespace Go.Proofs.YtdgpbpbjlnlijaaGreat

def validT (t : Tup) : Bool := validB t.from_ t.to_
/-- the ends of the valid tuples -/
def bnd (l : List Tup) : List Int := l.flatMap fun t => if validT t = true then [t.from_, t.to_] else []
/-- the change that one tuple makes at x -/
def chg1 (t : Tup) (x : Int) : Int := if validT t = true then (if t.from_ = x then 1 else 0) - (if t.to_ = x then 1 else 0) else 0
def chg : List Tup → Int → Int
  | [], _ => 0
  | t :: l, x => chg1 t x + chg l x
def holdsAt (x : Int) (t : Tup) : Bool := validT t && decide (t.from_ ≤ x) && decide (x < t.to_)
/-- how many hold at x -/
def cntAt (l : List Tup) (x : Int) : Nat := (l.filter (holdsAt x)).length
theorem bnd_append (a b : List Tup) : bnd (a ++ b) = bnd a ++ bnd b := by simp [bnd]
theorem chg_append (a b : List Tup) (x : Int) : chg (a ++ b) x = chg a x + chg b x := by
  induction a with
  | nil => simp [chg]
  | cons t a ih => simp only [List.cons_append, chg, ih]; omega
theorem bnd_len (l : List Tup) : (bnd l).length ≤ 2 * l.length := by
  induction l with
  | nil => simp [bnd]
  | cons t l ih =>
    have : bnd (t :: l) = (if validT t = true then [t.from_, t.to_] else []) ++ bnd l := rfl
    rw [this, List.length_append, List.length_cons]
    split <;> simp <;> omega
def sumL : List Int → Int
  | [] => 0
  | x :: l => x + sumL l
theorem sumL_append (a b : List Int) : sumL (a ++ b) = sumL a + sumL b := by
  induction a with
  | nil => simp [sumL]
  | cons x a ih => simp only [List.cons_append, sumL, ih]; omega
theorem sum_one (Q : List Int) (hQ : Q.Pairwise (· < ·)) (a : Int) : sumL (Q.map fun x => if a = x then 1 else 0) = if a ∈ Q then 1 else 0 := by
  induction Q with
  | nil => rfl
  | cons q Q ih =>
    have h := List.pairwise_cons.1 hQ
    rw [List.map_cons, sumL, ih h.2]
    by_cases e : a = q
    · subst e
      have : ¬ a ∈ Q := fun hm => by have := h.1 a hm; omega
      simp [this]
    · simp [e]
theorem mem_take_asc (P : List Int) (hP : P.Pairwise (· < ·)) (i : Nat) (hi : i < P.length) (a : Int) : a ∈ P.take (i + 1) ↔ a ∈ P ∧ a ≤ P[i] := by
  constructor
  · intro h
    obtain ⟨j, hj, rfl⟩ := List.mem_iff_getElem.1 h
    rw [List.getElem_take]
    simp at hj
    refine ⟨List.getElem_mem _, ?_⟩
    by_cases e : j = i
    · subst e; exact Int.le_refl _
    · have := List.pairwise_iff_getElem.1 hP j i (by omega) hi (by omega)
      omega
  · rintro ⟨h, hle⟩
    obtain ⟨j, hj, rfl⟩ := List.mem_iff_getElem.1 h
    have hji : j ≤ i := by
      rcases Nat.lt_or_ge i j with hij | hij
      · have := List.pairwise_iff_getElem.1 hP i j hi hj hij
        omega
      · exact hij
    rw [List.mem_iff_getElem]
    exact ⟨j, by simp; omega, by rw [List.getElem_take]⟩
theorem sum_sub (f g : Int → Int) (Q : List Int) : sumL (Q.map fun x => f x - g x) = sumL (Q.map f) - sumL (Q.map g) := by
  induction Q with
  | nil => rfl
  | cons q Q ih => simp only [List.map_cons, sumL, ih]; omega
theorem sum_add (f g : Int → Int) (Q : List Int) : sumL (Q.map fun x => f x + g x) = sumL (Q.map f) + sumL (Q.map g) := by
  induction Q with
  | nil => rfl
  | cons q Q ih => simp only [List.map_cons, sumL, ih]; omega
theorem sum_zero (Q : List Int) : sumL (Q.map fun _ => 0) = 0 := by
  induction Q with
  | nil => rfl
  | cons q Q ih => simp only [List.map_cons, sumL, ih]; omega
/-- the changes up to a point add up to the number of those that hold there -/
theorem sum_chg (l : List Tup) (P : List Int) (hP : P.Pairwise (· < ·)) (hm : ∀ x, x ∈ bnd l → x ∈ P) (i : Nat) (hi : i < P.length) : sumL ((P.take (i + 1)).map (chg l)) = cntAt l P[i] := by
  induction l with
  | nil =>
    have : (chg []) = fun _ => (0 : Int) := rfl
    rw [this, sum_zero]; rfl
  | cons t l ih =>
    have hb : bnd (t :: l) = (if validT t = true then [t.from_, t.to_] else []) ++ bnd l := rfl
    have ih' := ih fun x hx => hm x (by rw [hb]; exact List.mem_append_right _ hx)
    have : chg (t :: l) = fun x => chg1 t x + chg l x := rfl
    rw [this, sum_add, ih']
    unfold cntAt
    rw [List.filter_cons]
    have hc : sumL ((P.take (i + 1)).map (chg1 t)) = if holdsAt P[i] t = true then 1 else 0 := by
      unfold chg1 holdsAt
      by_cases hv : validT t = true
      · have h1 := hm t.from_ (by rw [hb, if_pos hv]; simp)
        have h2 := hm t.to_ (by rw [hb, if_pos hv]; simp)
        have h3 := validB_lt hv
        simp only [hv, if_true, Bool.true_and]
        rw [sum_sub (fun x => if t.from_ = x then 1 else 0) (fun x => if t.to_ = x then 1 else 0), sum_one _ hP.take, sum_one _ hP.take]
        simp only [mem_take_asc P hP i hi, h1, h2, true_and, Bool.and_eq_true, decide_eq_true_eq]
        by_cases a1 : t.from_ ≤ P[i]
        · by_cases a2 : t.to_ ≤ P[i]
          · simp [a1, a2]
          · simp [a1, a2]
        · simp [a1]; omega
      · have : (fun x => if validT t = true then (if t.from_ = x then (1 : Int) else 0) - (if t.to_ = x then 1 else 0) else 0) = fun _ => (0 : Int) := by funext x; rw [if_neg hv]
        rw [this, sum_zero]
        simp [hv]
    rw [hc]
    by_cases hh : holdsAt P[i] t = true
    · rw [if_pos hh, if_pos hh, List.length_cons]; omega
    · rw [if_neg hh, if_neg hh]; omega

/-- a step of a function of time -/
structure StepI where
  from_ : Int
  to_ : Int
  n : Int
def addStep (out : List StepI) (s : StepI) : List StepI :=
  match out.getLast? with
  | some p => if p.n = s.n then out.dropLast ++ [⟨p.from_, s.to_, p.n⟩] else out ++ [s]
  | none => [s]
def stepsOf (P : List Int) (f : Nat → Int) : Nat → List StepI
  | 0 => []
  | k + 1 => addStep (stepsOf P f k) ⟨P[k]!, P[k + 1]!, f k⟩
theorem addStep_nil (s : StepI) : addStep [] s = [s] := rfl
theorem addStep_new {out : List StepI} {s : StepI} (h : ∀ (hn : 0 < out.length), (out[out.length - 1]'(by omega)).n ≠ s.n) : addStep out s = out ++ [s] := by
  unfold addStep
  rcases List.eq_nil_or_concat out with rfl | ⟨l, p, rfl⟩
  · rfl
  · simp only [List.concat_eq_append] at h ⊢
    have := h (by simp)
    simp at this
    simp [this]
theorem addStep_old {out : List StepI} {s : StepI} (hn : 0 < out.length) (h : (out[out.length - 1]'(by omega)).n = s.n) : addStep out s = out.set (out.length - 1) ⟨(out[out.length - 1]'(by omega)).from_, s.to_, s.n⟩ := by
  unfold addStep
  rcases List.eq_nil_or_concat out with rfl | ⟨l, p, rfl⟩
  · simp at hn
  · simp only [List.concat_eq_append] at h ⊢
    simp at h
    simp [h]
theorem addStep_len (out : List StepI) (s : StepI) : (addStep out s).length ≤ out.length + 1 := by
  unfold addStep
  split
  · split
    · simp
    · simp
  · simp
theorem stepsOf_len (P : List Int) (f : Nat → Int) (k : Nat) : (stepsOf P f k).length ≤ k := by
  induction k with
  | zero => simp [stepsOf]
  | succ k ih => have := addStep_len (stepsOf P f k) ⟨P[k]!, P[k + 1]!, f k⟩; rw [stepsOf]; omega
theorem stepsOf_congr (P : List Int) (f g : Nat → Int) (k : Nat) (h : ∀ i, i < k → f i = g i) : stepsOf P f k = stepsOf P g k := by
  induction k with
  | zero => rfl
  | succ k ih => rw [stepsOf, stepsOf, ih fun i hi => h i (by omega), h k (by omega)]
theorem asc_len {l xs : List Int} (h : l.Pairwise (· < ·)) (hs : ∀ x ∈ l, x ∈ xs) : l.length ≤ xs.length := by
  induction l generalizing xs with
  | nil => simp
  | cons x l ih =>
    have h' := List.pairwise_cons.1 h
    have := ih (xs := xs.erase x) h'.2 fun y hy => by
      have h1 := h'.1 y hy
      exact (List.mem_erase_of_ne (by omega)).2 (hs y (by simp [hy]))
    rw [List.length_erase_of_mem (hs x (by simp))] at this
    have hx : 0 < xs.length := List.length_pos_of_mem (hs x (by simp))
    simp only [List.length_cons]
    omega
/-- the ends, ascending -/
def pts (l : List Tup) : List Int := mergeL (bnd l) []
theorem pts_law (l : List Tup) : AscOf (pts l) (bnd l) := by
  obtain ⟨h1, h2⟩ := mergeL_law (bnd l) []
  have hm : ∀ x, x ∈ pts l ↔ x ∈ bnd l := fun x => by unfold pts; rw [h2]; simp
  exact ⟨h1, hm, asc_len h1 fun x hx => (hm x).1 hx⟩
/-- depth as a function of time -/
def depthOf (l : List Tup) : List StepI := stepsOf (pts l) (fun i => cntAt l (pts l)[i]!) ((pts l).length - 1)

end Go.Proofs.YtdgpbpbjlnlijaaGreat

/- plain: the normal form of a set of periods; no program in sight -/
namespace Go.Proofs.YtdgpbpbjlnlijaaGreat
open Go.Shelf Go.Sort

structure Per where
  from_ : Int
  to_ : Int
def NormPer (s : List Per) : Prop := s.Pairwise (fun a b => a.to_ < b.from_) ∧ ∀ p ∈ s, p.from_ < p.to_
def inPer (s : List Per) (x : Int) : Prop := ∃ p ∈ s, p.from_ ≤ x ∧ x < p.to_
theorem inPer_cons {p : Per} {s : List Per} {x : Int} : inPer (p :: s) x ↔ (p.from_ ≤ x ∧ x < p.to_) ∨ inPer s x := by simp [inPer]
theorem inPer_append {a b : List Per} {x : Int} : inPer (a ++ b) x ↔ inPer a x ∨ inPer b x := by
  simp only [inPer, List.mem_append]
  constructor
  · rintro ⟨p, h | h, h2⟩
    · exact .inl ⟨p, h, h2⟩
    · exact .inr ⟨p, h, h2⟩
  · rintro (⟨p, h, h2⟩ | ⟨p, h, h2⟩)
    · exact ⟨p, .inl h, h2⟩
    · exact ⟨p, .inr h, h2⟩
theorem inPer_nil {x : Int} : ¬ inPer [] x := by simp [inPer]
theorem NormPer.tail {p : Per} {s : List Per} (h : NormPer (p :: s)) : NormPer s := ⟨(List.pairwise_cons.1 h.1).2, fun q hq => h.2 q (by simp [hq])⟩
theorem NormPer.head {p : Per} {s : List Per} (h : NormPer (p :: s)) : p.from_ < p.to_ ∧ ∀ q ∈ s, p.to_ < q.from_ := ⟨h.2 p (by simp), (List.pairwise_cons.1 h.1).1⟩
theorem NormPer.cons {p : Per} {s : List Per} (h : NormPer s) (hp : p.from_ < p.to_) (hs : ∀ q ∈ s, p.to_ < q.from_) : NormPer (p :: s) :=
  ⟨List.pairwise_cons.2 ⟨hs, h.1⟩, fun q hq => (List.mem_cons.1 hq).elim (fun e => e ▸ hp) (fun hq => h.2 q hq)⟩
theorem norm_unique {s t : List Per} (hs : NormPer s) (ht : NormPer t) (h : ∀ x, inPer s x ↔ inPer t x) : s = t := by
  induction s generalizing t with
  | nil =>
    cases t with
    | nil => rfl
    | cons q t =>
      have := (h q.from_).2 ⟨q, by simp, Int.le_refl _, ht.head.1⟩
      exact (inPer_nil this).elim
  | cons p s ih =>
    cases t with
    | nil =>
      have := (h p.from_).1 ⟨p, by simp, Int.le_refl _, hs.head.1⟩
      exact (inPer_nil this).elim
    | cons q t =>
      have lo : ∀ {p : Per} {s : List Per} {x : Int}, NormPer (p :: s) → inPer (p :: s) x → p.from_ ≤ x := by
        intro p s x h1 h2
        rcases inPer_cons.1 h2 with h2 | ⟨r, h3, h4⟩
        · exact h2.1
        · have := h1.head.2 r h3
          have := h1.head.1
          omega
      have gap : ∀ {p : Per} {s : List Per}, NormPer (p :: s) → ¬ inPer (p :: s) p.to_ := by
        intro p s h1 h2
        rcases inPer_cons.1 h2 with h2 | ⟨r, h3, h4⟩
        · omega
        · have := h1.head.2 r h3
          omega
      have a1 := lo ht ((h p.from_).1 ⟨p, by simp, Int.le_refl _, hs.head.1⟩)
      have a2 := lo hs ((h q.from_).2 ⟨q, by simp, Int.le_refl _, ht.head.1⟩)
      have a3 : ¬ p.to_ < q.to_ := fun hl => gap hs ((h p.to_).2 ⟨q, by simp, by have := hs.head.1; omega, hl⟩)
      have a4 : ¬ q.to_ < p.to_ := fun hl => gap ht ((h q.to_).1 ⟨p, by simp, by have := ht.head.1; omega, hl⟩)
      have e : p = q := by
        obtain ⟨p1, p2⟩ := p
        obtain ⟨q1, q2⟩ := q
        simp only [Per.mk.injEq] at *
        omega
      subst e
      congr 1
      refine ih hs.tail ht.tail fun x => ?_
      have key : ∀ {s : List Per}, NormPer (p :: s) → (inPer s x ↔ inPer (p :: s) x ∧ p.to_ ≤ x) := by
        intro s h1
        constructor
        · intro h2
          obtain ⟨r, h3, h4⟩ := h2
          exact ⟨inPer_cons.2 (.inr ⟨r, h3, h4⟩), by have := h1.head.2 r h3; omega⟩
        · rintro ⟨h2, h3⟩
          rcases inPer_cons.1 h2 with h2 | h2
          · omega
          · exact h2
      rw [key hs, key ht, h x]

/-- the program's way: behind a sort by the starts, one period more -/
def addPer (out : List Per) (p : Per) : List Per :=
  match out.getLast? with
  | some q => if p.from_ ≤ q.to_ then out.dropLast ++ [⟨q.from_, max q.to_ p.to_⟩] else out ++ [p]
  | none => [p]
theorem addPer_new {out : List Per} {p : Per} (h : ∀ (hn : 0 < out.length), ¬ p.from_ ≤ (out[out.length - 1]'(by omega)).to_) : addPer out p = out ++ [p] := by
  unfold addPer
  rcases List.eq_nil_or_concat out with rfl | ⟨l, q, rfl⟩
  · rfl
  · simp only [List.concat_eq_append] at h ⊢
    have := h (by simp)
    simp at this
    simp [this]
theorem addPer_old {out : List Per} {p : Per} (hn : 0 < out.length) (h : p.from_ ≤ (out[out.length - 1]'(by omega)).to_) : addPer out p = out.set (out.length - 1) ⟨(out[out.length - 1]'(by omega)).from_, max (out[out.length - 1]'(by omega)).to_ p.to_⟩ := by
  unfold addPer
  rcases List.eq_nil_or_concat out with rfl | ⟨l, q, rfl⟩
  · simp at hn
  · simp only [List.concat_eq_append] at h ⊢
    simp at h
    simp [h]
theorem addPer_len (out : List Per) (p : Per) : (addPer out p).length ≤ out.length + 1 := by
  unfold addPer
  split
  · split
    · simp
    · simp
  · simp
def mergePer (l : List Per) : List Per := l.foldl addPer []
theorem mergePer_snoc (l : List Per) (p : Per) : mergePer (l ++ [p]) = addPer (mergePer l) p := by simp [mergePer, List.foldl_append]
theorem mergePer_len (l : List Per) : (mergePer l).length ≤ l.length := by
  have key : ∀ (l : List Per) (out : List Per), (l.foldl addPer out).length ≤ out.length + l.length := by
    intro l
    induction l with
    | nil => intro out; simp
    | cons p l ih => intro out; have := ih (addPer out p); have := addPer_len out p; simp only [List.foldl_cons, List.length_cons]; omega
  simpa [mergePer] using key l []
theorem addPer_law {out : List Per} {p : Per} (h : NormPer out) (hp : p.from_ < p.to_) (hf : ∀ q ∈ out, q.from_ ≤ p.from_) : NormPer (addPer out p) ∧ ∀ x, inPer (addPer out p) x ↔ inPer out x ∨ (p.from_ ≤ x ∧ x < p.to_) := by
  unfold addPer
  rcases List.eq_nil_or_concat out with rfl | ⟨l, q, rfl⟩
  · exact ⟨⟨by simp, by simpa using hp⟩, fun x => by simp [inPer]⟩
  · simp only [List.concat_eq_append] at h hf ⊢
    rw [List.getLast?_append]
    simp only [List.getLast?_singleton, Option.some_or, List.dropLast_concat]
    obtain ⟨h1, h2⟩ := h
    have h3 := List.pairwise_append.1 h1
    have hq := h2 q (by simp)
    have hqf := hf q (by simp)
    split
    · refine ⟨⟨?_, ?_⟩, fun x => ?_⟩
      · refine List.pairwise_append.2 ⟨h3.1, List.pairwise_singleton _ _, fun a ha b hb => ?_⟩
        rw [List.mem_singleton] at hb
        subst hb
        exact h3.2.2 a ha q (by simp)
      · intro a ha
        rcases List.mem_append.1 ha with ha | ha
        · exact h2 a (by simp [ha])
        · rw [List.mem_singleton] at ha; subst ha; simp only; omega
      · rw [inPer_append, inPer_append]
        have e1 : inPer [⟨q.from_, max q.to_ p.to_⟩] x ↔ q.from_ ≤ x ∧ x < max q.to_ p.to_ := by simp [inPer]
        have e2 : inPer [q] x ↔ q.from_ ≤ x ∧ x < q.to_ := by simp [inPer]
        rw [e1, e2, or_assoc]
        refine or_congr Iff.rfl ?_
        omega
    · refine ⟨⟨?_, ?_⟩, fun x => ?_⟩
      · refine List.pairwise_append.2 ⟨h1, List.pairwise_singleton _ _, fun a ha b hb => ?_⟩
        rw [List.mem_singleton] at hb
        subst hb
        rcases List.mem_append.1 ha with ha | ha
        · have := h3.2.2 a ha q (by simp)
          omega
        · rw [List.mem_singleton] at ha; subst ha; omega
      · intro a ha
        rcases List.mem_append.1 ha with ha | ha
        · exact h2 a ha
        · rw [List.mem_singleton] at ha; subst ha; exact hp
      · rw [inPer_append]
        have e1 : inPer [p] x ↔ p.from_ ≤ x ∧ x < p.to_ := by simp [inPer]
        rw [e1]
theorem addPer_from (out : List Per) (p : Per) (b : Int) (h : ∀ q ∈ out, q.from_ ≤ b) (hp : p.from_ ≤ b) : ∀ q ∈ addPer out p, q.from_ ≤ b := by
  unfold addPer
  rcases List.eq_nil_or_concat out with rfl | ⟨l, r, rfl⟩
  · intro q hq
    simp at hq
    rw [hq]; exact hp
  · simp only [List.concat_eq_append] at h ⊢
    rw [List.getLast?_append]
    simp only [List.getLast?_singleton, Option.some_or, List.dropLast_concat]
    split
    · intro q hq
      rcases List.mem_append.1 hq with hq | hq
      · exact h q (by simp [hq])
      · rw [List.mem_singleton] at hq; subst hq; exact h r (by simp)
    · intro q hq
      rcases List.mem_append.1 hq with hq | hq
      · exact h q hq
      · rw [List.mem_singleton] at hq; subst hq; exact hp
theorem mergePer_law {l : List Per} (hv : ∀ p ∈ l, p.from_ < p.to_) (hs : l.Pairwise fun a b => a.from_ ≤ b.from_) : NormPer (mergePer l) ∧ (∀ x, inPer (mergePer l) x ↔ inPer l x) := by
  have key : ∀ (l : List Per) (out : List Per), NormPer out → (∀ p ∈ l, p.from_ < p.to_) → (l.Pairwise fun a b => a.from_ ≤ b.from_) → (∀ q ∈ out, ∀ p ∈ l, q.from_ ≤ p.from_) → NormPer (l.foldl addPer out) ∧ ∀ x, inPer (l.foldl addPer out) x ↔ inPer out x ∨ inPer l x := by
    intro l
    induction l with
    | nil => intro out h _ _ _; exact ⟨h, fun x => by simp [inPer]⟩
    | cons p l ih =>
      intro out h hv hs hf
      have hs' := List.pairwise_cons.1 hs
      obtain ⟨g1, g2⟩ := addPer_law h (hv p (by simp)) fun q hq => hf q hq p (by simp)
      obtain ⟨k1, k2⟩ := ih (addPer out p) g1 (fun q hq => hv q (by simp [hq])) hs'.2 fun q hq r hr =>
        addPer_from out p r.from_ (fun q hq => hf q hq r (by simp [hr])) (hs'.1 r hr) q hq
      refine ⟨k1, fun x => ?_⟩
      rw [List.foldl_cons, k2, g2, inPer_cons, or_assoc]
  obtain ⟨h1, h2⟩ := key l [] ⟨List.Pairwise.nil, by simp⟩ hv hs (by simp)
  exact ⟨h1, fun x => by rw [mergePer, h2]; simp [inPer]⟩

/-- the reference's way: insertion into a normal form -/
def absorb : List Per → Per → Per × List Per
  | [], p => (p, [])
  | q :: s, p => if q.from_ ≤ p.to_ then absorb s ⟨min p.from_ q.from_, max p.to_ q.to_⟩ else (p, q :: s)
def insPer : List Per → Per → List Per
  | [], p => [p]
  | q :: s, p => if q.to_ < p.from_ then q :: insPer s p else (absorb (q :: s) p).1 :: (absorb (q :: s) p).2
theorem absorb_len (s : List Per) (p : Per) : (absorb s p).2.length ≤ s.length := by
  induction s generalizing p with
  | nil => simp [absorb]
  | cons q s ih =>
    unfold absorb
    split
    · have := ih ⟨min p.from_ q.from_, max p.to_ q.to_⟩
      simp only [List.length_cons]
      omega
    · simp
theorem insPer_len (s : List Per) (p : Per) : (insPer s p).length ≤ s.length + 1 := by
  induction s with
  | nil => simp [insPer]
  | cons q s ih =>
    unfold insPer
    split
    · simp only [List.length_cons]; omega
    · have := absorb_len (q :: s) p
      simp only [List.length_cons] at *
      omega
theorem absorb_law {s : List Per} {p : Per} (h : NormPer s) (hp : p.from_ < p.to_) (ht : ∀ q ∈ s, p.from_ ≤ q.to_) :
    NormPer ((absorb s p).1 :: (absorb s p).2) ∧ (∀ x, inPer ((absorb s p).1 :: (absorb s p).2) x ↔ inPer s x ∨ (p.from_ ≤ x ∧ x < p.to_)) ∧ ∀ L : Int, L < p.from_ → (∀ q ∈ s, L < q.from_) → ∀ q ∈ (absorb s p).1 :: (absorb s p).2, L < q.from_ := by
  induction s generalizing p with
  | nil => exact ⟨⟨by simp [absorb], by simpa [absorb] using hp⟩, fun x => by simp [absorb, inPer], fun L h1 _ => by simpa [absorb] using h1⟩
  | cons q s ih =>
    have hq := h.head
    have htq := ht q (by simp)
    unfold absorb
    split
    · obtain ⟨g1, g2, g3⟩ := ih (p := ⟨min p.from_ q.from_, max p.to_ q.to_⟩) h.tail (by simp only; omega) fun r hr => by
        have := hq.2 r hr
        have := h.2 r (by simp [hr])
        simp only
        omega
      refine ⟨g1, fun x => ?_, fun L h1 h2 => g3 L (by have := h2 q (by simp); simp only; omega) fun r hr => h2 r (by simp [hr])⟩
      rw [g2, inPer_cons]
      simp only
      have e : (min p.from_ q.from_ ≤ x ∧ x < max p.to_ q.to_) ↔ (q.from_ ≤ x ∧ x < q.to_) ∨ (p.from_ ≤ x ∧ x < p.to_) := by omega
      rw [e]
      constructor
      · rintro (k | k | k)
        · exact .inl (.inr k)
        · exact .inl (.inl k)
        · exact .inr k
      · rintro ((k | k) | k)
        · exact .inr (.inl k)
        · exact .inl k
        · exact .inr (.inr k)
    · refine ⟨NormPer.cons h hp fun r hr => ?_, fun x => ?_, fun L h1 h2 r hr => ?_⟩
      · rcases List.mem_cons.1 hr with rfl | hr
        · simp only; omega
        · have := hq.2 r hr
          simp only
          omega
      · rw [inPer_cons]
        exact or_comm
      · rcases List.mem_cons.1 hr with rfl | hr
        · exact h1
        · exact h2 r hr
theorem insPer_law {s : List Per} {p : Per} (h : NormPer s) (hp : p.from_ < p.to_) :
    NormPer (insPer s p) ∧ (∀ x, inPer (insPer s p) x ↔ inPer s x ∨ (p.from_ ≤ x ∧ x < p.to_)) ∧ ∀ L : Int, L < p.from_ → (∀ q ∈ s, L < q.from_) → ∀ q ∈ insPer s p, L < q.from_ := by
  induction s with
  | nil => exact ⟨⟨by simp [insPer], by simpa [insPer] using hp⟩, fun x => by simp [insPer, inPer], fun L h1 _ => by simpa [insPer] using h1⟩
  | cons q s ih =>
    have hq := h.head
    unfold insPer
    split
    · rename_i hl
      obtain ⟨g1, g2, g3⟩ := ih h.tail
      refine ⟨NormPer.cons g1 hq.1 (g3 q.to_ hl hq.2), fun x => ?_, fun L h1 h2 r hr => ?_⟩
      · rw [inPer_cons, inPer_cons, g2, or_assoc]
      · rcases List.mem_cons.1 hr with rfl | hr
        · exact h2 _ (by simp)
        · exact g3 L h1 (fun t ht => h2 t (by simp [ht])) r hr
    · refine absorb_law h hp fun r hr => ?_
      rcases List.mem_cons.1 hr with rfl | hr
      · omega
      · have := hq.2 r hr
        have := h.2 r (by simp [hr])
        omega
/-- the normal form of the valid ones -/
def refNorm (l : List Per) : List Per := (l.filter fun p => validB p.from_ p.to_).foldl insPer []
theorem refNorm_snoc (l : List Per) (p : Per) : refNorm (l ++ [p]) = if validB p.from_ p.to_ = true then insPer (refNorm l) p else refNorm l := by
  unfold refNorm
  rw [List.filter_append, List.foldl_append]
  by_cases h : validB p.from_ p.to_ = true
  · simp [h]
  · simp [h]
theorem refNorm_len (l : List Per) : (refNorm l).length ≤ l.length := by
  have key : ∀ (l : List Per) (out : List Per), (l.foldl insPer out).length ≤ out.length + l.length := by
    intro l
    induction l with
    | nil => intro out; simp
    | cons p l ih => intro out; have := ih (insPer out p); have := insPer_len out p; simp only [List.foldl_cons, List.length_cons]; omega
  have := key (l.filter fun p => validB p.from_ p.to_) []
  have := List.length_filter_le (fun p : Per => validB p.from_ p.to_) l
  unfold refNorm
  simp at *
  omega
theorem refNorm_law (l : List Per) : NormPer (refNorm l) ∧ ∀ x, inPer (refNorm l) x ↔ inPer (l.filter fun p => validB p.from_ p.to_) x := by
  have key : ∀ (l : List Per) (out : List Per), NormPer out → (∀ p ∈ l, p.from_ < p.to_) → NormPer (l.foldl insPer out) ∧ ∀ x, inPer (l.foldl insPer out) x ↔ inPer out x ∨ inPer l x := by
    intro l
    induction l with
    | nil => intro out h _; exact ⟨h, fun x => by simp [inPer]⟩
    | cons p l ih =>
      intro out h hv
      obtain ⟨g1, g2, _⟩ := insPer_law h (hv p (by simp))
      obtain ⟨k1, k2⟩ := ih (insPer out p) g1 fun q hq => hv q (by simp [hq])
      refine ⟨k1, fun x => ?_⟩
      rw [List.foldl_cons, k2, g2, inPer_cons, or_assoc]
  obtain ⟨h1, h2⟩ := key (l.filter fun p => validB p.from_ p.to_) [] ⟨List.Pairwise.nil, by simp⟩ fun p hp => (validB_lt (List.mem_filter.1 hp).2).2.1
  exact ⟨h1, fun x => by rw [refNorm, h2]; simp [inPer]⟩
theorem inPer_perm {s t : List Per} (h : s.Perm t) (x : Int) : inPer s x ↔ inPer t x := by
  unfold inPer
  constructor
  · rintro ⟨p, h1, h2⟩; exact ⟨p, h.mem_iff.1 h1, h2⟩
  · rintro ⟨p, h1, h2⟩; exact ⟨p, h.mem_iff.2 h1, h2⟩
/-- the two ways agree -/
theorem norm_agree {l s : List Per} (hp : s.Perm (l.filter fun p => validB p.from_ p.to_)) (hs : s.Pairwise fun a b => a.from_ ≤ b.from_) : mergePer s = refNorm l := by
  obtain ⟨h1, h2⟩ := mergePer_law (l := s) (fun p h => (validB_lt (List.mem_filter.1 (hp.mem_iff.1 h)).2).2.1) hs
  obtain ⟨k1, k2⟩ := refNorm_law l
  exact norm_unique h1 k1 fun x => by rw [h2, k2]; exact inPer_perm hp x

end Go.Proofs.YtdgpbpbjlnlijaaGreat
