/- joined texts of a proof: PlainD, AreaP, PointP, PlainL, PlainR, PlainN -/
import Derived.Test.YtdgpbpbjlnlijaaGreatDoorKD04
import Derived.Test.YtdgpbpbjlnlijaaGreatDoorKD05

/- DepthP, NormP, joined -/

/- plain: the number of tuples that hold, as a function of time; no program in sight -/
namespace Go.Proofs.YtdgpbpbjlnlijaaGreatDoor

def validT (t : Tup) : Bool := validB t.from_ t.to_
/-- the ends of the valid tuples -/
def bnd (l : List Tup) : List Int := l.flatMap fun t => if validT t = true then [t.from_, t.to_] else []
/-- the change that one tuple makes at x -/
def chg1 (t : Tup) (x : Int) : Int := if validT t = true then (if t.from_ = x then 1 else 0) - (if t.to_ = x then 1 else 0) else 0
def chg : List Tup → Int → Int
  | [], _ => 0
  | t :: l, x => chg1 t x + chg l x
def holdsAt (x : Int) (t : Tup) : Bool := validT t && decide (t.from_ ≤ x) && decide (x < t.to_)
/-- how many hold at x -/
def cntAt (l : List Tup) (x : Int) : Nat := (l.filter (holdsAt x)).length
theorem bnd_append (a b : List Tup) : bnd (a ++ b) = bnd a ++ bnd b := by simp [bnd]
theorem chg_append (a b : List Tup) (x : Int) : chg (a ++ b) x = chg a x + chg b x := by
  induction a with
  | nil => simp [chg]
  | cons t a ih => simp only [List.cons_append, chg, ih]; omega
theorem bnd_len (l : List Tup) : (bnd l).length ≤ 2 * l.length := by
  induction l with
  | nil => simp [bnd]
  | cons t l ih =>
    have : bnd (t :: l) = (if validT t = true then [t.from_, t.to_] else []) ++ bnd l := rfl
    rw [this, List.length_append, List.length_cons]
    split <;> simp <;> omega
def sumL : List Int → Int
  | [] => 0
  | x :: l => x + sumL l
theorem sumL_append (a b : List Int) : sumL (a ++ b) = sumL a + sumL b := by
  induction a with
  | nil => simp [sumL]
  | cons x a ih => simp only [List.cons_append, sumL, ih]; omega
theorem sum_one (Q : List Int) (hQ : Q.Pairwise (· < ·)) (a : Int) : sumL (Q.map fun x => if a = x then 1 else 0) = if a ∈ Q then 1 else 0 := by
  induction Q with
  | nil => rfl
  | cons q Q ih =>
    have h := List.pairwise_cons.1 hQ
    rw [List.map_cons, sumL, ih h.2]
    by_cases e : a = q
    · subst e
      have : ¬ a ∈ Q := fun hm => by have := h.1 a hm; omega
      simp [this]
    · simp [e]
theorem mem_take_asc (P : List Int) (hP : P.Pairwise (· < ·)) (i : Nat) (hi : i < P.length) (a : Int) : a ∈ P.take (i + 1) ↔ a ∈ P ∧ a ≤ P[i] := by
  constructor
  · intro h
    obtain ⟨j, hj, rfl⟩ := List.mem_iff_getElem.1 h
    rw [List.getElem_take]
    simp at hj
    refine ⟨List.getElem_mem _, ?_⟩
    by_cases e : j = i
    · subst e; exact Int.le_refl _
    · have := List.pairwise_iff_getElem.1 hP j i (by omega) hi (by omega)
      omega
  · rintro ⟨h, hle⟩
    obtain ⟨j, hj, rfl⟩ := List.mem_iff_getElem.1 h
    have hji : j ≤ i := by
      rcases Nat.lt_or_ge i j with hij | hij
      · have := List.pairwise_iff_getElem.1 hP i j hi hj hij
        omega
      · exact hij
    rw [List.mem_iff_getElem]
    exact ⟨j, by simp; omega, by rw [List.getElem_take]⟩
theorem sum_sub (f g : Int → Int) (Q : List Int) : sumL (Q.map fun x => f x - g x) = sumL (Q.map f) - sumL (Q.map g) := by
  induction Q with
  | nil => rfl
  | cons q Q ih => simp only [List.map_cons, sumL, ih]; omega
theorem sum_add (f g : Int → Int) (Q : List Int) : sumL (Q.map fun x => f x + g x) = sumL (Q.map f) + sumL (Q.map g) := by
  induction Q with
  | nil => rfl
  | cons q Q ih => simp only [List.map_cons, sumL, ih]; omega
theorem sum_zero (Q : List Int) : sumL (Q.map fun _ => 0) = 0 := by
  induction Q with
  | nil => rfl
  | cons q Q ih => simp only [List.map_cons, sumL, ih]; omega
/-- the changes up to a point add up to the number of those that hold there -/
theorem sum_chg (l : List Tup) (P : List Int) (hP : P.Pairwise (· < ·)) (hm : ∀ x, x ∈ bnd l → x ∈ P) (i : Nat) (hi : i < P.length) : sumL ((P.take (i + 1)).map (chg l)) = cntAt l P[i] := by
  induction l with
  | nil =>
    have : (chg []) = fun _ => (0 : Int) := rfl
    rw [this, sum_zero]; rfl
  | cons t l ih =>
    have hb : bnd (t :: l) = (if validT t = true then [t.from_, t.to_] else []) ++ bnd l := rfl
    have ih' := ih fun x hx => hm x (by rw [hb]; exact List.mem_append_right _ hx)
    have : chg (t :: l) = fun x => chg1 t x + chg l x := rfl
    rw [this, sum_add, ih']
    unfold cntAt
    rw [List.filter_cons]
    have hc : sumL ((P.take (i + 1)).map (chg1 t)) = if holdsAt P[i] t = true then 1 else 0 := by
      unfold chg1 holdsAt
      by_cases hv : validT t = true
      · have h1 := hm t.from_ (by rw [hb, if_pos hv]; simp)
        have h2 := hm t.to_ (by rw [hb, if_pos hv]; simp)
        have h3 := validB_lt hv
        simp only [hv, if_true, Bool.true_and]
        rw [sum_sub (fun x => if t.from_ = x then 1 else 0) (fun x => if t.to_ = x then 1 else 0), sum_one _ hP.take, sum_one _ hP.take]
        simp only [mem_take_asc P hP i hi, h1, h2, true_and, Bool.and_eq_true, decide_eq_true_eq]
        by_cases a1 : t.from_ ≤ P[i]
        · by_cases a2 : t.to_ ≤ P[i]
          · simp [a1, a2]
          · simp [a1, a2]
        · simp [a1]; omega
      · have : (fun x => if validT t = true then (if t.from_ = x then (1 : Int) else 0) - (if t.to_ = x then 1 else 0) else 0) = fun _ => (0 : Int) := by funext x; rw [if_neg hv]
        rw [this, sum_zero]
        simp [hv]
    rw [hc]
    by_cases hh : holdsAt P[i] t = true
    · rw [if_pos hh, if_pos hh, List.length_cons]; omega
    · rw [if_neg hh, if_neg hh]; omega

/-- a step of a function of time -/
structure StepI where
  from_ : Int
  to_ : Int
  n : Int
def addStep (out : List StepI) (s : StepI) : List StepI :=
  match out.getLast? with
  | some p => if p.n = s.n then out.dropLast ++ [⟨p.from_, s.to_, p.n⟩] else out ++ [s]
  | none => [s]
def stepsOf (P : List Int) (f : Nat → Int) : Nat → List StepI
  | 0 => []
  | k + 1 => addStep (stepsOf P f k) ⟨P[k]!, P[k + 1]!, f k⟩
theorem addStep_nil (s : StepI) : addStep [] s = [s] := rfl
theorem addStep_new {out : List StepI} {s : StepI} (h : ∀ (hn : 0 < out.length), (out[out.length - 1]'(by omega)).n ≠ s.n) : addStep out s = out ++ [s] := by
  unfold addStep
  rcases List.eq_nil_or_concat out with rfl | ⟨l, p, rfl⟩
  · rfl
  · simp only [List.concat_eq_append] at h ⊢
    have := h (by simp)
    simp at this
    simp [this]
theorem addStep_old {out : List StepI} {s : StepI} (hn : 0 < out.length) (h : (out[out.length - 1]'(by omega)).n = s.n) : addStep out s = out.set (out.length - 1) ⟨(out[out.length - 1]'(by omega)).from_, s.to_, s.n⟩ := by
  unfold addStep
  rcases List.eq_nil_or_concat out with rfl | ⟨l, p, rfl⟩
  · simp at hn
  · simp only [List.concat_eq_append] at h ⊢
    simp at h
    simp [h]
theorem addStep_len (out : List StepI) (s : StepI) : (addStep out s).length ≤ out.length + 1 := by
  unfold addStep
  split
  · split
    · simp
    · simp
  · simp
theorem stepsOf_len (P : List Int) (f : Nat → Int) (k : Nat) : (stepsOf P f k).length ≤ k := by
  induction k with
  | zero => simp [stepsOf]
  | succ k ih => have := addStep_len (stepsOf P f k) ⟨P[k]!, P[k + 1]!, f k⟩; rw [stepsOf]; omega
theorem stepsOf_congr (P : List Int) (f g : Nat → Int) (k : Nat) (h : ∀ i, i < k → f i = g i) : stepsOf P f k = stepsOf P g k := by
  induction k with
  | zero => rfl
  | succ k ih => rw [stepsOf, stepsOf, ih fun i hi => h i (by omega), h k (by omega)]
theorem asc_len {l xs : List Int} (h : l.Pairwise (· < ·)) (hs : ∀ x ∈ l, x ∈ xs) : l.length ≤ xs.length := by
  induction l generalizing xs with
  | nil => simp
  | cons x l ih =>
    have h' := List.pairwise_cons.1 h
    have := ih (xs := xs.erase x) h'.2 fun y hy => by
      have h1 := h'.1 y hy
      exact (List.mem_erase_of_ne (by omega)).2 (hs y (by simp [hy]))
    rw [List.length_erase_of_mem (hs x (by simp))] at this
    have hx : 0 < xs.length := List.length_pos_of_mem (hs x (by simp))
    simp only [List.length_cons]
    omega
/-- the ends, ascending -/
def pts (l : List Tup) : List Int := mergeL (bnd l) []
theorem pts_law (l : List Tup) : AscOf (pts l) (bnd l) := by
  obtain ⟨h1, h2⟩ := mergeL_law (bnd l) []
  have hm : ∀ x, x ∈ pts l ↔ x ∈ bnd l := fun x => by unfold pts; rw [h2]; simp
  exact ⟨h1, hm, asc_len h1 fun x hx => (hm x).1 hx⟩
/-- depth as a function of time -/
def depthOf (l : List Tup) : List StepI := stepsOf (pts l) (fun i => cntAt l (pts l)[i]!) ((pts l).length - 1)

end Go.Proofs.YtdgpbpbjlnlijaaGreatDoor

/- plain: the normal form of a set of periods; no program in sight -/
namespace Go.Proofs.YtdgpbpbjlnlijaaGreatDoor
open Go.Shelf Go.Sort

structure Per where
  from_ : Int
  to_ : Int
def NormPer (s : List Per) : Prop := s.Pairwise (fun a b => a.to_ < b.from_) ∧ ∀ p ∈ s, p.from_ < p.to_
def inPer (s : List Per) (x : Int) : Prop := ∃ p ∈ s, p.from_ ≤ x ∧ x < p.to_
theorem inPer_cons {p : Per} {s : List Per} {x : Int} : inPer (p :: s) x ↔ (p.from_ ≤ x ∧ x < p.to_) ∨ inPer s x := by simp [inPer]
theorem inPer_append {a b : List Per} {x : Int} : inPer (a ++ b) x ↔ inPer a x ∨ inPer b x := by
  simp only [inPer, List.mem_append]
  constructor
  · rintro ⟨p, h | h, h2⟩
    · exact .inl ⟨p, h, h2⟩
    · exact .inr ⟨p, h, h2⟩
  · rintro (⟨p, h, h2⟩ | ⟨p, h, h2⟩)
    · exact ⟨p, .inl h, h2⟩
    · exact ⟨p, .inr h, h2⟩
theorem inPer_nil {x : Int} : ¬ inPer [] x := by simp [inPer]
theorem NormPer.tail {p : Per} {s : List Per} (h : NormPer (p :: s)) : NormPer s := ⟨(List.pairwise_cons.1 h.1).2, fun q hq => h.2 q (by simp [hq])⟩
theorem NormPer.head {p : Per} {s : List Per} (h : NormPer (p :: s)) : p.from_ < p.to_ ∧ ∀ q ∈ s, p.to_ < q.from_ := ⟨h.2 p (by simp), (List.pairwise_cons.1 h.1).1⟩
theorem NormPer.cons {p : Per} {s : List Per} (h : NormPer s) (hp : p.from_ < p.to_) (hs : ∀ q ∈ s, p.to_ < q.from_) : NormPer (p :: s) :=
  ⟨List.pairwise_cons.2 ⟨hs, h.1⟩, fun q hq => (List.mem_cons.1 hq).elim (fun e => e ▸ hp) (fun hq => h.2 q hq)⟩
theorem norm_unique {s t : List Per} (hs : NormPer s) (ht : NormPer t) (h : ∀ x, inPer s x ↔ inPer t x) : s = t := by
  induction s generalizing t with
  | nil =>
    cases t with
    | nil => rfl
    | cons q t =>
      have := (h q.from_).2 ⟨q, by simp, Int.le_refl _, ht.head.1⟩
      exact (inPer_nil this).elim
  | cons p s ih =>
    cases t with
    | nil =>
      have := (h p.from_).1 ⟨p, by simp, Int.le_refl _, hs.head.1⟩
      exact (inPer_nil this).elim
    | cons q t =>
      have lo : ∀ {p : Per} {s : List Per} {x : Int}, NormPer (p :: s) → inPer (p :: s) x → p.from_ ≤ x := by
        intro p s x h1 h2
        rcases inPer_cons.1 h2 with h2 | ⟨r, h3, h4⟩
        · exact h2.1
        · have := h1.head.2 r h3
          have := h1.head.1
          omega
      have gap : ∀ {p : Per} {s : List Per}, NormPer (p :: s) → ¬ inPer (p :: s) p.to_ := by
        intro p s h1 h2
        rcases inPer_cons.1 h2 with h2 | ⟨r, h3, h4⟩
        · omega
        · have := h1.head.2 r h3
          omega
      have a1 := lo ht ((h p.from_).1 ⟨p, by simp, Int.le_refl _, hs.head.1⟩)
      have a2 := lo hs ((h q.from_).2 ⟨q, by simp, Int.le_refl _, ht.head.1⟩)
      have a3 : ¬ p.to_ < q.to_ := fun hl => gap hs ((h p.to_).2 ⟨q, by simp, by have := hs.head.1; omega, hl⟩)
      have a4 : ¬ q.to_ < p.to_ := fun hl => gap ht ((h q.to_).1 ⟨p, by simp, by have := ht.head.1; omega, hl⟩)
      have e : p = q := by
        obtain ⟨p1, p2⟩ := p
        obtain ⟨q1, q2⟩ := q
        simp only [Per.mk.injEq] at *
        omega
      subst e
      congr 1
      refine ih hs.tail ht.tail fun x => ?_
      have key : ∀ {s : List Per}, NormPer (p :: s) → (inPer s x ↔ inPer (p :: s) x ∧ p.to_ ≤ x) := by
        intro s h1
        constructor
        · intro h2
          obtain ⟨r, h3, h4⟩ := h2
          exact ⟨inPer_cons.2 (.inr ⟨r, h3, h4⟩), by have := h1.head.2 r h3; omega⟩
        · rintro ⟨h2, h3⟩
          rcases inPer_cons.1 h2 with h2 | h2
          · omega
          · exact h2
      rw [key hs, key ht, h x]

/-- the program's way: behind a sort by the starts, one period more -/
def addPer (out : List Per) (p : Per) : List Per :=
  match out.getLast? with
  | some q => if p.from_ ≤ q.to_ then out.dropLast ++ [⟨q.from_, max q.to_ p.to_⟩] else out ++ [p]
  | none => [p]
theorem addPer_new {out : List Per} {p : Per} (h : ∀ (hn : 0 < out.length), ¬ p.from_ ≤ (out[out.length - 1]'(by omega)).to_) : addPer out p = out ++ [p] := by
  unfold addPer
  rcases List.eq_nil_or_concat out with rfl | ⟨l, q, rfl⟩
  · rfl
  · simp only [List.concat_eq_append] at h ⊢
    have := h (by simp)
    simp at this
    simp [this]
theorem addPer_old {out : List Per} {p : Per} (hn : 0 < out.length) (h : p.from_ ≤ (out[out.length - 1]'(by omega)).to_) : addPer out p = out.set (out.length - 1) ⟨(out[out.length - 1]'(by omega)).from_, max (out[out.length - 1]'(by omega)).to_ p.to_⟩ := by
  unfold addPer
  rcases List.eq_nil_or_concat out with rfl | ⟨l, q, rfl⟩
  · simp at hn
  · simp only [List.concat_eq_append] at h ⊢
    simp at h
    simp [h]
theorem addPer_len (out : List Per) (p : Per) : (addPer out p).length ≤ out.length + 1 := by
  unfold addPer
  split
  · split
    · simp
    · simp
  · simp
def mergePer (l : List Per) : List Per := l.foldl addPer []
theorem mergePer_snoc (l : List Per) (p : Per) : mergePer (l ++ [p]) = addPer (mergePer l) p := by simp [mergePer, List.foldl_append]
theorem mergePer_len (l : List Per) : (mergePer l).length ≤ l.length := by
  have key : ∀ (l : List Per) (out : List Per), (l.foldl addPer out).length ≤ out.length + l.length := by
    intro l
    induction l with
    | nil => intro out; simp
    | cons p l ih => intro out; have := ih (addPer out p); have := addPer_len out p; simp only [List.foldl_cons, List.length_cons]; omega
  simpa [mergePer] using key l []
theorem addPer_law {out : List Per} {p : Per} (h : NormPer out) (hp : p.from_ < p.to_) (hf : ∀ q ∈ out, q.from_ ≤ p.from_) : NormPer (addPer out p) ∧ ∀ x, inPer (addPer out p) x ↔ inPer out x ∨ (p.from_ ≤ x ∧ x < p.to_) := by
  unfold addPer
  rcases List.eq_nil_or_concat out with rfl | ⟨l, q, rfl⟩
  · exact ⟨⟨by simp, by simpa using hp⟩, fun x => by simp [inPer]⟩
  · simp only [List.concat_eq_append] at h hf ⊢
    rw [List.getLast?_append]
    simp only [List.getLast?_singleton, Option.some_or, List.dropLast_concat]
    obtain ⟨h1, h2⟩ := h
    have h3 := List.pairwise_append.1 h1
    have hq := h2 q (by simp)
    have hqf := hf q (by simp)
    split
    · refine ⟨⟨?_, ?_⟩, fun x => ?_⟩
      · refine List.pairwise_append.2 ⟨h3.1, List.pairwise_singleton _ _, fun a ha b hb => ?_⟩
        rw [List.mem_singleton] at hb
        subst hb
        exact h3.2.2 a ha q (by simp)
      · intro a ha
        rcases List.mem_append.1 ha with ha | ha
        · exact h2 a (by simp [ha])
        · rw [List.mem_singleton] at ha; subst ha; simp only; omega
      · rw [inPer_append, inPer_append]
        have e1 : inPer [⟨q.from_, max q.to_ p.to_⟩] x ↔ q.from_ ≤ x ∧ x < max q.to_ p.to_ := by simp [inPer]
        have e2 : inPer [q] x ↔ q.from_ ≤ x ∧ x < q.to_ := by simp [inPer]
        rw [e1, e2, or_assoc]
        refine or_congr Iff.rfl ?_
        omega
    · refine ⟨⟨?_, ?_⟩, fun x => ?_⟩
      · refine List.pairwise_append.2 ⟨h1, List.pairwise_singleton _ _, fun a ha b hb => ?_⟩
        rw [List.mem_singleton] at hb
        subst hb
        rcases List.mem_append.1 ha with ha | ha
        · have := h3.2.2 a ha q (by simp)
          omega
        · rw [List.mem_singleton] at ha; subst ha; omega
      · intro a ha
        rcases List.mem_append.1 ha with ha | ha
        · exact h2 a ha
        · rw [List.mem_singleton] at ha; subst ha; exact hp
      · rw [inPer_append]
        have e1 : inPer [p] x ↔ p.from_ ≤ x ∧ x < p.to_ := by simp [inPer]
        rw [e1]
theorem addPer_from (out : List Per) (p : Per) (b : Int) (h : ∀ q ∈ out, q.from_ ≤ b) (hp : p.from_ ≤ b) : ∀ q ∈ addPer out p, q.from_ ≤ b := by
  unfold addPer
  rcases List.eq_nil_or_concat out with rfl | ⟨l, r, rfl⟩
  · intro q hq
    simp at hq
    rw [hq]; exact hp
  · simp only [List.concat_eq_append] at h ⊢
    rw [List.getLast?_append]
    simp only [List.getLast?_singleton, Option.some_or, List.dropLast_concat]
    split
    · intro q hq
      rcases List.mem_append.1 hq with hq | hq
      · exact h q (by simp [hq])
      · rw [List.mem_singleton] at hq; subst hq; exact h r (by simp)
    · intro q hq
      rcases List.mem_append.1 hq with hq | hq
      · exact h q hq
      · rw [List.mem_singleton] at hq; subst hq; exact hp
theorem mergePer_law {l : List Per} (hv : ∀ p ∈ l, p.from_ < p.to_) (hs : l.Pairwise fun a b => a.from_ ≤ b.from_) : NormPer (mergePer l) ∧ (∀ x, inPer (mergePer l) x ↔ inPer l x) := by
  have key : ∀ (l : List Per) (out : List Per), NormPer out → (∀ p ∈ l, p.from_ < p.to_) → (l.Pairwise fun a b => a.from_ ≤ b.from_) → (∀ q ∈ out, ∀ p ∈ l, q.from_ ≤ p.from_) → NormPer (l.foldl addPer out) ∧ ∀ x, inPer (l.foldl addPer out) x ↔ inPer out x ∨ inPer l x := by
    intro l
    induction l with
    | nil => intro out h _ _ _; exact ⟨h, fun x => by simp [inPer]⟩
    | cons p l ih =>
      intro out h hv hs hf
      have hs' := List.pairwise_cons.1 hs
      obtain ⟨g1, g2⟩ := addPer_law h (hv p (by simp)) fun q hq => hf q hq p (by simp)
      obtain ⟨k1, k2⟩ := ih (addPer out p) g1 (fun q hq => hv q (by simp [hq])) hs'.2 fun q hq r hr =>
        addPer_from out p r.from_ (fun q hq => hf q hq r (by simp [hr])) (hs'.1 r hr) q hq
      refine ⟨k1, fun x => ?_⟩
      rw [List.foldl_cons, k2, g2, inPer_cons, or_assoc]
  obtain ⟨h1, h2⟩ := key l [] ⟨List.Pairwise.nil, by simp⟩ hv hs (by simp)
  exact ⟨h1, fun x => by rw [mergePer, h2]; simp [inPer]⟩

/-- the reference's way: insertion into a normal form -/
def absorb : List Per → Per → Per × List Per
  | [], p => (p, [])
  | q :: s, p => if q.from_ ≤ p.to_ then absorb s ⟨min p.from_ q.from_, max p.to_ q.to_⟩ else (p, q :: s)
def insPer : List Per → Per → List Per
  | [], p => [p]
  | q :: s, p => if q.to_ < p.from_ then q :: insPer s p else (absorb (q :: s) p).1 :: (absorb (q :: s) p).2
theorem absorb_len (s : List Per) (p : Per) : (absorb s p).2.length ≤ s.length := by
  induction s generalizing p with
  | nil => simp [absorb]
  | cons q s ih =>
    unfold absorb
    split
    · have := ih ⟨min p.from_ q.from_, max p.to_ q.to_⟩
      simp only [List.length_cons]
      omega
    · simp
theorem insPer_len (s : List Per) (p : Per) : (insPer s p).length ≤ s.length + 1 := by
  induction s with
  | nil => simp [insPer]
  | cons q s ih =>
    unfold insPer
    split
    · simp only [List.length_cons]; omega
    · have := absorb_len (q :: s) p
      simp only [List.length_cons] at *
      omega
theorem absorb_law {s : List Per} {p : Per} (h : NormPer s) (hp : p.from_ < p.to_) (ht : ∀ q ∈ s, p.from_ ≤ q.to_) :
    NormPer ((absorb s p).1 :: (absorb s p).2) ∧ (∀ x, inPer ((absorb s p).1 :: (absorb s p).2) x ↔ inPer s x ∨ (p.from_ ≤ x ∧ x < p.to_)) ∧ ∀ L : Int, L < p.from_ → (∀ q ∈ s, L < q.from_) → ∀ q ∈ (absorb s p).1 :: (absorb s p).2, L < q.from_ := by
  induction s generalizing p with
  | nil => exact ⟨⟨by simp [absorb], by simpa [absorb] using hp⟩, fun x => by simp [absorb, inPer], fun L h1 _ => by simpa [absorb] using h1⟩
  | cons q s ih =>
    have hq := h.head
    have htq := ht q (by simp)
    unfold absorb
    split
    · obtain ⟨g1, g2, g3⟩ := ih (p := ⟨min p.from_ q.from_, max p.to_ q.to_⟩) h.tail (by simp only; omega) fun r hr => by
        have := hq.2 r hr
        have := h.2 r (by simp [hr])
        simp only
        omega
      refine ⟨g1, fun x => ?_, fun L h1 h2 => g3 L (by have := h2 q (by simp); simp only; omega) fun r hr => h2 r (by simp [hr])⟩
      rw [g2, inPer_cons]
      simp only
      have e : (min p.from_ q.from_ ≤ x ∧ x < max p.to_ q.to_) ↔ (q.from_ ≤ x ∧ x < q.to_) ∨ (p.from_ ≤ x ∧ x < p.to_) := by omega
      rw [e]
      constructor
      · rintro (k | k | k)
        · exact .inl (.inr k)
        · exact .inl (.inl k)
        · exact .inr k
      · rintro ((k | k) | k)
        · exact .inr (.inl k)
        · exact .inl k
        · exact .inr (.inr k)
    · refine ⟨NormPer.cons h hp fun r hr => ?_, fun x => ?_, fun L h1 h2 r hr => ?_⟩
      · rcases List.mem_cons.1 hr with rfl | hr
        · simp only; omega
        · have := hq.2 r hr
          simp only
          omega
      · rw [inPer_cons]
        exact or_comm
      · rcases List.mem_cons.1 hr with rfl | hr
        · exact h1
        · exact h2 r hr
theorem insPer_law {s : List Per} {p : Per} (h : NormPer s) (hp : p.from_ < p.to_) :
    NormPer (insPer s p) ∧ (∀ x, inPer (insPer s p) x ↔ inPer s x ∨ (p.from_ ≤ x ∧ x < p.to_)) ∧ ∀ L : Int, L < p.from_ → (∀ q ∈ s, L < q.from_) → ∀ q ∈ insPer s p, L < q.from_ := by
  induction s with
  | nil => exact ⟨⟨by simp [insPer], by simpa [insPer] using hp⟩, fun x => by simp [insPer, inPer], fun L h1 _ => by simpa [insPer] using h1⟩
  | cons q s ih =>
    have hq := h.head
    unfold insPer
    split
    · rename_i hl
      obtain ⟨g1, g2, g3⟩ := ih h.tail
      refine ⟨NormPer.cons g1 hq.1 (g3 q.to_ hl hq.2), fun x => ?_, fun L h1 h2 r hr => ?_⟩
      · rw [inPer_cons, inPer_cons, g2, or_assoc]
      · rcases List.mem_cons.1 hr with rfl | hr
        · exact h2 _ (by simp)
        · exact g3 L h1 (fun t ht => h2 t (by simp [ht])) r hr
    · refine absorb_law h hp fun r hr => ?_
      rcases List.mem_cons.1 hr with rfl | hr
      · omega
      · have := hq.2 r hr
        have := h.2 r (by simp [hr])
        omega
/-- the normal form of the valid ones -/
def refNorm (l : List Per) : List Per := (l.filter fun p => validB p.from_ p.to_).foldl insPer []
theorem refNorm_snoc (l : List Per) (p : Per) : refNorm (l ++ [p]) = if validB p.from_ p.to_ = true then insPer (refNorm l) p else refNorm l := by
  unfold refNorm
  rw [List.filter_append, List.foldl_append]
  by_cases h : validB p.from_ p.to_ = true
  · simp [h]
  · simp [h]
theorem refNorm_len (l : List Per) : (refNorm l).length ≤ l.length := by
  have key : ∀ (l : List Per) (out : List Per), (l.foldl insPer out).length ≤ out.length + l.length := by
    intro l
    induction l with
    | nil => intro out; simp
    | cons p l ih => intro out; have := ih (insPer out p); have := insPer_len out p; simp only [List.foldl_cons, List.length_cons]; omega
  have := key (l.filter fun p => validB p.from_ p.to_) []
  have := List.length_filter_le (fun p : Per => validB p.from_ p.to_) l
  unfold refNorm
  simp at *
  omega
theorem refNorm_law (l : List Per) : NormPer (refNorm l) ∧ ∀ x, inPer (refNorm l) x ↔ inPer (l.filter fun p => validB p.from_ p.to_) x := by
  have key : ∀ (l : List Per) (out : List Per), NormPer out → (∀ p ∈ l, p.from_ < p.to_) → NormPer (l.foldl insPer out) ∧ ∀ x, inPer (l.foldl insPer out) x ↔ inPer out x ∨ inPer l x := by
    intro l
    induction l with
    | nil => intro out h _; exact ⟨h, fun x => by simp [inPer]⟩
    | cons p l ih =>
      intro out h hv
      obtain ⟨g1, g2, _⟩ := insPer_law h (hv p (by simp))
      obtain ⟨k1, k2⟩ := ih (insPer out p) g1 fun q hq => hv q (by simp [hq])
      refine ⟨k1, fun x => ?_⟩
      rw [List.foldl_cons, k2, g2, inPer_cons, or_assoc]
  obtain ⟨h1, h2⟩ := key (l.filter fun p => validB p.from_ p.to_) [] ⟨List.Pairwise.nil, by simp⟩ fun p hp => (validB_lt (List.mem_filter.1 hp).2).2.1
  exact ⟨h1, fun x => by rw [refNorm, h2]; simp [inPer]⟩
theorem inPer_perm {s t : List Per} (h : s.Perm t) (x : Int) : inPer s x ↔ inPer t x := by
  unfold inPer
  constructor
  · rintro ⟨p, h1, h2⟩; exact ⟨p, h.mem_iff.1 h1, h2⟩
  · rintro ⟨p, h1, h2⟩; exact ⟨p, h.mem_iff.2 h1, h2⟩
/-- the two ways agree -/
theorem norm_agree {l s : List Per} (hp : s.Perm (l.filter fun p => validB p.from_ p.to_)) (hs : s.Pairwise fun a b => a.from_ ≤ b.from_) : mergePer s = refNorm l := by
  obtain ⟨h1, h2⟩ := mergePer_law (l := s) (fun p h => (validB_lt (List.mem_filter.1 (hp.mem_iff.1 h)).2).2.1) hs
  obtain ⟨k1, k2⟩ := refNorm_law l
  exact norm_unique h1 k1 fun x => by rw [h2, k2]; exact inPer_perm hp x

end Go.Proofs.YtdgpbpbjlnlijaaGreatDoor

/- plain: the sum of the lengths is the sum of depth times length; no program in sight -/
namespace Go.Proofs.YtdgpbpbjlnlijaaGreatDoor

def sumN (g : Nat → Int) : Nat → Int
  | 0 => 0
  | k + 1 => sumN g k + g k
theorem sumN_congr (f g : Nat → Int) (k : Nat) (h : ∀ i, i < k → f i = g i) : sumN f k = sumN g k := by
  induction k with
  | zero => rfl
  | succ k ih => rw [sumN, sumN, ih fun i hi => h i (by omega), h k (by omega)]
theorem sumN_add (f g : Nat → Int) (k : Nat) : sumN (fun i => f i + g i) k = sumN f k + sumN g k := by
  induction k with
  | zero => rfl
  | succ k ih => rw [sumN, sumN, sumN, ih]; omega
theorem sumN_zero (k : Nat) : sumN (fun _ => 0) k = 0 := by
  induction k with
  | zero => rfl
  | succ k ih => rw [sumN, ih]; rfl
/-- the length of what lies between ascending points -/
def dP (P : List Int) (i : Nat) : Int := P[i + 1]! - P[i]!
theorem asc_at {P : List Int} (hP : P.Pairwise (· < ·)) {i j : Nat} (hij : i < j) (hj : j < P.length) : P[i]! < P[j]! := by
  rw [getElem!_pos P i (by omega), getElem!_pos P j hj]
  exact List.pairwise_iff_getElem.1 hP i j (by omega) hj hij
theorem gap {P : List Int} (hP : P.Pairwise (· < ·)) {y : Int} (hy : y ∈ P) {k : Nat} (hk : k + 1 < P.length) (h : P[k]! < y) : P[k + 1]! ≤ y := by
  obtain ⟨j, hj, rfl⟩ := List.getElem_of_mem hy
  have h1 : P[j] = P[j]! := (getElem!_pos P j hj).symm
  rw [h1] at h ⊢
  by_cases e : j ≤ k
  · rcases Nat.lt_or_eq_of_le e with e | e
    · have := asc_at hP e (by omega); omega
    · subst e; omega
  · by_cases e2 : j = k + 1
    · subst e2; omega
    · have := asc_at hP (show k + 1 < j by omega) hj; omega
theorem first_le {P : List Int} (hP : P.Pairwise (· < ·)) {x : Int} (hx : x ∈ P) : P[0]! ≤ x := by
  obtain ⟨j, hj, rfl⟩ := List.getElem_of_mem hx
  rw [show P[j] = P[j]! from (getElem!_pos P j hj).symm]
  rcases Nat.eq_zero_or_pos j with e | e
  · subst e; omega
  · have := asc_at hP e hj; omega
theorem le_last {P : List Int} (hP : P.Pairwise (· < ·)) {x : Int} (hx : x ∈ P) : x ≤ P[P.length - 1]! := by
  obtain ⟨j, hj, rfl⟩ := List.getElem_of_mem hx
  rw [show P[j] = P[j]! from (getElem!_pos P j hj).symm]
  by_cases e : j = P.length - 1
  · subst e; omega
  · have := asc_at hP (show j < P.length - 1 by omega) (by omega); omega
def ind (b : Bool) : Int := if b = true then 1 else 0
def inI (x y z : Int) : Bool := decide (x ≤ z) && decide (z < y)
theorem tele {P : List Int} (hP : P.Pairwise (· < ·)) {x y : Int} (hx : x ∈ P) (hy : y ∈ P) (hxy : x < y) (k : Nat) (hk : k < P.length) :
    sumN (fun i => dP P i * ind (inI x y P[i]!)) k = min y P[k]! - min x P[k]! := by
  induction k with
  | zero => have := first_le hP hx; simp only [sumN]; omega
  | succ k ih =>
    rw [sumN, ih (by omega)]
    have hlt := asc_at hP (show k < k + 1 by omega) hk
    unfold dP ind inI
    by_cases h1 : x ≤ P[k]!
    · by_cases h2 : P[k]! < y
      · have := gap hP hy hk h2
        simp only [h1, h2, decide_true, Bool.and_self, if_true, Int.mul_one]
        omega
      · simp only [h1, h2, decide_true, decide_false, Bool.and_false, Bool.false_eq_true, if_false, Int.mul_zero]
        omega
    · have := gap hP hx hk (by omega)
      simp only [h1, decide_false, Bool.false_and, Bool.false_eq_true, if_false, Int.mul_zero]
      omega
theorem tele_all {P : List Int} (hP : P.Pairwise (· < ·)) {x y : Int} (hx : x ∈ P) (hy : y ∈ P) (hxy : x < y) : sumN (fun i => dP P i * ind (inI x y P[i]!)) (P.length - 1) = y - x := by
  have hl : 0 < P.length := List.length_pos_of_mem hx
  rw [tele hP hx hy hxy _ (by omega)]
  have h1 := le_last hP hx
  have h2 := le_last hP hy
  omega
/-- the sum of the lengths -/
def lens : List Tup → Int
  | [] => 0
  | t :: l => (t.to_ - t.from_) + lens l
theorem lens_snoc (l : List Tup) (t : Tup) : lens (l ++ [t]) = lens l + t.to_ - t.from_ := by
  induction l with
  | nil => simp [lens]
  | cons x l ih => rw [List.cons_append, lens, lens, ih]; omega
theorem sum_cnt {P : List Int} (hP : P.Pairwise (· < ·)) : ∀ (l : List Tup), (∀ t ∈ l, validT t = true) → (∀ x ∈ bnd l, x ∈ P) → sumN (fun i => dP P i * (cntAt l P[i]! : Int)) (P.length - 1) = lens l := by
  intro l
  induction l with
  | nil => intro _ _; simp only [cntAt, List.filter_nil, List.length_nil, lens]; rw [← sumN_zero (P.length - 1)]; exact sumN_congr _ _ _ fun i _ => by simp
  | cons t l ih =>
    intro hv hb
    have ht := hv t (by simp)
    have hbt : bnd (t :: l) = [t.from_, t.to_] ++ bnd l := by simp [bnd, ht]
    rw [hbt] at hb
    have ih' := ih (fun u hu => hv u (by simp [hu])) fun x hx => hb x (by simp [hx])
    have hlt := validB_lt ht
    have h2 := tele_all hP (hb t.from_ (by simp)) (hb t.to_ (by simp)) hlt.2.1
    rw [lens, ← ih', ← h2, ← sumN_add]
    refine sumN_congr _ _ _ fun i _ => ?_
    have hc : (cntAt (t :: l) P[i]! : Int) = ind (inI t.from_ t.to_ P[i]!) + cntAt l P[i]! := by
      unfold cntAt
      rw [List.filter_cons]
      have hh : holdsAt P[i]! t = inI t.from_ t.to_ P[i]! := by simp [holdsAt, inI, ht]
      rw [hh]
      unfold ind
      split <;> simp <;> omega
    rw [hc, Int.mul_add]
def area : List StepI → Int
  | [] => 0
  | s :: l => (s.to_ - s.from_) * s.n + area l
def cov : List StepI → Int
  | [] => 0
  | s :: l => (if 0 < s.n then s.to_ - s.from_ else 0) + cov l
theorem area_append (a b : List StepI) : area (a ++ b) = area a + area b := by
  induction a with
  | nil => simp [area]
  | cons x a ih => rw [List.cons_append, area, area, ih]; omega
theorem cov_append (a b : List StepI) : cov (a ++ b) = cov a + cov b := by
  induction a with
  | nil => simp [cov]
  | cons x a ih => rw [List.cons_append, cov, cov, ih]; omega
/-- steps follow one another, none is empty, neighbours differ -/
def StepRuns (d : List StepI) : Prop := (∀ s ∈ d, s.from_ < s.to_) ∧ ∀ i (h : i + 1 < d.length), d[i].to_ = d[i + 1].from_ ∧ d[i].n ≠ d[i + 1].n
theorem steps_sum {P : List Int} (hP : P.Pairwise (· < ·)) (f : Nat → Int) (k : Nat) (hk : k < P.length) :
    area (stepsOf P f k) = sumN (fun i => dP P i * f i) k ∧ cov (stepsOf P f k) = sumN (fun i => dP P i * ind (decide (0 < f i))) k ∧ StepRuns (stepsOf P f k) ∧ (∀ p, (stepsOf P f k).getLast? = some p → p.to_ = P[k]!) ∧ (0 < k → (stepsOf P f k).getLast? ≠ none) := by
  induction k with
  | zero => exact ⟨rfl, rfl, ⟨by simp [stepsOf], fun i h => by simp [stepsOf] at h⟩, by simp [stepsOf], fun h => by omega⟩
  | succ k ih =>
    obtain ⟨h1, h2, h3, h4, h5⟩ := ih (by omega)
    have hlt := asc_at hP (show k < k + 1 by omega) hk
    rw [stepsOf]
    simp only [sumN]
    have hd : dP P k = P[k + 1]! - P[k]! := rfl
    generalize P[k]! = u at *
    generalize P[k + 1]! = v at *
    simp only [hd]
    unfold addStep
    cases hg : (stepsOf P f k).getLast? with
    | none =>
      have hnil : stepsOf P f k = [] := List.getLast?_eq_none_iff.1 hg
      have hk0 : k = 0 := by
        rcases Nat.eq_zero_or_pos k with h | h
        · exact h
        · exact absurd hg (h5 h)
      have e0 : sumN (fun i => dP P i * f i) k = 0 := by rw [hk0]; rfl
      have e1 : sumN (fun i => dP P i * ind (decide (0 < f i))) k = 0 := by rw [hk0]; rfl
      rw [e0, e1]
      refine ⟨by simp [area], ?_, ⟨fun s hs => ?_, fun i h => by simp at h⟩, fun p hp => ?_, fun _ => by simp⟩
      · simp only [cov, ind, decide_eq_true_eq]
        split <;> simp
      · rw [List.mem_singleton] at hs; subst hs; exact hlt
      · simp at hp; subst hp; rfl
    | some p =>
      have hp := h4 p hg
      obtain ⟨l, hl⟩ : ∃ l, stepsOf P f k = l ++ [p] := by
        obtain ⟨l, hl⟩ := List.getLast?_eq_some_iff.1 hg
        exact ⟨l, hl⟩
      rw [hl] at h1 h2 h3 ⊢
      rw [area_append] at h1
      rw [cov_append] at h2
      simp only [area, cov, Int.add_zero] at h1 h2
      have hpl := h3.1 p (by simp)
      by_cases hn : p.n = f k
      · simp only [hn, if_true, List.dropLast_concat]
        refine ⟨?_, ?_, ⟨fun s hs => ?_, fun i h => ?_⟩, fun q hq => ?_, fun _ => by simp⟩
        · rw [area_append, ← h1]
          simp only [area, Int.add_zero]
          rw [hn, ← hp, Int.add_assoc, ← Int.add_mul]
          congr 2
          omega
        · rw [cov_append, ← h2]
          simp only [cov, Int.add_zero, ind, decide_eq_true_eq, hn]
          split <;> simp <;> omega
        · rcases List.mem_append.1 hs with h | h
          · exact h3.1 s (by simp [h])
          · rw [List.mem_singleton] at h; subst h; simp only; omega
        · have := h3.2 i (by simpa using h)
          by_cases e : i + 1 < l.length
          · rw [List.getElem_append_left (by omega), List.getElem_append_left e] at this ⊢
            exact this
          · have ei : i + 1 = l.length := by simp at h; omega
            rw [List.getElem_append_left (by omega), List.getElem_append_right (by omega)] at this ⊢
            simp only [ei, Nat.sub_self, List.getElem_cons_zero] at this ⊢
            rw [← hn]
            exact this
        · simp at hq; subst hq; rfl
      · simp only [hn, if_false]
        refine ⟨?_, ?_, ⟨fun s hs => ?_, fun i h => ?_⟩, fun q hq => ?_, fun _ => by simp⟩
        · rw [area_append, area_append, ← h1]
          simp only [area, Int.add_zero]
        · rw [cov_append, cov_append, ← h2]
          simp only [cov, Int.add_zero, ind, decide_eq_true_eq]
          split <;> split <;> simp
        · rcases List.mem_append.1 hs with h | h
          · exact h3.1 s h
          · rw [List.mem_singleton] at h; subst h; exact hlt
        · by_cases e : i + 1 < (l ++ [p]).length
          · rw [List.getElem_append_left (by omega), List.getElem_append_left e]
            exact h3.2 i e
          · have ei : i + 1 = (l ++ [p]).length := by simp at h e ⊢; omega
            have hi : i = l.length := by simp only [List.length_append, List.length_singleton] at ei; omega
            have hgl : (l ++ [p] ++ [(⟨u, v, f k⟩ : StepI)])[i]'(by omega) = p := by
              rw [List.getElem_append_left (by omega), List.getElem_append_right (by omega)]
              simp [hi]
            have hgr : (l ++ [p] ++ [(⟨u, v, f k⟩ : StepI)])[i + 1]'h = ⟨u, v, f k⟩ := by
              rw [List.getElem_append_right (by omega)]
              simp [ei]
            rw [hgl, hgr]
            exact ⟨hp, hn⟩
        · simp at hq; subst hq; rfl
def perLen : List Per → Int
  | [] => 0
  | p :: s => (p.to_ - p.from_) + perLen s
theorem perLen_snoc (s : List Per) (p : Per) : perLen (s ++ [p]) = perLen s + p.to_ - p.from_ := by
  induction s with
  | nil => simp [perLen]
  | cons x s ih => rw [List.cons_append, perLen, perLen, ih]; omega
theorem sum_norm {P : List Int} (hP : P.Pairwise (· < ·)) : ∀ (s : List Per), NormPer s → (∀ p ∈ s, p.from_ ∈ P ∧ p.to_ ∈ P) → ∀ (g : Int → Bool), (∀ x, g x = true ↔ inPer s x) → sumN (fun i => dP P i * ind (g P[i]!)) (P.length - 1) = perLen s := by
  intro s
  induction s with
  | nil =>
    intro _ _ g hg
    rw [perLen, ← sumN_zero (P.length - 1)]
    refine sumN_congr _ _ _ fun i _ => ?_
    have : g P[i]! = false := by
      cases h : g P[i]!
      · rfl
      · exact absurd ((hg _).1 h) inPer_nil
    rw [this]
    simp [ind]
  | cons p s ih =>
    intro hN hb g hg
    obtain ⟨hp1, hp2⟩ := hN.head
    have h2 := tele_all hP (hb p (by simp)).1 (hb p (by simp)).2 hp1
    have hins : ∀ x, inPer s x → p.to_ < x := fun x ⟨q, hq, h3, _⟩ => by have := hp2 q hq; omega
    have ih' := ih hN.tail (fun q hq => hb q (by simp [hq])) (fun x => g x && !inI p.from_ p.to_ x) fun x => by
      rw [Bool.and_eq_true, hg x, inPer_cons]
      simp only [inI, Bool.not_eq_true', Bool.and_eq_false_iff, decide_eq_false_iff_not]
      constructor
      · rintro ⟨h3 | h3, h4⟩
        · omega
        · exact h3
      · intro h3
        have := hins x h3
        exact ⟨.inr h3, by omega⟩
    rw [perLen, ← ih', ← h2, ← sumN_add]
    refine sumN_congr _ _ _ fun i _ => ?_
    rw [← Int.mul_add]
    congr 1
    unfold ind
    cases h3 : inI p.from_ p.to_ P[i]! with
    | true =>
      have : g P[i]! = true := (hg _).2 (inPer_cons.2 (.inl (by simpa [inI] using h3)))
      rw [this]
      simp
    | false => simp
/-- the ends of the normal form are ends of the periods -/
def Ends (L : List Int) (s : List Per) : Prop := ∀ p ∈ s, p.from_ ∈ L ∧ p.to_ ∈ L
theorem ends_min {L : List Int} {x y : Int} (hx : x ∈ L) (hy : y ∈ L) : min x y ∈ L ∧ max x y ∈ L := by
  rcases Int.le_total x y with h | h
  · rw [Int.min_eq_left h, Int.max_eq_right h]; exact ⟨hx, hy⟩
  · rw [Int.min_eq_right h, Int.max_eq_left h]; exact ⟨hy, hx⟩
theorem absorb_ends {L : List Int} : ∀ (s : List Per) (p : Per), Ends L s → (p.from_ ∈ L ∧ p.to_ ∈ L) → ((absorb s p).1.from_ ∈ L ∧ (absorb s p).1.to_ ∈ L) ∧ Ends L (absorb s p).2 := by
  intro s
  induction s with
  | nil => intro p _ hp; exact ⟨hp, fun q hq => by cases hq⟩
  | cons q s ih =>
    intro p hs hp
    have hq := hs q (by simp)
    unfold absorb
    split
    · exact ih _ (fun r hr => hs r (by simp [hr])) ⟨(ends_min hp.1 hq.1).1, (ends_min hp.2 hq.2).2⟩
    · exact ⟨hp, hs⟩
theorem insPer_ends {L : List Int} : ∀ (s : List Per) (p : Per), Ends L s → (p.from_ ∈ L ∧ p.to_ ∈ L) → Ends L (insPer s p) := by
  intro s
  induction s with
  | nil => intro p _ hp q hq; simp [insPer] at hq; subst hq; exact hp
  | cons q s ih =>
    intro p hs hp
    unfold insPer
    split
    · intro r hr
      rcases List.mem_cons.1 hr with rfl | hr
      · exact hs _ (by simp)
      · exact ih p (fun x hx => hs x (by simp [hx])) hp r hr
    · obtain ⟨h1, h2⟩ := absorb_ends (q :: s) p hs hp
      intro r hr
      rcases List.mem_cons.1 hr with rfl | hr
      · exact h1
      · exact h2 r hr
theorem refNorm_ends {L : List Int} (l : List Per) (h : ∀ p ∈ l, validB p.from_ p.to_ = true → p.from_ ∈ L ∧ p.to_ ∈ L) : Ends L (refNorm l) := by
  have key : ∀ (l out : List Per), Ends L out → (∀ p ∈ l, p.from_ ∈ L ∧ p.to_ ∈ L) → Ends L (l.foldl insPer out) := by
    intro l
    induction l with
    | nil => intro out ho _; exact ho
    | cons p l ih => intro out ho hl; exact ih _ (insPer_ends out p ho (hl p (by simp))) fun q hq => hl q (by simp [hq])
  exact key _ [] (fun p hp => by cases hp) fun p hp => by
    obtain ⟨h1, h2⟩ := List.mem_filter.1 hp
    exact h p h1 h2
def tupPer (t : Tup) : Per := ⟨t.from_, t.to_⟩
theorem area_law (l : List Tup) (hv : ∀ t ∈ l, validT t = true) : area (depthOf l) = lens l ∧ cov (depthOf l) = perLen (refNorm (l.map tupPer)) ∧ StepRuns (depthOf l) := by
  obtain ⟨p1, p2, _⟩ := pts_law l
  by_cases h0 : 0 < (pts l).length
  · obtain ⟨h1, h2, h3, _⟩ := steps_sum p1 (fun i => (cntAt l (pts l)[i]! : Int)) ((pts l).length - 1) (by omega)
    refine ⟨h1.trans (sum_cnt p1 l hv fun x hx => (p2 x).2 hx), ?_, h3⟩
    obtain ⟨n1, n2⟩ := refNorm_law (l.map tupPer)
    refine h2.trans (sum_norm p1 _ n1 ?_ (fun x => decide (0 < (cntAt l x : Int))) fun x => ?_)
    · refine refNorm_ends _ fun p hp hpv => ?_
      obtain ⟨t, ht, rfl⟩ := List.mem_map.1 hp
      have hb : t.from_ ∈ bnd l ∧ t.to_ ∈ bnd l := by
        unfold bnd
        refine ⟨List.mem_flatMap.2 ⟨t, ht, ?_⟩, List.mem_flatMap.2 ⟨t, ht, ?_⟩⟩ <;> simp [hv t ht]
      exact ⟨(p2 _).2 hb.1, (p2 _).2 hb.2⟩
    · rw [n2 x, decide_eq_true_eq]
      unfold cntAt
      constructor
      · intro h
        have hl : 0 < (l.filter (holdsAt x)).length := by omega
        obtain ⟨t, ht⟩ := List.exists_mem_of_length_pos hl
        obtain ⟨g1, g2⟩ := List.mem_filter.1 ht
        simp only [holdsAt, Bool.and_eq_true, decide_eq_true_eq] at g2
        exact ⟨tupPer t, List.mem_filter.2 ⟨List.mem_map_of_mem g1, g2.1.1⟩, g2.1.2, g2.2⟩
      · rintro ⟨p, hp, g1, g2⟩
        obtain ⟨g3, g4⟩ := List.mem_filter.1 hp
        obtain ⟨t, ht, rfl⟩ := List.mem_map.1 g3
        have : t ∈ l.filter (holdsAt x) := List.mem_filter.2 ⟨ht, by simp only [holdsAt, Bool.and_eq_true, decide_eq_true_eq]; exact ⟨⟨g4, g1⟩, g2⟩⟩
        have := List.length_pos_of_mem this
        omega
  · have hp : pts l = [] := List.eq_nil_of_length_eq_zero (by omega)
    have hl : l = [] := by
      cases l with
      | nil => rfl
      | cons t l =>
        have : t.from_ ∈ pts (t :: l) := (p2 _).2 (by simp [bnd, hv t (by simp)])
        rw [hp] at this
        cases this
    subst hl
    have hd : depthOf [] = [] := by unfold depthOf; rw [hp]; rfl
    rw [hd]
    exact ⟨rfl, rfl, ⟨fun s hs => by simp at hs, fun i h => by simp at h⟩⟩

end Go.Proofs.YtdgpbpbjlnlijaaGreatDoor

/- plain: pairs and depth at one point of time; no program in sight -/
namespace Go.Proofs.YtdgpbpbjlnlijaaGreatDoor

/-- the start holds at t -/
def hE (t : Int) (e : Ev) : Bool := validB e.from_ e.to_ && decide (e.from_ ≤ t) && decide (t < e.to_)
/-- the pair's overlap holds t -/
def inP (t : Int) (p : Pair) : Bool := decide (p.from_ ≤ t) && decide (t < p.to_)
theorem meet_at (t : Int) {x y : Ev} (h : x.side ≠ y.side) : ((meet x y).filter (inP t)).length = if hE t x = true ∧ hE t y = true then 1 else 0 := by
  unfold meet
  by_cases hk : x.side ≠ y.side ∧ okEv x = true ∧ okEv y = true ∧ max x.from_ y.from_ < min x.to_ y.to_
  · rw [if_pos hk]
    obtain ⟨_, h1, h2, h3⟩ := hk
    unfold okEv at h1 h2
    have e : inP t (mkPair x y) = (hE t x && hE t y) := by
      unfold inP mkPair hE
      rw [h1, h2, Bool.eq_iff_iff]
      simp only [Bool.and_eq_true, decide_eq_true_eq, true_and]
      omega
    rw [List.filter_cons, List.filter_nil, e]
    cases hE t x <;> cases hE t y <;> rfl
  · rw [if_neg hk, List.filter_nil, List.length_nil, if_neg]
    rintro ⟨h1, h2⟩
    unfold hE at h1 h2
    simp only [Bool.and_eq_true, decide_eq_true_eq] at h1 h2
    exact hk ⟨h, h1.1.1, h2.1.1, by omega⟩
theorem meet_row (t : Int) {x : Ev} (hx : x.side = false) : ∀ (m : List Ev), (∀ y ∈ m, y.side = true) → ((m.flatMap (meet x)).filter (inP t)).length = if hE t x = true then (m.filter (hE t)).length else 0 := by
  intro m
  induction m with
  | nil => intro _; simp
  | cons y m ih =>
    intro hm
    have hy := hm y (by simp)
    rw [List.flatMap_cons, List.filter_append, List.length_append, ih fun z hz => hm z (by simp [hz]), meet_at t (by rw [hx, hy]; decide), List.filter_cons]
    cases hE t x <;> cases hE t y <;> simp <;> omega
theorem meet_all (t : Int) {m : List Ev} (hm : ∀ y ∈ m, y.side = true) : ∀ (l : List Ev), (∀ x ∈ l, x.side = false) → ((l.flatMap fun x => m.flatMap (meet x)).filter (inP t)).length = (l.filter (hE t)).length * (m.filter (hE t)).length := by
  intro l
  induction l with
  | nil => intro _; simp
  | cons x l ih =>
    intro hl
    rw [List.flatMap_cons, List.filter_append, List.length_append, ih fun z hz => hl z (by simp [hz]), meet_row t (hl x (by simp)) m hm, List.filter_cons]
    cases hE t x with
    | false => simp
    | true => simp [Nat.succ_mul]; omega
theorem evs_hold (c : Bool) (t : Int) (l : List Tup) : ∀ i, ((evs c i l).filter (hE t)).length = cntAt l t := by
  induction l with
  | nil => intro i; rfl
  | cons x l ih =>
    intro i
    have h1 := ih (i + 1)
    unfold cntAt at h1 ⊢
    rw [evs, List.filter_cons, List.filter_cons]
    have e : hE t ⟨c, i, x.from_, x.to_⟩ = holdsAt t x := rfl
    rw [e]
    cases holdsAt t x <;> simp [h1]
theorem pairs_at (a b : List Tup) (t : Int) : ((pairsOf a b).filter (inP t)).length = cntAt a t * cntAt b t := by
  rw [((pairsOf_perm a b).filter _).length_eq]
  unfold rawPairs
  rw [meet_all t (fun y hy => (evs_mem hy).1) _ fun x hx => (evs_mem hx).1, evs_hold, evs_hold]

/-- what the last step that holds t says -/
def valAt (t : Int) (l : List StepI) : Int := l.foldl (fun d s => if s.from_ ≤ t ∧ t < s.to_ then s.n else d) 0
theorem valAt_snoc (t : Int) (l : List StepI) (s : StepI) : valAt t (l ++ [s]) = if s.from_ ≤ t ∧ t < s.to_ then s.n else valAt t l := by
  unfold valAt
  rw [List.foldl_append]
  rfl
theorem steps_at {P : List Int} (hP : P.Pairwise (· < ·)) (f : Nat → Int) (t g : Int) (k : Nat) (hk : k < P.length) (hg : ∀ i, i < k → P[i]! ≤ t → t < P[i + 1]! → f i = g) :
    valAt t (stepsOf P f k) = if P[0]! ≤ t ∧ t < P[k]! then g else 0 := by
  induction k with
  | zero => rw [if_neg (by omega)]; rfl
  | succ k ih =>
    have ih' := ih (by omega) fun i hi => hg i (by omega)
    have hgk := hg k (by omega)
    obtain ⟨_, _, h3, h4, h5⟩ := steps_sum hP f k (by omega)
    have hlt := asc_at hP (show k < k + 1 by omega) hk
    have h0k : P[0]! ≤ P[k]! := by
      rcases Nat.eq_zero_or_pos k with e | e
      · subst e; exact Int.le_refl _
      · have := asc_at hP e (by omega); omega
    rw [stepsOf]
    unfold addStep
    cases hgl : (stepsOf P f k).getLast? with
    | none =>
      have hk0 : k = 0 := by
        rcases Nat.eq_zero_or_pos k with h | h
        · exact h
        · exact absurd hgl (h5 h)
      subst hk0
      show valAt t ([] ++ [_]) = _
      rw [valAt_snoc]
      simp only
      by_cases hc : P[0]! ≤ t ∧ t < P[0 + 1]!
      · rw [if_pos hc, if_pos hc, hgk hc.1 hc.2]
      · rw [if_neg hc, if_neg hc]; rfl
    | some p =>
      have hp := h4 p hgl
      obtain ⟨l, hl⟩ := List.getLast?_eq_some_iff.1 hgl
      rw [hl] at ih' h3 ⊢
      rw [valAt_snoc] at ih'
      have hpl := h3.1 p (by simp)
      by_cases hn : p.n = f k
      · simp only [hn, if_true, List.dropLast_concat]
        rw [valAt_snoc]
        simp only
        by_cases c1 : t < P[k]!
        · have e1 : (p.from_ ≤ t ∧ t < P[k + 1]!) ↔ (p.from_ ≤ t ∧ t < p.to_) := by omega
          have e2 : (P[0]! ≤ t ∧ t < P[k + 1]!) ↔ (P[0]! ≤ t ∧ t < P[k]!) := by omega
          simp only [e1, e2, ← hn]
          exact ih'
        · by_cases c2 : t < P[k + 1]!
          · rw [if_pos (by omega), if_pos (by omega)]
            exact hgk (by omega) c2
          · rw [if_neg (by omega), if_neg (by omega)]
            rw [if_neg (by omega), if_neg (by omega)] at ih'
            exact ih'
      · simp only [hn, if_false]
        rw [valAt_snoc, valAt_snoc]
        simp only
        by_cases c1 : t < P[k]!
        · have e2 : (P[0]! ≤ t ∧ t < P[k + 1]!) ↔ (P[0]! ≤ t ∧ t < P[k]!) := by omega
          rw [if_neg (by omega)]
          simp only [e2]
          exact ih'
        · by_cases c2 : t < P[k + 1]!
          · rw [if_pos (by omega), if_pos (by omega)]
            exact hgk (by omega) c2
          · rw [if_neg (by omega), if_neg (show ¬ (P[0]! ≤ t ∧ t < P[k + 1]!) by omega), ih', if_neg (by omega)]
/-- no boundary between: the same tuples hold -/
theorem hold_between {P : List Int} (hP : P.Pairwise (· < ·)) {i : Nat} (hi : i + 1 < P.length) {t : Int} (h1 : P[i]! ≤ t) (h2 : t < P[i + 1]!) (l : List Tup) (hb : ∀ x ∈ bnd l, x ∈ P) : ∀ x ∈ l, holdsAt P[i]! x = holdsAt t x := by
  intro x hx
  unfold holdsAt
  cases hv : validB x.from_ x.to_ with
  | false =>
    have : validT x = false := hv
    simp [this]
  | true =>
    have hm : ∀ z, z = x.from_ ∨ z = x.to_ → z ∈ P := fun z hz => hb z (by
      unfold bnd
      refine List.mem_flatMap.2 ⟨x, hx, ?_⟩
      have : validT x = true := hv
      rw [this, if_pos rfl]
      rcases hz with rfl | rfl <;> simp)
    have g1 := gap hP (hm x.from_ (.inl rfl)) hi
    have g2 := gap hP (hm x.to_ (.inr rfl)) hi
    have : validT x = true := hv
    rw [this, Bool.true_and, Bool.true_and, Bool.eq_iff_iff]
    simp only [Bool.and_eq_true, decide_eq_true_eq]
    omega
theorem cnt_between {P : List Int} (hP : P.Pairwise (· < ·)) {i : Nat} (hi : i + 1 < P.length) {t : Int} (h1 : P[i]! ≤ t) (h2 : t < P[i + 1]!) (l : List Tup) (hb : ∀ x ∈ bnd l, x ∈ P) : cntAt l P[i]! = cntAt l t := by
  unfold cntAt
  rw [List.filter_congr (hold_between hP hi h1 h2 l hb)]
theorem cnt_out {P : List Int} (hP : P.Pairwise (· < ·)) {t : Int} (l : List Tup) (hb : ∀ x ∈ bnd l, x ∈ P) (h : t < P[0]! ∨ P[P.length - 1]! ≤ t) : cntAt l t = 0 := by
  unfold cntAt
  rw [List.length_eq_zero_iff, List.filter_eq_nil_iff]
  intro x hx hc
  unfold holdsAt at hc
  simp only [Bool.and_eq_true, decide_eq_true_eq] at hc
  have hv : validT x = true := hc.1.1
  have hm : ∀ z, z = x.from_ ∨ z = x.to_ → z ∈ P := fun z hz => hb z (by
    unfold bnd
    refine List.mem_flatMap.2 ⟨x, hx, ?_⟩
    rw [hv, if_pos rfl]
    rcases hz with rfl | rfl <;> simp)
  have g1 := first_le hP (hm x.from_ (.inl rfl))
  have g2 := le_last hP (hm x.to_ (.inr rfl))
  omega
theorem depth_at (l : List Tup) (t : Int) : valAt t (depthOf l) = (cntAt l t : Int) := by
  obtain ⟨p1, p2, _⟩ := pts_law l
  show valAt t (stepsOf (pts l) (fun i => (cntAt l (pts l)[i]! : Int)) ((pts l).length - 1)) = _
  by_cases h0 : 0 < (pts l).length
  · rw [steps_at p1 (fun i => (cntAt l (pts l)[i]! : Int)) t (cntAt l t : Int) _ (by omega) fun i hi h1 h2 => by rw [cnt_between p1 (by omega) h1 h2 l fun x hx => (p2 x).2 hx]]
    by_cases hc : (pts l)[0]! ≤ t ∧ t < (pts l)[(pts l).length - 1]!
    · rw [if_pos hc]
    · rw [if_neg hc, cnt_out p1 l (fun x hx => (p2 x).2 hx) (by omega)]; rfl
  · have e : pts l = [] := List.length_eq_zero_iff.1 (by omega)
    have hz : cntAt l t = 0 := by
      unfold cntAt
      rw [List.length_eq_zero_iff, List.filter_eq_nil_iff]
      intro x hx hc
      unfold holdsAt at hc
      simp only [Bool.and_eq_true, decide_eq_true_eq] at hc
      have hv : validT x = true := hc.1.1
      have : x.from_ ∈ pts l := (p2 _).2 (by
        unfold bnd
        refine List.mem_flatMap.2 ⟨x, hx, ?_⟩
        rw [hv, if_pos rfl]
        simp)
      rw [e] at this
      cases this
    rw [e, hz]
    rfl

end Go.Proofs.YtdgpbpbjlnlijaaGreatDoor

/- plain: the levels of a list of periods; no program in sight -/
namespace Go.Proofs.YtdgpbpbjlnlijaaGreatDoor

/-- the period holds t -/
def perHas (t : Int) (p : Per) : Bool := decide (p.from_ ≤ t) && decide (t < p.to_)
/-- one point: close the levels above d, or open up to d; the open levels' starts, the closed ones -/
def levStep (d : Nat) (x : Int) (q : List Int × List Per) : List Int × List Per :=
  (q.1.take d ++ List.replicate (d - q.1.length) x, q.2 ++ (q.1.drop d).reverse.map fun s => ⟨s, x⟩)
def levOf (P : List Int) (f : Nat → Nat) : Nat → List Int × List Per
  | 0 => ([], [])
  | k + 1 => levStep (f k) P[k]! (levOf P f k)
theorem levStep_len (d : Nat) (x : Int) (q : List Int × List Per) : (levStep d x q).1.length = d := by
  simp only [levStep, List.length_append, List.length_take, List.length_replicate]
  omega
/-- how many levels hold at t, closed and open -/
def levCnt (t : Int) (q : List Int × List Per) : Nat := (q.2.filter (perHas t)).length + (q.1.filter fun s => decide (s ≤ t)).length
theorem filter_all {α : Type} {p : α → Bool} {l : List α} (h : ∀ x ∈ l, p x = true) : l.filter p = l := List.filter_eq_self.2 h
theorem levStep_cnt (d : Nat) (x t : Int) (q : List Int × List Per) (h1 : ∀ s ∈ q.1, s < x) (h2 : ∀ p ∈ q.2, p.to_ ≤ x) : levCnt t (levStep d x q) = if x ≤ t then d else levCnt t q := by
  obtain ⟨o, out⟩ := q
  simp only at h1 h2
  unfold levCnt levStep
  simp only
  by_cases h : x ≤ t
  · rw [if_pos h]
    have e1 : (out ++ (o.drop d).reverse.map fun s => (⟨s, x⟩ : Per)).filter (perHas t) = [] := by
      rw [List.filter_eq_nil_iff]
      intro p hp
      unfold perHas
      simp only [Bool.and_eq_true, decide_eq_true_eq]
      rcases List.mem_append.1 hp with hp | hp
      · have := h2 p hp; omega
      · obtain ⟨s, _, rfl⟩ := List.mem_map.1 hp
        simp only
        omega
    have e2 : (o.take d ++ List.replicate (d - o.length) x).filter (fun s => decide (s ≤ t)) = o.take d ++ List.replicate (d - o.length) x := filter_all fun s hs => by
      rw [decide_eq_true_eq]
      rcases List.mem_append.1 hs with hs | hs
      · have := h1 s (List.mem_of_mem_take hs); omega
      · rw [List.eq_of_mem_replicate hs]; exact h
    rw [e1, e2]
    simp only [List.length_nil, List.length_append, List.length_take, List.length_replicate]
    omega
  · rw [if_neg h]
    have e0 : (List.replicate (d - o.length) x).filter (fun s => decide (s ≤ t)) = [] := by
      rw [List.filter_eq_nil_iff]
      intro s hs
      rw [List.eq_of_mem_replicate hs, decide_eq_true_eq]
      exact h
    have e1 : (((o.drop d).reverse.map fun s => (⟨s, x⟩ : Per)).filter (perHas t)).length = ((o.drop d).filter fun s => decide (s ≤ t)).length := by
      rw [List.filter_map, List.length_map, List.filter_reverse, List.length_reverse]
      congr 2
      funext s
      simp only [Function.comp, perHas]
      rw [show decide (t < x) = true by rw [decide_eq_true_eq]; omega, Bool.and_true]
    have e2 : (o.filter fun s => decide (s ≤ t)).length = ((o.take d).filter fun s => decide (s ≤ t)).length + ((o.drop d).filter fun s => decide (s ≤ t)).length := by
      rw [← List.length_append, ← List.filter_append, List.take_append_drop]
    rw [List.filter_append, List.filter_append, List.length_append, List.length_append, e0, e1, e2]
    simp only [List.length_nil]
    omega
/-- what f says at the last point up to t -/
def gAt (P : List Int) (f : Nat → Nat) : Nat → Int → Nat
  | 0, _ => 0
  | k + 1, t => if P[k]! ≤ t then f k else gAt P f k t
theorem levOf_law {P : List Int} (hP : P.Pairwise (· < ·)) (f : Nat → Nat) (k : Nat) (hk : k ≤ P.length) :
    (∀ t, levCnt t (levOf P f k) = gAt P f k t) ∧ (∀ s ∈ (levOf P f k).1, s ∈ P ∧ (k < P.length → s < P[k]!)) ∧ (∀ p ∈ (levOf P f k).2, p.from_ ∈ P ∧ p.to_ ∈ P ∧ p.from_ < p.to_ ∧ (k < P.length → p.to_ < P[k]!)) ∧ (0 < k → (levOf P f k).1.length = f (k - 1)) := by
  induction k with
  | zero => exact ⟨fun t => rfl, fun s hs => (by cases hs), fun p hp => (by cases hp), fun h => by omega⟩
  | succ k ih =>
    obtain ⟨h1, h2, h3, _⟩ := ih (by omega)
    have hkm : P[k]! ∈ P := by rw [getElem!_pos P k (by omega)]; exact List.getElem_mem _
    have hup : ∀ z, z < P[k]! ∨ z = P[k]! → k + 1 < P.length → z < P[k + 1]! := fun z hz h => by
      have := asc_at hP (show k < k + 1 by omega) h
      omega
    refine ⟨fun t => ?_, fun s hs => ?_, fun p hp => ?_, fun _ => levStep_len _ _ _⟩
    · show levCnt t (levStep (f k) P[k]! (levOf P f k)) = if P[k]! ≤ t then f k else gAt P f k t
      rw [levStep_cnt _ _ _ _ (fun s hs => (h2 s hs).2 (by omega)) fun p hp => by have := (h3 p hp).2.2.2 (by omega); omega, h1 t]
    · have hs' : s ∈ (levOf P f k).1.take (f k) ++ List.replicate (f k - (levOf P f k).1.length) P[k]! := hs
      rcases List.mem_append.1 hs' with hs | hs
      · have := h2 s (List.mem_of_mem_take hs)
        exact ⟨this.1, hup s (.inl (this.2 (by omega)))⟩
      · rw [List.eq_of_mem_replicate hs]
        exact ⟨hkm, hup _ (.inr rfl)⟩
    · have hp' : p ∈ (levOf P f k).2 ++ ((levOf P f k).1.drop (f k)).reverse.map fun s => (⟨s, P[k]!⟩ : Per) := hp
      rcases List.mem_append.1 hp' with hp | hp
      · obtain ⟨g1, g2, g3, g4⟩ := h3 p hp
        exact ⟨g1, g2, g3, hup _ (.inl (g4 (by omega)))⟩
      · obtain ⟨s, hs, rfl⟩ := List.mem_map.1 hp
        have := h2 s (List.mem_of_mem_drop (List.mem_reverse.1 hs))
        exact ⟨this.1, hkm, this.2 (by omega), hup _ (.inr rfl)⟩

/-- a period as a tuple without values -/
def perT (p : Per) : Tup := ⟨[], p.from_, p.to_, []⟩
/-- the levels of the periods -/
def levPts (ps : List Per) : List Int := pts (ps.map perT)
def levF (ps : List Per) (i : Nat) : Nat := cntAt (ps.map perT) (levPts ps)[i]!
def levels (ps : List Per) : List Per := (levOf (levPts ps) (levF ps) (levPts ps).length).2
theorem levels_law (ps : List Per) (t : Int) : ((levels ps).filter (perHas t)).length = cntAt (ps.map perT) t := by
  obtain ⟨p1, p2, _⟩ := pts_law (ps.map perT)
  have hb : ∀ x ∈ bnd (ps.map perT), x ∈ levPts ps := fun x hx => (p2 x).2 hx
  have hlow : ∀ k, k < (levPts ps).length → t < (levPts ps)[k]! → gAt (levPts ps) (levF ps) k t = cntAt (ps.map perT) t := by
    intro k
    induction k with
    | zero => intro _ h; exact (cnt_out p1 _ hb (.inl h)).symm
    | succ k ih =>
      intro hk h
      unfold gAt
      by_cases c : (levPts ps)[k]! ≤ t
      · rw [if_pos c]
        exact cnt_between p1 hk c h _ hb
      · rw [if_neg c]
        exact ih (by omega) (by omega)
  obtain ⟨h1, _, _, h4⟩ := levOf_law p1 (levF ps) (levPts ps).length (Nat.le_refl _)
  have hall : gAt (levPts ps) (levF ps) (levPts ps).length t = cntAt (ps.map perT) t ∧ (levOf (levPts ps) (levF ps) (levPts ps).length).1 = [] := by
    rcases Nat.eq_zero_or_pos (levPts ps).length with h0 | h0
    · rw [h0]
      have hnil : levPts ps = [] := List.length_eq_zero_iff.1 h0
      refine ⟨?_, rfl⟩
      show 0 = _
      unfold cntAt
      symm
      rw [List.length_eq_zero_iff, List.filter_eq_nil_iff]
      intro x hx hc
      unfold holdsAt at hc
      simp only [Bool.and_eq_true, decide_eq_true_eq] at hc
      have hv : validT x = true := hc.1.1
      have : x.from_ ∈ levPts ps := hb _ (by
        unfold bnd
        refine List.mem_flatMap.2 ⟨x, hx, ?_⟩
        rw [hv, if_pos rfl]
        simp)
      rw [hnil] at this
      cases this
    · obtain ⟨n, hn⟩ : ∃ n, (levPts ps).length = n + 1 := ⟨(levPts ps).length - 1, by omega⟩
      have hend : levF ps n = 0 := by
        unfold levF
        exact cnt_out p1 _ hb (.inr (by show (levPts ps)[(levPts ps).length - 1]! ≤ _; rw [hn]; exact Int.le_refl _))
      have hlen := h4 h0
      rw [hn] at hlen ⊢
      simp only [Nat.add_sub_cancel] at hlen
      rw [hend] at hlen
      refine ⟨?_, List.length_eq_zero_iff.1 hlen⟩
      unfold gAt
      by_cases c : (levPts ps)[n]! ≤ t
      · rw [if_pos c, hend]
        exact (cnt_out p1 _ hb (.inr (by show (levPts ps)[(levPts ps).length - 1]! ≤ _; rw [hn]; exact c))).symm
      · rw [if_neg c]
        exact hlow n (by omega) (by omega)
  have h : levCnt t (levOf (levPts ps) (levF ps) (levPts ps).length) = gAt (levPts ps) (levF ps) (levPts ps).length t := h1 t
  rw [hall.1] at h
  unfold levCnt at h
  rw [hall.2] at h
  exact h
theorem levels_ends (ps : List Per) : ∀ p ∈ levels ps, p.from_ ∈ levPts ps ∧ p.to_ ∈ levPts ps ∧ p.from_ < p.to_ := fun p hp => by
  obtain ⟨p1, _, _⟩ := pts_law (ps.map perT)
  obtain ⟨_, _, h3, _⟩ := levOf_law p1 (levF ps) (levPts ps).length (Nat.le_refl _)
  exact ⟨(h3 p hp).1, (h3 p hp).2.1, (h3 p hp).2.2.1⟩

end Go.Proofs.YtdgpbpbjlnlijaaGreatDoor

/- plain: the rows of a timeslice; no program in sight -/
namespace Go.Proofs.YtdgpbpbjlnlijaaGreatDoor
open Go.RowKit

def tupRow (t : Tup) : Row := ⟨t.vals, t.lin⟩
def sliceRows (l : List Tup) (x : Int) : List Row := (l.filter (holdsAt x)).map tupRow
theorem slice_step (l : List Tup) (x : Int) (k : Nat) (h : k < l.length) : sliceRows (l.take (k + 1)) x = sliceRows (l.take k) x ++ if (validB l[k].from_ l[k].to_ && decide (l[k].from_ ≤ x) && decide (x < l[k].to_)) = true then [tupRow l[k]] else [] := by
  rw [List.take_succ_eq_append_getElem h]
  unfold sliceRows
  rw [List.filter_append, List.map_append]
  congr 1
  rw [List.filter_cons, List.filter_nil]
  show List.map tupRow (if holdsAt x l[k] = true then [l[k]] else []) = _
  rw [show holdsAt x l[k] = (validB l[k].from_ l[k].to_ && decide (l[k].from_ ≤ x) && decide (x < l[k].to_)) from rfl]
  split <;> rfl
theorem sliceRows_len (l : List Tup) (x : Int) : (sliceRows l x).length = cntAt l x := by unfold sliceRows cntAt; rw [List.length_map]

end Go.Proofs.YtdgpbpbjlnlijaaGreatDoor

/- plain: the normal form of a relation; no program in sight -/
namespace Go.Proofs.YtdgpbpbjlnlijaaGreatDoor
open Go.RowKit

def tupOf (r : Row) (p : Per) : Tup := ⟨r.vals, p.from_, p.to_, r.lin⟩
def cmpTup (a b : Tup) : Int := orI [cmpRow (tupRow a) (tupRow b), cmpI a.from_ b.from_, cmpI a.to_ b.to_]
theorem cmpTup_eq (a b : Tup) : cmpTup a b = if cmpRow (tupRow a) (tupRow b) = 0 then (if cmpI a.from_ b.from_ = 0 then cmpI a.to_ b.to_ else cmpI a.from_ b.from_) else cmpRow (tupRow a) (tupRow b) := by
  unfold cmpTup orI orI orI orI
  by_cases h1 : cmpRow (tupRow a) (tupRow b) = 0 <;> by_cases h2 : cmpI a.from_ b.from_ = 0 <;> by_cases h3 : cmpI a.to_ b.to_ = 0 <;> simp [h1, h2, h3]
theorem flat_congr {α β : Type} {f g : α → List β} {l : List α} (h : ∀ x ∈ l, f x = g x) : l.flatMap f = l.flatMap g := by
  induction l with
  | nil => rfl
  | cons x l ih => rw [List.flatMap_cons, List.flatMap_cons, h x (by simp), ih fun y hy => h y (by simp [hy])]
theorem ord_tup : Ord3 cmpTup := by
  have h : Ord3 fun x y : Row × Int × Int => if cmpRow x.1 y.1 = 0 then (if cmpI x.2.1 y.2.1 = 0 then cmpI x.2.2 y.2.2 else cmpI x.2.1 y.2.1) else cmpRow x.1 y.1 :=
    ord_then ord_row ord_I2 Prod.fst Prod.snd fun _ _ h1 h2 => Prod.ext h1 h2
  have h2 := ord_pull h (fun t : Tup => (tupRow t, t.from_, t.to_)) fun x y e => by
    obtain ⟨_, _, _, _⟩ := x
    obtain ⟨_, _, _, _⟩ := y
    simp only [tupRow, Prod.mk.injEq, Row.mk.injEq] at e
    simp [e]
  have e : cmpTup = fun x y : Tup => if cmpRow (tupRow x) (tupRow y) = 0 then (if cmpI x.from_ y.from_ = 0 then cmpI x.to_ y.to_ else cmpI x.from_ y.from_) else cmpRow (tupRow x) (tupRow y) := by
    funext a b
    exact cmpTup_eq a b
  rw [e]
  exact h2

section
open Classical
/-- each once -/
noncomputable def once {α : Type} : List α → List α
  | [] => []
  | x :: l => if x ∈ l then once l else x :: once l
theorem mem_once {α : Type} {x : α} {l : List α} : x ∈ once l ↔ x ∈ l := by
  induction l with
  | nil => rfl
  | cons y l ih =>
    unfold once
    split
    · rename_i h
      rw [ih, List.mem_cons]
      exact ⟨.inr, fun hx => by rcases hx with rfl | hx; exact h; exact hx⟩
    · rw [List.mem_cons, List.mem_cons, ih]
theorem once_nodup {α : Type} (l : List α) : (once l).Nodup := by
  induction l with
  | nil => exact List.nodup_nil
  | cons y l ih =>
    unfold once
    split
    · exact ih
    · rename_i h
      exact List.nodup_cons.2 ⟨fun hx => h (mem_once.1 hx), ih⟩
theorem group_perm {α β : Type} (f : α → β) : ∀ (ks : List β) (l : List α), ks.Nodup → (∀ x ∈ l, f x ∈ ks) → (ks.flatMap fun k => l.filter fun x => decide (f x = k)).Perm l := by
  intro ks
  induction ks with
  | nil =>
    intro l _ h
    cases l with
    | nil => exact .refl _
    | cons x l => exact absurd (h x (by simp)) (by simp)
  | cons k ks ih =>
    intro l hn h
    obtain ⟨h1, h2⟩ := List.nodup_cons.1 hn
    rw [List.flatMap_cons]
    have e : (ks.flatMap fun k' => l.filter fun x => decide (f x = k')) = ks.flatMap fun k' => (l.filter fun x => !decide (f x = k)).filter fun x => decide (f x = k') := by
      refine flat_congr fun k' hk' => ?_
      rw [List.filter_filter]
      refine List.filter_congr fun x _ => ?_
      by_cases c : f x = k'
      · have : ¬ f x = k := fun c2 => h1 (by rw [← c2, c]; exact hk')
        simp [c]
        rw [← c]; exact this
      · simp [c]
    rw [e]
    refine ((ih _ h2 fun x hx => ?_).append_left _).trans (List.filter_append_perm _ l)
    obtain ⟨g1, g2⟩ := List.mem_filter.1 hx
    rcases List.mem_cons.1 (h x g1) with c | c
    · simp [c] at g2
    · exact c
/-- the valid periods of a row -/
noncomputable def persOf (r : Row) (l : List Tup) : List Per := ((l.filter validT).filter fun t => decide (tupRow t = r)).map tupPer
noncomputable def rowsOf (l : List Tup) : List Row := once ((l.filter validT).map tupRow)
noncomputable def normRaw (ks : List Row) (l : List Tup) : List Tup := ks.flatMap fun r => (levels (persOf r l)).map (tupOf r)
noncomputable def normT (l : List Tup) : List Tup := sortBy cmpTup (normRaw (rowsOf l) l)
theorem normT_of {l : List Tup} {ks : List Row} (hn : ks.Nodup) (hk : ∀ r, r ∈ ks ↔ ∃ t ∈ l, validT t = true ∧ tupRow t = r) {out : List Tup} (ho : out.Perm (normRaw ks l)) : sortBy cmpTup out = normT l := by
  refine sortBy_unique ord_tup ?_ (sortBy_pair ord_tup _)
  refine (sortBy_perm _ _).trans (ho.trans ?_)
  unfold normRaw
  refine List.Perm.flatMap_right _ ((List.perm_ext_iff_of_nodup hn (once_nodup _)).2 fun r => ?_)
  rw [hk r, mem_once, List.mem_map]
  constructor
  · rintro ⟨t, h1, h2, h3⟩; exact ⟨t, List.mem_filter.2 ⟨h1, h2⟩, h3⟩
  · rintro ⟨t, h1, h3⟩; exact ⟨t, (List.mem_filter.1 h1).1, (List.mem_filter.1 h1).2, h3⟩
theorem levels_valid {ps : List Per} (h : ∀ p ∈ ps, validB p.from_ p.to_ = true) : ∀ p ∈ levels ps, validB p.from_ p.to_ = true := by
  intro p hp
  obtain ⟨h1, h2, h3⟩ := levels_ends ps p hp
  obtain ⟨_, p2, _⟩ := pts_law (ps.map perT)
  have key : ∀ x, x ∈ levPts ps → 0 ≤ x ∧ x ≤ 1099511627776 := fun x hx => by
    have hx := (p2 x).1 hx
    unfold bnd at hx
    obtain ⟨t, ht, hx⟩ := List.mem_flatMap.1 hx
    obtain ⟨q, hq, rfl⟩ := List.mem_map.1 ht
    have hv := validB_lt (h q hq)
    split at hx
    · simp [perT] at hx; omega
    · cases hx
  have k1 := key _ h1
  have k2 := key _ h2
  unfold validB
  simp only [Bool.and_eq_true, decide_eq_true_eq]
  omega
theorem persOf_valid (r : Row) (l : List Tup) : ∀ p ∈ persOf r l, validB p.from_ p.to_ = true := by
  intro p hp
  unfold persOf at hp
  obtain ⟨t, ht, rfl⟩ := List.mem_map.1 hp
  exact (List.mem_filter.1 (List.mem_filter.1 ht).1).2
/-- what holds of a row at t, in the normal form -/
theorem norm_row (r : Row) (l : List Tup) (t : Int) : sliceRows ((levels (persOf r l)).map (tupOf r)) t = List.replicate ((l.filter (holdsAt t)).filter fun x => decide (tupRow x = r)).length r := by
  have e1 : ((levels (persOf r l)).map (tupOf r)).filter (holdsAt t) = ((levels (persOf r l)).filter (perHas t)).map (tupOf r) := by
    rw [List.filter_map]
    congr 1
    refine List.filter_congr fun p hp => ?_
    have hv := levels_valid (persOf_valid r l) p hp
    simp only [Function.comp, holdsAt, validT, tupOf, perHas]
    rw [hv, Bool.true_and]
    rfl
  have e2 : cntAt ((persOf r l).map perT) t = ((l.filter (holdsAt t)).filter fun x => decide (tupRow x = r)).length := by
    unfold cntAt persOf
    rw [List.filter_map, List.length_map, List.filter_map, List.length_map, List.filter_filter, List.filter_filter, List.filter_filter]
    congr 2
    funext x
    simp only [Function.comp, perT, tupPer, holdsAt, validT]
    cases validB x.from_ x.to_ <;> simp [Bool.and_comm] <;> rfl
  unfold sliceRows
  rw [e1, List.map_map]
  have e3 : (tupRow ∘ tupOf r) = fun _ => r := rfl
  rw [e3, List.map_const', levels_law, e2]
theorem slice_flat (ks : List Row) (G : Row → List Tup) (t : Int) : sliceRows (ks.flatMap G) t = ks.flatMap fun r => sliceRows (G r) t := by
  induction ks with
  | nil => rfl
  | cons k ks ih =>
    rw [List.flatMap_cons, List.flatMap_cons, ← ih]
    unfold sliceRows
    rw [List.filter_append, List.map_append]
theorem normT_rows (l : List Tup) (t : Int) : (sliceRows (normT l) t).Perm (sliceRows l t) := by
  have h1 : (sliceRows (normT l) t).Perm (sliceRows (normRaw (rowsOf l) l) t) := ((sortBy_perm _ _).filter _).map _
  refine h1.trans ?_
  unfold normRaw
  rw [slice_flat]
  have h2 := (group_perm tupRow (rowsOf l) (l.filter (holdsAt t)) (once_nodup _) fun x hx => mem_once.2 (List.mem_map.2 ⟨x, List.mem_filter.2 ⟨(List.mem_filter.1 hx).1, by
    have := (List.mem_filter.1 hx).2
    unfold holdsAt at this
    simp only [Bool.and_eq_true] at this
    exact this.1.1⟩, rfl⟩)).map tupRow
  refine List.Perm.trans ?_ h2
  rw [List.map_flatMap]
  refine List.Perm.of_eq (flat_congr fun r _ => ?_)
  rw [norm_row]
  symm
  rw [List.eq_replicate_iff]
  refine ⟨List.length_map _, fun x hx => ?_⟩
  obtain ⟨y, hy, rfl⟩ := List.mem_map.1 hx
  simpa using (List.mem_filter.1 hy).2
end

end Go.Proofs.YtdgpbpbjlnlijaaGreatDoor
