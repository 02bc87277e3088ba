/- joined texts of a proof: PlainE, PerR, Cut, Step, ShelfD, LevW -/
import Derived.Test.YtdgpbpbjlnlijaaGreatDoorKJ04
import Derived.Test.YtdgpbpbjlnlijaaGreatDoorKJ02
import Derived.Test.YtdgpbpbjlnlijaaGreatDoorKJ01
import Derived.Deep.RegionLaw
import Derived.Ground.SlsfProg
import Derived.Shelf.SlSortCmp.WholeK
import Derived.Test.YtdgpbpbjlnlijaaGreatDoorProg

/- plain: the levels out of the sorted events; no program in sight -/
namespace Go.Proofs.YtdgpbpbjlnlijaaGreatDoor
open Go.RowKit

structure Evt where
  at_ : Int
  d : Int
def evtsOf (ps : List Per) : List Evt := ps.flatMap fun p => [⟨p.from_, 1⟩, ⟨p.to_, -1⟩]
def dsum : List Evt → Int
  | [] => 0
  | e :: l => e.d + dsum l
theorem dsum_append (a b : List Evt) : dsum (a ++ b) = dsum a + dsum b := by
  induction a with
  | nil => simp [dsum]
  | cons x a ih => rw [List.cons_append, dsum, dsum, ih]; omega
theorem dsum_perm {a b : List Evt} (h : a.Perm b) : dsum a = dsum b := by
  induction h with
  | nil => rfl
  | cons x _ ih => rw [dsum, dsum, ih]
  | swap x y l => simp only [dsum]; omega
  | trans _ _ ih1 ih2 => rw [ih1, ih2]
theorem evts_len (ps : List Per) : (evtsOf ps).length = 2 * ps.length := by
  induction ps with
  | nil => rfl
  | cons p ps ih =>
    have h : evtsOf (p :: ps) = [⟨p.from_, 1⟩, ⟨p.to_, -1⟩] ++ evtsOf ps := rfl
    rw [h, List.length_append, ih, List.length_cons]
    simp only [List.length_cons, List.length_nil]
    omega
/-- how many events are at most x -/
def upto (es : List Evt) (x : Int) : Nat := es.countP fun e => decide (e.at_ ≤ x)
theorem upto_take {es : List Evt} (hs : es.Pairwise fun a b => a.at_ ≤ b.at_) (x : Int) : es.take (upto es x) = es.filter fun e => decide (e.at_ ≤ x) := by
  unfold upto
  induction es with
  | nil => rfl
  | cons e es ih =>
    obtain ⟨h1, h2⟩ := List.pairwise_cons.1 hs
    by_cases c : e.at_ ≤ x
    · rw [List.countP_cons_of_pos (by simpa using c), List.take_succ_cons, List.filter_cons_of_pos (by simpa using c), ih h2]
    · have h0 : es.countP (fun e => decide (e.at_ ≤ x)) = 0 := List.countP_eq_zero.2 fun y hy => by have := h1 y hy; simp; omega
      rw [List.countP_cons_of_neg (by simpa using c), h0, List.take_zero, List.filter_cons_of_neg (by simpa using c)]
      symm
      rw [List.filter_eq_nil_iff]
      intro y hy
      have := h1 y hy
      simp; omega
theorem upto_iff {es : List Evt} (hs : es.Pairwise fun a b => a.at_ ≤ b.at_) (x : Int) (j : Nat) (hj : j < es.length) : j < upto es x ↔ es[j].at_ ≤ x := by
  have ht := upto_take hs x
  constructor
  · intro h
    have hm : es[j] ∈ es.take (upto es x) := by
      rw [List.mem_take_iff_getElem]
      exact ⟨j, by omega, rfl⟩
    rw [ht] at hm
    simpa using (List.mem_filter.1 hm).2
  · intro h
    have hd : es.drop (upto es x) = es.filter fun e => !decide (e.at_ ≤ x) := by
      have hperm := List.filter_append_perm (fun e : Evt => decide (e.at_ ≤ x)) es
      clear ht h hj
      unfold upto
      induction es with
      | nil => rfl
      | cons e es ih =>
        obtain ⟨h1, h2⟩ := List.pairwise_cons.1 hs
        by_cases c : e.at_ ≤ x
        · rw [List.countP_cons_of_pos (by simpa using c), List.drop_succ_cons, List.filter_cons_of_neg (by simpa using c)]
          exact ih h2 (List.filter_append_perm _ es)
        · have h0 : es.countP (fun e => decide (e.at_ ≤ x)) = 0 := List.countP_eq_zero.2 fun y hy => by have := h1 y hy; simp; omega
          rw [List.countP_cons_of_neg (by simpa using c), h0, List.drop_zero]
          symm
          rw [List.filter_eq_self]
          intro y hy
          rcases List.mem_cons.1 hy with rfl | hy
          · simp; omega
          · have := h1 y hy; simp; omega
    rcases Nat.lt_or_ge j (upto es x) with g | g
    · exact g
    · have hm : es[j] ∈ es.drop (upto es x) := by
        rw [List.mem_drop_iff_getElem]
        exact ⟨j - upto es x, by omega, by simp only [show upto es x + (j - upto es x) = j by omega]⟩
      rw [hd] at hm
      have := (List.mem_filter.1 hm).2
      simp at this
      omega
theorem upto_le (es : List Evt) (x : Int) : upto es x ≤ es.length := List.countP_le_length
theorem dsum_evts {ps : List Per} (hv : ∀ p ∈ ps, validB p.from_ p.to_ = true) (x : Int) : dsum ((evtsOf ps).filter fun e => decide (e.at_ ≤ x)) = (cntAt (ps.map perT) x : Int) := by
  induction ps with
  | nil => rfl
  | cons p ps ih =>
    have h : evtsOf (p :: ps) = [⟨p.from_, 1⟩, ⟨p.to_, -1⟩] ++ evtsOf ps := rfl
    have hp := validB_lt (hv p (by simp))
    rw [h, List.filter_append, dsum_append, ih fun q hq => hv q (by simp [hq])]
    unfold cntAt
    rw [List.map_cons, List.filter_cons (x := perT p)]
    have hh : holdsAt x (perT p) = (decide (p.from_ ≤ x) && decide (x < p.to_)) := by
      unfold holdsAt validT perT
      simp only
      rw [hv p (by simp), Bool.true_and]
    rw [hh]
    by_cases c1 : p.from_ ≤ x
    · by_cases c2 : x < p.to_
      · have c3 : ¬ p.to_ ≤ x := by omega
        simp [c1, c2, c3, dsum]
        omega
      · have c3 : p.to_ ≤ x := by omega
        simp [c1, c2, c3, dsum]
    · have c3 : ¬ p.to_ ≤ x := by omega
      simp [c1, c3, dsum]

/-- where the k-th point's events begin -/
def idxOf (es : List Evt) (P : List Int) : Nat → Nat
  | 0 => 0
  | k + 1 => upto es P[k]!
structure EvtsAt (ps : List Per) (es : List Evt) : Prop where
  perm : es.Perm (evtsOf ps)
  srt : es.Pairwise fun a b => a.at_ ≤ b.at_
  ok : ∀ p ∈ ps, validB p.from_ p.to_ = true
theorem EvtsAt.mem {ps : List Per} {es : List Evt} (h : EvtsAt ps es) (x : Int) : x ∈ levPts ps ↔ ∃ e ∈ es, e.at_ = x := by
  obtain ⟨_, p2, _⟩ := pts_law (ps.map perT)
  show x ∈ pts (ps.map perT) ↔ _
  rw [p2 x]
  unfold bnd
  rw [List.mem_flatMap]
  constructor
  · rintro ⟨t, ht, hx⟩
    obtain ⟨p, hp, rfl⟩ := List.mem_map.1 ht
    have hv : validT (perT p) = true := h.ok p hp
    rw [hv, if_pos rfl] at hx
    simp [perT] at hx
    rcases hx with rfl | rfl
    · exact ⟨⟨p.from_, 1⟩, h.perm.mem_iff.2 (List.mem_flatMap.2 ⟨p, hp, by simp⟩), rfl⟩
    · exact ⟨⟨p.to_, -1⟩, h.perm.mem_iff.2 (List.mem_flatMap.2 ⟨p, hp, by simp⟩), rfl⟩
  · rintro ⟨e, he, rfl⟩
    obtain ⟨p, hp, hx⟩ := List.mem_flatMap.1 (h.perm.mem_iff.1 he)
    refine ⟨perT p, List.mem_map_of_mem hp, ?_⟩
    have hv : validT (perT p) = true := h.ok p hp
    rw [hv, if_pos rfl]
    simp at hx
    rcases hx with rfl | rfl <;> simp [perT]
theorem EvtsAt.at_mem {ps : List Per} {es : List Evt} (h : EvtsAt ps es) {j : Nat} (hj : j < es.length) : es[j].at_ ∈ levPts ps := (h.mem _).2 ⟨_, List.getElem_mem hj, rfl⟩
theorem EvtsAt.asc {ps : List Per} {es : List Evt} (_ : EvtsAt ps es) : (levPts ps).Pairwise (· < ·) := (pts_law (ps.map perT)).1
/-- from the k-th point's start on the events are at the k-th point or later -/
theorem EvtsAt.ge {ps : List Per} {es : List Evt} (h : EvtsAt ps es) {k j : Nat} (hk : k < (levPts ps).length) (hj : j < es.length) (hi : idxOf es (levPts ps) k ≤ j) : (levPts ps)[k]! ≤ es[j].at_ := by
  cases k with
  | zero => exact first_le h.asc (h.at_mem hj)
  | succ k =>
    have h1 : ¬ j < upto es (levPts ps)[k]! := by
      have hi' : upto es (levPts ps)[k]! ≤ j := hi
      omega
    rw [upto_iff h.srt _ j hj] at h1
    exact gap h.asc (h.at_mem hj) hk (by omega)
theorem EvtsAt.next {ps : List Per} {es : List Evt} (h : EvtsAt ps es) {k : Nat} (hk : k < (levPts ps).length) : ∃ hi : idxOf es (levPts ps) k < es.length, es[idxOf es (levPts ps) k].at_ = (levPts ps)[k]! := by
  have hm : (levPts ps)[k]! ∈ levPts ps := by rw [getElem!_pos _ k hk]; exact List.getElem_mem _
  obtain ⟨e, he, hx⟩ := (h.mem _).1 hm
  obtain ⟨j, hj, rfl⟩ := List.getElem_of_mem he
  have hge : idxOf es (levPts ps) k ≤ j := by
    cases k with
    | zero => exact Nat.zero_le _
    | succ k =>
      rcases Nat.lt_or_ge j (upto es (levPts ps)[k]!) with g | g
      · have := (upto_iff h.srt _ j hj).1 g
        have h2 := asc_at h.asc (show k < k + 1 by omega) hk
        omega
      · exact g
  refine ⟨by omega, ?_⟩
  have h1 := h.ge hk (show idxOf es (levPts ps) k < es.length by omega) (Nat.le_refl _)
  have h2 : es[idxOf es (levPts ps) k].at_ ≤ es[j].at_ := by
    rcases Nat.lt_or_eq_of_le hge with g | g
    · exact List.pairwise_iff_getElem.1 h.srt _ _ (by omega) hj g
    · simp only [g]; exact Int.le_refl _
  omega
theorem EvtsAt.last {ps : List Per} {es : List Evt} (h : EvtsAt ps es) : idxOf es (levPts ps) (levPts ps).length = es.length := by
  rcases Nat.eq_zero_or_pos (levPts ps).length with h0 | h0
  · have hnil : levPts ps = [] := List.length_eq_zero_iff.1 h0
    have : es = [] := by
      cases es with
      | nil => rfl
      | cons e es => have := (h.mem e.at_).2 ⟨e, by simp, rfl⟩; rw [hnil] at this; cases this
    rw [h0, this]
    rfl
  · obtain ⟨n, hn⟩ : ∃ n, (levPts ps).length = n + 1 := ⟨(levPts ps).length - 1, by omega⟩
    have hle : ∀ e ∈ es, e.at_ ≤ (levPts ps)[n]! := fun e he => by
      have := le_last h.asc ((h.mem e.at_).2 ⟨e, he, rfl⟩)
      rw [hn] at this
      exact this
    rw [hn]
    show upto es (levPts ps)[n]! = es.length
    exact List.countP_eq_length.2 fun e he => by simpa using hle e he
/-- within a point -/
theorem EvtsAt.here {ps : List Per} {es : List Evt} (h : EvtsAt ps es) {k j : Nat} (hk : k < (levPts ps).length) (hi : idxOf es (levPts ps) k ≤ j) (hj : j < es.length) : es[j].at_ = (levPts ps)[k]! ↔ j < idxOf es (levPts ps) (k + 1) := by
  show _ ↔ j < upto es (levPts ps)[k]!
  rw [upto_iff h.srt _ j hj]
  have := h.ge hk hj hi
  omega
theorem EvtsAt.mono {ps : List Per} {es : List Evt} (h : EvtsAt ps es) {k : Nat} (hk : k < (levPts ps).length) : idxOf es (levPts ps) k < idxOf es (levPts ps) (k + 1) := by
  obtain ⟨h1, h2⟩ := h.next hk
  exact (h.here hk (Nat.le_refl _) h1).1 h2
theorem EvtsAt.idx_ge {ps : List Per} {es : List Evt} (h : EvtsAt ps es) : ∀ k, k ≤ (levPts ps).length → k ≤ idxOf es (levPts ps) k := by
  intro k
  induction k with
  | zero => intro _; exact Nat.zero_le _
  | succ k ih => intro hk; have := ih (by omega); have := h.mono (k := k) (by omega); omega
theorem EvtsAt.depth {ps : List Per} {es : List Evt} (h : EvtsAt ps es) {k : Nat} : dsum (es.take (idxOf es (levPts ps) (k + 1))) = (levF ps k : Int) := by
  show dsum (es.take (upto es (levPts ps)[k]!)) = _
  rw [upto_take h.srt, dsum_perm (h.perm.filter _), dsum_evts h.ok]
  rfl
theorem EvtsAt.openLen {ps : List Per} {es : List Evt} (h : EvtsAt ps es) {k : Nat} (hk : k ≤ (levPts ps).length) : ((levOf (levPts ps) (levF ps) k).1.length : Int) = dsum (es.take (idxOf es (levPts ps) k)) := by
  cases k with
  | zero => rfl
  | succ k =>
    rw [h.depth, (levOf_law h.asc (levF ps) (k + 1) hk).2.2.2 (by omega)]
    rfl
theorem dsum_take (es : List Evt) (j : Nat) (hj : j < es.length) : dsum (es.take (j + 1)) = dsum (es.take j) + es[j].d := by
  rw [List.take_succ_eq_append_getElem hj, dsum_append]
  simp [dsum]

end Go.Proofs.YtdgpbpbjlnlijaaGreatDoor

/- periods as cells -/
namespace Go.Proofs.YtdgpbpbjlnlijaaGreatDoor
open Go.RowKit Go.Shelf Go.Sort

def okI (x : Int) : Prop := -9223372036854775808 ≤ x ∧ x ≤ 9223372036854775807
def perEnc (x : Per) : List Value := [.int .i64 x.from_, .int .i64 x.to_]
def Rep.per : Rep Per where
  size := 2
  holds _ cs x := cs = perEnc x ∧ okI x.from_ ∧ okI x.to_
  len := by rintro w cs x ⟨rfl, _⟩; rfl
  ext := by rintro w w' cs x h _; exact h
  one := by rintro w cs x ⟨rfl, _⟩; simp [perEnc, Value.oneCell']
theorem flat_per : Rep.per.flat := fun _ _ _ _ h => h
theorem info_per : (Tryz.prog.info? 52).map (fun i => (i.zero, i.size, i.bytes)) = some (some (.agg #[.int .i64 0, .int .i64 0]), Rep.per.size, 16) := by kernel_rfl
theorem per_at {h : View} {b o n cap : Nat} {xs : List Per} (k : SliceOf Rep.per h (.slice (some ⟨b, o, none⟩) n cap) xs) (i : Nat) (hi : i < xs.length) :
    h ⟨b, o + i * 2, none⟩ = some (.int .i64 xs[i].from_) ∧ h ⟨b, o + i * 2 + 1, none⟩ = some (.int .i64 xs[i].to_) ∧ okI xs[i].from_ ∧ okI xs[i].to_ := by
  obtain ⟨c, ⟨rfl, h1⟩, h2⟩ := k.at i hi
  exact ⟨h2 0 _ rfl, h2 1 _ rfl, h1⟩

end Go.Proofs.YtdgpbpbjlnlijaaGreatDoor

/- an owned row cut short -/
namespace Go.Proofs.YtdgpbpbjlnlijaaGreatDoor
open Go.RowKit

theorem OwnOf.take {α : Type} {R : Rep α} {w : World} {S : Nat → Prop} {base : Nat} {e : TypeId} {g cap n : Nat} {xs : List α} (h : OwnOf R w S base e (.slice (some ⟨g, 0, none⟩) xs.length cap) xs) (hn : n ≤ xs.length) :
    OwnOf R w S base e (.slice (some ⟨g, 0, none⟩) n cap) (xs.take n) := by
  obtain ⟨css, h1, h2, h3⟩ := h
  have hcl := h1.length
  have hlen : ∀ c ∈ css, c.length = R.size := repAll_len' h1
  have ht : RepAll R (on w (avoid S (.slice (some ⟨g, 0, none⟩) n cap))) (css.take n) (xs.take n) := RepAll.take h1 n
  have hfl : ∀ (l : List (List Value)) (k : Nat), (∀ c ∈ l, c.length = R.size) → k ≤ l.length → (l.take k).flatten = l.flatten.take (k * R.size) ∧ (l.take k).flatten.length = k * R.size := by
    intro l
    induction l with
    | nil => intro k _ hk; simp at hk; subst hk; simp
    | cons c l ih =>
      intro k hl hk
      cases k with
      | zero => simp
      | succ k =>
        obtain ⟨i1, i2⟩ := ih k (fun d hd => hl d (by simp [hd])) (by simpa using hk)
        have hc := hl c (by simp)
        have ht : List.take (k * R.size + R.size) c = c := List.take_of_length_le (by omega)
        rw [List.take_succ_cons, List.flatten_cons, List.flatten_cons, List.length_append, hc, i2, Nat.succ_mul]
        rw [List.take_append, ht, hc, Nat.add_sub_cancel, i1]
        exact ⟨rfl, by omega⟩
  obtain ⟨f1, f2⟩ := hfl css n hlen (by rw [hcl]; exact hn)
  refine ⟨css.take n, ht, ?_, ?_⟩
  · rw [f2, List.length_take, Nat.min_eq_left hn]
  · rcases h3 with ⟨h3, h4⟩ | ⟨g', cap', cur, he, hb, hg, hc1, hc2, hsz, htk⟩
    · cases h3
    · injection he with e1 e2 e3
      injection e1 with e1
      injection e1 with e1
      subst e1 e3
      refine .inr ⟨g, cap, cur, ?_, hb, hg, ?_, hc2, hsz, ?_⟩
      · rw [List.length_take, Nat.min_eq_left hn]
      · rw [List.length_take, Nat.min_eq_left hn]; omega
      · rw [f1, ← htk, List.length_take, Nat.min_eq_left hn, List.take_take, Nat.min_eq_left (Nat.mul_le_mul_right _ hn)]

end Go.Proofs.YtdgpbpbjlnlijaaGreatDoor

/- append of a whole slice, as a step of a region that draws its order; no program is named here. -/
namespace Go.Proofs.YtdgpbpbjlnlijaaGreatDoor
open Go.RowKit

section
variable {P : Program} {w : World} {o : Oper} {a : Act} {K : Act → World → Prop} {Q : Exit → Act → World → Prop} {E : Prop}
/-- the arm for the operation of slot n alone: '(with_reducible refine key_op n ?_); ..' fails at once elsewhere -/
theorem key_op {yd : Nat → Option Bool} (n : Nat) {op : Op} {ty : TypeId} {pos : String} {after : Array Edge} {g : Option (Nat × Bool)} (h : if Region.wanted ⟨some n, op, ty, pos, after, g⟩ yd = true then Oper.wp P ⟨some n, op, ty, pos, after, g⟩ a w K Q else E) :
    if Region.wanted ⟨some n, op, ty, pos, after, g⟩ yd = true then Oper.wp P ⟨some n, op, ty, pos, after, g⟩ a w K Q else E := h
theorem step_append_all {α : Type} {yd : Nat → Option Bool} (R : Rep α) (S : Nat → Prop) (hgd : o.guard = none) (s x : Operand) (t : TypeId)
    (ho : o.op = .call { callee := .builtin .append, args := #[s, x], argTypes := #[t, t] })
    (base : Nat) (e : TypeId) (i : TypeInfo) (z : Value) (bytes : Nat) (ht : P.underlying t = some (.slice e)) (hi : P.info? e = some i) (hz : i.zero = some z)
    (hsize : i.size = R.size) (hby : i.bytes = bytes) (hzs : z.cells.size = R.size) (hsz : 0 < R.size)
    (v : Value) (xs : List α) (hs : a.eval s = v) (hown : OwnOf R w S base e v xs)
    (u : Value) (ys : List α) (hx : a.eval x = u) (hy : SliceOf R (on w (avoid S v)) u ys)
    (h63 : xs.length + ys.length ≤ maxLen) (hbytes : (xs.length + ys.length) * bytes ≤ 140737488355328) (hbase : base ≤ w.heap.size)
    (h : ∀ v' w', OwnOf R w' S base e v' (xs ++ ys) → w.grownBy w' v.ownBlock → (v'.ownBlock = v.ownBlock ∨ v'.ownBlock = some w.heap.size) → K (a.put o.dst v') w') :
    if Region.wanted o yd = true then Oper.wp P o a w K Q else E := by
  have hw : Region.wanted o yd = true := by simp [Region.wanted, hgd]
  rw [if_pos hw]
  obtain ⟨css, h1, h2⟩ := hown
  obtain ⟨dss, h3, h4⟩ := hy
  rcases h4.src with ⟨rfl, hn, hd⟩ | ⟨ad, cap, rfl, _, _, hc⟩
  · have hys : ys = [] := List.eq_nil_of_length_eq_zero hn
    subst hys
    have hrun := run_append_owned_none (P := P) (w := w) base t o.type e i R.size ht hi v xs.length css.flatten h2
    unfold Oper.wp
    simp [execOp, ho, resolve, invoke, builtin, hs, hx, hrun, Result.andThen]
    exact h v w (by rw [List.append_nil]; exact ⟨css, h1, h2⟩) ⟨rfl, rfl, rfl, Nat.le_refl _, fun _ _ _ => rfl⟩ (.inl rfl)
  · obtain ⟨v', w', hr, g1, g2, _, g3⟩ := run_append_own_at (P := P) w base t o.type e i z R.size bytes ht hi hz hsize hby hzs hsz v xs.length css.flatten h2 ad ys.length cap dss.flatten h3.flat (fun j u hj => (on_some.1 (hc j u hj)).2) h3.ones h63 hbytes hbase
    unfold Oper.wp execOp
    simp only [ho, resolve, invoke, builtin, Sem.run_bind, Sem.run_pure, Result.andThen_ok, List.map_toArray, List.map_cons, List.map_nil, hs, hx, hr]
    exact h v' w' (OwnOf.pushAll h1 h3 g1 g2 g3) g2 g3
end

theorem Ext.grownNew {a w w' : World} {v : Value} (h : Ext a w) (hg : w.grownBy w' v.ownBlock) (hv : ∀ k, v.ownBlock = some k → a.heap.size ≤ k) : Ext a w' :=
  Below.grown h hg h.size hv
theorem OwnOf.base {α : Type} {R : Rep α} {w : World} {S : Nat → Prop} {base : Nat} {e : TypeId} {v : Value} {xs : List α} (h : OwnOf R w S base e v xs) : ∀ k, v.ownBlock = some k → base ≤ k := fun k hk => (h.lt k hk).1
/-- one int, in a view -/
theorem int_lone (h : View) (b : Nat) (x : Int) (hr : -9223372036854775808 ≤ x ∧ x ≤ 9223372036854775807) (h0 : h ⟨b, 0, none⟩ = some (.int .i64 x)) : SliceOf Rep.int h (.slice (some ⟨b, 0, none⟩) 1 1) [x] :=
  ⟨[[.int .i64 x]], ⟨⟨rfl, hr⟩, trivial⟩, .inr ⟨_, 1, rfl, Nat.le_refl _, by simp [maxLen], .inr ⟨b, 0, rfl, fun j u hj => by
    match j, hj with
    | 0, hj => simp at hj; rw [← hj]; exact h0⟩⟩⟩
/-- a row of its own in a later world, seen away from another of its own -/
theorem SliceOf.away {α : Type} {R : Rep α} (hR : R.flat) {w w' : World} {v u : Value} {xs : List α} (h : SliceOf R w.cell? v xs) (hx : Ext w w') (hv : ∀ k, u.ownBlock = some k → w.heap.size ≤ k) : SliceOf R (on w' (avoid (fun _ => True) u)) v xs := by
  obtain ⟨css, h1, h2⟩ := h
  exact ⟨css, h1.flatView hR, h2.sub fun p x e => on_some.2 ⟨⟨fun e2 => by have := hv _ e2.symm; have := World.block_lt_of_cell? w p e; omega, trivial⟩, hx.at e⟩⟩

theorem slice_lit {α : Type} (R : Rep α) (w : World) (cells : List Value) (T : TypeId) (css : List (List Value)) (xs : List α) (hc : css.flatten = cells) (h : RepAll R (w.alloc (.cells cells.toArray T)).cell? css xs) (hl : xs.length ≤ maxLen) :
    SliceOf R (w.alloc (.cells cells.toArray T)).cell? (.slice (some ⟨w.heap.size, 0, none⟩) xs.length xs.length) xs := by
  refine ⟨css, h, .inr ⟨_, _, rfl, Nat.le_refl _, hl, .inr ⟨_, 0, rfl, fun j u hj => ?_⟩⟩⟩
  rw [World.cell?_alloc_at _ _ _ _ rfl]
  rw [hc] at hj
  simpa using hj

end Go.Proofs.YtdgpbpbjlnlijaaGreatDoor

/-
  DERIVED: THE SHELF's CONTRACTS AT THIS DUMP, IN PLAIN WORDS (tools/lay-plain.mjs out of 'TryzShelfD.lean', which tools/lay-shelf.mjs wrote): THE SAME DECLARATIONS UNDER THE SAME NAMES: 'import', 'namespace', 'open', 'def', 'theorem' AND NOTHING ELSE: no command of the shelf's: FOR A HAND-IN. Each laying: the table of numbers ('.._ren') and one theorem, a field a fact of the dump's own or the kernel's comparison; each contract: ONE APPLICATION.
-/
namespace Go.Proofs
open Go.Shelf
def Tryz.sortTups_ren : Go.Shelf.Ren := ⟨fun | 6 => 64 | 15 => 105 | 14 => 113 | 28 => 154 | 29 => 155 | 20 => 159 | 21 => 160 | 22 => 161 | 23 => 162 | 24 => 163 | 25 => 164 | 26 => 165 | 27 => 166 | 46 => 220 | 47 => 208 | 48 => 209 | 49 => 221 | 50 => 222 | 57 => 245 | n => n, fun | 22 => 22 | 24 => 77 | 25 => 115 | 3 => 3 | 39 => 159 | 0 => 0 | 53 => 203 | 55 => 205 | 4 => 4 | 46 => 197 | 45 => 196 | 50 => 107 | 5 => 5 | 9 => 9 | 66 => 261 | 70 => 265 | 76 => 294 | 77 => 295 | n => n, fun | n => n⟩
theorem Tryz.sortTups : Go.Proofs.SlLaysF0.n6 Tryz.prog Tryz.sortTups_ren := {
  mixed := by kernel_rfl
  f6 := ⟨Tryz.f64.name, by decide, Tryz.func64.trans (congrArg some (by kernel_rfl))⟩
  f14 := ⟨Tryz.f113.name, by decide, Tryz.func113.trans (congrArg some (by kernel_rfl))⟩
  f15 := Tryz.func105.trans (congrArg some (by kernel_rfl))
  f20 := ⟨Tryz.f159.name, by decide, Tryz.func159.trans (congrArg some (by kernel_rfl))⟩
  f21 := ⟨Tryz.f160.name, by decide, Tryz.func160.trans (congrArg some (by kernel_rfl))⟩
  f22 := ⟨Tryz.f161.name, by decide, Tryz.func161.trans (congrArg some (by kernel_rfl))⟩
  f23 := ⟨Tryz.f162.name, by decide, Tryz.func162.trans (congrArg some (by kernel_rfl))⟩
  f24 := ⟨Tryz.f163.name, by decide, Tryz.func163.trans (congrArg some (by kernel_rfl))⟩
  f25 := ⟨Tryz.f164.name, by decide, Tryz.func164.trans (congrArg some (by kernel_rfl))⟩
  f26 := ⟨Tryz.f165.name, by decide, Tryz.func165.trans (congrArg some (by kernel_rfl))⟩
  f27 := ⟨Tryz.f166.name, by decide, Tryz.func166.trans (congrArg some (by kernel_rfl))⟩
  f28 := Tryz.func154.trans (congrArg some (by kernel_rfl))
  f29 := Tryz.func155.trans (congrArg some (by kernel_rfl))
  f46 := ⟨Tryz.f220.name, by decide, Tryz.func220.trans (congrArg some (by kernel_rfl))⟩
  f47 := Tryz.func208.trans (congrArg some (by kernel_rfl))
  f48 := Tryz.func209.trans (congrArg some (by kernel_rfl))
  f49 := ⟨Tryz.f221.name, by decide, Tryz.func221.trans (congrArg some (by kernel_rfl))⟩
  f50 := ⟨Tryz.f222.name, by decide, Tryz.func222.trans (congrArg some (by kernel_rfl))⟩
  f57 := ⟨Tryz.f245.name, by decide, Tryz.func245.trans (congrArg some (by kernel_rfl))⟩
  t0 := Tryz.underlying0
  a0 := Tryz.isAgg0
  z0 := Tryz.sizeOf0
  v0 := Tryz.zeroValue0
  t3 := Tryz.underlying3
  a3 := Tryz.isAgg3
  z3 := Tryz.sizeOf3
  v3 := Tryz.zeroValue3
  t4 := Tryz.underlying4
  a4 := Tryz.isAgg4
  z4 := Tryz.sizeOf4
  v4 := Tryz.zeroValue4
  t5 := Tryz.underlying5
  a5 := Tryz.isAgg5
  z5 := Tryz.sizeOf5
  v5 := Tryz.zeroValue5
  t9 := Tryz.underlying9
  a9 := Tryz.isAgg9
  z9 := Tryz.sizeOf9
  v9 := Tryz.zeroValue9
  t22 := Tryz.underlying22
  a22 := Tryz.isAgg22
  z22 := Tryz.sizeOf22
  v22 := Tryz.zeroValue22
  t25 := Tryz.underlying115
  a25 := Tryz.isAgg115
  z25 := Tryz.sizeOf115
  v25 := Tryz.zeroValue115
  t39 := Tryz.underlying159
  a39 := Tryz.isAgg159
  z39 := Tryz.sizeOf159
  v39 := Tryz.zeroValue159
  t45 := Tryz.underlying196
  a45 := Tryz.isAgg196
  z45 := Tryz.sizeOf196
  v45 := Tryz.zeroValue196
  t46 := Tryz.underlying197
  a46 := Tryz.isAgg197
  z46 := Tryz.sizeOf197
  v46 := Tryz.zeroValue197
  t50 := Tryz.underlying107
  a50 := Tryz.isAgg107
  z50 := Tryz.sizeOf107
  v50 := Tryz.zeroValue107
  t53 := Tryz.underlying203
  a53 := Tryz.isAgg203
  z53 := Tryz.sizeOf203
  v53 := Tryz.zeroValue203
  t55 := Tryz.underlying205
  a55 := Tryz.isAgg205
  z55 := Tryz.sizeOf205
  v55 := Tryz.zeroValue205
  t66 := Tryz.underlying261
  a66 := Tryz.isAgg261
  z66 := Tryz.sizeOf261
  v66 := Tryz.zeroValue261
  t70 := Tryz.underlying265
  a70 := Tryz.isAgg265
  z70 := Tryz.sizeOf265
  v70 := Tryz.zeroValue265
  t76 := Tryz.underlying294
  a76 := Tryz.isAgg294
  z76 := Tryz.sizeOf294
  v76 := Tryz.zeroValue294
  t77 := Tryz.underlying295
  a77 := Tryz.isAgg295
  z77 := Tryz.sizeOf295
  v77 := Tryz.zeroValue295 }
def Tryz.sortEvts_ren : Go.Shelf.Ren := ⟨fun | 6 => 110 | 15 => 105 | 14 => 158 | 28 => 154 | 29 => 155 | 20 => 212 | 21 => 213 | 22 => 214 | 23 => 215 | 24 => 216 | 25 => 217 | 26 => 218 | 27 => 219 | 46 => 242 | 47 => 208 | 48 => 209 | 49 => 243 | 50 => 244 | 57 => 271 | n => n, fun | 22 => 162 | 24 => 164 | 25 => 167 | 3 => 3 | 39 => 159 | 0 => 0 | 53 => 203 | 55 => 205 | 4 => 4 | 46 => 197 | 45 => 196 | 50 => 107 | 5 => 5 | 9 => 9 | 66 => 261 | 70 => 265 | 76 => 294 | 77 => 295 | n => n, fun | n => n⟩
theorem Tryz.sortEvts : Go.Proofs.SlLaysF0.n6 Tryz.prog Tryz.sortEvts_ren := {
  mixed := by kernel_rfl
  f6 := ⟨Tryz.f110.name, by decide, Tryz.func110.trans (congrArg some (by kernel_rfl))⟩
  f14 := ⟨Tryz.f158.name, by decide, Tryz.func158.trans (congrArg some (by kernel_rfl))⟩
  f15 := Tryz.func105.trans (congrArg some (by kernel_rfl))
  f20 := ⟨Tryz.f212.name, by decide, Tryz.func212.trans (congrArg some (by kernel_rfl))⟩
  f21 := ⟨Tryz.f213.name, by decide, Tryz.func213.trans (congrArg some (by kernel_rfl))⟩
  f22 := ⟨Tryz.f214.name, by decide, Tryz.func214.trans (congrArg some (by kernel_rfl))⟩
  f23 := ⟨Tryz.f215.name, by decide, Tryz.func215.trans (congrArg some (by kernel_rfl))⟩
  f24 := ⟨Tryz.f216.name, by decide, Tryz.func216.trans (congrArg some (by kernel_rfl))⟩
  f25 := ⟨Tryz.f217.name, by decide, Tryz.func217.trans (congrArg some (by kernel_rfl))⟩
  f26 := ⟨Tryz.f218.name, by decide, Tryz.func218.trans (congrArg some (by kernel_rfl))⟩
  f27 := ⟨Tryz.f219.name, by decide, Tryz.func219.trans (congrArg some (by kernel_rfl))⟩
  f28 := Tryz.func154.trans (congrArg some (by kernel_rfl))
  f29 := Tryz.func155.trans (congrArg some (by kernel_rfl))
  f46 := ⟨Tryz.f242.name, by decide, Tryz.func242.trans (congrArg some (by kernel_rfl))⟩
  f47 := Tryz.func208.trans (congrArg some (by kernel_rfl))
  f48 := Tryz.func209.trans (congrArg some (by kernel_rfl))
  f49 := ⟨Tryz.f243.name, by decide, Tryz.func243.trans (congrArg some (by kernel_rfl))⟩
  f50 := ⟨Tryz.f244.name, by decide, Tryz.func244.trans (congrArg some (by kernel_rfl))⟩
  f57 := ⟨Tryz.f271.name, by decide, Tryz.func271.trans (congrArg some (by kernel_rfl))⟩
  t0 := Tryz.underlying0
  a0 := Tryz.isAgg0
  z0 := Tryz.sizeOf0
  v0 := Tryz.zeroValue0
  t3 := Tryz.underlying3
  a3 := Tryz.isAgg3
  z3 := Tryz.sizeOf3
  v3 := Tryz.zeroValue3
  t4 := Tryz.underlying4
  a4 := Tryz.isAgg4
  z4 := Tryz.sizeOf4
  v4 := Tryz.zeroValue4
  t5 := Tryz.underlying5
  a5 := Tryz.isAgg5
  z5 := Tryz.sizeOf5
  v5 := Tryz.zeroValue5
  t9 := Tryz.underlying9
  a9 := Tryz.isAgg9
  z9 := Tryz.sizeOf9
  v9 := Tryz.zeroValue9
  t22 := Tryz.underlying162
  a22 := Tryz.isAgg162
  z22 := Tryz.sizeOf162
  v22 := Tryz.zeroValue162
  t25 := Tryz.underlying167
  a25 := Tryz.isAgg167
  z25 := Tryz.sizeOf167
  v25 := Tryz.zeroValue167
  t39 := Tryz.underlying159
  a39 := Tryz.isAgg159
  z39 := Tryz.sizeOf159
  v39 := Tryz.zeroValue159
  t45 := Tryz.underlying196
  a45 := Tryz.isAgg196
  z45 := Tryz.sizeOf196
  v45 := Tryz.zeroValue196
  t46 := Tryz.underlying197
  a46 := Tryz.isAgg197
  z46 := Tryz.sizeOf197
  v46 := Tryz.zeroValue197
  t50 := Tryz.underlying107
  a50 := Tryz.isAgg107
  z50 := Tryz.sizeOf107
  v50 := Tryz.zeroValue107
  t53 := Tryz.underlying203
  a53 := Tryz.isAgg203
  z53 := Tryz.sizeOf203
  v53 := Tryz.zeroValue203
  t55 := Tryz.underlying205
  a55 := Tryz.isAgg205
  z55 := Tryz.sizeOf205
  v55 := Tryz.zeroValue205
  t66 := Tryz.underlying261
  a66 := Tryz.isAgg261
  z66 := Tryz.sizeOf261
  v66 := Tryz.zeroValue261
  t70 := Tryz.underlying265
  a70 := Tryz.isAgg265
  z70 := Tryz.sizeOf265
  v70 := Tryz.zeroValue265
  t76 := Tryz.underlying294
  a76 := Tryz.isAgg294
  z76 := Tryz.sizeOf294
  v76 := Tryz.zeroValue294
  t77 := Tryz.underlying295
  a77 := Tryz.isAgg295
  z77 := Tryz.sizeOf295
  v77 := Tryz.zeroValue295 }
end Go.Proofs

/- tuple.levels -/
namespace Go.Proofs.YtdgpbpbjlnlijaaGreatDoor
open Go.RowKit Go.Shelf Go.Sort

def Rep.evt : Rep Evt where
  size := 2
  holds _ cs x := cs = [.int .i64 x.at_, .int .i64 x.d] ∧ okI x.at_ ∧ okI x.d
  len := by rintro w cs x ⟨rfl, _⟩; rfl
  ext := by rintro w w' cs x h _; exact h
  one := by rintro w cs x ⟨rfl, _⟩; simp [Value.oneCell']
theorem ok_one : okI 1 := by unfold okI; omega
theorem ok_neg : okI (-1) := by unfold okI; omega
theorem flat_evt : Rep.evt.flat := fun _ _ _ _ h => h
theorem flat_int' : Rep.int.flat := fun _ _ _ _ h => h
theorem info_evt : (Tryz.prog.info? 164).map (fun i => (i.zero, i.size, i.bytes)) = some (some (.agg #[.int .i64 0, .int .i64 0]), Rep.evt.size, 16) := by kernel_rfl
theorem evt_at {h : View} {b o n cap : Nat} {xs : List Evt} (k : SliceOf Rep.evt h (.slice (some ⟨b, o, none⟩) n cap) xs) (i : Nat) (hi : i < xs.length) :
    h ⟨b, o + i * 2, none⟩ = some (.int .i64 xs[i].at_) ∧ h ⟨b, o + i * 2 + 1, none⟩ = some (.int .i64 xs[i].d) := by
  obtain ⟨c, ⟨rfl, _⟩, h2⟩ := k.at i hi
  exact ⟨h2 0 _ rfl, h2 1 _ rfl⟩
def cmpEvt (x y : Evt) : Int := cmpI x.at_ y.at_
theorem swo_evt : SWO (ltOf cmpEvt) := swo_pull ord_int.swo fun x : Evt => x.at_
set_option maxHeartbeats 1000000 in
theorem cmpEvt_any (x y : Evt) (w : World) : Calls Tryz.prog 111 #[.agg #[.int .i64 x.at_, .int .i64 x.d], .agg #[.int .i64 y.at_, .int .i64 y.d]] w fun e w' => e = .returned (.int .i64 (cmpEvt x y)) ∧ Gro w w' := by
  unfold cmpEvt
  obtain ⟨f1, t1⟩ := x
  obtain ⟨f2, t2⟩ := y
  dsimp only
  go_enter Tryz.func111, Tryz.ntmps111
  go_wp2_with fail
  refine (compare_int _ _ _).mono ?_
  rintro e w1 ⟨rfl, rfl⟩
  go_wp2_with fail
  go_ret
  exact ⟨rfl, ((Gro.refl w).alloc _).alloc _⟩
theorem cmpEvt_enter : ∀ args w, (callFunc 111 args).run Tryz.prog w = .ok (.enter 111 args) w := fun args w => by kernel_rfl
theorem sortEvts_any (w : World) (S : Nat → Prop) (base : Nat) (e : TypeId) (v : Value) (xs : List Evt) (hown : OwnOf Rep.evt w S base e v xs) (hlen : xs.length < 4611686018427387904) :
    Calls Tryz.prog 110 #[v, .func (.func 111) #[] #[]] w fun en w' => ∃ ys, en = .returned (.tuple #[]) ∧ ys.Perm xs ∧ (ys.Pairwise fun a b => ¬ cmpEvt b a < 0) ∧ OwnOf Rep.evt w' S base e v ys ∧ w.grownBy w' v.ownBlock :=
  sortFunc_gen Rep.evt cmpEvt swo_evt 111 110 4611686018427387904
    (fun β _ enc hel h1 cf hO blk off cap d w hcmp hH hblk hsz => AnyQ.slices_SortFunc Tryz.sortEvts Rep.evt.size (fun w => by kernel_rfl) (fun w => by kernel_rfl) enc hel h1 cf hO 111 #[] blk off cap d w cmpEvt_enter hcmp hH hblk hsz)
    (fun p cap w => AnyF.slices_SortFunc_none Tryz.sortEvts p cap (.func (.func 111) #[] #[]) w)
    (fun W x y cx cy hx hy => by obtain ⟨rfl, _⟩ := hx; obtain ⟨rfl, _⟩ := hy; exact cmpEvt_any x y W) w S base e v xs hown hlen

/-- two rows in different blocks -/
def Apart (v u : Value) : Prop := ∀ k, v.ownBlock = some k → u.ownBlock ≠ some k
theorem Apart.symm {v u : Value} (h : Apart v u) : Apart u v := fun k hk hv => h k hv hk
theorem Apart.grow {v u : Value} {g n a b : Nat} (h : Apart v u) (hlt : ∀ k, v.ownBlock = some k → k < n) (hg : u.ownBlock = some g ∨ g = n) : Apart v (.slice (some ⟨g, 0, none⟩) a b) := fun k hk e => by
  have e : g = k := Option.some.inj e
  subst e
  rcases hg with hg | hg
  · exact h _ hk hg
  · have := hlt _ hk; omega
theorem own_apart {α : Type} {R : Rep α} (hR : R.flat) {w w' : World} {S : Nat → Prop} {base : Nat} {e : TypeId} {v u : Value} {xs : List α} (h : OwnOf R w S base e v xs) (gr : w.grownBy w' u.ownBlock) (ha : Apart v u) : OwnOf R w' S base e v xs :=
  h.chg hR (chg_grown gr) fun k hk hc => ha k hk hc
theorem lit_new {α : Type} {R : Rep α} (w : World) (cells : List Value) (T : TypeId) (css : List (List Value)) (xs : List α) (hc : css.flatten = cells) (h : ∀ hw, RepAll R hw css xs) (hl : xs.length ≤ maxLen) {v : Value} (hv : ∀ k, v.ownBlock = some k → k < w.heap.size) :
    SliceOf R (on (w.alloc (.cells cells.toArray T)) (avoid (fun _ => True) v)) (.slice (some ⟨w.heap.size, 0, none⟩) xs.length xs.length) xs := by
  refine ⟨css, h _, .inr ⟨_, _, rfl, Nat.le_refl _, hl, .inr ⟨_, 0, rfl, fun j u hj => on_some.2 ⟨⟨fun e => Nat.lt_irrefl _ (hv _ e.symm), trivial⟩, ?_⟩⟩⟩⟩
  rw [World.cell?_alloc_at _ _ _ _ rfl]
  rw [hc] at hj
  simpa using hj
theorem OwnOf.shapeL {α : Type} {R : Rep α} {w : World} {S : Nat → Prop} {base : Nat} {e : TypeId} {v : Value} {xs : List α} (h : OwnOf R w S base e v xs) : ∃ p c, v = .slice p xs.length c ∧ (0 < xs.length → ∃ g, p = some ⟨g, 0, none⟩) := by
  rcases h.form with ⟨rfl, rfl⟩ | ⟨g, cap, rfl, _⟩
  · exact ⟨_, _, rfl, fun h => by cases h⟩
  · exact ⟨_, _, rfl, fun _ => ⟨_, rfl⟩⟩
theorem evts_take (ps : List Per) (k : Nat) (h : k < ps.length) : evtsOf (ps.take (k + 1)) = evtsOf (ps.take k) ++ [⟨ps[k].from_, 1⟩, ⟨ps[k].to_, -1⟩] := by
  rw [List.take_succ_eq_append_getElem h]
  unfold evtsOf
  rw [List.flatMap_append, List.flatMap_cons, List.flatMap_nil, List.append_nil]

set_option maxRecDepth 100000 in
set_option maxHeartbeats 8000000 in
theorem levels_any (v : Value) (ps : List Per) (w : World) (hv : SliceOf Rep.per w.cell? v ps) (hok : ∀ p ∈ ps, validB p.from_ p.to_ = true) (hl : ps.length ≤ 524288) :
    Calls Tryz.prog 63 #[v] w fun e w' => ∃ v', e = .returned v' ∧ OwnOf Rep.per w' (fun _ => True) w.heap.size 52 v' (levels ps) ∧ Ext w w' := by
  obtain ⟨i0, hi, hz0, hz1, hz2⟩ := info_parts info_evt
  obtain ⟨i1, hi1, hz10, hz11, hz12⟩ := info_parts info_per
  obtain ⟨i2, hi2, hz20, hz21, hz22⟩ := info_parts info_ints
  obtain ⟨p, cap, rfl, hc1, hc2, hp⟩ := hv.form
  obtain ⟨N, hN⟩ : ∃ N, N = ps.length := ⟨_, rfl⟩
  have HV := Lib.hid hv
  rw [← hN]
  have HN := Lib.hid hN
  have HP := Lib.hid hp
  have HOK := Lib.hid hok
  have hNl : N ≤ 524288 := by omega
  clear hv hN hp hc1 hc2 hok hl
  go_enter Tryz.func63, Tryz.ntmps63
  go_wp2_with fail
  go_loopg [3, 13] N (fun gk vo vi wr => ∃ (k : Nat) (u : Value) (o : List Evt), k ≤ N ∧ gk = N - k ∧ vi = .int .i64 k ∧ u = vo ∧ Hid (OwnOf Rep.evt wr (fun _ => True) w.heap.size 164 u o) ∧ Hid (o = evtsOf (ps.take k)) ∧ Ext w wr)
  case atStart => exact ⟨0, _, [], by omega, rfl, rfl, rfl, OwnOf.nil _ _ _ _ _, rfl, Ext.refl w⟩
  case round =>
    obtain ⟨k, u, o, hk, rfl, rfl, rfl, OW, AS, hx⟩ := hrel
    by_cases hlt : k < N
    · have hkl : k < ps.length := by have := HN.out; omega
      have hd : decide ((k : Int) < (N : Int)) = true := by simp; omega
      obtain ⟨b, o', rfl⟩ := HP.out (by decide) (by omega)
      have hv := HV.out
      rw [← HN.out] at hv
      obtain ⟨c0, c1, r0, r1⟩ := per_at hv k hkl
      replace c0 := hx.at c0
      replace c1 := hx.at c1
      have hst := evts_take ps k hkl
      have hol : o.length ≤ 1048576 := by
        rw [AS.out, evts_len, List.length_take]
        omega
      rw [← AS.out] at hst
      generalize ps[k].from_ = f at c0 r0 hst
      generalize ps[k].to_ = t at c1 r1 hst
      have HST := Lib.hid hst
      have HR := Lib.hid (And.intro r0 r1)
      have HOL := Lib.hid hol
      have e0 := cell_lt c0
      clear hst r0 r1 hv hol
      have B1 : o.length + 2 ≤ maxLen := by have := HOL.out; unfold maxLen; omega
      have B2 : (o.length + 2) * 16 ≤ 140737488355328 := by have := HOL.out; omega
      go_wp2_with (at_builtin; refine wpList_append_all Rep.evt (fun _ => True) rfl _ _ 162 rfl w.heap.size 164 i0 _ 16 Tryz.underlying162 hi hz0 hz1 hz2 rfl (by decide) u o rfl ?c1 _ [⟨f, 1⟩, ⟨t, -1⟩] rfl ?c2 B1 B2 ?c3 ?_)
      case c1 => exact OW.out.ext (((Ext.refl wr).alloc _).alloc _)
      case c2 =>
        have h := lit_new (R := Rep.evt) (wr.alloc (.cells #[.int .i64 f, .int .i64 t] 52)) [.int .i64 f, .int .i64 1, .int .i64 t, .int .i64 (-1)] 164 [[.int .i64 f, .int .i64 1], [.int .i64 t, .int .i64 (-1)]] [⟨f, 1⟩, ⟨t, -1⟩] rfl (fun _ => ⟨⟨rfl, HR.out.1, ok_one⟩, ⟨rfl, HR.out.2, ok_neg⟩, trivial⟩) (by simp [maxLen]) (fun k hk => Nat.lt_of_lt_of_le (OW.out.lt k hk).2 ((Ext.refl wr).alloc _).size)
        rw [show (wr.alloc (.cells #[.int .i64 f, .int .i64 t] 52)).heap.size = wr.heap.size + 1 by simp] at h
        exact h
      case c3 => exact (hx.trans (((Ext.refl wr).alloc _).alloc _)).size
      intro v3 w3 own gr _
      have hxx : Ext w w3 := Ext.grownNew (hx.trans (((Ext.refl wr).alloc _).alloc _)) gr OW.out.base
      have OW2 := Lib.hid own
      clear own gr
      go_wp2_with fail
      go_roundg (N - (k + 1))
      case measure => omega
      case rel => exact ⟨k + 1, v3, _, by omega, rfl, by go_num, rfl, OW2.out, by show _ = _; rw [HST.out], hxx⟩
    · have hkN : k = N := by omega
      have hd : ¬ (k : Int) < (N : Int) := by omega
      have HO := Lib.hid (show o = evtsOf ps from by
        have h := AS.out
        rw [hkN, HN.out, List.take_length] at h
        exact h)
      have hol : o.length ≤ 1048576 := by rw [HO.out, evts_len]; have := HN.out; omega
      have HOL := Lib.hid hol
      clear hkN hol AS
      go_wp2_with fail
      refine (sortEvts_any _ _ _ _ _ _ OW.out (by have := HOL.out; omega)).mono ?_
      rintro e w4 ⟨es, rfl, hperm, hsort, own4, gr4⟩
      have X4 := Lib.hid (Ext.grownNew hx gr4 OW.out.base)
      have HE : EvtsAt ps es := ⟨by rw [← HO.out]; exact hperm, hsort.imp fun {a b} h => by unfold cmpEvt cmpI at h; (repeat' split at h) <;> omega, HOK.out⟩
      have hel : es.length ≤ 1048576 := by rw [hperm.length_eq]; exact HOL.out
      have hdr : ∀ j : Nat, -(j : Int) ≤ dsum (es.take j) ∧ dsum (es.take j) ≤ (j : Int) := fun j => by
        induction j with
        | zero => exact ⟨by show _ ≤ (0 : Int); omega, by show (0 : Int) ≤ _; omega⟩
        | succ j ih =>
          by_cases hj : j < es.length
          · rw [dsum_take es j hj]
            have h1 : es[j].d = 1 ∨ es[j].d = -1 := by
              have hm := HE.perm.mem_iff.1 (List.getElem_mem hj)
              obtain ⟨p, _, hp⟩ := List.mem_flatMap.1 hm
              simp at hp
              rcases hp with hp | hp <;> rw [hp] <;> simp
            push_cast
            omega
          · rw [List.take_of_length_le (by omega)]
            rw [List.take_of_length_le (by omega)] at ih
            push_cast
            omega
      have hed : ∀ j (hj : j < es.length), okI es[j].at_ ∧ (es[j].d = 1 ∨ es[j].d = -1) := fun j hj => by
        have hm := HE.perm.mem_iff.1 (List.getElem_mem hj)
        obtain ⟨p, hp1, hp⟩ := List.mem_flatMap.1 hm
        have hv := validB_lt (HE.ok p hp1)
        simp at hp
        rcases hp with hp | hp <;> rw [hp] <;> unfold okI <;> simp <;> omega
      have HEV := Lib.hid HE
      have HDR := Lib.hid hdr
      have HED := Lib.hid hed
      have OW4 := Lib.hid own4
      obtain ⟨pe, ce, rfl, hpe⟩ := own4.shapeL
      obtain ⟨n, hn⟩ : ∃ n, n = es.length := ⟨_, rfl⟩
      have hn6 : n ≤ 1048576 := by omega
      rw [← hn] at OW4 ⊢
      have HNE := Lib.hid hn
      have HPE := Lib.hid hpe
      obtain ⟨K, hK⟩ : ∃ K, K = (levPts ps).length := ⟨_, rfl⟩
      have HK := Lib.hid hK
      clear hperm hsort own4 gr4 HE hel hdr hed hn hK hpe HO HOL OW hx
      go_wp2_with fail
      go_loopg [6, 7, 8] K (fun gk vo vu vi wr => ∃ (k : Nat) (uo uu : Value), k ≤ K ∧ gk = K - k ∧ vi = .int .i64 (idxOf es (levPts ps) k : Nat) ∧ uo = vo ∧ uu = vu ∧ Hid (OwnOf Rep.int wr (fun _ => True) w.heap.size 3 uo (levOf (levPts ps) (levF ps) k).1) ∧ Hid (OwnOf Rep.per wr (fun _ => True) w.heap.size 52 uu (levOf (levPts ps) (levF ps) k).2) ∧ Hid (OwnOf Rep.evt wr (fun _ => True) w.heap.size 164 (.slice pe n ce) es) ∧ Hid (Apart uo uu ∧ Apart (.slice pe n ce) uo ∧ Apart (.slice pe n ce) uu) ∧ Hid ((levOf (levPts ps) (levF ps) k).2.length ≤ 1048576 * k) ∧ Ext w wr)
      case atStart => exact ⟨0, _, _, by omega, rfl, rfl, rfl, rfl, OwnOf.nil _ _ _ _ _, OwnOf.nil _ _ _ _ _, OW4.out, ⟨fun k hk => (by cases hk), fun k hk e => (by cases e), fun k hk e => (by cases e)⟩, Nat.zero_le _, X4.out⟩
      case round =>
        obtain ⟨k, uo, uu, hk, rfl, rfl, rfl, rfl, OO, OU, OE, AP, HUL, hx5⟩ := hrel
        by_cases hlt2 : k < K
        · have hkp : k < (levPts ps).length := by rw [← HK.out]; exact hlt2
          obtain ⟨hi0, hat⟩ := HEV.out.next hkp
          have hmono := HEV.out.mono hkp
          have hka := HEV.out.idx_ge k (by omega)
          have hol := HEV.out.openLen (k := k) (by omega)
          have hdk := HEV.out.depth (k := k)
          have hi1 : idxOf es (levPts ps) (k + 1) ≤ es.length := upto_le es _
          have hhere := fun (j : Nat) h1 h2 => HEV.out.here (j := j) hkp h1 h2
          have hstep : levOf (levPts ps) (levF ps) (k + 1) = levStep (levF ps k) (levPts ps)[k]! (levOf (levPts ps) (levF ps) k) := rfl
          have hokp : okI (levPts ps)[k]! := by rw [← hat]; exact (HED.out _ hi0).1
          generalize (levPts ps)[k]! = at_ at hat hhere hstep hokp
          generalize levF ps k = d at hdk hstep
          obtain ⟨⟨op, ou⟩, hlk⟩ : ∃ q, q = levOf (levPts ps) (levF ps) k := ⟨_, rfl⟩
          rw [← hlk] at OO OU HUL hol hstep
          dsimp only at OO OU HUL hol
          have HSTEP := Lib.hid hstep
          obtain ⟨a0, ha0⟩ : ∃ a, a = idxOf es (levPts ps) k := ⟨_, rfl⟩
          obtain ⟨a1, ha1⟩ : ∃ a, a = idxOf es (levPts ps) (k + 1) := ⟨_, rfl⟩
          rw [← ha0] at hi0 hhere hol hmono hka ⊢
          rw [← ha1] at hmono hdk hi1 hhere
          simp only [← ha0] at hat
          have HA1 := Lib.hid ha1
          have HHERE := Lib.hid hhere
          have HDK := Lib.hid hdk
          have HOKP := Lib.hid hokp
          obtain ⟨po, co, rfl, hpo⟩ := OO.out.shapeL
          obtain ⟨L, hL⟩ : ∃ L, L = op.length := ⟨_, rfl⟩
          have hLd : (L : Int) = dsum (es.take a0) := by rw [hL]; exact hol
          have hLn : L ≤ 1048576 := by have := (HDR.out a0).2; have := HNE.out; omega
          have hdn : d ≤ 1048576 := by have := (HDR.out a1).2; have := HDK.out; have := HNE.out; omega
          have HLL := Lib.hid hL
          rw [← hL] at OO AP ⊢
          have HLD := Lib.hid hLd
          have hn0 : a0 < n := by have := HNE.out; omega
          have hn1 : a1 ≤ n := by have := HNE.out; omega
          have hd0 : decide ((a0 : Int) < (n : Int)) = true := by simp; omega
          have hd0' : (a0 : Int) < (n : Int) := by omega
          obtain ⟨ge, rfl⟩ := HPE.out (by have := HNE.out; omega)
          have hse := OE.out.slice
          obtain ⟨c0, c1⟩ := evt_at hse a0 hi0
          rw [hat] at c0
          simp only [Nat.zero_add] at c0 c1
          have e0 := cell_lt c0
          have HPO := Lib.hid hpo
          have hm01 : a0 < a1 := hmono
          clear hat hmono hol hdk hi1 hhere hstep hokp hlk ha0 ha1 hL hLd hpo hse hi0 c1 hkp
          go_wp2_with fail
          go_loopg [8, 10] (a1 - a0) (fun gk vi vd wq => ∃ (j : Nat), a0 ≤ j ∧ j ≤ a1 ∧ gk = a1 - j ∧ vi = .int .i64 j ∧ vd = .int .i64 (dsum (es.take j)) ∧ wq = wr)
          case atStart => exact ⟨a0, Nat.le_refl _, Nat.le_of_lt hm01, rfl, rfl, by rw [← HLD.out], rfl⟩
          case round =>
            obtain ⟨j, hj0, hj1, rfl, rfl, rfl, rfl⟩ := hrel
            by_cases hlt3 : j < a1
            · have hjl : j < es.length := by have := HNE.out; omega
              have hjn : (j : Int) < (n : Int) := by omega
              have hdj : decide ((j : Int) < (n : Int)) = true := by simp; omega
              have hpt := (HHERE.out j hj0 hjl).2 hlt3
              obtain ⟨b0, b1⟩ := evt_at OE.out.slice j hjl
              rw [hpt] at b0
              simp only [Nat.zero_add] at b0 b1
              have hst := dsum_take es j hjl
              have hdd := (HED.out j hjl).2
              have hr1 := HDR.out j
              have hr2 := HDR.out (j + 1)
              generalize es[j].d = z at b1 hst hdd
              have hsum : dsum (es.take j) + z = dsum (es.take (j + 1)) := hst.symm
              have hw3 : IntKind.i64.wrap (dsum (es.take (j + 1))) = dsum (es.take (j + 1)) := by rw [IntKind.wrap_i64]; omega
              have hbq : (at_ == at_) = true := by simp
              clear hst hdd hr1 hr2 hpt
              go_wp2_with fail
              go_roundg (a1 - (j + 1))
              case measure => omega
              case rel => exact ⟨j + 1, by omega, by omega, rfl, by go_num, rfl, rfl⟩
            · have hja : a1 = j := by omega
              subst hja
              rw [HDK.out]
              have hk2 : k ≤ 1048576 := by omega
              clear hka hj0 hj1 hlt3
              rcases Nat.lt_or_ge a1 n with hjn | hjn
              · have hdj : decide ((a1 : Int) < (n : Int)) = true := by simp; omega
                have hdj' : (a1 : Int) < (n : Int) := by omega
                have hjl : a1 < es.length := by have := HNE.out; omega
                obtain ⟨b0, b1⟩ := evt_at OE.out.slice a1 hjl
                simp only [Nat.zero_add] at b0 b1
                have hne : ¬ es[a1].at_ = at_ := fun e => Nat.lt_irrefl a1 ((HHERE.out a1 (Nat.le_of_lt hm01) hjl).1 e)
                generalize es[a1].at_ = z at b0 hne
                have hbq : (z == at_) = false := by simp [hne]
                clear b1 hne hjl
                go_wp2_with fail
                go_loopg [6, 7] (L - d) (fun gk vo vu wq => ∃ (m : Nat) (uo uv : Value), m ≤ L ∧ (L ≤ d → m = L) ∧ (d ≤ L → d ≤ m) ∧ gk = m - d ∧ uo = vo ∧ uv = vu ∧ Hid (OwnOf Rep.int wq (fun _ => True) w.heap.size 3 uo (op.take m)) ∧ Hid (OwnOf Rep.per wq (fun _ => True) w.heap.size 52 uv (ou ++ (op.drop m).reverse.map fun s => ⟨s, at_⟩)) ∧ Hid (OwnOf Rep.evt wq (fun _ => True) w.heap.size 164 (.slice (some ⟨ge, 0, none⟩) n ce) es) ∧ Hid (Apart uo uv ∧ Apart (.slice (some ⟨ge, 0, none⟩) n ce) uo ∧ Apart (.slice (some ⟨ge, 0, none⟩) n ce) uv) ∧ Ext w wq)
                case atStart => exact ⟨L, _, _, Nat.le_refl _, fun _ => rfl, fun h => h, rfl, rfl, rfl, by rw [List.take_of_length_le (by rw [HLL.out]; exact Nat.le_refl _)]; exact OO.out, by rw [List.drop_eq_nil_of_le (by rw [HLL.out]; exact Nat.le_refl _)]; show OwnOf Rep.per _ _ _ _ _ (ou ++ []); rw [List.append_nil]; exact OU.out, OE.out, AP.out, hx5⟩
                case round =>
                  obtain ⟨m, uo, uv, hmL, hmA, hmB, rfl, rfl, rfl, OO4, OU4, OE4, AP4, hx6⟩ := hrel
                  have hlm : (op.take m).length = m := by rw [List.length_take, ← HLL.out]; omega
                  by_cases hg : d < m
                  · obtain ⟨q, hq⟩ : ∃ q, q = m - 1 := ⟨_, rfl⟩
                    have hqL : q < op.length := by have := HLL.out; omega
                    rcases OO4.out.form with ⟨_, hnil⟩ | ⟨g, cap', rfl, hgb, hgc, hgm⟩
                    · rw [hnil] at hlm; simp at hlm; omega
                    obtain ⟨s0, sr⟩ := int_at OO4.out.slice q (by rw [hlm]; omega)
                    rw [hlm] at hgc OO4 AP4 ⊢
                    have hsq : (op.take m)[q]'(by rw [hlm]; omega) = op[q] := List.getElem_take
                    rw [hsq] at s0 sr
                    have htq : (op.take m).take q = op.take q := by rw [List.take_take]; congr 1; omega
                    have hdq : op.drop q = op[q] :: op.drop m := by rw [List.drop_eq_getElem_cons hqL]; congr 2; omega
                    have OT := Lib.hid (show OwnOf Rep.int wr (fun _ => True) w.heap.size 3 (.slice (some ⟨g, 0, none⟩) q cap') (op.take q) from by
                      have h := OwnOf.take (n := q) (by rw [hlm]; exact OO4.out) (by rw [hlm]; omega)
                      rw [htq] at h
                      exact h)
                    generalize op[q] = z0 at s0 sr hdq
                    have HDQ := Lib.hid hdq
                    have HSR := Lib.hid (show okI z0 from sr)
                    simp only [Nat.zero_add] at s0
                    have em : (m : Int) - 1 = (q : Int) := by omega
                    have hqm : (q : Int) < (m : Int) := by omega
                    have hqc : q ≤ cap' := by omega
                    have hqc' : (q : Int) ≤ (cap' : Int) := by omega
                    have hwq : IntKind.i64.wrap (q : Int) = (q : Int) := by rw [IntKind.wrap_i64]; omega
                    have hgd : decide ((d : Int) < (m : Int)) = true := by simp; omega
                    have hul : (ou ++ (op.drop m).reverse.map fun s => (⟨s, at_⟩ : Per)).length ≤ 1048576 * (k + 1) := by
                      have h1 := HUL.out
                      have h2 := HLL.out
                      simp only [List.length_append, List.length_map, List.length_reverse, List.length_drop]
                      omega
                    obtain ⟨ys7, hys⟩ : ∃ x, x = ou ++ (op.drop m).reverse.map fun s => (⟨s, at_⟩ : Per) := ⟨_, rfl⟩
                    rw [← hys] at hul OU4
                    have HYS := Lib.hid hys
                    clear hys
                    have B1 : ys7.length + 1 ≤ maxLen := by unfold maxLen; omega
                    have B2 : (ys7.length + 1) * 16 ≤ 140737488355328 := by omega
                    have HAP := Lib.hid (show Apart (.slice (some ⟨g, 0, none⟩) q cap') uv from fun x hx => AP4.out.1 x hx)
                    have HAQ := Lib.hid (show Apart (.slice (some ⟨ge, 0, none⟩) n ce) (.slice (some ⟨g, 0, none⟩) q cap') from fun x hx => AP4.out.2.1 x hx)
                    have e6 := cell_lt s0
                    have HQQ := Lib.hid hq
                    clear hsq htq hdq sr hul hlm hgc hgm OO4 hgb hq
                    go_wp2_with (at_builtin; refine wpList_append_one Rep.per (fun _ => True) rfl _ _ 112 rfl w.heap.size 52 i1 _ 16 Tryz.underlying112 hi1 hz10 hz11 hz12 rfl (by decide) uv _ rfl (OU4.out.ext ((Ext.refl wr).alloc _)) ⟨wr.heap.size, 0, none⟩ 1 ⟨z0, at_⟩ [.int .i64 z0, .int .i64 at_] rfl ⟨rfl, HSR.out, HOKP.out⟩ (by exact cells_new wr [.int .i64 z0, .int .i64 at_] _) B1 B2 (by exact (hx6.alloc _).size) ?_)
                    intro g7 cap7 w7 own7 gr7 hg7
                    have X7 := Lib.hid (show Ext w w7 from Ext.grownNew (hx6.alloc _) gr7 OU4.out.base)
                    have OT7 := Lib.hid (own_apart flat_int' (OT.out.ext ((Ext.refl wr).alloc _)) gr7 HAP.out)
                    have OE7 := Lib.hid (own_apart flat_evt (OE4.out.ext ((Ext.refl wr).alloc _)) gr7 AP4.out.2.2)
                    have AP7 := Lib.hid (show Apart (.slice (some ⟨g, 0, none⟩) q cap') (.slice (some ⟨g7, 0, none⟩) (ys7.length + 1) cap7) ∧ Apart (.slice (some ⟨ge, 0, none⟩) n ce) (.slice (some ⟨g, 0, none⟩) q cap') ∧ Apart (.slice (some ⟨ge, 0, none⟩) n ce) (.slice (some ⟨g7, 0, none⟩) (ys7.length + 1) cap7) from
                      ⟨HAP.out.grow (fun x hx => Nat.lt_succ_of_lt (OT.out.lt x hx).2) hg7, HAQ.out, AP4.out.2.2.grow (fun x hx => Nat.lt_succ_of_lt (OE4.out.lt x hx).2) hg7⟩)
                    have OU7 := Lib.hid (show OwnOf Rep.per w7 (fun _ => True) w.heap.size 52 (.slice (some ⟨g7, 0, none⟩) (ys7.length + 1) cap7) (ou ++ (op.drop q).reverse.map fun s => ⟨s, at_⟩) from by
                      rw [HDQ.out, List.reverse_cons, List.map_append, ← List.append_assoc, ← HYS.out]
                      exact own7)
                    clear own7 gr7 hg7 OT OU4 OE4 AP4 HAP HAQ s0 e6 hx6
                    generalize ys7.length + 1 = ln7 at *
                    go_wp2_with fail
                    have hq := HQQ.out
                    go_roundg (q - d)
                    case measure => omega
                    case rel => exact ⟨q, _, _, by omega, fun h => by omega, fun h => by omega, rfl, rfl, rfl, OT7.out, OU7.out, OE7.out, AP7.out, X7.out⟩
                  · have hmd : op.take m = op.take d ∧ op.drop m = op.drop d := by
                      rcases Nat.le_total L d with h | h
                      · have := hmA h
                        subst this
                        have h2 := HLL.out
                        exact ⟨by rw [List.take_of_length_le (by omega), List.take_of_length_le (by omega)], by rw [List.drop_eq_nil_of_le (by omega), List.drop_eq_nil_of_le (by omega)]⟩
                      · have : m = d := by have := hmB h; omega
                        subst this
                        exact ⟨rfl, rfl⟩
                    have hgd : decide ((d : Int) < (m : Int)) = false := by simp; omega
                    have hmm : m ≤ d := by omega
                    have hmq : m = min d L := by rcases Nat.le_total L d with h | h; have := hmA h; omega; have := hmB h; omega
                    obtain ⟨p8, c8, rfl, hp8⟩ := OO4.out.shapeL
                    rw [hlm] at OO4 AP4 ⊢
                    rw [hmd.1] at OO4
                    rw [hmd.2] at OU4
                    have HUL5 := Lib.hid (show (ou ++ (op.drop d).reverse.map fun s => (⟨s, at_⟩ : Per)).length ≤ 1048576 * (k + 1) from by
                      have h1 := HUL.out
                      have h2 := HLL.out
                      simp only [List.length_append, List.length_map, List.length_reverse, List.length_drop]
                      omega)
                    have HMQ := Lib.hid hmq
                    clear hmd hlm hp8 hg hmA hmB hmq
                    go_wp2_with fail
                    go_loopg [6] (d - L) (fun gk vo wq => ∃ (q : Nat) (uo : Value), q ≤ d - L ∧ gk = d - L - q ∧ uo = vo ∧ Hid (OwnOf Rep.int wq (fun _ => True) w.heap.size 3 uo (op.take d ++ List.replicate q at_)) ∧ Hid (OwnOf Rep.per wq (fun _ => True) w.heap.size 52 uv (ou ++ (op.drop d).reverse.map fun s => ⟨s, at_⟩)) ∧ Hid (OwnOf Rep.evt wq (fun _ => True) w.heap.size 164 (.slice (some ⟨ge, 0, none⟩) n ce) es) ∧ Hid (Apart uo uv ∧ Apart (.slice (some ⟨ge, 0, none⟩) n ce) uo ∧ Apart (.slice (some ⟨ge, 0, none⟩) n ce) uv) ∧ Ext w wq)
                    case atStart => exact ⟨0, _, Nat.zero_le _, rfl, rfl, by show OwnOf Rep.int _ _ _ _ _ (op.take d ++ []); rw [List.append_nil]; exact OO4.out, OU4.out, OE4.out, AP4.out, hx6⟩
                    case round =>
                      obtain ⟨q, uo, hqd, rfl, rfl, OO5, OU5, OE5, AP5, hx7⟩ := hrel
                      have hl5 : (op.take d ++ List.replicate q at_).length = m + q := by
                        rw [List.length_append, List.length_take, List.length_replicate, ← HLL.out, HMQ.out]
                      obtain ⟨xs5, hxs⟩ : ∃ x, x = op.take d ++ List.replicate q at_ := ⟨_, rfl⟩
                      rw [← hxs] at hl5 OO5
                      have HXS := Lib.hid hxs
                      clear hxs
                      obtain ⟨p5, c5, rfl, hp5⟩ := OO5.out.shapeL
                      rw [hl5] at OO5 AP5 ⊢
                      obtain ⟨r, hr⟩ : ∃ r, r = m + q := ⟨_, rfl⟩
                      rw [← hr] at hl5 OO5 AP5 ⊢
                      have HRR := Lib.hid hr
                      by_cases hg5 : q < d - L
                      · have hgd5 : decide ((r : Int) < (d : Int)) = true := by have := HRR.out; have := HMQ.out; simp; omega
                        have hgd6 : (r : Int) < (d : Int) := by have := HRR.out; have := HMQ.out; omega
                        have hgd7 : r < d := by omega
                        have HL5 := Lib.hid hl5
                        have B1 : xs5.length + 1 ≤ maxLen := by have := HRR.out; have := HMQ.out; rw [hl5]; unfold maxLen; omega
                        have B2 : (xs5.length + 1) * 8 ≤ 140737488355328 := by have := HRR.out; have := HMQ.out; rw [hl5]; omega
                        clear hl5 hp5 hr
                        go_wp2_with (at_builtin; refine wpList_append_one Rep.int (fun _ => True) rfl _ _ 24 rfl w.heap.size 3 i2 _ 8 Tryz.underlying24 hi2 hz20 hz21 hz22 rfl (by decide) (.slice p5 r c5) _ rfl (OO5.out.ext ((Ext.refl wr).alloc _)) ⟨wr.heap.size, 0, none⟩ 1 at_ [.int .i64 at_] rfl ⟨rfl, HOKP.out⟩ (by exact cells_new wr [.int .i64 at_] _) B1 B2 (by exact (hx7.alloc _).size) ?_)
                        intro g8 cap8 w8 own8 gr8 hg8
                        have X8 := Lib.hid (show Ext w w8 from Ext.grownNew (hx7.alloc _) gr8 OO5.out.base)
                        have OU8 := Lib.hid (own_apart flat_per (OU5.out.ext ((Ext.refl wr).alloc _)) gr8 AP5.out.1.symm)
                        have OE8 := Lib.hid (own_apart flat_evt (OE5.out.ext ((Ext.refl wr).alloc _)) gr8 AP5.out.2.1)
                        have OO8 := Lib.hid (show OwnOf Rep.int w8 (fun _ => True) w.heap.size 3 (.slice (some ⟨g8, 0, none⟩) (r + 1) cap8) (op.take d ++ List.replicate (q + 1) at_) from by
                          rw [List.replicate_succ', ← List.append_assoc, ← HXS.out]
                          rw [HL5.out] at own8
                          exact own8)
                        have AP8 := Lib.hid (show Apart (.slice (some ⟨g8, 0, none⟩) (r + 1) cap8) uv ∧ Apart (.slice (some ⟨ge, 0, none⟩) n ce) (.slice (some ⟨g8, 0, none⟩) (r + 1) cap8) ∧ Apart (.slice (some ⟨ge, 0, none⟩) n ce) uv from
                          ⟨(AP5.out.1.symm.grow (fun x hx => Nat.lt_succ_of_lt (OU5.out.lt x hx).2) hg8).symm, AP5.out.2.1.grow (fun x hx => Nat.lt_succ_of_lt (OE5.out.lt x hx).2) hg8, AP5.out.2.2⟩)
                        clear own8 gr8 hg8 OO5 OU5 OE5 AP5 hx7
                        rw [HL5.out]
                        go_wp2_with fail
                        go_roundg (d - L - (q + 1))
                        case measure => omega
                        case rel => exact ⟨q + 1, _, by omega, rfl, rfl, OO8.out, OU8.out, OE8.out, AP8.out, X8.out⟩
                      · have hqe : q = d - L := by omega
                        have hgd5 : decide ((r : Int) < (d : Int)) = false := by have := HRR.out; have := HMQ.out; simp; omega
                        have hgd6 : ¬ (r : Int) < (d : Int) := by have := HRR.out; have := HMQ.out; omega
                        have hgd7 : ¬ r < d := by omega
                        have HS := Lib.hid (show levOf (levPts ps) (levF ps) (k + 1) = (op.take d ++ List.replicate q at_, ou ++ (op.drop d).reverse.map fun s => ⟨s, at_⟩) from by rw [HSTEP.out, hqe, HLL.out]; rfl)
                        clear hl5 hp5 hqe hr
                        go_wp2_with fail
                        go_roundg (K - (k + 1))
                        case measure => omega
                        case rel => exact ⟨k + 1, _, _, by omega, rfl, by rw [HA1.out], rfl, rfl, by rw [HS.out]; show OwnOf Rep.int _ _ _ _ _ (op.take d ++ List.replicate q at_); rw [← HXS.out]; exact OO5.out, by rw [HS.out]; exact OU5.out, OE5.out, AP5.out, by rw [HS.out]; exact HUL5.out, hx7⟩
              · have hdj : decide ((a1 : Int) < (n : Int)) = false := by simp; omega
                have hdj' : ¬ (a1 : Int) < (n : Int) := by omega
                go_wp2_with fail
                go_loopg [6, 7] (L - d) (fun gk vo vu wq => ∃ (m : Nat) (uo uv : Value), m ≤ L ∧ (L ≤ d → m = L) ∧ (d ≤ L → d ≤ m) ∧ gk = m - d ∧ uo = vo ∧ uv = vu ∧ Hid (OwnOf Rep.int wq (fun _ => True) w.heap.size 3 uo (op.take m)) ∧ Hid (OwnOf Rep.per wq (fun _ => True) w.heap.size 52 uv (ou ++ (op.drop m).reverse.map fun s => ⟨s, at_⟩)) ∧ Hid (OwnOf Rep.evt wq (fun _ => True) w.heap.size 164 (.slice (some ⟨ge, 0, none⟩) n ce) es) ∧ Hid (Apart uo uv ∧ Apart (.slice (some ⟨ge, 0, none⟩) n ce) uo ∧ Apart (.slice (some ⟨ge, 0, none⟩) n ce) uv) ∧ Ext w wq)
                case atStart => exact ⟨L, _, _, Nat.le_refl _, fun _ => rfl, fun h => h, rfl, rfl, rfl, by rw [List.take_of_length_le (by rw [HLL.out]; exact Nat.le_refl _)]; exact OO.out, by rw [List.drop_eq_nil_of_le (by rw [HLL.out]; exact Nat.le_refl _)]; show OwnOf Rep.per _ _ _ _ _ (ou ++ []); rw [List.append_nil]; exact OU.out, OE.out, AP.out, hx5⟩
                case round =>
                  obtain ⟨m, uo, uv, hmL, hmA, hmB, rfl, rfl, rfl, OO4, OU4, OE4, AP4, hx6⟩ := hrel
                  have hlm : (op.take m).length = m := by rw [List.length_take, ← HLL.out]; omega
                  by_cases hg : d < m
                  · obtain ⟨q, hq⟩ : ∃ q, q = m - 1 := ⟨_, rfl⟩
                    have hqL : q < op.length := by have := HLL.out; omega
                    rcases OO4.out.form with ⟨_, hnil⟩ | ⟨g, cap', rfl, hgb, hgc, hgm⟩
                    · rw [hnil] at hlm; simp at hlm; omega
                    obtain ⟨s0, sr⟩ := int_at OO4.out.slice q (by rw [hlm]; omega)
                    rw [hlm] at hgc OO4 AP4 ⊢
                    have hsq : (op.take m)[q]'(by rw [hlm]; omega) = op[q] := List.getElem_take
                    rw [hsq] at s0 sr
                    have htq : (op.take m).take q = op.take q := by rw [List.take_take]; congr 1; omega
                    have hdq : op.drop q = op[q] :: op.drop m := by rw [List.drop_eq_getElem_cons hqL]; congr 2; omega
                    have OT := Lib.hid (show OwnOf Rep.int wr (fun _ => True) w.heap.size 3 (.slice (some ⟨g, 0, none⟩) q cap') (op.take q) from by
                      have h := OwnOf.take (n := q) (by rw [hlm]; exact OO4.out) (by rw [hlm]; omega)
                      rw [htq] at h
                      exact h)
                    generalize op[q] = z0 at s0 sr hdq
                    have HDQ := Lib.hid hdq
                    have HSR := Lib.hid (show okI z0 from sr)
                    simp only [Nat.zero_add] at s0
                    have em : (m : Int) - 1 = (q : Int) := by omega
                    have hqm : (q : Int) < (m : Int) := by omega
                    have hqc : q ≤ cap' := by omega
                    have hqc' : (q : Int) ≤ (cap' : Int) := by omega
                    have hwq : IntKind.i64.wrap (q : Int) = (q : Int) := by rw [IntKind.wrap_i64]; omega
                    have hgd : decide ((d : Int) < (m : Int)) = true := by simp; omega
                    have hul : (ou ++ (op.drop m).reverse.map fun s => (⟨s, at_⟩ : Per)).length ≤ 1048576 * (k + 1) := by
                      have h1 := HUL.out
                      have h2 := HLL.out
                      simp only [List.length_append, List.length_map, List.length_reverse, List.length_drop]
                      omega
                    obtain ⟨ys7, hys⟩ : ∃ x, x = ou ++ (op.drop m).reverse.map fun s => (⟨s, at_⟩ : Per) := ⟨_, rfl⟩
                    rw [← hys] at hul OU4
                    have HYS := Lib.hid hys
                    clear hys
                    have B1 : ys7.length + 1 ≤ maxLen := by unfold maxLen; omega
                    have B2 : (ys7.length + 1) * 16 ≤ 140737488355328 := by omega
                    have HAP := Lib.hid (show Apart (.slice (some ⟨g, 0, none⟩) q cap') uv from fun x hx => AP4.out.1 x hx)
                    have HAQ := Lib.hid (show Apart (.slice (some ⟨ge, 0, none⟩) n ce) (.slice (some ⟨g, 0, none⟩) q cap') from fun x hx => AP4.out.2.1 x hx)
                    have e6 := cell_lt s0
                    have HQQ := Lib.hid hq
                    clear hsq htq hdq sr hul hlm hgc hgm OO4 hgb hq
                    go_wp2_with (at_builtin; refine wpList_append_one Rep.per (fun _ => True) rfl _ _ 112 rfl w.heap.size 52 i1 _ 16 Tryz.underlying112 hi1 hz10 hz11 hz12 rfl (by decide) uv _ rfl (OU4.out.ext ((Ext.refl wr).alloc _)) ⟨wr.heap.size, 0, none⟩ 1 ⟨z0, at_⟩ [.int .i64 z0, .int .i64 at_] rfl ⟨rfl, HSR.out, HOKP.out⟩ (by exact cells_new wr [.int .i64 z0, .int .i64 at_] _) B1 B2 (by exact (hx6.alloc _).size) ?_)
                    intro g7 cap7 w7 own7 gr7 hg7
                    have X7 := Lib.hid (show Ext w w7 from Ext.grownNew (hx6.alloc _) gr7 OU4.out.base)
                    have OT7 := Lib.hid (own_apart flat_int' (OT.out.ext ((Ext.refl wr).alloc _)) gr7 HAP.out)
                    have OE7 := Lib.hid (own_apart flat_evt (OE4.out.ext ((Ext.refl wr).alloc _)) gr7 AP4.out.2.2)
                    have AP7 := Lib.hid (show Apart (.slice (some ⟨g, 0, none⟩) q cap') (.slice (some ⟨g7, 0, none⟩) (ys7.length + 1) cap7) ∧ Apart (.slice (some ⟨ge, 0, none⟩) n ce) (.slice (some ⟨g, 0, none⟩) q cap') ∧ Apart (.slice (some ⟨ge, 0, none⟩) n ce) (.slice (some ⟨g7, 0, none⟩) (ys7.length + 1) cap7) from
                      ⟨HAP.out.grow (fun x hx => Nat.lt_succ_of_lt (OT.out.lt x hx).2) hg7, HAQ.out, AP4.out.2.2.grow (fun x hx => Nat.lt_succ_of_lt (OE4.out.lt x hx).2) hg7⟩)
                    have OU7 := Lib.hid (show OwnOf Rep.per w7 (fun _ => True) w.heap.size 52 (.slice (some ⟨g7, 0, none⟩) (ys7.length + 1) cap7) (ou ++ (op.drop q).reverse.map fun s => ⟨s, at_⟩) from by
                      rw [HDQ.out, List.reverse_cons, List.map_append, ← List.append_assoc, ← HYS.out]
                      exact own7)
                    clear own7 gr7 hg7 OT OU4 OE4 AP4 HAP HAQ s0 e6 hx6
                    generalize ys7.length + 1 = ln7 at *
                    go_wp2_with fail
                    have hq := HQQ.out
                    go_roundg (q - d)
                    case measure => omega
                    case rel => exact ⟨q, _, _, by omega, fun h => by omega, fun h => by omega, rfl, rfl, rfl, OT7.out, OU7.out, OE7.out, AP7.out, X7.out⟩
                  · have hmd : op.take m = op.take d ∧ op.drop m = op.drop d := by
                      rcases Nat.le_total L d with h | h
                      · have := hmA h
                        subst this
                        have h2 := HLL.out
                        exact ⟨by rw [List.take_of_length_le (by omega), List.take_of_length_le (by omega)], by rw [List.drop_eq_nil_of_le (by omega), List.drop_eq_nil_of_le (by omega)]⟩
                      · have : m = d := by have := hmB h; omega
                        subst this
                        exact ⟨rfl, rfl⟩
                    have hgd : decide ((d : Int) < (m : Int)) = false := by simp; omega
                    have hmm : m ≤ d := by omega
                    have hmq : m = min d L := by rcases Nat.le_total L d with h | h; have := hmA h; omega; have := hmB h; omega
                    obtain ⟨p8, c8, rfl, hp8⟩ := OO4.out.shapeL
                    rw [hlm] at OO4 AP4 ⊢
                    rw [hmd.1] at OO4
                    rw [hmd.2] at OU4
                    have HUL5 := Lib.hid (show (ou ++ (op.drop d).reverse.map fun s => (⟨s, at_⟩ : Per)).length ≤ 1048576 * (k + 1) from by
                      have h1 := HUL.out
                      have h2 := HLL.out
                      simp only [List.length_append, List.length_map, List.length_reverse, List.length_drop]
                      omega)
                    have HMQ := Lib.hid hmq
                    clear hmd hlm hp8 hg hmA hmB hmq
                    go_wp2_with fail
                    go_loopg [6] (d - L) (fun gk vo wq => ∃ (q : Nat) (uo : Value), q ≤ d - L ∧ gk = d - L - q ∧ uo = vo ∧ Hid (OwnOf Rep.int wq (fun _ => True) w.heap.size 3 uo (op.take d ++ List.replicate q at_)) ∧ Hid (OwnOf Rep.per wq (fun _ => True) w.heap.size 52 uv (ou ++ (op.drop d).reverse.map fun s => ⟨s, at_⟩)) ∧ Hid (OwnOf Rep.evt wq (fun _ => True) w.heap.size 164 (.slice (some ⟨ge, 0, none⟩) n ce) es) ∧ Hid (Apart uo uv ∧ Apart (.slice (some ⟨ge, 0, none⟩) n ce) uo ∧ Apart (.slice (some ⟨ge, 0, none⟩) n ce) uv) ∧ Ext w wq)
                    case atStart => exact ⟨0, _, Nat.zero_le _, rfl, rfl, by show OwnOf Rep.int _ _ _ _ _ (op.take d ++ []); rw [List.append_nil]; exact OO4.out, OU4.out, OE4.out, AP4.out, hx6⟩
                    case round =>
                      obtain ⟨q, uo, hqd, rfl, rfl, OO5, OU5, OE5, AP5, hx7⟩ := hrel
                      have hl5 : (op.take d ++ List.replicate q at_).length = m + q := by
                        rw [List.length_append, List.length_take, List.length_replicate, ← HLL.out, HMQ.out]
                      obtain ⟨xs5, hxs⟩ : ∃ x, x = op.take d ++ List.replicate q at_ := ⟨_, rfl⟩
                      rw [← hxs] at hl5 OO5
                      have HXS := Lib.hid hxs
                      clear hxs
                      obtain ⟨p5, c5, rfl, hp5⟩ := OO5.out.shapeL
                      rw [hl5] at OO5 AP5 ⊢
                      obtain ⟨r, hr⟩ : ∃ r, r = m + q := ⟨_, rfl⟩
                      rw [← hr] at hl5 OO5 AP5 ⊢
                      have HRR := Lib.hid hr
                      by_cases hg5 : q < d - L
                      · have hgd5 : decide ((r : Int) < (d : Int)) = true := by have := HRR.out; have := HMQ.out; simp; omega
                        have hgd6 : (r : Int) < (d : Int) := by have := HRR.out; have := HMQ.out; omega
                        have hgd7 : r < d := by omega
                        have HL5 := Lib.hid hl5
                        have B1 : xs5.length + 1 ≤ maxLen := by have := HRR.out; have := HMQ.out; rw [hl5]; unfold maxLen; omega
                        have B2 : (xs5.length + 1) * 8 ≤ 140737488355328 := by have := HRR.out; have := HMQ.out; rw [hl5]; omega
                        clear hl5 hp5 hr
                        go_wp2_with (at_builtin; refine wpList_append_one Rep.int (fun _ => True) rfl _ _ 24 rfl w.heap.size 3 i2 _ 8 Tryz.underlying24 hi2 hz20 hz21 hz22 rfl (by decide) (.slice p5 r c5) _ rfl (OO5.out.ext ((Ext.refl wr).alloc _)) ⟨wr.heap.size, 0, none⟩ 1 at_ [.int .i64 at_] rfl ⟨rfl, HOKP.out⟩ (by exact cells_new wr [.int .i64 at_] _) B1 B2 (by exact (hx7.alloc _).size) ?_)
                        intro g8 cap8 w8 own8 gr8 hg8
                        have X8 := Lib.hid (show Ext w w8 from Ext.grownNew (hx7.alloc _) gr8 OO5.out.base)
                        have OU8 := Lib.hid (own_apart flat_per (OU5.out.ext ((Ext.refl wr).alloc _)) gr8 AP5.out.1.symm)
                        have OE8 := Lib.hid (own_apart flat_evt (OE5.out.ext ((Ext.refl wr).alloc _)) gr8 AP5.out.2.1)
                        have OO8 := Lib.hid (show OwnOf Rep.int w8 (fun _ => True) w.heap.size 3 (.slice (some ⟨g8, 0, none⟩) (r + 1) cap8) (op.take d ++ List.replicate (q + 1) at_) from by
                          rw [List.replicate_succ', ← List.append_assoc, ← HXS.out]
                          rw [HL5.out] at own8
                          exact own8)
                        have AP8 := Lib.hid (show Apart (.slice (some ⟨g8, 0, none⟩) (r + 1) cap8) uv ∧ Apart (.slice (some ⟨ge, 0, none⟩) n ce) (.slice (some ⟨g8, 0, none⟩) (r + 1) cap8) ∧ Apart (.slice (some ⟨ge, 0, none⟩) n ce) uv from
                          ⟨(AP5.out.1.symm.grow (fun x hx => Nat.lt_succ_of_lt (OU5.out.lt x hx).2) hg8).symm, AP5.out.2.1.grow (fun x hx => Nat.lt_succ_of_lt (OE5.out.lt x hx).2) hg8, AP5.out.2.2⟩)
                        clear own8 gr8 hg8 OO5 OU5 OE5 AP5 hx7
                        rw [HL5.out]
                        go_wp2_with fail
                        go_roundg (d - L - (q + 1))
                        case measure => omega
                        case rel => exact ⟨q + 1, _, by omega, rfl, rfl, OO8.out, OU8.out, OE8.out, AP8.out, X8.out⟩
                      · have hqe : q = d - L := by omega
                        have hgd5 : decide ((r : Int) < (d : Int)) = false := by have := HRR.out; have := HMQ.out; simp; omega
                        have hgd6 : ¬ (r : Int) < (d : Int) := by have := HRR.out; have := HMQ.out; omega
                        have hgd7 : ¬ r < d := by omega
                        have HS := Lib.hid (show levOf (levPts ps) (levF ps) (k + 1) = (op.take d ++ List.replicate q at_, ou ++ (op.drop d).reverse.map fun s => ⟨s, at_⟩) from by rw [HSTEP.out, hqe, HLL.out]; rfl)
                        clear hl5 hp5 hqe hr
                        go_wp2_with fail
                        go_roundg (K - (k + 1))
                        case measure => omega
                        case rel => exact ⟨k + 1, _, _, by omega, rfl, by rw [HA1.out], rfl, rfl, by rw [HS.out]; show OwnOf Rep.int _ _ _ _ _ (op.take d ++ List.replicate q at_); rw [← HXS.out]; exact OO5.out, by rw [HS.out]; exact OU5.out, OE5.out, AP5.out, by rw [HS.out]; exact HUL5.out, hx7⟩
        · have hkK : k = K := by omega
          have hin : idxOf es (levPts ps) k = n := by rw [hkK, HK.out, HEV.out.last, HNE.out]
          have hd2 : ¬ (n : Int) < (n : Int) := by omega
          rw [hin]
          have HFIN := Lib.hid (show OwnOf Rep.per wr (fun _ => True) w.heap.size 52 uu (levels ps) from by
            have h := OU.out
            rw [hkK, HK.out] at h
            exact h)
          clear hkK hin
          go_wp2_with fail
          go_ret
          exact ⟨uu, rfl, HFIN.out, hx5⟩

end Go.Proofs.YtdgpbpbjlnlijaaGreatDoor
