/- slices.SortFunc at the call's own row of data of several cells each: the row holds the same data sorted by a total order. -/
import Derived.Test.YtdgpbpbjlnlijaaGreatOrd
import Derived.Shelf.SlSortCmp.NoneTotal
import Derived.Shelf.SlSortCmp.WholeK
namespace Go.Proofs.YtdgpbpbjlnlijaaGreat
open Go.RowKit Go.Shelf Go.Sort

/-- a list sorted by a total order -/
def sortBy {α : Type} (c : α → α → Int) (l : List α) : List α := l.mergeSort fun a b => decide (c a b ≤ 0)
theorem Ord3.le_tr {α : Type} {c : α → α → Int} (h : Ord3 c) (x y z : α) (h1 : c x y ≤ 0) (h2 : c y z ≤ 0) : c x z ≤ 0 := by
  by_cases e1 : c x y = 0
  · rw [(h.eq _ _).1 e1]; exact h2
  · by_cases e2 : c y z = 0
    · rw [← (h.eq _ _).1 e2]; exact h1
    · have := h.tr x y z (by omega) (by omega); omega
theorem Ord3.le_total {α : Type} {c : α → α → Int} (h : Ord3 c) (x y : α) : c x y ≤ 0 ∨ c y x ≤ 0 := by
  have := h.anti x y
  omega
theorem Ord3.le_anti {α : Type} {c : α → α → Int} (h : Ord3 c) (x y : α) (h1 : c x y ≤ 0) (h2 : c y x ≤ 0) : x = y := by
  have := h.anti x y
  exact (h.eq x y).1 (by omega)
theorem sortBy_perm {α : Type} (c : α → α → Int) (l : List α) : (sortBy c l).Perm l := List.mergeSort_perm _ _
theorem sortBy_pair {α : Type} {c : α → α → Int} (h : Ord3 c) (l : List α) : (sortBy c l).Pairwise fun a b => c a b ≤ 0 := by
  have := List.pairwise_mergeSort (le := fun a b => decide (c a b ≤ 0)) (fun a b d h1 h2 => by simp only [decide_eq_true_eq] at *; exact h.le_tr a b d h1 h2)
    (fun a b => by simp only [Bool.or_eq_true, decide_eq_true_eq]; exact h.le_total a b) l
  exact this.imp (by simp)
theorem sortBy_unique {α : Type} {c : α → α → Int} (h : Ord3 c) {l l' : List α} (hp : l'.Perm l) (hs : l'.Pairwise fun a b => c a b ≤ 0) : l' = sortBy c l :=
  List.Perm.eq_of_pairwise (le := fun a b => c a b ≤ 0) (fun a b _ _ h1 h2 => h.le_anti a b h1 h2) hs (sortBy_pair h l) (hp.trans (sortBy_perm c l).symm)
theorem sortBy_length {α : Type} (c : α → α → Int) (l : List α) : (sortBy c l).length = l.length := (sortBy_perm c l).length_eq

theorem Ord3.swo {α : Type} {c : α → α → Int} (h : Ord3 c) : SWO (ltOf c) where
  irrefl x := by unfold ltOf; rw [(h.eq x x).2 rfl]; rfl
  trans x y z h1 h2 := by unfold ltOf at *; simp only [decide_eq_true_eq] at *; exact h.tr x y z h1 h2
  ntrans x y z h1 h2 := by
    unfold ltOf at *
    simp only [decide_eq_false_iff_not] at *
    have a1 := h.anti x y
    have a2 := h.anti y z
    have a3 := h.anti x z
    have := h.le_tr z y x (by omega) (by omega)
    omega

theorem repAll_len' {α : Type} {R : Rep α} {h : View} {css : List (List Value)} {ys : List α} (k : RepAll R h css ys) : ∀ c ∈ css, c.length = R.size := by
  induction css generalizing ys with
  | nil => simp
  | cons c css ih =>
    cases ys with
    | nil => exact k.elim
    | cons y ys =>
      intro d hd
      rcases List.mem_cons.1 hd with rfl | hd
      · exact R.len k.1
      · exact ih k.2 d hd
theorem flatK_toList {β : Type} [Inhabited β] (enc : β → List Value) (k : Nat) (hk : ∀ x, (enc x).length = k) (d : Array β) : (flatK enc k d).toList = (d.toList.map enc).flatten := by
  apply List.ext_getElem?
  intro t
  have hlen : ∀ l : List β, ((l.map enc).flatten).length = l.length * k := by
    intro l
    induction l with
    | nil => simp
    | cons x l ih => rw [List.map_cons, List.flatten_cons, List.length_append, hk, ih, List.length_cons, Nat.succ_mul]; omega
  by_cases ht : t < d.size * k
  · have hkp : 0 < k := by
      rcases Nat.eq_zero_or_pos k with h | h
      · subst h; simp at ht
      · exact h
    have h1 := get_flatK enc k d t ht
    rw [getElem!_pos _ t (by simpa using ht)] at h1
    rw [Array.getElem?_toList, Array.getElem?_eq_getElem (by simpa using ht), h1]
    have hdiv : t / k < d.size := by rw [Nat.div_lt_iff_lt_mul hkp]; exact ht
    have hmod : t % k < k := Nat.mod_lt _ hkp
    have key : ∀ (l : List β) (i r : Nat) (x : β), l[i]? = some x → r < k → (l.map enc).flatten[i * k + r]? = some ((enc x)[r]!) := by
      intro l
      induction l with
      | nil => intro i r x h; simp at h
      | cons y l ih =>
        intro i r x h hr
        cases i with
        | zero =>
          simp at h
          subst h
          rw [List.map_cons, List.flatten_cons, Nat.zero_mul, Nat.zero_add, List.getElem?_append_left (by rw [hk]; exact hr)]
          rw [getElem!_pos _ r (by rw [hk]; exact hr), List.getElem?_eq_getElem]
        | succ i =>
          rw [List.map_cons, List.flatten_cons, List.getElem?_append_right (by rw [hk, Nat.succ_mul]; omega), hk]
          rw [show (i + 1) * k + r - k = i * k + r from by rw [Nat.succ_mul]; omega]
          exact ih i r x (by simpa using h) hr
    have := key d.toList (t / k) (t % k) (d[t / k]!) (by rw [getElem!_pos d _ hdiv, Array.getElem?_toList, Array.getElem?_eq_getElem hdiv]) hmod
    rw [show t / k * k + t % k = t from by rw [Nat.mul_comm]; exact Nat.div_add_mod t k] at this
    rw [this]
  · rw [List.getElem?_eq_none (by simpa using Nat.le_of_not_lt ht), List.getElem?_eq_none (by rw [hlen]; simpa using Nat.le_of_not_lt ht)]

theorem repAll_map {α β : Type} (R : Rep α) (h : View) (l : List β) (f : β → List Value) (g : β → α) (hl : ∀ i ∈ l, R.holds h (f i) (g i)) : RepAll R h (l.map f) (l.map g) := by
  induction l with
  | nil => trivial
  | cons i l ih => exact ⟨hl i (by simp), ih fun j hj => hl j (by simp [hj])⟩

section
variable {β : Type} [Inhabited β] (enc : β → List Value) (k : Nat) (w : World) (blk off m : Nat) (dk : Array β) (os : Array Obj)
theorem sortWorld_block (i : Nat) (hi : i < w.heap.size) (hne : i ≠ blk) : (sortWorldK enc k w blk off m dk os).heap[i]? = w.heap[i]? := by
  unfold sortWorldK
  rw [heap_grow_old _ _ (by simpa [putRowK, putRow, mapBlock, ahead] using hi)]
  simp [putRowK, putRow, mapBlock, Array.getElem?_modify, Ne.symm hne]
theorem sortWorld_row (cur : Array Value) (e : TypeId) (fr : Nat × Nat) (hb : w.heap[blk]? = some (.cells cur e fr)) :
    (sortWorldK enc k w blk off m dk os).heap[blk]? = some (.cells (putCells id off (flatK enc k dk) cur) e fr) := by
  have hlt : blk < w.heap.size := (Array.getElem?_eq_some_iff.1 hb).1
  unfold sortWorldK
  rw [heap_grow_old _ _ (by simpa [putRowK, putRow, mapBlock, ahead] using hlt)]
  simp [putRowK, putRow, mapBlock, Array.getElem?_modify, hb, onCells]
theorem sortWorld_grown : w.grownBy (sortWorldK enc k w blk off m dk os) (some blk) :=
  ⟨rfl, rfl, rfl, by simp [sortWorldK, putRowK, putRow, mapBlock], fun i hi hne => sortWorld_block enc k w blk off m dk os i hi (fun e => hne (by rw [e]))⟩
end

theorem extract_all {β : Type} (a : Array β) (n : Nat) (h : a.size = n) : a.extract 0 n = a := by subst h; simp
theorem finRange_get {β : Type} (l : List β) : (List.finRange l.length).map (fun i => l.get i) = l := by
  apply List.ext_getElem
  · simp
  · intro i h1 h2; simp
theorem swo_pull {α β : Type} {c : α → α → Int} (h : SWO (ltOf c)) (f : β → α) : SWO (ltOf fun i j => c (f i) (f j)) where
  irrefl x := h.irrefl (f x)
  trans x y z := h.trans (f x) (f y) (f z)
  ntrans x y z := h.ntrans (f x) (f y) (f z)

theorem sortFunc_gen {P : Program} {α : Type} (R : Rep α) (c : α → α → Int) (hc : SWO (ltOf c)) (g f lim : Nat)
    (hsort : ∀ (β : Type) [Inhabited β] (enc : β → List Value) (_ : ∀ x, (enc x).length = R.size) (_ : ∀ x, ∀ v ∈ enc x, v.oneCell' = true) (cf : β → β → Int) (_ : SWO (ltOf cf)) (blk off cap : Nat) (d : Array β) (w : World)
      (_ : CmpLays P g #[] enc R.size cf blk off d.size w) (_ : HoldsK enc R.size w blk off d) (_ : blk < w.heap.size) (_ : d.size < lim),
      Calls P f #[.slice (some ⟨blk, off, none⟩) d.size cap, .func (.func g) #[] #[]] w fun e w' => e = .returned (.tuple #[]) ∧ ∃ d' n os, PermIn 0 d.size d d' ∧ SortedIn (ltOf cf) 0 d.size d' ∧ w' = sortWorldK enc R.size w blk off n d' os)
    (hnone : ∀ p cap w, Calls P f #[.slice p 0 cap, .func (.func g) #[] #[]] w fun e w' => e = .returned (.tuple #[]) ∧ w' = w)
    (hcmp : ∀ (W : World) (x y : α) (cx cy : List Value), R.holds W.cell? cx x → R.holds W.cell? cy y → Calls P g #[.agg cx.toArray, .agg cy.toArray] W fun e w' => e = .returned (.int .i64 (c x y)) ∧ Gro W w')
    (w : World) (S : Nat → Prop) (base : Nat) (e : TypeId) (v : Value) (xs : List α) (hown : OwnOf R w S base e v xs) (hlen : xs.length < lim) :
    Calls P f #[v, .func (.func g) #[] #[]] w fun en w' => ∃ ys, en = .returned (.tuple #[]) ∧ ys.Perm xs ∧ (ys.Pairwise fun a b => ¬ c b a < 0) ∧ OwnOf R w' S base e v ys ∧ w.grownBy w' v.ownBlock := by
  obtain ⟨css, h1, h2⟩ := hown
  have hcl := h1.length
  by_cases hn : 0 < xs.length
  · obtain ⟨h2l, h2⟩ := h2
    rcases h2 with ⟨_, h0⟩ | ⟨gB, cap, cur, rfl, hb, hh, hc1, hc2, hsz, htk⟩
    · omega
    have hlt : gB < w.heap.size := (Array.getElem?_eq_some_iff.1 hh).1
    haveI : Inhabited (Fin xs.length) := ⟨⟨0, hn⟩⟩
    generalize hencd : (fun i : Fin xs.length => css[i.1]'(by rw [hcl]; exact i.2)) = enc
    have henc : ∀ i, enc i = css[i.1]'(by rw [hcl]; exact i.2) := fun i => by rw [← hencd]
    have hel : ∀ i, (enc i).length = R.size := fun i => by rw [henc]; exact repAll_len' h1 _ (List.getElem_mem _)
    have hen : ∀ i, R.holds (on w (avoid S (.slice (some ⟨gB, 0, none⟩) xs.length cap))) (enc i) (xs.get i) := fun i => by
      obtain ⟨d, g1, g2, _⟩ := h1.at i.1 i.2
      rw [henc]
      rw [List.getElem?_eq_getElem (by rw [hcl]; exact i.2)] at g2
      injection g2 with g2
      rw [g2]; exact g1
    generalize hd : (List.finRange xs.length).toArray = d
    have hds : d.size = xs.length := by rw [← hd]; simp
    have hdl : d.toList = List.finRange xs.length := by rw [← hd]
    have hflat : (flatK enc R.size d).toList = css.flatten := by
      rw [flatK_toList enc R.size hel, ← hd]
      congr 1
      apply List.ext_getElem
      · simp [hcl]
      · intro i a1 a2
        simp [henc]
    have hH : HoldsK enc R.size w gB 0 d := by
      intro j hj
      have hj' : j < css.flatten.length := by rw [← hflat]; simpa using hj
      constructor
      · have hu : css.flatten[j]? = some (id (flatK enc R.size d)[j]!) := by
          rw [← hflat, Array.getElem?_toList, Array.getElem?_eq_getElem hj, getElem!_pos (flatK enc R.size d) _ hj]; rfl
        rw [Nat.zero_add, cell_of_row w gB j cur e (0, 0) hh]
        rw [← htk, List.getElem?_take] at hu
        split at hu
        · simpa using hu
        · cases hu
      · simp [World.frozen?, hh]
    have hsub : ∀ (m : Nat) (dk : Array (Fin xs.length)) (os : Array Obj), Sub (on w (avoid S (.slice (some ⟨gB, 0, none⟩) xs.length cap))) (on (sortWorldK enc R.size w gB 0 m dk os) (avoid S (.slice (some ⟨gB, 0, none⟩) xs.length cap))) :=
      fun m dk os => grown_sub (sortWorld_grown enc R.size w gB 0 m dk os) fun i hi => hi.1
    have hcon := hsort (Fin xs.length) enc hel (fun x u hu => R.one (hen x) u hu) (fun i j => c (xs.get i) (xs.get j)) (swo_pull hc fun i : Fin xs.length => (xs.get i)) gB 0 cap d w
      (fun m os dk _ x y => by
        refine (hcmp _ (xs.get x) (xs.get y) (enc x) (enc y) (R.ext (hen x) ((hsub m dk os).trans (on_sub _ _))) (R.ext (hen y) ((hsub m dk os).trans (on_sub _ _)))).mono ?_
        rintro en w' ⟨rfl, hg⟩
        exact ⟨rfl, hg.grown⟩) hH hlt (by rw [hds]; exact hlen)
    rw [hds] at hcon
    refine hcon.mono ?_
    rintro en w' ⟨rfl, d', n', os, ⟨hp1, _, hp3⟩, hso, rfl⟩
    have hds' : d'.size = xs.length := by rw [hp1, hds]
    have hperm : d'.toList.Perm d.toList := by
      rwa [extract_all d' _ hds', extract_all d _ hds] at hp3
    have hlen' : (d'.toList.map (fun i : Fin xs.length => (xs.get i))).length = xs.length := by simp [hds']
    refine ⟨d'.toList.map (fun i : Fin xs.length => (xs.get i)), rfl, ?_, ?_, ⟨d'.toList.map enc, ?_, ?_, .inr ⟨gB, cap, putCells id 0 (flatK enc R.size d') cur, ?_, hb, sortWorld_row enc R.size w gB 0 n' d' os cur e (0, 0) hh, ?_, hc2, ?_, ?_⟩⟩, sortWorld_grown enc R.size w gB 0 n' d' os⟩
    · have := hperm.map fun i : Fin xs.length => (xs.get i)
      rw [hdl] at this
      exact this.trans (by rw [finRange_get])
    · rw [List.pairwise_iff_getElem]
      intro i j hi hj hij
      simp at hi hj
      have hs := hso i j (Nat.zero_le _) hij (by omega)
      unfold ltOf at hs
      simp only [decide_eq_false_iff_not] at hs
      rw [getElem!_pos d' j hj, getElem!_pos d' i hi] at hs
      simpa only [List.getElem_map, Array.getElem_toList] using hs
    · exact repAll_map R _ d'.toList enc _ fun i _ => R.ext (hen i) (hsub _ _ _)
    · rw [hlen', ← flatK_toList enc R.size hel]; simp [hds']
    · rw [hlen']
    · rw [hlen']; exact hc1
    · simp [putCells, hsz]
    · rw [hlen', ← flatK_toList enc R.size hel]
      apply List.ext_getElem?
      intro j
      rw [List.getElem?_take]
      by_cases hj : j < xs.length * R.size
      · have hjc : j < cur.size := by rw [hsz]; exact Nat.lt_of_lt_of_le hj (Nat.mul_le_mul_right _ hc1)
        rw [if_pos hj]
        simp [putCells, hjc, hds', hj]
      · rw [if_neg hj, List.getElem?_eq_none (by simpa [hds'] using Nat.le_of_not_lt hj)]
  · have hxs : xs = [] := List.eq_nil_of_length_eq_zero (by omega)
    subst hxs
    have hform : ∃ p cap, v = .slice p 0 cap := by
      rcases h2.2 with ⟨rfl, _⟩ | ⟨gB, cap, cur, rfl, _⟩
      · exact ⟨_, _, rfl⟩
      · exact ⟨_, _, rfl⟩
    obtain ⟨p, cap, rfl⟩ := hform
    refine (hnone p cap w).mono ?_
    rintro en w' ⟨rfl, rfl⟩
    exact ⟨[], rfl, List.Perm.refl _, List.Pairwise.nil, ⟨css, h1, h2⟩, ⟨rfl, rfl, rfl, Nat.le_refl _, fun _ _ _ => rfl⟩⟩

theorem sortFunc_rep {P : Program} {ρ : Ren} {α : Type} (L : SlLaysF0.n6 P ρ) (R : Rep α) (k : Nat) (hk : R.size = k) (hk0 : 0 < k)
    (aE : ∀ w, (isAgg (ρ.t 24)).run P w = .ok true w) (zE : ∀ w, (Go.sizeOf (ρ.t 24)).run P w = .ok k w) (c : α → α → Int) (hc : Ord3 c) (g : Nat)
    (eg : ∀ args w, (callFunc g args).run P w = .ok (.enter g args) w)
    (hcmp : ∀ (W : World) (x y : α) (cx cy : List Value), R.holds W.cell? cx x → R.holds W.cell? cy y → Calls P g #[.agg cx.toArray, .agg cy.toArray] W fun e w' => e = .returned (.int .i64 (c x y)) ∧ Gro W w')
    (w : World) (S : Nat → Prop) (base : Nat) (e : TypeId) (v : Value) (xs : List α) (hown : OwnOf R w S base e v xs) (hlen : xs.length < 4611686018427387904) :
    Calls P (ρ.f 6) #[v, .func (.func g) #[] #[]] w fun en w' => en = .returned (.tuple #[]) ∧ OwnOf R w' S base e v (sortBy c xs) ∧ w.grownBy w' v.ownBlock := by
  subst hk
  refine (sortFunc_gen (P := P) R c hc.swo g (ρ.f 6) 4611686018427387904 (fun β _ enc hel h1 cf hO blk off cap d w hcmp hH hblk hsz => AnyQ.slices_SortFunc L R.size aE zE enc hel h1 cf hO g #[] blk off cap d w eg hcmp hH hblk hsz)
    (fun p cap w => AnyF.slices_SortFunc_none L p cap (.func (.func g) #[] #[]) w) hcmp w S base e v xs hown hlen).mono ?_
  rintro en w' ⟨ys, rfl, hp, hs, ho, hg⟩
  have hys : ys = sortBy c xs := sortBy_unique hc hp (hs.imp fun {a b} h => by
    have := hc.anti a b
    omega)
  exact ⟨rfl, hys ▸ ho, hg⟩

end Go.Proofs.YtdgpbpbjlnlijaaGreat
