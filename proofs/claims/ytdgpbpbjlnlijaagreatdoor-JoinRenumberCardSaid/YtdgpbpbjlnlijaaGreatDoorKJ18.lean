/- joined texts of a proof: PlainB, PerK, BndW, AliW, AliV -/
import Derived.Test.YtdgpbpbjlnlijaaGreatDoorKJ17
import Derived.Test.YtdgpbpbjlnlijaaGreatDoorKJ01
import Derived.Test.YtdgpbpbjlnlijaaGreatDoorKJ06
import Derived.Test.YtdgpbpbjlnlijaaGreatDoorKJ05
import Derived.Test.YtdgpbpbjlnlijaaGreatDoorKJ07
import Derived.Test.YtdgpbpbjlnlijaaGreatDoorKJ09
import Derived.Test.YtdgpbpbjlnlijaaGreatDoorKJ11

/- plain: the reference's sequenced operators, interval by interval; the aligned join; no program in sight -/
namespace Go.Proofs.YtdgpbpbjlnlijaaGreatDoor
open Go.RowKit

/-- rows over each interval between two points -/
def binUpto (G : Int → List Row) (P : List Int) : Nat → List Tup
  | 0 => []
  | i + 1 => binUpto G P i ++ (G P[i]!).map fun r => tupOf r ⟨P[i]!, P[i + 1]!⟩
/-- the timeslices that the reference sorts -/
noncomputable def refBin (g : List Row → List Row → List Row) (a b : List Tup) : List Tup := binUpto (fun x => g (sortBy cmpRow (sliceRows a x)) (sortBy cmpRow (sliceRows b x))) (pts (a ++ b)) ((pts (a ++ b)).length - 1)
/-- the pieces of a tuple end at points, and no point lies within -/
theorem cutT_gaps {Q : List Int} (t : Tup) (ht : t.to_ ∈ Q) : ∀ (P : List Int) (f : Int), P.Pairwise (· ≤ ·) → (∀ p ∈ P, p ∈ Q) → (∀ q ∈ Q, q ≤ f ∨ q ∈ P) → f ∈ Q → f < t.to_ → ∀ y ∈ cutT t f P, y.from_ ∈ Q ∧ y.to_ ∈ Q ∧ y.from_ < y.to_ ∧ ∀ q ∈ Q, q ≤ y.from_ ∨ y.to_ ≤ q := by
  intro P
  induction P with
  | nil =>
    intro f _ _ h2 h3 h4 y hy
    rw [cutT, List.mem_singleton] at hy
    subst hy
    refine ⟨h3, ht, h4, fun q hq => .inl ?_⟩
    rcases h2 q hq with h | h
    · exact h
    · cases h
  | cons p P ih =>
    intro f h0 h1 h2 h3 h4 y hy
    obtain ⟨g1, g2⟩ := List.pairwise_cons.1 h0
    rw [cutT] at hy
    split at hy
    · rename_i c
      rw [List.mem_singleton] at hy
      subst hy
      refine ⟨h3, ht, h4, fun q hq => ?_⟩
      rcases h2 q hq with h | h
      · exact .inl h
      · right
        rcases List.mem_cons.1 h with rfl | h
        · exact c
        · have := g1 q h; show t.to_ ≤ q; omega
    · rename_i c
      split at hy
      · rename_i c2
        rcases List.mem_cons.1 hy with rfl | hy
        · refine ⟨h3, h1 p (by simp), c2, fun q hq => ?_⟩
          rcases h2 q hq with h | h
          · exact .inl h
          · right
            rcases List.mem_cons.1 h with rfl | h
            · exact Int.le_refl _
            · exact g1 q h
        · refine ih p g2 (fun q hq => h1 q (by simp [hq])) (fun q hq => ?_) (h1 p (by simp)) (by omega) y hy
          rcases h2 q hq with h | h
          · exact .inl (by omega)
          · rcases List.mem_cons.1 h with rfl | h
            · exact .inl (Int.le_refl _)
            · exact .inr h
      · rename_i c2
        refine ih f g2 (fun q hq => h1 q (by simp [hq])) (fun q hq => ?_) h3 h4 y hy
        rcases h2 q hq with h | h
        · exact .inl h
        · rcases List.mem_cons.1 h with rfl | h
          · exact .inl (by omega)
          · exact .inr h
def GapT (Q : List Int) (y : Tup) : Prop := y.from_ ∈ Q ∧ y.to_ ∈ Q ∧ y.from_ < y.to_ ∧ ∀ q ∈ Q, q ≤ y.from_ ∨ y.to_ ≤ q
theorem splitT_gaps {Q : List Int} (hQ : Q.Pairwise (· ≤ ·)) (l : List Tup) (hb : ∀ x ∈ bnd l, x ∈ Q) : ∀ y ∈ splitT l Q, GapT Q y := by
  intro y hy
  unfold splitT at hy
  obtain ⟨t, ht, hy⟩ := List.mem_flatMap.1 hy
  split at hy
  · rename_i c
    obtain ⟨b1, b2⟩ := bnd_mem ht c
    have hv := validB_lt (show validB t.from_ t.to_ = true from c)
    exact cutT_gaps t (hb _ b2) Q t.from_ hQ (fun _ h => h) (fun q hq => .inr hq) (hb _ b1) hv.2.1 y hy
  · cases hy
theorem gaps_eq {Q : List Int} {x y : Tup} (hx : GapT Q x) (hy : GapT Q y) {t : Int} (h1 : x.from_ ≤ t ∧ t < x.to_) (h2 : y.from_ ≤ t ∧ t < y.to_) : tupPer y = tupPer x := by
  obtain ⟨x1, x2, x3, x4⟩ := hx
  obtain ⟨y1, y2, y3, y4⟩ := hy
  have e1 : y.from_ = x.from_ := by
    have g1 := x4 _ y1
    have g2 := y4 _ x1
    omega
  have e2 : y.to_ = x.to_ := by
    have g1 := x4 _ y2
    have g2 := y4 _ x2
    omega
  unfold tupPer
  rw [e1, e2]
open Classical in
/-- the aligned join: equal periods are combined -/
noncomputable def alignRow (tr : List Val → Bool) (B : List Tup) (x : Tup) : List Tup := ((B.filter fun y => decide (tupPer y = tupPer x)).map fun y => tupOf (pairRow (tupRow x) (tupRow y)) (tupPer x)).filter fun z => tr z.vals
noncomputable def alignRaw (tr : List Val → Bool) (A B : List Tup) : List Tup := A.flatMap (alignRow tr B)
open Classical in
theorem alignRow_slice (tr : List Val → Bool) {Q : List Int} (hr : ∀ x ∈ Q, 0 ≤ x ∧ x ≤ 1099511627776) {B : List Tup} (hB : ∀ y ∈ B, GapT Q y) {x : Tup} (hx : GapT Q x) (t : Int) : sliceRows (alignRow tr B x) t = if holdsAt t x = true then joinRow tr (sliceRows B t) (tupRow x) else [] := by
  have hval : ∀ y, GapT Q y → validT y = true := fun y h => by
    have a1 := hr _ h.1
    have a2 := hr _ h.2.1
    have a3 := h.2.2.1
    unfold validT validB
    simp only [Bool.and_eq_true, decide_eq_true_eq]
    omega
  have hhold : ∀ y, GapT Q y → (holdsAt t y = true ↔ y.from_ ≤ t ∧ t < y.to_) := fun y h => by
    unfold holdsAt
    rw [hval y h, Bool.true_and]
    simp
  have hz : ∀ r, holdsAt t (tupOf r (tupPer x)) = holdsAt t x := fun r => rfl
  unfold alignRow sliceRows
  by_cases c : holdsAt t x = true
  · rw [if_pos c]
    rw [List.filter_eq_self.2 (fun z hz' => by
      obtain ⟨hz1, _⟩ := List.mem_filter.1 hz'
      obtain ⟨y, _, rfl⟩ := List.mem_map.1 hz1
      rw [hz]; exact c)]
    have hf : (B.filter fun y => decide (tupPer y = tupPer x)) = B.filter (holdsAt t) := List.filter_congr fun y hy => by
      rw [Bool.eq_iff_iff, decide_eq_true_eq, hhold y (hB y hy)]
      have hxt := (hhold x hx).1 c
      constructor
      · intro e
        have e1 : y.from_ = x.from_ := congrArg Per.from_ e
        have e2 : y.to_ = x.to_ := congrArg Per.to_ e
        omega
      · intro h
        exact gaps_eq hx (hB y hy) hxt h
    rw [hf]
    unfold joinRow
    rw [List.map_map, List.filter_map, List.map_map, List.filter_map]
    rfl
  · rw [if_neg c, List.map_eq_nil_iff, List.filter_eq_nil_iff]
    intro z hz'
    obtain ⟨hz1, _⟩ := List.mem_filter.1 hz'
    obtain ⟨y, _, rfl⟩ := List.mem_map.1 hz1
    rw [hz]; exact c
theorem align_slice (tr : List Val → Bool) {Q : List Int} (hr : ∀ x ∈ Q, 0 ≤ x ∧ x ≤ 1099511627776) {A B : List Tup} (hA : ∀ y ∈ A, GapT Q y) (hB : ∀ y ∈ B, GapT Q y) (t : Int) : sliceRows (alignRaw tr A B) t = snapJoin tr (sliceRows A t) (sliceRows B t) := by
  unfold alignRaw snapJoin
  rw [slice_flatX, slice_flatRow, ← flat_filter]
  exact flat_congr fun x hx => alignRow_slice tr hr hB (hA x hx) t
/-- the points at which both relations are split -/
theorem sortI_pts (l : List Tup) : sortI (pts l) = pts l := by
  obtain ⟨p1, _, _⟩ := pts_law l
  refine List.Perm.eq_of_pairwise (le := (· ≤ ·)) (fun x y _ _ h1 h2 => by omega) (sortI_asc _) (p1.imp fun h => by omega) (sortI_perm _)
theorem aligned (tr : List Val → Bool) (a b : List Tup) : normT (alignRaw tr (splitT a (pts (a ++ b))) (splitT b (pts (a ++ b)))) = innerT tr a b := by
  obtain ⟨p1, p2, _⟩ := pts_law (a ++ b)
  have hr : ∀ x ∈ pts (a ++ b), 0 ≤ x ∧ x ≤ 1099511627776 := fun x hx => bnd_rng _ x ((p2 x).1 hx)
  have hle : (pts (a ++ b)).Pairwise (· ≤ ·) := p1.imp fun h => by omega
  refine normT_congr fun t => ?_
  rw [align_slice tr hr (splitT_gaps hle a fun x hx => (p2 x).2 (by rw [bnd_append]; exact List.mem_append_left _ hx)) (splitT_gaps hle b fun x hx => (p2 x).2 (by rw [bnd_append]; exact List.mem_append_right _ hx)), split_slice, split_slice]
  exact (join_rows tr a b t).symm

end Go.Proofs.YtdgpbpbjlnlijaaGreatDoor

/- a period as the key of a map -/
namespace Go.Proofs.YtdgpbpbjlnlijaaGreatDoor
open Go.RowKit Go.Maps

noncomputable def perKey (p : Per) : Lit := .string (keyBytes [.int .i64 p.from_, .int .i64 p.to_])
theorem perKey_of (p : Per) (h : okI p.from_ ∧ okI p.to_) : keyOf Tryz.prog 52 (.agg #[.int .i64 p.from_, .int .i64 p.to_]) = some (perKey p) := by
  obtain ⟨f, t⟩ := p
  obtain ⟨h1, h2⟩ := h
  unfold okI at h1 h2
  dsimp only at h1 h2
  have hf : (Lit.int .i64 f).wf = true := by simpa [Lit.wf, IntKind.min, IntKind.max, IntKind.signed, IntKind.bits] using h1
  have ht : (Lit.int .i64 t).wf = true := by simpa [Lit.wf, IntKind.min, IntKind.max, IntKind.signed, IntKind.bits] using h2
  unfold perKey
  unfold keyOf
  simp only [Tryz.underlying52]
  have hk : Tryz.prog.keyType 52 = true := by kernel_rfl
  have key : ∀ d, Tryz.prog.keyLits (d + 2) 52 [.int .i64 f, .int .i64 t] = some [.int .i64 f, .int .i64 t] := fun d => by
    unfold Program.keyLits
    rw [Tryz.underlying52]
    have hc : Tryz.prog.cellsOf 52 = 2 := by kernel_rfl
    have hi : Tryz.prog.cellsOf 3 = 1 := by kernel_rfl
    simp [Program.keyLits, Tryz.underlying3, hf, ht, hc, hi]
  have hts : decide (0 < Tryz.prog.types.size) = true := by kernel_rfl
  obtain ⟨d, hd⟩ : ∃ d, Tryz.prog.types.size + 1 = d + 2 := by
    have := of_decide_eq_true hts
    exact ⟨Tryz.prog.types.size - 1, by omega⟩
  have hform : Value.formed Tryz.prog 52 (.agg #[.int .i64 f, .int .i64 t]) = true := by
    unfold Value.formed
    rw [Tryz.underlying52]
    have hc : Tryz.prog.cellsOf 52 = 2 := by kernel_rfl
    simp [hc]
  have hcl : (Value.agg #[.int .i64 f, .int .i64 t]).cells.toList = [.int .i64 f, .int .i64 t] := by simp [Value.cells]
  rw [hk, hform, hcl, hd, key]
  rfl
theorem laidOutI : laidOutB Tryz.prog = true := by kernel_rfl
theorem per_law : WideMaps.KeyLaw Tryz.prog 52 := deep_law_laid laidOutI (m := 5) (by decide) (of_decide_eq_true (by kernel_rfl)) (by kernel_rfl) (by kernel_rfl)
theorem perKey_inj {p q : Per} (hp : okI p.from_ ∧ okI p.to_) (hq : okI q.from_ ∧ okI q.to_) (h : perKey p = perKey q) : p = q := by
  have h1 := perKey_of p hp
  have h2 := perKey_of q hq
  rw [← h] at h2
  have h3 := per_law.inj h1 h2
  obtain ⟨f, t⟩ := p
  obtain ⟨f', t'⟩ := q
  simp at h3
  rw [h3.1, h3.2]
open Classical in
/-- the tuples with a period -/
noncomputable def ofPer (l : List Tup) (p : Per) : List Tup := l.filter fun y => decide (tupPer y = p)
/-- what the map of pieces holds: for each period the tuples that have it, in order -/
structure CInv (w : World) (S : Nat → Prop) (base : Nat) (T : TypeId) (l : List Tup) (mp : Lit → Option Value) : Prop where
  ok : ∀ t ∈ l, okI (tupPer t).from_ ∧ okI (tupPer t).to_
  p1 : ∀ kl v, mp kl = some v → ∃ t ∈ l, kl = perKey (tupPer t) ∧ OwnOf Rep.tup w S base T v (ofPer l (tupPer t))
  p2 : ∀ t ∈ l, (mp (perKey (tupPer t))).isSome = true
  ap : ∀ kl kl' v v', kl ≠ kl' → mp kl = some v → mp kl' = some v' → Apart v v'
section
variable {w w' : World} {S : Nat → Prop} {base : Nat} {T : TypeId} {l : List Tup} {mp : Lit → Option Value}
theorem CInv.nil (w : World) (S : Nat → Prop) (base : Nat) (T : TypeId) : CInv w S base T [] (fun _ => none) := ⟨fun _ h => (by cases h), fun _ _ h => (by cases h), fun _ h => (by cases h), fun _ _ _ _ _ h => (by cases h)⟩
theorem CInv.keep (h : CInv w S base T l mp) {row : Option Nat} (gr : w.grownBy w' row) (hS : ∀ k, S k → row ≠ some k) (hr : ∀ k, row = some k → k < base ∨ w.heap.size ≤ k) : CInv w' S base T l mp :=
  ⟨h.ok, fun kl v hm => by
    obtain ⟨t, h1, h2, h3⟩ := h.p1 kl v hm
    exact ⟨t, h1, h2, own_grown h3 gr hS fun k hk e => by have := h3.lt k hk; have := hr k e; omega⟩, h.p2, h.ap⟩
theorem CInv.ext (h : CInv w S base T l mp) (hx : Ext w w') : CInv w' S base T l mp := h.keep (Ext.grows hx) (fun k _ e => by cases e) (fun k e => by cases e)
open Classical in
theorem CInv.own (h : CInv w S base T l mp) {p : Per} (hp : okI p.from_ ∧ okI p.to_) : OwnOf Rep.tup w S base T ((mp (perKey p)).getD (.slice none 0 0)) (ofPer l p) := by
  cases hm : mp (perKey p) with
  | some v =>
    obtain ⟨t, h1, h2, h3⟩ := h.p1 _ v hm
    rw [perKey_inj hp (h.ok t h1) h2]
    exact h3
  | none =>
    have : ofPer l p = [] := by
      unfold ofPer
      rw [List.filter_eq_nil_iff]
      intro t ht hc
      have h2 := h.p2 t ht
      rw [of_decide_eq_true hc, hm] at h2
      cases h2
    rw [this]
    exact OwnOf.nil _ _ _ _ _
theorem CInv.apart (h : CInv w S base T l mp) {p : Per} {kl : Lit} {v : Value} (hne : kl ≠ perKey p) (hm : mp kl = some v) : Apart v ((mp (perKey p)).getD (.slice none 0 0)) := by
  cases hr : mp (perKey p) with
  | some u => exact h.ap kl _ v u hne hm hr
  | none => exact fun k _ e => by cases e
open Classical in
theorem CInv.step (h : CInv w S base T l mp) {t : Tup} (ht : okI (tupPer t).from_ ∧ okI (tupPer t).to_) {g a b : Nat} (own : OwnOf Rep.tup w' S base T (.slice (some ⟨g, 0, none⟩) a b) (ofPer l (tupPer t) ++ [t])) (gr : w.grownBy w' ((mp (perKey (tupPer t))).getD (.slice none 0 0)).ownBlock)
    (hS : ∀ k, S k → ((mp (perKey (tupPer t))).getD (.slice none 0 0)).ownBlock ≠ some k) (hg : ((mp (perKey (tupPer t))).getD (.slice none 0 0)).ownBlock = some g ∨ g = w.heap.size) :
    CInv w' S base T (l ++ [t]) (putV mp (perKey (tupPer t)) (.slice (some ⟨g, 0, none⟩) a b)) := by
  have hyes : ofPer (l ++ [t]) (tupPer t) = ofPer l (tupPer t) ++ [t] := by
    unfold ofPer
    rw [List.filter_append, List.filter_cons, if_pos (decide_eq_true rfl)]
    rfl
  have hno : ∀ p, p ≠ tupPer t → ofPer (l ++ [t]) p = ofPer l p := fun p hp => by
    unfold ofPer
    rw [List.filter_append, List.filter_cons, if_neg (by simpa using fun e => hp e.symm)]
    simp
  refine ⟨fun u hu => ?_, fun kl v hm => ?_, fun u hu => ?_, fun kl kl' v v' hne hm hm' => ?_⟩
  · rcases List.mem_append.1 hu with hu | hu
    · exact h.ok u hu
    · rw [List.mem_singleton] at hu; subst hu; exact ht
  · by_cases e : kl = perKey (tupPer t)
    · subst e
      rw [putV_same] at hm
      exact ⟨t, by simp, rfl, by rw [hyes, ← Option.some.inj hm]; exact own⟩
    · rw [putV_other _ _ e] at hm
      obtain ⟨u, h1, h2, h3⟩ := h.p1 kl v hm
      refine ⟨u, List.mem_append_left _ h1, h2, ?_⟩
      rw [hno _ fun c => e (by rw [h2, c])]
      exact own_grown h3 gr hS fun k hk e2 => h.apart e hm k hk e2
  · by_cases e : perKey (tupPer u) = perKey (tupPer t)
    · rw [e, putV_same]; rfl
    · rw [putV_other _ _ e]
      rcases List.mem_append.1 hu with hu | hu
      · exact h.p2 u hu
      · rw [List.mem_singleton] at hu; subst hu; exact absurd rfl e
  · by_cases e : kl = perKey (tupPer t)
    · by_cases e' : kl' = perKey (tupPer t)
      · exact absurd (e.trans e'.symm) hne
      · subst e
        rw [putV_same] at hm
        rw [putV_other _ _ e'] at hm'
        obtain ⟨u, _, _, h3⟩ := h.p1 kl' v' hm'
        rw [← Option.some.inj hm]
        exact ((h.apart e' hm').grow (fun k hk => (h3.lt k hk).2) hg).symm
    · rw [putV_other _ _ e] at hm
      obtain ⟨u, _, _, h3⟩ := h.p1 kl v hm
      by_cases e' : kl' = perKey (tupPer t)
      · subst e'
        rw [putV_same] at hm'
        rw [← Option.some.inj hm']
        exact (h.apart e hm).grow (fun k hk => (h3.lt k hk).2) hg
      · rw [putV_other _ _ e'] at hm'
        exact h.ap kl kl' v v' hne hm hm'
end
end Go.Proofs.YtdgpbpbjlnlijaaGreatDoor

/- tuple.Boundaries, group.clip -/
namespace Go.Proofs.YtdgpbpbjlnlijaaGreatDoor
open Go.RowKit

theorem bnd_take (l : List Tup) (k : Nat) (h : k < l.length) : bnd (l.take (k + 1)) = bnd (l.take k) ++ if validB l[k].from_ l[k].to_ = true then [l[k].from_, l[k].to_] else [] := by
  rw [List.take_succ_eq_append_getElem h, bnd_append]
  simp only [bnd, List.flatMap_cons, List.flatMap_nil, List.append_nil]
  rfl

set_option maxRecDepth 100000 in
set_option maxHeartbeats 4000000 in
theorem bounds_any (v : Value) (l : List Tup) (w : World) (hv : SliceOf Rep.tup w.cell? v l) (hl : l.length ≤ 1048576) :
    Calls Tryz.prog 44 #[v] w fun e w' => ∃ v', e = .returned v' ∧ OwnOf Rep.int w' (fun _ => True) w.heap.size 3 v' (pts l) ∧ Ext w w' := by
  obtain ⟨i2, hi2, hz20, hz21, hz22⟩ := info_parts info_ints
  obtain ⟨p, cap, rfl, hc1, hc2, hp⟩ := hv.form
  obtain ⟨N, hN⟩ : ∃ N, N = l.length := ⟨_, rfl⟩
  have HV := Lib.hid hv
  rw [← hN]
  have HN := Lib.hid hN
  have HP := Lib.hid hp
  have hNl : N ≤ 1048576 := by omega
  clear hv hN hp hc1 hc2 hl
  go_enter Tryz.func44, Tryz.ntmps44
  go_wp2_with fail
  go_loopg [3, 8] N (fun gk vo vi wr => ∃ (k : Nat) (u : Value) (o : List Int), k ≤ N ∧ gk = N - k ∧ vi = .int .i64 k ∧ u = vo ∧ Hid (OwnOf Rep.int wr (fun _ => True) w.heap.size 3 u o) ∧ Hid (o = bnd (l.take k)) ∧ Ext w wr)
  case atStart => exact ⟨0, _, [], by omega, rfl, rfl, rfl, OwnOf.nil _ _ _ _ _, rfl, Ext.refl w⟩
  case round =>
    obtain ⟨k, u, o, hk, rfl, rfl, rfl, OW, AS, hx⟩ := hrel
    by_cases hlt : k < N
    · have hkl : k < l.length := by have := HN.out; omega
      obtain ⟨b, o', rfl⟩ := HP.out (by decide) (by omega)
      have hv := HV.out
      rw [← HN.out] at hv
      obtain ⟨ta, tb, c0, c1, c2, c3, g0, g1, r1, r2⟩ := tup_at hv k hkl
      obtain ⟨pa, ka, ta', _⟩ := g0.form
      obtain ⟨pb, kb, tb', _⟩ := g1.form
      subst ta' tb'
      replace c0 := hx.at c0
      replace c1 := hx.at c1
      replace c2 := hx.at c2
      replace c3 := hx.at c3
      have hst := bnd_take l k hkl
      have hol : o.length ≤ 2097152 := by
        have h2 := bnd_len (l.take k)
        have h3 := List.length_take_le k l
        rw [AS.out]
        omega
      rw [← AS.out] at hst
      generalize l[k].from_ = f at c1 hst r1
      generalize l[k].to_ = t at c2 hst r2
      generalize l[k].vals.length = na at c0
      generalize l[k].lin.length = nb at c3
      have HST := Lib.hid hst
      have HR := Lib.hid (show okI f ∧ okI t from ⟨r1, r2⟩)
      have B1 : o.length + 2 ≤ maxLen := by unfold maxLen; omega
      have B2 : (o.length + 2) * 8 ≤ 140737488355328 := by omega
      have hd : decide ((k : Int) < (N : Int)) = true := by simp; omega
      have e0 := cell_lt c0
      clear hst g0 g1 r1 r2 hv hol
      go_wp2_with fail
      refine (valid_any f t _).mono ?_
      rintro e w1 ⟨rfl, x1⟩
      have d1 : w1.cell? ⟨wr.heap.size, 1, none⟩ = some (.int .i64 f) := x1.at (by go_simp)
      have d2 : w1.cell? ⟨wr.heap.size, 2, none⟩ = some (.int .i64 t) := x1.at (by go_simp)
      have X1 := Lib.hid (show Ext wr w1 from ((Ext.refl wr).alloc _).trans x1)
      have e1 := cell_lt d1
      clear x1 c0 c1 c2 c3 e0
      cases hvb : validB f t with
      | true =>
        have HVB := Lib.hid hvb
        clear hvb
        go_wp2_with (at_builtin; refine wpList_append_all Rep.int (fun _ => True) rfl _ _ 24 rfl w.heap.size 3 i2 _ 8 Tryz.underlying24 hi2 hz20 hz21 hz22 rfl (by decide) u o rfl (OW.out.ext (X1.out.alloc _)) _ [f, t] rfl (lit_new (R := Rep.int) w1 [.int .i64 f, .int .i64 t] 3 [[.int .i64 f], [.int .i64 t]] [f, t] rfl (fun _ => ⟨⟨rfl, HR.out.1⟩, ⟨rfl, HR.out.2⟩, trivial⟩) (by simp [maxLen]) (fun x hx => Nat.lt_of_lt_of_le (OW.out.lt x hx).2 X1.out.size)) B1 B2 (by exact (hx.trans (X1.out.alloc _)).size) ?_)
        intro v3 w3 own gr _
        have hxx : Ext w w3 := Ext.grownNew (hx.trans (X1.out.alloc _)) gr OW.out.base
        have OW2 := Lib.hid own
        clear own gr d1 d2 e1
        go_wp2_with fail
        go_roundg (N - (k + 1))
        case measure => omega
        case rel => exact ⟨k + 1, v3, _, by omega, rfl, by go_num, rfl, OW2.out, by show _ = _; rw [HST.out, if_pos HVB.out], hxx⟩
      | false =>
        have HVB := Lib.hid hvb
        clear hvb
        go_wp2_with fail
        go_roundg (N - (k + 1))
        case measure => omega
        case rel => exact ⟨k + 1, u, o, by omega, rfl, by go_num, rfl, OW.out.ext X1.out, by show _ = _; rw [HST.out, HVB.out, if_neg (by decide), List.append_nil], hx.trans X1.out⟩
    · have hkN : k = N := by omega
      have hd : ¬ (k : Int) < (N : Int) := by omega
      have HF := Lib.hid (show o = bnd l from by
        have h := AS.out
        rw [hkN, HN.out, List.take_length] at h
        exact h)
      have hol : o.length ≤ 2097152 := by
        have h2 := bnd_len l
        have := HN.out
        rw [HF.out]
        omega
      have HOL := Lib.hid hol
      clear hkN hol
      go_wp2_with fail
      refine (sort_ints (fun _ => True) _ _ _ _ _ OW.out (by have := HOL.out; omega)).mono ?_
      rintro e w4 ⟨rfl, own4, gr4⟩
      have X4 := Lib.hid (Ext.grownNew hx gr4 OW.out.base)
      have OW4 := Lib.hid own4
      clear own4 gr4
      go_wp2_with fail
      refine (compact_ints (fun _ => True) _ _ _ _ _ OW4.out).mono ?_
      rintro e w5 ⟨v5, rfl, own5, gr5⟩
      have X5 := Lib.hid (Ext.grownNew X4.out gr5 OW4.out.base)
      have OW5 := Lib.hid (show OwnOf Rep.int w5 (fun _ => True) w.heap.size 3 v5 (pts l) from by
        have h : pts l = Lib.compact (o.mergeSort fun x y => decide (x ≤ y)) := by unfold pts mergeL; rw [List.append_nil, HF.out]
        rw [h]
        exact own5)
      clear own5 gr5
      go_wp2_with fail
      go_ret
      exact ⟨v5, rfl, OW5.out, X5.out⟩

end Go.Proofs.YtdgpbpbjlnlijaaGreatDoor

/- splitter.Align, join.InnerAligned -/
namespace Go.Proofs.YtdgpbpbjlnlijaaGreatDoor
open Go.RowKit Go.Maps

set_option maxRecDepth 100000 in
theorem align_any (va vb : Value) (a b : List Tup) (w : World) (ha : SliceOf Rep.tup w.cell? va a) (hb : SliceOf Rep.tup w.cell? vb b) (hla : a.length ≤ 50) (hlb : b.length ≤ 50) (hf : ∀ t ∈ a, t.vals.length ≤ 1048576 ∧ t.lin.length ≤ 1048576) :
    Calls Tryz.prog 74 #[va, vb] w fun e w' => ∃ v', e = .returned v' ∧ OwnOf Rep.tup w' (fun _ => True) w.heap.size 77 v' (splitT a (pts b)) ∧ Ext w w' := by
  have HA := Lib.hid ha
  have HB := Lib.hid hb
  have HF := Lib.hid hf
  have hpl : (pts b).length ≤ 100 := by
    have h1 := (pts_law b).2.2
    have h2 := bnd_len b
    omega
  have hsp := sortI_pts b
  obtain ⟨P, hP⟩ : ∃ z, z = pts b := ⟨_, rfl⟩
  rw [← hP] at hpl hsp ⊢
  have HP := Lib.hid hP
  have HPL := Lib.hid hpl
  have HSP := Lib.hid hsp
  obtain ⟨pa, ca, rfl, _⟩ := ha.form
  obtain ⟨pb, cb, rfl, _⟩ := hb.form
  clear ha hb hf hpl hsp hP
  go_enter Tryz.func74, Tryz.ntmps74
  go_wp2_with fail
  refine (bounds_any _ b _ HB.out (by omega)).mono ?_
  rintro e w1 ⟨u1, rfl, o1, x1⟩
  rw [← HP.out] at o1
  have s1 := o1.slice
  obtain ⟨p1, c1, rfl, _⟩ := s1.form
  have S1 := Lib.hid s1
  have X1 := Lib.hid x1
  clear s1 o1 x1
  go_wp2_with fail
  refine (split_any _ _ a P _ (HA.out.ext X1.out.full) S1.out hla HPL.out HF.out).mono ?_
  rintro e w2 ⟨u2, rfl, o2, x2⟩
  rw [HSP.out] at o2
  have T2 := Lib.hid (o2.weak (T := fun _ => True) (base' := w.heap.size) (fun _ _ h => h) X1.out.size)
  have X2 := Lib.hid (X1.out.trans x2)
  clear o2 x2 X1
  go_wp2_with fail
  go_ret
  exact ⟨u2, rfl, T2.out, X2.out⟩

theorem MapV.noCell {w : World} {P : Program} {k : TypeId} {S : Value → Prop} {b n : Nat} {m : Lit → Option Value} (h : MapV w P k S b n m) {p : Addr} {v : Value} (hc : w.cell? p = some v) : p.block ≠ b := by
  obtain ⟨D, ⟨es, c, hb, _⟩, _⟩ := h
  intro e
  obtain ⟨b', o, sp⟩ := p
  dsimp only at e
  subst e
  unfold World.cell? at hc
  simp [hb] at hc
theorem off_map {w : World} {P : Program} {k : TypeId} {S : Value → Prop} {b n : Nat} {m : Lit → Option Value} (h : MapV w P k S b n m) : Sub w.cell? (on w (fun x => x ≠ b)) := fun _ _ e => on_some.2 ⟨h.noCell e, e⟩
theorem cutT_len2 (t : Tup) : ∀ (P : List Int) (f : Int), (cutT t f P).length ≤ (P.filter fun p => decide (f < p) && decide (p < t.to_)).length + 1 := by
  intro P
  induction P with
  | nil => intro f; exact Nat.le_refl _
  | cons p P ih =>
    intro f
    unfold cutT
    split
    · exact Nat.le_add_left _ _
    split
    · rename_i c1 c2
      have h1 := ih p
      have h2 : (P.filter fun q => decide (p < q) && decide (q < t.to_)).length ≤ (P.filter fun q => decide (f < q) && decide (q < t.to_)).length := by
        rw [← List.countP_eq_length_filter, ← List.countP_eq_length_filter]
        exact List.countP_mono_left fun q _ h => by simp at h ⊢; omega
      rw [List.filter_cons, if_pos (by simp; omega), List.length_cons, List.length_cons]
      omega
    · rename_i c1 c2
      rw [List.filter_cons, if_neg (by simp; omega)]
      exact ih f
theorem filt_lt {α : Type} {q : α → Bool} {z : α} : ∀ {P : List α}, z ∈ P → q z = false → (P.filter q).length + 1 ≤ P.length := by
  intro P
  induction P with
  | nil => intro h; cases h
  | cons a P ih =>
    intro h hq
    rw [List.filter_cons, List.length_cons]
    have hle : (P.filter q).length ≤ P.length := List.length_filter_le _ _
    rcases List.mem_cons.1 h with e | h1
    · subst e
      rw [if_neg (by simp [hq])]
      omega
    · have := ih h1 hq
      split
      · rw [List.length_cons]; omega
      · omega
theorem two_out {P : List Int} {q : Int → Bool} {x y : Int} (hx : x ∈ P) (hy : y ∈ P) (hne : x ≠ y) (h1 : q x = false) (h2 : q y = false) : (P.filter q).length + 2 ≤ P.length := by
  induction P with
  | nil => cases hx
  | cons a P ih =>
    rw [List.filter_cons, List.length_cons]
    rcases List.mem_cons.1 hx with e1 | hx1
    · rcases List.mem_cons.1 hy with e2 | hy1
      · exact absurd (e1.trans e2.symm) hne
      · subst e1
        have := filt_lt hy1 h2
        rw [if_neg (by simp [h1])]
        omega
    · rcases List.mem_cons.1 hy with e2 | hy1
      · subst e2
        have := filt_lt hx1 h1
        rw [if_neg (by simp [h2])]
        omega
      · have := ih hx1 hy1
        split
        · rw [List.length_cons]; omega
        · omega
theorem splitT_len2 (l : List Tup) {P : List Int} (hb : ∀ x ∈ bnd l, x ∈ P) : (splitT l P).length ≤ l.length * (P.length - 1) := by
  have h : ∀ m : List Tup, (∀ t ∈ m, t ∈ l) → (splitT m P).length ≤ m.length * (P.length - 1) := fun m => by
    induction m with
    | nil => intro _; exact Nat.zero_le _
    | cons t m ih =>
      intro hm
      have h1 := ih fun u hu => hm u (by simp [hu])
      have e : splitT (t :: m) P = (if validT t = true then cutT t t.from_ P else []) ++ splitT m P := rfl
      rw [e, List.length_append, List.length_cons, Nat.succ_mul]
      have h2 : (if validT t = true then cutT t t.from_ P else []).length ≤ P.length - 1 := by
        split
        · rename_i c
          obtain ⟨b1, b2⟩ := bnd_mem (hm t (by simp)) c
          have hv := validB_lt (show validB t.from_ t.to_ = true from c)
          have h3 := cutT_len2 t P t.from_
          have h4 := two_out (q := fun p => decide (t.from_ < p) && decide (p < t.to_)) (hb _ b1) (hb _ b2) (by omega) (by simp) (by simp)
          omega
        · exact Nat.zero_le _
      omega
  exact h l fun _ h => h
theorem alignRow_len (tr : List Val → Bool) (B : List Tup) (x : Tup) : (alignRow tr B x).length ≤ B.length := by
  unfold alignRow
  refine Nat.le_trans (List.length_filter_le _ _) ?_
  rw [List.length_map]
  exact List.length_filter_le _ _
theorem alignRaw_len (tr : List Val → Bool) (A B : List Tup) : (alignRaw tr A B).length ≤ A.length * B.length := by
  unfold alignRaw
  induction A with
  | nil => exact Nat.zero_le _
  | cons x A ih =>
    rw [List.flatMap_cons, List.length_append, List.length_cons, Nat.succ_mul]
    have := alignRow_len tr B x
    omega
theorem align_fit {tr : List Val → Bool} {A B : List Tup} (ha : fewT A) (hb : fewT B) : ∀ t ∈ alignRaw tr A B, t.vals.length ≤ 2000 ∧ (∀ x ∈ t.vals, x.s.size ≤ 1048576) ∧ t.lin.length ≤ 2000 := by
  intro t ht
  unfold alignRaw at ht
  obtain ⟨x, hx, ht⟩ := List.mem_flatMap.1 ht
  unfold alignRow at ht
  obtain ⟨y, hy, rfl⟩ := List.mem_map.1 (List.mem_filter.1 ht).1
  obtain ⟨h1, h2, h3⟩ := ha x hx
  obtain ⟨h4, h5, h6⟩ := hb y (List.mem_filter.1 hy).1
  refine ⟨?_, fun z hz => ?_, ?_⟩
  · show (x.vals ++ y.vals).length ≤ _
    rw [List.length_append]; omega
  · rcases List.mem_append.1 (show z ∈ x.vals ++ y.vals from hz) with hz | hz
    · exact h2 z hz
    · exact h5 z hz
  · show (mergeL x.lin y.lin).length ≤ _
    have := merge_len x.lin y.lin
    omega
theorem split_few {l : List Tup} (h : fewT l) (P : List Int) : fewT (splitT l P) := by
  intro y hy
  unfold splitT at hy
  obtain ⟨t, ht, hy⟩ := List.mem_flatMap.1 hy
  split at hy
  · have key : ∀ (P : List Int) (f : Int), ∀ y ∈ cutT t f P, y.vals = t.vals ∧ y.lin = t.lin := by
      intro P
      induction P with
      | nil => intro f y hy; rw [cutT, List.mem_singleton] at hy; subst hy; exact ⟨rfl, rfl⟩
      | cons p P ih =>
        intro f y hy
        rw [cutT] at hy
        split at hy
        · rw [List.mem_singleton] at hy; subst hy; exact ⟨rfl, rfl⟩
        split at hy
        · rcases List.mem_cons.1 hy with rfl | hy
          · exact ⟨rfl, rfl⟩
          · exact ih p y hy
        · exact ih f y hy
    obtain ⟨e1, e2⟩ := key P _ y hy
    have := h t ht
    rw [e1, e2]
    exact this
  · cases hy
theorem zero_slU (w : World) : (zeroValue 22).run Tryz.prog w = .ok (.slice none 0 0) w := by kernel_rfl

/-- the aligned join after k pieces of the left relation and j of the pieces with that period -/
noncomputable def aliUpto (tr : List Val → Bool) (A B : List Tup) (k : Nat) : List Tup := (A.take k).flatMap (alignRow tr B)
theorem aliUpto_snoc (tr : List Val → Bool) (A B : List Tup) (k : Nat) (h : k < A.length) : aliUpto tr A B (k + 1) = aliUpto tr A B k ++ alignRow tr B A[k] := by
  unfold aliUpto
  rw [List.take_succ_eq_append_getElem h, List.flatMap_append, List.flatMap_cons, List.flatMap_nil, List.append_nil]
theorem aliUpto_len (tr : List Val → Bool) (A B : List Tup) (k : Nat) : (aliUpto tr A B k).length ≤ A.length * B.length := by
  have h := alignRaw_len tr (A.take k) B
  exact Nat.le_trans h (Nat.mul_le_mul_right _ (List.length_take_le' _ _))
def rowUpto (tr : List Val → Bool) (x : Tup) (L : List Tup) (j : Nat) : List Tup := ((L.take j).map fun y => tupOf (pairRow (tupRow x) (tupRow y)) (tupPer x)).filter fun z => tr z.vals
theorem rowUpto_no (tr : List Val → Bool) (x : Tup) (L : List Tup) (j : Nat) (h : j < L.length) (hn : tr (x.vals ++ L[j].vals) = false) : rowUpto tr x L (j + 1) = rowUpto tr x L j := by
  unfold rowUpto
  rw [List.take_succ_eq_append_getElem h, List.map_append, List.filter_append, List.map_cons, List.map_nil, List.filter_cons, List.filter_nil, if_neg (by show ¬ tr (x.vals ++ L[j].vals) = true; rw [hn]; decide), List.append_nil]
theorem rowUpto_yes (tr : List Val → Bool) (x : Tup) (L : List Tup) (j : Nat) (h : j < L.length) (hn : tr (x.vals ++ L[j].vals) = true) : rowUpto tr x L (j + 1) = rowUpto tr x L j ++ [⟨x.vals ++ L[j].vals, x.from_, x.to_, mergeL x.lin L[j].lin⟩] := by
  unfold rowUpto
  rw [List.take_succ_eq_append_getElem h, List.map_append, List.filter_append, List.map_cons, List.map_nil, List.filter_cons, List.filter_nil, if_pos (show tr (tupOf (pairRow (tupRow x) (tupRow L[j])) (tupPer x)).vals = true from hn)]
  rfl
theorem rowUpto_len (tr : List Val → Bool) (x : Tup) (L : List Tup) (j : Nat) : (rowUpto tr x L j).length ≤ L.length := by
  unfold rowUpto
  refine Nat.le_trans (List.length_filter_le _ _) ?_
  rw [List.length_map]
  exact List.length_take_le' _ _
theorem rowUpto_all (tr : List Val → Bool) (B : List Tup) (x : Tup) (j : Nat) (h : (ofPer B (tupPer x)).length ≤ j) : rowUpto tr x (ofPer B (tupPer x)) j = alignRow tr B x := by
  unfold rowUpto alignRow
  rw [List.take_of_length_le h]
  rfl
theorem ofPer_len (B : List Tup) (p : Per) : (ofPer B p).length ≤ B.length := List.length_filter_le _ _
theorem ofPer_few {B : List Tup} (h : fewT B) (p : Per) : fewT (ofPer B p) := fun t ht => h t (List.mem_filter.1 ht).1
end Go.Proofs.YtdgpbpbjlnlijaaGreatDoor

/- join.InnerAligned -/
namespace Go.Proofs.YtdgpbpbjlnlijaaGreatDoor
open Go.RowKit Go.Maps

set_option maxRecDepth 100000 in
set_option maxHeartbeats 8000000 in
theorem innerAligned_any (va vb : Value) (a b : List Tup) (ve : Value) (es : List ExprI) (pred : Int) (w : World) (ha : SliceOf Rep.tup w.cell? va a) (hb : SliceOf Rep.tup w.cell? vb b) (hla : a.length ≤ 8) (hlb : b.length ≤ 8)
    (he : SliceOf Rep.expr w.cell? ve es) (hel : es.length ≤ 1000) (hfa : fewT a) (hfb : fewT b) (hT : TabW w) :
    Calls Tryz.prog 32 #[va, vb, ve, .int .i64 pred] w fun e w' => ∃ v', e = .returned v' ∧ SliceOf Rep.tup (on w' (since w)) v' (innerT (trE es pred) a b) ∧ Ext w w' := by
  obtain ⟨i2, hi2, hz20, hz21, hz22⟩ := info_parts infoTup
  have hmm := @run_makeMap Tryz.prog
  have HMM := Lib.hid hmm
  have HA := Lib.hid ha
  have HB := Lib.hid hb
  have HE := Lib.hid he
  have HT := Lib.hid hT
  have HFA := Lib.hid hfa
  have HFB := Lib.hid hfb
  have HEL := Lib.hid hel
  have HLL := Lib.hid (And.intro hla hlb)
  obtain ⟨pa, ca, rfl, _⟩ := ha.form
  obtain ⟨qb, cb, rfl, _⟩ := hb.form
  obtain ⟨pe, ce, rfl, _⟩ := he.form
  obtain ⟨n, hn⟩ : ∃ n, n = a.length := ⟨_, rfl⟩
  obtain ⟨m, hm⟩ : ∃ m, m = b.length := ⟨_, rfl⟩
  rw [← hn] at HA ⊢
  rw [← hm] at HB ⊢
  have HN := Lib.hid hn
  have HM := Lib.hid hm
  have HLIT := Lib.hid (show SliceOf (Rep.slice Rep.tup) (w.alloc (.cells #[.slice pa n ca, .slice qb m cb] 22)).cell? (.slice (some ⟨w.heap.size, 0, none⟩) 2 2) [a, b] from
    slice_lit (Rep.slice Rep.tup) w [.slice pa n ca, .slice qb m cb] 22 [[.slice pa n ca], [.slice qb m cb]] [a, b] rfl ⟨⟨_, rfl, HA.out.ext ((Ext.refl w).alloc _).full⟩, ⟨_, rfl, HB.out.ext ((Ext.refl w).alloc _).full⟩, trivial⟩ (by simp [maxLen]))
  have HFL := Lib.hid (show ([a, b] : List (List Tup)).flatten = a ++ b from by simp)
  obtain ⟨tr, htr⟩ : ∃ tr, tr = trE es pred := ⟨_, rfl⟩
  have HTR := Lib.hid htr
  rw [← htr, ← aligned]
  obtain ⟨P, hP⟩ : ∃ P, P = pts (a ++ b) := ⟨_, rfl⟩
  have hPl : P.length ≤ 32 := by
    have h1 := (pts_law (a ++ b)).2.2
    have h2 := bnd_len (a ++ b)
    rw [List.length_append] at h2
    rw [hP]
    show (pts (a ++ b)).length ≤ 32
    omega
  have hpa : ∀ x ∈ bnd a, x ∈ P := fun x hx => by rw [hP]; exact ((pts_law (a ++ b)).2.1 x).2 (by rw [bnd_append]; exact List.mem_append_left _ hx)
  have hpb : ∀ x ∈ bnd b, x ∈ P := fun x hx => by rw [hP]; exact ((pts_law (a ++ b)).2.1 x).2 (by rw [bnd_append]; exact List.mem_append_right _ hx)
  rw [← hP]
  have hAl := splitT_len2 a hpa
  have hBl := splitT_len2 b hpb
  have hAl2 : a.length * (P.length - 1) ≤ 8 * 31 := Nat.mul_le_mul hla (by omega)
  have hBl2 : b.length * (P.length - 1) ≤ 8 * 31 := Nat.mul_le_mul hlb (by omega)
  obtain ⟨A, hA⟩ : ∃ A, A = splitT a P := ⟨_, rfl⟩
  obtain ⟨B, hBB⟩ : ∃ B, B = splitT b P := ⟨_, rfl⟩
  have hfA : fewT A := by rw [hA]; exact split_few hfa P
  have hfB : fewT B := by rw [hBB]; exact split_few hfb P
  rw [← hA, ← hBB]
  rw [← hA] at hAl
  rw [← hBB] at hBl
  have HP := Lib.hid hP
  have HAA := Lib.hid hA
  have HBB := Lib.hid hBB
  have HFA' := Lib.hid hfA
  have HFB' := Lib.hid hfB
  have HAL := Lib.hid (show A.length ≤ 248 by omega)
  have HBL := Lib.hid (show B.length ≤ 248 by omega)
  clear ha hb he hT hn hm hla hlb hel hfa hfb htr hP hPl hpa hpb hAl hBl hAl2 hBl2 hA hBB hfA hfB hmm
  go_enter Tryz.func32, Tryz.ntmps32
  go_wp2_with fail
  refine (concat_tup _ [a, b] _ HLIT.out (by rw [HFL.out, List.length_append]; have := HLL.out; omega)).mono ?_
  rintro e w1 ⟨u1, rfl, o1, x1⟩
  rw [HFL.out] at o1
  have s1 := o1.slice
  obtain ⟨p1, c1, rfl, _⟩ := s1.form
  have S1 := Lib.hid s1
  have X1 := Lib.hid (((Ext.refl w).alloc _).trans x1)
  obtain ⟨nab, hnab⟩ : ∃ z, z = (a ++ b).length := ⟨_, rfl⟩
  rw [← hnab] at S1 ⊢
  have HNAB := Lib.hid hnab
  have hmm := HMM.out
  clear s1 o1 x1 HLIT hnab
  go_wp2_with fail
  have hMade := MapV.made w1 Tryz.prog 52 ShSl
  obtain ⟨mb, hmb⟩ : ∃ z, z = w1.heap.size := ⟨_, rfl⟩
  obtain ⟨w2, hw2⟩ : ∃ z, z = w1.alloc (.map #[] 0) := ⟨_, rfl⟩
  rw [← hmb, ← hw2] at hMade
  have X2 := Lib.hid (show Ext w w2 from by rw [hw2]; exact X1.out.alloc _)
  have x12 : Ext w1 w2 := by rw [hw2]; exact (Ext.refl w1).alloc _
  have S2 := Lib.hid (S1.out.ext x12.full)
  have MD := Lib.hid hMade
  have HMB := Lib.hid (show w.heap.size ≤ mb ∧ mb < w2.heap.size from ⟨by rw [hmb]; exact X1.out.size, hMade.lt⟩)
  try rw [← hmb]
  try rw [← hw2]
  clear hMade hmb hw2 x12 S1 X1 hmm
  go_wp2_with fail
  refine (align_any _ _ b (a ++ b) _ (HB.out.ext X2.out.full) S2.out (by have := HLL.out; omega) (by rw [List.length_append]; have := HLL.out; omega) HFB.out.long).mono ?_
  rintro e w3 ⟨u3, rfl, o3, x3⟩
  rw [← HP.out, ← HBB.out] at o3
  have MD3 := Lib.hid (MD.out.ext x3)
  have s3 := o3.slice.ext (off_map MD3.out)
  obtain ⟨p3, c3, rfl, _, _, hp3⟩ := s3.form
  obtain ⟨N, hN⟩ : ∃ N, N = B.length := ⟨_, rfl⟩
  rw [← hN] at s3 hp3 ⊢
  have S3 := Lib.hid s3
  have HP3 := Lib.hid hp3
  have HNB := Lib.hid hN
  have HNL : N ≤ 248 := by rw [hN]; exact HBL.out
  have X3 := Lib.hid (X2.out.trans x3)
  have S23 := Lib.hid ((S2.out.ext x3.full).ext (off_map MD3.out))
  have HM3 := Lib.hid (show w.heap.size ≤ mb ∧ mb < w3.heap.size from ⟨HMB.out.1, Nat.lt_of_lt_of_le HMB.out.2 x3.size⟩)
  clear o3 s3 hp3 hN x3 MD S2 X2 HMB
  go_wp2_with fail
  go_loopg [28] N (fun gk vi wr => ∃ (k : Nat) (mp : Lit → Option Value), k ≤ N ∧ gk = N - k ∧ vi = .int .i64 k ∧ Hid (MapV wr Tryz.prog 52 ShSl mb k mp) ∧ Hid (CInv wr (fun x => x < w3.heap.size ∧ x ≠ mb) w3.heap.size 77 (B.take k) mp) ∧ Hid (Chg (fun x => x = mb) w3 wr))
  case atStart => exact ⟨0, _, by omega, rfl, rfl, MD3.out, CInv.nil _ _ _ _, Chg.refl _ _⟩
  case round =>
    clear MD3
    obtain ⟨k, mp, hk, rfl, rfl, MP, CI, HC⟩ := hrel
    by_cases hlt : k < N
    · have hkl : k < B.length := by have := HNB.out; omega
      obtain ⟨bt, ot, rfl⟩ := HP3.out (by decide) (by omega)
      have hd : decide ((k : Int) < (N : Int)) = true := by simp; omega
      obtain ⟨ta, tb, c0, c1', c2, c3', g0, g1, r1, r2⟩ := tup_at (by have h := S3.out; rw [HNB.out] at h; exact h) k hkl
      have hst : B.take (k + 1) = B.take k ++ [B[k]] := List.take_succ_eq_append_getElem hkl
      generalize B[k] = y at c1' c2 g0 g1 r1 r2 hst
      obtain ⟨yv, yf, yt, yl⟩ := y
      dsimp only at c0 c1' c2 c3' g0 g1 r1 r2
      obtain ⟨n0, c0⟩ := on_some.1 c0
      have hne : bt ≠ mb := n0
      replace c0 := HC.out.at c0 hne
      replace c1' := HC.out.at (on_some.1 c1').2 hne
      replace c2 := HC.out.at (on_some.1 c2).2 hne
      replace c3' := HC.out.at (on_some.1 c3').2 hne
      obtain ⟨p4, k4, rfl, _⟩ := g0.form
      obtain ⟨p5, k5, rfl, _⟩ := g1.form
      obtain ⟨n4, hn4⟩ : ∃ z, z = yv.length := ⟨_, rfl⟩
      obtain ⟨n5, hn5⟩ : ∃ z, z = yl.length := ⟨_, rfl⟩
      rw [← hn4] at c0 g0
      rw [← hn5] at c3' g1
      have HST := Lib.hid hst
      have G0 := Lib.hid g0
      have G1 := Lib.hid g1
      have HRR := Lib.hid (show okI yf ∧ okI yt from ⟨r1, r2⟩)
      have e0 := cell_lt c0
      have HPK := Lib.hid (perKey_of ⟨yf, yt⟩ HRR.out)
      clear hst g0 g1 r1 r2 n0 hne hn4 hn5 hkl
      have xA : Ext wr ((wr.alloc (.cells #[.slice p4 n4 k4, .int .i64 yf, .int .i64 yt, .slice p5 n5 k5] 77)).alloc (.cells #[.slice p4 n4 k4, .int .i64 yf, .int .i64 yt, .slice p5 n5 k5] 77)) := ((Ext.refl wr).alloc _).alloc _
      obtain ⟨v0, st, ob, hrun1, hv0, hs0, hob, grB, hstore⟩ := entry_v per_law Tryz.underlying123 (fun u => zero_slU u) (S := ShSl) ⟨none, 0, 0, rfl⟩ (MP.out.ext xA) (by unfold maxLen; omega) HPK.out
      have HMB3 := HM3.out.2
      have HSZR := HC.out.size
      have hlit : ∀ j u, [.slice p4 n4 k4, .int .i64 yf, .int .i64 yt, .slice p5 n5 k5][j]? = some u → (ChangeMaps.setBlock ((wr.alloc (.cells #[.slice p4 n4 k4, .int .i64 yf, .int .i64 yt, .slice p5 n5 k5] 77)).alloc (.cells #[.slice p4 n4 k4, .int .i64 yf, .int .i64 yt, .slice p5 n5 k5] 77)) mb ob).cell? ((⟨wr.heap.size + 1, 0, none⟩ : Addr).add j) = some u := fun j u hj => by
        have h := cells_new2 wr (.cells #[.slice p4 n4 k4, .int .i64 yf, .int .i64 yt, .slice p5 n5 k5] 77) [.slice p4 n4 k4, .int .i64 yf, .int .i64 yt, .slice p5 n5 k5] 77 j u hj
        rw [add_lit] at h ⊢
        exact cell_grown grB h (fun x hx => by have := Option.some.inj hx; omega)
      have hcib : CInv (ChangeMaps.setBlock ((wr.alloc (.cells #[.slice p4 n4 k4, .int .i64 yf, .int .i64 yt, .slice p5 n5 k5] 77)).alloc (.cells #[.slice p4 n4 k4, .int .i64 yf, .int .i64 yt, .slice p5 n5 k5] 77)) mb ob) (fun x => x < w3.heap.size ∧ x ≠ mb) w3.heap.size 77 (B.take k) mp := (CI.out.ext xA).keep grB (fun x hx e => hx.2 (Option.some.inj e).symm) (fun x e => by have := Option.some.inj e; omega)
      have hown := hcib.own (p := ⟨yf, yt⟩) HRR.out
      rw [← hv0.out] at hown
      obtain ⟨p9, n9, c9, rfl⟩ := hs0
      have hdat : Sub (on w3 (fun x => x ≠ mb)) (on (ChangeMaps.setBlock ((wr.alloc (.cells #[.slice p4 n4 k4, .int .i64 yf, .int .i64 yt, .slice p5 n5 k5] 77)).alloc (.cells #[.slice p4 n4 k4, .int .i64 yf, .int .i64 yt, .slice p5 n5 k5] 77)) mb ob) (avoid (fun x => x < w3.heap.size ∧ x ≠ mb) (.slice p9 n9 c9))) := fun q v e => by
        obtain ⟨h1, h2⟩ := on_some.1 e
        have h1 : q.block ≠ mb := h1
        have h3 := World.block_lt_of_cell? w3 q h2
        exact on_some.2 ⟨⟨fun e2 => by have := (hown.lt _ e2.symm).1; omega, h3, h1⟩, grB.cell (xA.at (HC.out.at h2 h1)) (fun e2 => h1 (Option.some.inj e2))⟩
      have hszB : wr.heap.size + 2 ≤ (ChangeMaps.setBlock ((wr.alloc (.cells #[.slice p4 n4 k4, .int .i64 yf, .int .i64 yt, .slice p5 n5 k5] 77)).alloc (.cells #[.slice p4 n4 k4, .int .i64 yf, .int .i64 yt, .slice p5 n5 k5] 77)) mb ob).heap.size := by
        have h := grB.size
        have h2 : ((wr.alloc (.cells #[.slice p4 n4 k4, .int .i64 yf, .int .i64 yt, .slice p5 n5 k5] 77)).alloc (.cells #[.slice p4 n4 k4, .int .i64 yf, .int .i64 yt, .slice p5 n5 k5] 77)).heap.size = wr.heap.size + 1 + 1 := by simp
        omega
      have hcB : Chg (fun x => x = mb) w3 (ChangeMaps.setBlock ((wr.alloc (.cells #[.slice p4 n4 k4, .int .i64 yf, .int .i64 yt, .slice p5 n5 k5] 77)).alloc (.cells #[.slice p4 n4 k4, .int .i64 yf, .int .i64 yt, .slice p5 n5 k5] 77)) mb ob) := (HC.out.ext xA).grown grB (fun x e => .inl (Option.some.inj e).symm)
      generalize ChangeMaps.setBlock ((wr.alloc (.cells #[.slice p4 n4 k4, .int .i64 yf, .int .i64 yt, .slice p5 n5 k5] 77)).alloc (.cells #[.slice p4 n4 k4, .int .i64 yf, .int .i64 yt, .slice p5 n5 k5] 77)) mb ob = wB at hrun1 hob hlit hcib hown hdat hszB hcB
      have hol : (ofPer (B.take k) ⟨yf, yt⟩).length ≤ 248 := Nat.le_trans (ofPer_len _ _) (Nat.le_trans (List.length_take_le _ _) (by omega))
      obtain ⟨L9, hL9⟩ : ∃ z, z = ofPer (B.take k) ⟨yf, yt⟩ := ⟨_, rfl⟩
      rw [← hL9] at hown hol
      have HL9 := Lib.hid hL9
      have HV0 := Lib.hid hv0.out
      have HOB := Lib.hid hob
      have HSTO := Lib.hid hstore
      have HLIT2 := Lib.hid hlit
      have HCIB := Lib.hid hcib
      have HOWN := Lib.hid hown
      have HDAT := Lib.hid hdat
      have HCB := Lib.hid hcB
      have HSZB := Lib.hid (show w3.heap.size ≤ wB.heap.size from by omega)
      have B1 : L9.length + 1 ≤ maxLen := by unfold maxLen; omega
      have B2 : (L9.length + 1) * 64 ≤ 140737488355328 := by omega
      clear hv0 hob hstore hlit hcib hown hdat hcB hL9 hol grB hszB HSZR HMB3 xA MP CI HC
      go_wp2_with (at_builtin; go_loud (refine wpList_append_one Rep.tup (fun x => x < w3.heap.size ∧ x ≠ mb) rfl _ _ 22 rfl w3.heap.size 77 i2 _ 64 Tryz.underlying22 hi2 hz20 hz21 hz22 rfl (by decide) (.slice p9 n9 c9) L9 rfl HOWN.out ⟨_, 0, none⟩ 1 ⟨yv, yf, yt, yl⟩ [.slice p4 n4 k4, .int .i64 yf, .int .i64 yt, .slice p5 n5 k5] rfl ⟨_, _, rfl, G0.out.ext HDAT.out, G1.out.ext HDAT.out, HRR.out.1, HRR.out.2⟩ HLIT2.out B1 B2 HSZB.out ?_))
      intro g8 cap8 w8 own8 gr8 hg8
      have hbase8 : ∀ x, (Value.slice p9 n9 c9).ownBlock = some x → w3.heap.size ≤ x := fun x hx => (HOWN.out.lt x hx).1
      have hmb8 : w8.heap[mb]? = some ob := by
        rw [gr8.block mb (Nat.lt_of_lt_of_le HM3.out.2 HSZB.out) (fun e => by have := hbase8 mb e.symm; have := HM3.out.2; omega)]
        exact HOB.out
      obtain ⟨w9, hrun2, m9, gr9⟩ := HSTO.out w8 (.slice (some ⟨g8, 0, none⟩) (L9.length + 1) cap8) hmb8 ⟨_, _, _, rfl⟩
      unfold goInt at hrun2
      have M9 := Lib.hid m9
      have hmbI : ∀ x, (some mb : Option Nat) = some x → x = mb := fun x e => (Option.some.inj e).symm
      have CI8 := CInv.step HCIB.out (t := ⟨yv, yf, yt, yl⟩) HRR.out (g := g8) (a := L9.length + 1) (b := cap8) (w' := w8) (by show OwnOf _ _ _ _ _ _ (ofPer (B.take k) ⟨yf, yt⟩ ++ _); rw [← HL9.out]; exact own8) (by show World.grownBy _ _ (Option.getD (mp (perKey ⟨yf, yt⟩)) _).ownBlock; rw [← HV0.out]; exact gr8) (fun x hx e => by
        have e : (Option.getD (mp (perKey ⟨yf, yt⟩)) (.slice none 0 0)).ownBlock = some x := e
        rw [← HV0.out] at e
        have := hbase8 x e
        have := hx.1
        omega) (by show (Option.getD (mp (perKey ⟨yf, yt⟩)) _).ownBlock = _ ∨ _; rw [← HV0.out]; exact hg8)
      rw [← HST.out] at CI8
      have CI9 := Lib.hid (CI8.keep gr9 (fun x hx e => hx.2 (hmbI x e)) (fun x e => by have := hmbI x e; have := HM3.out.2; omega))
      have HC9 := Lib.hid ((HCB.out.grown gr8 (fun x e => .inr (hbase8 x e))).grown gr9 (fun x e => .inl (hmbI x e)))
      clear own8 gr8 hg8 hbase8 hmb8 m9 gr9 hmbI CI8 HOWN HDAT HCB HCIB HSTO HOB HLIT2 HV0 c0 c1' c2 c3' e0 hrun1
      go_wp2_with fail
      go_roundg (N - (k + 1))
      case measure => omega
      case rel => exact ⟨k + 1, _, by omega, rfl, by go_num, M9.out, CI9.out, HC9.out⟩
    · have hkN : k = N := by omega
      have hd : ¬ (k : Int) < (N : Int) := by omega
      have hxw : Ext w wr := Chg.below HC.out X3.out (fun x e => by have e : x = mb := e; have := HM3.out.1; omega)
      have hci : CInv wr (fun x => x < w3.heap.size ∧ x ≠ mb) w3.heap.size 77 B mp := by
        have h := CI.out
        rw [hkN, HNB.out, List.take_length] at h
        exact h
      have HXW := Lib.hid hxw
      have CI2 := Lib.hid hci
      have SB2 := Lib.hid ((S23.out.chg HC.out (fun x hx e => hx e)).ext (on_sub _ _))
      have HSW := Lib.hid (show w3.heap.size ≤ wr.heap.size from HC.out.size)
      clear hxw hci CI HC S23
      subst hkN
      go_wp2_with fail
      refine (align_any _ _ a (a ++ b) _ (HA.out.ext HXW.out.full) SB2.out (by have := HLL.out; omega) (by rw [List.length_append]; have := HLL.out; omega) HFA.out.long).mono ?_
      rintro e w5 ⟨u5, rfl, o5, x5⟩
      rw [← HP.out, ← HAA.out] at o5
      have s5 := o5.slice
      obtain ⟨p6, c6, rfl, _, _, hp6⟩ := s5.form
      obtain ⟨M, hM⟩ : ∃ M, M = A.length := ⟨_, rfl⟩
      rw [← hM] at s5 hp6 ⊢
      have S5 := Lib.hid s5
      have HP6 := Lib.hid hp6
      have HMA := Lib.hid hM
      have HML : M ≤ 248 := by rw [hM]; exact HAL.out
      have M5 := Lib.hid (MP.out.ext x5)
      have CI5 := Lib.hid (CI2.out.ext x5)
      have X5 := Lib.hid (HXW.out.trans x5)
      have HS5 := Lib.hid (show w.heap.size ≤ w5.heap.size from X5.out.size)
      clear o5 s5 hp6 hM x5 MP CI2 SB2 HXW
      go_wp2_with fail
      go_loopg [13, 46] M (fun gk vo vi wq => ∃ (i : Nat) (u : Value), i ≤ M ∧ gk = M - i ∧ vi = .int .i64 i ∧ u = vo ∧ Hid (OwnOf Rep.tup wq (fun _ => True) w5.heap.size 77 u (aliUpto tr A B i)) ∧ Hid (Ext w5 wq))
      case atStart => exact ⟨0, _, by omega, rfl, rfl, rfl, OwnOf.nil _ _ _ _ _, Ext.refl w5⟩
      case round =>
        obtain ⟨i, u, hi, rfl, rfl, rfl, OU, HX⟩ := hrel
        by_cases hlt2 : i < M
        · have hil : i < A.length := by have := HMA.out; omega
          obtain ⟨bt2, ot2, rfl⟩ := HP6.out (by decide) (by omega)
          have hd2 : decide ((i : Int) < (M : Int)) = true := by simp; omega
          obtain ⟨ta, tb, c0, c1', c2, c3', g0, g1, r1, r2⟩ := tup_at (by have h := S5.out; rw [HMA.out] at h; exact h) i hil
          have hst := aliUpto_snoc tr A B i hil
          have hfx := HFA'.out A[i] (List.getElem_mem hil)
          have hul := aliUpto_len tr A B i
          have hul2 : A.length * B.length ≤ 248 * 248 := Nat.mul_le_mul HAL.out HBL.out
          generalize A[i] = x at c1' c2 g0 g1 r1 r2 hst hfx
          obtain ⟨xv, xf, xt, xl⟩ := x
          dsimp only at c0 c1' c2 c3' g0 g1 r1 r2 hfx
          replace c0 := HX.out.at c0
          replace c1' := HX.out.at c1'
          replace c2 := HX.out.at c2
          replace c3' := HX.out.at c3'
          obtain ⟨p4, k4, rfl, _⟩ := g0.form
          obtain ⟨p5, k5, rfl, _⟩ := g1.form
          obtain ⟨n4, hn4⟩ : ∃ z, z = xv.length := ⟨_, rfl⟩
          obtain ⟨n5, hn5⟩ : ∃ z, z = xl.length := ⟨_, rfl⟩
          rw [← hn4] at c0 g0
          rw [← hn5] at c3' g1
          have HST := Lib.hid hst
          have G0 := Lib.hid g0
          have G1 := Lib.hid g1
          have HRR := Lib.hid (show okI xf ∧ okI xt from ⟨r1, r2⟩)
          have HFX := Lib.hid hfx
          have e0 := cell_lt c0
          have HPK := Lib.hid (perKey_of ⟨xf, xt⟩ HRR.out)
          obtain ⟨ys0, hys0⟩ : ∃ z, z = aliUpto tr A B i := ⟨_, rfl⟩
          have hyl : ys0.length ≤ 61504 := by rw [hys0]; omega
          rw [← hys0] at OU
          have HYS := Lib.hid hys0
          have HYL := Lib.hid hyl
          have OU1 := Lib.hid (OU.out.ext ((Ext.refl wr).alloc (.cells #[.slice p4 n4 k4, .int .i64 xf, .int .i64 xt, .slice p5 n5 k5] 77)))
          have HX1 := Lib.hid (HX.out.alloc (.cells #[.slice p4 n4 k4, .int .i64 xf, .int .i64 xt, .slice p5 n5 k5] 77))
          obtain ⟨tp, htp⟩ : ∃ z, z = wr.heap.size := ⟨_, rfl⟩
          obtain ⟨w6, hw6⟩ : ∃ z, z = wr.alloc (.cells #[.slice p4 n4 k4, .int .i64 xf, .int .i64 xt, .slice p5 n5 k5] 77) := ⟨_, rfl⟩
          have d0 : w6.cell? ⟨tp, 0, none⟩ = some (.slice p4 n4 k4) := by rw [hw6, htp]; go_simp
          have d1 : w6.cell? ⟨tp, 1, none⟩ = some (.int .i64 xf) := by rw [hw6, htp]; go_simp
          have d2 : w6.cell? ⟨tp, 2, none⟩ = some (.int .i64 xt) := by rw [hw6, htp]; go_simp
          have d3 : w6.cell? ⟨tp, 3, none⟩ = some (.slice p5 n5 k5) := by rw [hw6, htp]; go_simp
          rw [← hw6] at OU1 HX1
          have e6 := cell_lt d0
          have M6 := Lib.hid (M5.out.ext HX1.out)
          have HXZ := Lib.hid HX.out.size
          have HUT := Lib.hid (show ∀ x, u.ownBlock = some x → x ≠ tp from fun x hx e => by have h1 := (OU.out.lt x hx).2; omega)
          clear hst g0 g1 r1 r2 hn4 hn5 hfx hul hul2 hys0 hyl OU HX
          go_wp2_with (at_lookup; rw [← htp, ← hw6]; refine wpList_lookup_v _ rfl _ _ 123 rfl 52 22 (Keyed.of_law per_law) Tryz.underlying123 (.slice none 0 0) (zero_slU _) ShSl ⟨_, _, _, rfl⟩ mb k mp rfl M6.out _ (perKey ⟨xf, xt⟩) rfl HPK.out ?_)
          intro vp HVP hsp
          obtain ⟨p9, n9, c9, rfl⟩ := hsp
          have hown := CI5.out.own (p := ⟨xf, xt⟩) HRR.out
          rw [← HVP.out] at hown
          have hll := ofPer_len B ⟨xf, xt⟩
          have hfL : fewT (ofPer B ⟨xf, xt⟩) := ofPer_few HFB'.out ⟨xf, xt⟩
          have hall := rowUpto_all tr B ⟨xv, xf, xt, xl⟩
          have hL9e : tupPer ⟨xv, xf, xt, xl⟩ = ⟨xf, xt⟩ := rfl
          rw [hL9e] at hall
          obtain ⟨L9, hL9⟩ : ∃ z, z = ofPer B ⟨xf, xt⟩ := ⟨_, rfl⟩
          rw [← hL9] at hown hll hfL hall
          have hLB : L9.length ≤ 248 := Nat.le_trans hll HBL.out
          have hsl := hown.slice
          obtain ⟨p9', c9', hf9, _, _, hp9⟩ := hsl.form
          obtain ⟨nv, hnv⟩ : ∃ z, z = L9.length := ⟨_, rfl⟩
          rw [← hnv] at hf9 hp9 hLB
          injection hf9 with hq1 hq2 hq3
          subst hq1 hq2 hq3
          have HSL := Lib.hid hsl
          have HP9 := Lib.hid hp9
          have HNV := Lib.hid hnv
          have HLB := Lib.hid hLB
          have HFL9 := Lib.hid hfL
          have HALL := Lib.hid hall
          have HTPL := Lib.hid (show w5.heap.size ≤ tp from by rw [htp]; exact HXZ.out)
          have BX := Lib.hid (show w6.cell? ⟨tp, 0, none⟩ = some (.slice p4 n4 k4) ∧ w6.cell? ⟨tp, 1, none⟩ = some (.int .i64 xf) ∧ w6.cell? ⟨tp, 2, none⟩ = some (.int .i64 xt) ∧ w6.cell? ⟨tp, 3, none⟩ = some (.slice p5 n5 k5) from ⟨d0, d1, d2, d3⟩)
          clear hown hll hfL hall hL9e hL9 hLB hsl hp9 hnv HVP d0 d1 d2 d3 e6 c0 c1' c2 c3' e0
          go_wp2_with fail
          try rw [← htp]
          try rw [← hw6]
          clear hw6 htp HXZ
          obtain ⟨wo, rfl⟩ : ∃ z, z = wr := ⟨_, rfl⟩
          go_loopg [13, 55] n9 (fun gj vo vi wq => ∃ (j : Nat) (uq : Value), j ≤ n9 ∧ gj = n9 - j ∧ vi = .int .i64 j ∧ uq = vo ∧ Hid (OwnOf Rep.tup wq (fun _ => True) w5.heap.size 77 uq (ys0 ++ rowUpto tr ⟨xv, xf, xt, xl⟩ L9 j)) ∧ Hid (Ext w5 wq) ∧ Hid (∀ x, uq.ownBlock = some x → x ≠ tp) ∧ Hid (wq.cell? ⟨tp, 0, none⟩ = some (.slice p4 n4 k4) ∧ wq.cell? ⟨tp, 1, none⟩ = some (.int .i64 xf) ∧ wq.cell? ⟨tp, 2, none⟩ = some (.int .i64 xt) ∧ wq.cell? ⟨tp, 3, none⟩ = some (.slice p5 n5 k5)))
          case atStart => exact ⟨0, u, by omega, rfl, rfl, rfl, by show OwnOf _ _ _ _ _ _ (ys0 ++ []); rw [List.append_nil]; exact OU1.out, HX1.out, HUT.out, BX.out⟩
          case round =>
            clear OU1 HX1 HUT BX M6
            have hn9 := HLB.out
            obtain ⟨j, uq, hj, rfl, rfl, rfl, OI, HXI, HUI, BXI⟩ := hrel
            have b0 := BXI.out.1
            have b1 := BXI.out.2.1
            have b2 := BXI.out.2.2.1
            have b3 := BXI.out.2.2.2
            have eb := cell_lt b0
            by_cases hlt3 : j < n9
            · have hjr : j < L9.length := by have := HNV.out; omega
              obtain ⟨bt3, ot3, rfl⟩ := HP9.out (by decide) (by omega)
              have hd3 : decide ((j : Int) < (n9 : Int)) = true := by simp; omega
              obtain ⟨sa, sb, f0, f1, f2, f3, h0, h1, z1, z2⟩ := tup_at (by have h := HSL.out; rw [HNV.out] at h; exact h) j hjr
              have hfy := HFL9.out L9[j] (List.getElem_mem hjr)
              have hsn1 := rowUpto_no tr ⟨xv, xf, xt, xl⟩ L9 j hjr
              have hsn0 := rowUpto_yes tr ⟨xv, xf, xt, xl⟩ L9 j hjr
              generalize L9[j] = y at f1 f2 h0 h1 z1 z2 hfy hsn1 hsn0
              obtain ⟨yv, yf, yt, yl⟩ := y
              dsimp only at f0 f1 f2 f3 h0 h1 z1 z2 hfy hsn1 hsn0
              replace f0 := HXI.out.at f0
              replace f1 := HXI.out.at f1
              replace f2 := HXI.out.at f2
              replace f3 := HXI.out.at f3
              obtain ⟨p7, k7, rfl, _⟩ := h0.form
              obtain ⟨p8, k8, rfl, _⟩ := h1.form
              obtain ⟨n7, hn7⟩ : ∃ z, z = yv.length := ⟨_, rfl⟩
              obtain ⟨n8, hn8⟩ : ∃ z, z = yl.length := ⟨_, rfl⟩
              rw [← hn7] at f0 h0
              rw [← hn8] at f3 h1
              have H0 := Lib.hid h0
              have H1 := Lib.hid h1
              have HFY := Lib.hid hfy
              have SN0 := Lib.hid hsn0
              have SN1 := Lib.hid hsn1
              have e1 := cell_lt f0
              obtain ⟨zn, hzn⟩ : ∃ z, z = (xv ++ yv).length := ⟨_, rfl⟩
              have HZN := Lib.hid hzn
              have hrl := rowUpto_len tr ⟨xv, xf, xt, xl⟩ L9 j
              obtain ⟨ys, hys⟩ : ∃ z, z = ys0 ++ rowUpto tr ⟨xv, xf, xt, xl⟩ L9 j := ⟨_, rfl⟩
              have hyl : ys.length ≤ 62000 := by rw [hys, List.length_append]; have h1 := HYL.out; have h2 := HNV.out; have h3 := HLB.out; omega
              rw [← hys] at OI
              have HYJ := Lib.hid hys
              have HYL2 := Lib.hid hyl
              clear h0 h1 z1 z2 hn7 hn8 hfy hsn0 hsn1 hzn hrl hys hyl
              go_wp2_with fail
              obtain ⟨W6, hW6⟩ : ∃ W6, W6 = wr.alloc (.cells #[.slice p7 n7 k7, .int .i64 yf, .int .i64 yt, .slice p8 n8 k8] 77) := ⟨_, rfl⟩
              have x6 : Ext wr W6 := by rw [hW6]; exact (Ext.refl wr).alloc _
              have X6 := Lib.hid x6
              obtain ⟨yp, hyp⟩ : ∃ z, z = wr.heap.size := ⟨_, rfl⟩
              try rw [← hyp]
              try rw [← hW6]
              clear hyp hW6 x6 f0 f1 f2 f3 b0 b1 b2 b3 eb e1 hd3
              refine (combine_any _ _ _ _ xv yv xl yl _ _ _ _ _ _ _ (G0.out.ext (HXI.out.trans X6.out).full) (H0.out.ext (HXI.out.trans X6.out).full) (G1.out.ext (HXI.out.trans X6.out).full) (H1.out.ext (HXI.out.trans X6.out).full) (Nat.le_trans HFX.out.1 (by decide)) (Nat.le_trans HFY.out.1 (by decide)) (Nat.le_trans HFX.out.2.2 (by decide)) (Nat.le_trans HFY.out.2.2 (by decide))).mono ?_
              rintro e w7 ⟨va, la, rfl, sv, sl, x7⟩
              obtain ⟨q1, j1, rfl, _⟩ := sv.form
              obtain ⟨q2, j2, rfl, _⟩ := sl.form
              rw [← HZN.out] at sv ⊢
              obtain ⟨W5, nb, hW5, hnb, TB⟩ : ∃ W5 nb, W5 = _ ∧ nb = _ ∧ TupBox wr W5 nb (.slice q1 zn j1) (.slice q2 (mergeL xl yl).length j2) xf xt (xv ++ yv) (mergeL xl yl) := ⟨_, _, rfl, rfl, box_alloc (T := 77) X6.out x7 sv sl⟩
              have g0 := TB.c0
              have g1 := TB.c1
              have g2 := TB.c2
              have g3 := TB.c3
              have e1 := cell_lt g0
              have BX := Lib.hid TB
              clear TB sv sl x7
              go_wp2_with fail
              try rw [← hnb]
              try rw [← hW5]
              clear hW5 hnb
              have HRY := Lib.hid HRR.out
              refine (isTrueE_any _ es pred _ (xv ++ yv) _ (HE.out.ext (X5.out.trans (HXI.out.trans BX.out.ext)).full) HEL.out (BX.out.sv.ext (on_sub _ _))).mono ?_
              rintro e w8 ⟨rfl, x8⟩
              rw [← HTR.out]
              have X8 := Lib.hid (BX.out.ext.trans x8)
              have OI8 := Lib.hid (OI.out.ext X8.out)
              have HXI8 := Lib.hid (HXI.out.trans X8.out)
              have b80 := X8.out.at BXI.out.1
              have b81 := X8.out.at BXI.out.2.1
              have b82 := X8.out.at BXI.out.2.2.1
              have b83 := X8.out.at BXI.out.2.2.2
              replace g0 := x8.at g0
              replace g1 := x8.at g1
              replace g2 := x8.at g2
              replace g3 := x8.at g3
              replace e1 := cell_lt g0
              have BXI8 := Lib.hid (show w8.cell? ⟨tp, 0, none⟩ = some (.slice p4 n4 k4) ∧ w8.cell? ⟨tp, 1, none⟩ = some (.int .i64 xf) ∧ w8.cell? ⟨tp, 2, none⟩ = some (.int .i64 xt) ∧ w8.cell? ⟨tp, 3, none⟩ = some (.slice p5 n5 k5) from ⟨b80, b81, b82, b83⟩)
              have HSUB := Lib.hid (show ∀ o, Sub (on W5 (fun k => k ≠ nb ∧ wr.heap.size ≤ k)) (on (w8.alloc o) (avoid (fun _ => True) uq)) from fun o => (on_mono W5 (fun x _ hx => ⟨fun e => by have h1 := (OI.out.lt x e.symm).2; omega, trivial⟩)).trans ((x8.trans ((Ext.refl w8).alloc o)).sub _))
              clear b80 b81 b82 b83 x8
              cases htv : tr (xv ++ yv) with
              | false =>
                have HJ := Lib.hid (show ys0 ++ rowUpto tr ⟨xv, xf, xt, xl⟩ L9 (j + 1) = ys from by rw [SN1.out htv, HYJ.out])
                clear htv g0 g1 g2 g3 e1 HSUB
                go_wp2_with fail
                go_roundg (n9 - (j + 1))
                case measure => omega
                case rel => exact ⟨j + 1, uq, by omega, rfl, by have := HLB.out; go_num, rfl, by rw [HJ.out]; exact OI8.out, HXI8.out, HUI.out, BXI8.out⟩
              | true =>
                have HJ := Lib.hid (show ys0 ++ rowUpto tr ⟨xv, xf, xt, xl⟩ L9 (j + 1) = ys ++ [⟨xv ++ yv, xf, xt, mergeL xl yl⟩] from by rw [SN0.out htv, HYJ.out, List.append_assoc])
                have B1 : ys.length + 1 ≤ maxLen := by have := HYL2.out; unfold maxLen; omega
                have B2 : (ys.length + 1) * 64 ≤ 140737488355328 := by have := HYL2.out; omega
                clear htv OI
                go_wp2_with (at_builtin; go_loud (refine wpList_append_one Rep.tup (fun _ => True) rfl _ _ 22 rfl w5.heap.size 77 i2 _ 64 Tryz.underlying22 hi2 hz20 hz21 hz22 rfl (by decide) uq ys rfl (OI8.out.ext ((Ext.refl w8).alloc _)) ⟨_, 0, none⟩ 1 ⟨xv ++ yv, xf, xt, mergeL xl yl⟩ [.slice q1 zn j1, .int .i64 xf, .int .i64 xt, .slice q2 (mergeL xl yl).length j2] rfl ⟨_, _, rfl, BX.out.sv.ext (HSUB.out _), BX.out.sl.ext (HSUB.out _), HRY.out.1, HRY.out.2⟩ (by exact cells_new w8 [.slice q1 zn j1, .int .i64 xf, .int .i64 xt, .slice q2 (mergeL xl yl).length j2] _) B1 B2 (Nat.le_trans HXI8.out.size ((Ext.refl w8).alloc _).size) ?_))
                intro g8 cap8 w9 own8 gr8 hg8
                have x89 : Ext w8 (w8.alloc (.cells #[.slice q1 zn j1, .int .i64 xf, .int .i64 xt, .slice q2 (mergeL xl yl).length j2] 77)) := (Ext.refl w8).alloc _
                have OI9 := Lib.hid own8
                have HXI9 := Lib.hid (ext_grown (HXI8.out.trans x89) gr8 (fun x hx => (OI8.out.lt x hx).1))
                have c90 := cell_grown gr8 (x89.at BXI8.out.1) HUI.out
                have c91 := cell_grown gr8 (x89.at BXI8.out.2.1) HUI.out
                have c92 := cell_grown gr8 (x89.at BXI8.out.2.2.1) HUI.out
                have c93 := cell_grown gr8 (x89.at BXI8.out.2.2.2) HUI.out
                have C9 := Lib.hid (And.intro c90 (And.intro c91 (And.intro c92 c93)))
                have U9 := Lib.hid (show ∀ x, (Value.slice (some ⟨g8, 0, none⟩) (ys.length + 1) cap8).ownBlock = some x → x ≠ tp from fun x hx => by
                  rcases hg8 with h | h
                  · exact HUI.out x (h.trans hx)
                  · have h2 : g8 = x := Option.some.inj hx
                    have h5 : g8 = w8.heap.size + 1 := by rw [h]; first | done | simp
                    have h3 := cell_lt BXI8.out.1
                    omega)
                clear x89 own8 gr8 hg8 c90 c91 c92 c93 g0 g1 g2 g3 e1 HSUB
                go_wp2_with fail
                go_roundg (n9 - (j + 1))
                case measure => omega
                case rel => exact ⟨j + 1, _, by omega, rfl, by have := HLB.out; go_num, rfl, by rw [HJ.out]; exact OI9.out, HXI9.out, U9.out, C9.out⟩
            · have hd3 : ¬ (j : Int) < (n9 : Int) := by omega
              have HFIN := Lib.hid (show aliUpto tr A B (i + 1) = ys0 ++ rowUpto tr ⟨xv, xf, xt, xl⟩ L9 j from by
                rw [HST.out, HYS.out, HALL.out j (by have := HNV.out; omega)])
              have OF := Lib.hid (show OwnOf Rep.tup wr (fun _ => True) w5.heap.size 77 uq (aliUpto tr A B (i + 1)) from by rw [HFIN.out]; exact OI.out)
              clear OI b0 b1 b2 b3 eb BXI HUI HFIN
              go_wp2_with fail
              go_roundg (M - (i + 1))
              case measure => omega
              case rel => exact ⟨i + 1, uq, by omega, rfl, by go_num, rfl, OF.out, HXI.out⟩
        · have hiM : i = M := by omega
          have hd2 : ¬ (i : Int) < (M : Int) := by omega
          have HFI := Lib.hid (show aliUpto tr A B i = alignRaw tr A B from by unfold aliUpto alignRaw; rw [hiM, HMA.out, List.take_length])
          have s7 := OU.out.slice
          rw [HFI.out] at s7
          obtain ⟨p7, c7, hv7, _⟩ := s7.form
          subst hv7
          have S7 := Lib.hid s7
          have HX7 := Lib.hid (X5.out.trans HX.out)
          have HLN := Lib.hid (show (alignRaw tr A B).length ≤ 65536 from Nat.le_trans (alignRaw_len tr A B) (Nat.le_trans (Nat.mul_le_mul HAL.out HBL.out) (by decide)))
          clear s7 hiM OU HX
          go_wp2_with fail
          refine (normalize_any _ (alignRaw tr A B) _ S7.out ⟨HLN.out, fun t ht => by obtain ⟨h1, h2, h3⟩ := align_fit HFA'.out HFB'.out t ht; exact ⟨⟨by omega, h2⟩, by omega⟩⟩ (HT.out.ext HX7.out)).mono ?_
          rintro e w8 ⟨v8, rfl, t8, x8⟩
          have T8 := Lib.hid (show SliceOf Rep.tup (on w8 (since w)) v8 (normT (alignRaw tr A B)) from t8.ext (on_mono _ fun k _ hk => Nat.le_trans HX7.out.size hk))
          obtain ⟨p8, c8, rfl, _⟩ := t8.form
          have X8 := Lib.hid (HX7.out.trans x8)
          clear t8 x8
          go_wp2_with fail
          go_ret
          exact ⟨_, rfl, T8.out, X8.out⟩

end Go.Proofs.YtdgpbpbjlnlijaaGreatDoor
