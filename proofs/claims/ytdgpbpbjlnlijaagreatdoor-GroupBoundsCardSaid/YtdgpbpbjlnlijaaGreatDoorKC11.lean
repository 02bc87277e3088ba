/- joined texts of a proof: GrpI, EvalC, AggW, BndW, ClipW -/
import Derived.Test.YtdgpbpbjlnlijaaGreatDoorKC08
import Derived.Test.YtdgpbpbjlnlijaaGreatDoorKC02
import Derived.Test.YtdgpbpbjlnlijaaGreatDoorKC10
import Derived.Laws.OwnMore
import Derived.Test.YtdgpbpbjlnlijaaGreatDoorKC03
import Derived.WalkMore
import Derived.Test.YtdgpbpbjlnlijaaGreatDoorKC09

/- what the two maps of group.Aggregate hold; no program in sight -/
namespace Go.Proofs.YtdgpbpbjlnlijaaGreatDoor
open Go.RowKit Go.Maps
open Classical

def keyG (vs : List Val) : Lit := .string (keyVals vs)
theorem keyG_inj {a b : List Val} (hl : a.length = b.length) (h : keyG a = keyG b) : a = b := by
  have h1 : keyVals a ++ [] = keyVals b ++ [] := by rw [List.append_nil, List.append_nil]; exact Lit.string.inj h
  exact (keyVals_inj hl h1).1
theorem keyG_lit (r : List Val) : WideAt.IsKeyLit (keyG r) := trivial
noncomputable def memOf (proj : List Val → List Val) (kv : List Val) (l : List Tup) : List Tup := l.filter fun t => decide (proj t.vals = kv)
theorem memOf_snoc (proj : List Val → List Val) (l : List Tup) (t : Tup) : memOf proj (proj t.vals) (l ++ [t]) = memOf proj (proj t.vals) l ++ [t] := by
  unfold memOf
  rw [List.filter_append]
  congr 1
  rw [List.filter_cons, if_pos (decide_eq_true rfl)]
  rfl
theorem memOf_snoc_no (proj : List Val → List Val) (kv : List Val) (l : List Tup) (t : Tup) (h : kv ≠ proj t.vals) : memOf proj kv (l ++ [t]) = memOf proj kv l := by
  unfold memOf
  rw [List.filter_append]
  have : List.filter (fun u : Tup => decide (proj u.vals = kv)) [t] = [] := by
    rw [List.filter_cons, if_neg (fun e => h (of_decide_eq_true e).symm)]
    rfl
  rw [this, List.append_nil]
theorem memOf_len (proj : List Val → List Val) (kv : List Val) (l : List Tup) : (memOf proj kv l).length ≤ l.length := List.length_filter_le _ _
theorem memOf_none {proj : List Val → List Val} {kv : List Val} {l : List Tup} (h : ∀ t ∈ l, proj t.vals ≠ kv) : memOf proj kv l = [] :=
  List.filter_eq_nil_iff.2 fun t ht e => h t ht (of_decide_eq_true e)

structure GInv (proj : List Val → List Val) (K : Nat) (w' : World) (B base : Nat) (T : TypeId) (VB : Nat → Prop) (l : List Tup) (m1 m2 : Lit → Option Value) : Prop where
  k1 : ∀ kl v, m1 kl = some v → ∃ t ∈ l, kl = keyG (proj t.vals) ∧ SliceOf Rep.val (on w' VB) v (proj t.vals)
  k2 : ∀ t ∈ l, (m1 (keyG (proj t.vals))).isSome = true
  p1 : ∀ kl v, m2 kl = some v → ∃ kv, kv.length = K ∧ kl = keyG kv ∧ (K = 0 ∨ ∃ t ∈ l, kv = proj t.vals) ∧ OwnOf Rep.tup w' (fun x => x < B) base T v (memOf proj kv l)
  p2 : ∀ t ∈ l, (m2 (keyG (proj t.vals))).isSome = true
  p3 : K = 0 → (m2 (keyG [])).isSome = true
  ap : ∀ kl kl' v v', kl ≠ kl' → m2 kl = some v → m2 kl' = some v' → Apart v v'
  vb : ∀ kl v x, m2 kl = some v → v.ownBlock = some x → ¬ VB x
  vlt : ∀ x, VB x → x < w'.heap.size

section
variable {proj : List Val → List Val} {K : Nat} {w w' w'' : World} {B base : Nat} {T : TypeId} {VB : Nat → Prop} {l : List Tup} {m1 m2 : Lit → Option Value}
/-- the maps as they are at the start -/
noncomputable def m2Start (K : Nat) : Lit → Option Value := if K = 0 then putV (fun _ => none) (keyG []) (.slice none 0 0) else fun _ => none
theorem GInv.start (proj : List Val → List Val) (K : Nat) (w' : World) (B base : Nat) (T : TypeId) : GInv proj K w' B base T (fun _ => False) [] (fun _ => none) (m2Start K) := by
  refine ⟨fun _ _ h => (by cases h), fun _ h => (by cases h), fun kl v h => ?_, fun _ h => (by cases h), fun h => ?_, fun kl kl' v v' hne h h' => ?_, fun _ _ _ _ _ e => e, fun _ e => e.elim⟩
  · unfold m2Start at h
    by_cases hK : K = 0
    · rw [if_pos hK] at h
      by_cases e : kl = keyG []
      · subst e
        rw [putV_same] at h
        exact ⟨[], hK.symm, rfl, .inl hK, by rw [← Option.some.inj h]; exact OwnOf.nil _ _ _ _ _⟩
      · rw [putV_other _ _ e] at h; cases h
    · rw [if_neg hK] at h; cases h
  · unfold m2Start
    rw [if_pos h, putV_same]; rfl
  · unfold m2Start at h
    by_cases hK : K = 0
    · rw [if_pos hK] at h
      by_cases e : kl = keyG []
      · subst e
        rw [putV_same] at h
        rw [← Option.some.inj h]
        exact fun k hk => (by cases hk)
      · rw [putV_other _ _ e] at h; cases h
    · rw [if_neg hK] at h; cases h
theorem GInv.keep (h : GInv proj K w' B base T VB l m1 m2) {row : Option Nat} (gr : w'.grownBy w'' row) (hr : ∀ k, row = some k → B ≤ k ∧ ¬ VB k ∧ ∀ kl v, m2 kl = some v → v.ownBlock ≠ some k) : GInv proj K w'' B base T VB l m1 m2 :=
  ⟨fun kl v hm => by
    obtain ⟨t, h1, h2, h4⟩ := h.k1 kl v hm
    exact ⟨t, h1, h2, h4.chg (chg_grown gr) fun k hk hc => (hr k hc).2.1 hk⟩, h.k2, fun kl v hm => by
    obtain ⟨kv, h1, h2, h3, h4⟩ := h.p1 kl v hm
    exact ⟨kv, h1, h2, h3, own_grown h4 gr (fun k hk hc => by have := (hr k hc).1; omega) (fun k hk hc => (hr k hc).2.2 kl v hm hk)⟩, h.p2, h.p3, h.ap, h.vb, fun x hx => Nat.lt_of_lt_of_le (h.vlt x hx) gr.size⟩
theorem GInv.ext (h : GInv proj K w' B base T VB l m1 m2) (hx : Ext w' w'') : GInv proj K w'' B base T VB l m1 m2 := h.keep (Ext.grows hx) fun k e => by cases e
theorem GInv.below (h : GInv proj K w' B base T VB l m1 m2) : ∀ kl v x, m2 kl = some v → v.ownBlock = some x → base ≤ x ∧ x < w'.heap.size := fun kl v x hm hx => by
  obtain ⟨_, _, _, _, h4⟩ := h.p1 kl v hm
  exact h4.lt x hx
/-- more blocks that hold the values of keys -/
theorem GInv.more (h : GInv proj K w' B base T VB l m1 m2) {R : Nat → Prop} (h1 : ∀ kl v x, m2 kl = some v → v.ownBlock = some x → ¬ R x) (h2 : ∀ x, R x → x < w'.heap.size) : GInv proj K w' B base T (fun x => VB x ∨ R x) l m1 m2 :=
  ⟨fun kl v hm => by
    obtain ⟨t, a, b, c⟩ := h.k1 kl v hm
    exact ⟨t, a, b, c.ext (on_mono w' fun x _ hx => .inl hx)⟩, h.k2, h.p1, h.p2, h.p3, h.ap, fun kl v x hm hx e => by
    rcases e with e | e
    · exact h.vb kl v x hm hx e
    · exact h1 kl v x hm hx e, fun x e => by
    rcases e with e | e
    · exact h.vlt x e
    · exact h2 x e⟩
theorem GInv.own (h : GInv proj K w' B base T VB l m1 m2) {kv : List Val} (hk : kv.length = K) : OwnOf Rep.tup w' (fun x => x < B) base T ((m2 (keyG kv)).getD (.slice none 0 0)) (memOf proj kv l) := by
  cases hm : m2 (keyG kv) with
  | some v =>
    obtain ⟨kv', h1, h2, _, h4⟩ := h.p1 _ v hm
    have e := keyG_inj (hk.trans h1.symm) h2
    subst e
    exact h4
  | none =>
    rw [memOf_none fun t ht e => ?_]
    · exact OwnOf.nil _ _ _ _ _
    · have h5 := h.p2 t ht
      rw [e, hm] at h5
      cases h5
theorem GInv.vals (h : GInv proj K w' B base T VB l m1 m2) (hp : ∀ vs, (proj vs).length = K) {kv : List Val} (hk : kv.length = K) (hs : (m2 (keyG kv)).isSome = true) : SliceOf Rep.val w'.cell? ((m1 (keyG kv)).getD (.slice none 0 0)) kv := by
  cases hm : m1 (keyG kv) with
  | some v =>
    obtain ⟨t, _, h2, h3⟩ := h.k1 _ v hm
    rw [keyG_inj (hk.trans (hp _).symm) h2]
    exact h3.ext fun p u e => (on_some.1 e).2
  | none =>
    obtain ⟨v, hv⟩ := Option.isSome_iff_exists.1 hs
    obtain ⟨kv', h1, h2, h3, _⟩ := h.p1 _ v hv
    have e := keyG_inj (hk.trans h1.symm) h2
    subst e
    rcases h3 with h3 | ⟨t, ht, h3⟩
    · have : kv = [] := List.eq_nil_of_length_eq_zero (hk.trans h3)
      subst this
      exact SliceOf.nil _ _
    · have h5 := h.k2 t ht
      rw [← h3, hm] at h5
      cases h5
theorem GInv.apart (h : GInv proj K w' B base T VB l m1 m2) {kv : List Val} {kl : Lit} {v : Value} (hne : kl ≠ keyG kv) (hm : m2 kl = some v) : Apart v ((m2 (keyG kv)).getD (.slice none 0 0)) := by
  cases hr : m2 (keyG kv) with
  | some u => exact h.ap kl _ v u hne hm hr
  | none => exact fun k _ e => by cases e
theorem GInv.getD_vb (h : GInv proj K w' B base T VB l m1 m2) (kl : Lit) : ∀ x, ((m2 kl).getD (.slice none 0 0)).ownBlock = some x → ¬ VB x := fun x hx => by
  cases hm : m2 kl with
  | some v => rw [hm] at hx; exact h.vb kl v x hm hx
  | none => rw [hm] at hx; cases hx
theorem GInv.step (h : GInv proj K w' B base T VB l m1 m2) (hB : B ≤ base) (hp : ∀ vs, (proj vs).length = K) {t : Tup} {v1 : Value} (hv1 : SliceOf Rep.val (on w' VB) v1 (proj t.vals)) {g a b : Nat}
    (own : OwnOf Rep.tup w'' (fun x => x < B) base T (.slice (some ⟨g, 0, none⟩) a b) (memOf proj (proj t.vals) l ++ [t])) (gr : w'.grownBy w'' ((m2 (keyG (proj t.vals))).getD (.slice none 0 0)).ownBlock)
    (hg : ((m2 (keyG (proj t.vals))).getD (.slice none 0 0)).ownBlock = some g ∨ g = w'.heap.size) :
    GInv proj K w'' B base T VB (l ++ [t]) (putV m1 (keyG (proj t.vals)) v1) (putV m2 (keyG (proj t.vals)) (.slice (some ⟨g, 0, none⟩) a b)) := by
  have hvb := h.getD_vb (keyG (proj t.vals))
  have hbase : ∀ x, ((m2 (keyG (proj t.vals))).getD (.slice none 0 0)).ownBlock = some x → base ≤ x := fun x hx => ((h.own (hp t.vals)).lt x hx).1
  refine ⟨fun kl v hm => ?_, fun u hu => ?_, fun kl v hm => ?_, fun u hu => ?_, fun hK => ?_, fun kl kl' v v' hne hm hm' => ?_, fun kl v x hm hx => ?_, fun x hx => Nat.lt_of_lt_of_le (h.vlt x hx) gr.size⟩
  · by_cases e : kl = keyG (proj t.vals)
    · subst e
      rw [putV_same] at hm
      exact ⟨t, by simp, rfl, by rw [← Option.some.inj hm]; exact hv1.chg (chg_grown gr) fun k hk hc => hvb k hc hk⟩
    · rw [putV_other _ _ e] at hm
      obtain ⟨u, h1, h2, h3⟩ := h.k1 kl v hm
      exact ⟨u, List.mem_append_left _ h1, h2, h3.chg (chg_grown gr) fun k hk hc => hvb k hc hk⟩
  · by_cases e : keyG (proj u.vals) = keyG (proj t.vals)
    · rw [e, putV_same]; rfl
    · rw [putV_other _ _ e]
      rcases List.mem_append.1 hu with hu | hu
      · exact h.k2 u hu
      · rw [List.mem_singleton] at hu; subst hu; exact absurd rfl e
  · by_cases e : kl = keyG (proj t.vals)
    · subst e
      rw [putV_same] at hm
      exact ⟨proj t.vals, hp _, rfl, .inr ⟨t, by simp, rfl⟩, by rw [memOf_snoc, ← Option.some.inj hm]; exact own⟩
    · rw [putV_other _ _ e] at hm
      obtain ⟨kv, h1, h2, h3, h4⟩ := h.p1 kl v hm
      refine ⟨kv, h1, h2, ?_, ?_⟩
      · rcases h3 with h3 | ⟨u, h5, h6⟩
        · exact .inl h3
        · exact .inr ⟨u, List.mem_append_left _ h5, h6⟩
      · rw [memOf_snoc_no _ _ _ _ (fun c => e (by rw [h2, c]))]
        exact own_grown h4 gr (fun k hk hc => by have := hbase k hc; omega) (fun k hk hc => h.apart e hm k hk hc)
  · by_cases e : keyG (proj u.vals) = keyG (proj t.vals)
    · rw [e, putV_same]; rfl
    · rw [putV_other _ _ e]
      rcases List.mem_append.1 hu with hu | hu
      · exact h.p2 u hu
      · rw [List.mem_singleton] at hu; subst hu; exact absurd rfl e
  · by_cases e : keyG [] = keyG (proj t.vals)
    · rw [e, putV_same]; rfl
    · rw [putV_other _ _ e]; exact h.p3 hK
  · by_cases e : kl = keyG (proj t.vals)
    · by_cases e' : kl' = keyG (proj t.vals)
      · exact absurd (e.trans e'.symm) hne
      · subst e
        rw [putV_same] at hm
        rw [putV_other _ _ e'] at hm'
        rw [← Option.some.inj hm]
        exact ((h.apart e' hm').grow (fun k hk => (h.below kl' v' k hm' hk).2) hg).symm
    · rw [putV_other _ _ e] at hm
      by_cases e' : kl' = keyG (proj t.vals)
      · subst e'
        rw [putV_same] at hm'
        rw [← Option.some.inj hm']
        exact (h.apart e hm).grow (fun k hk => (h.below kl v k hm hk).2) hg
      · rw [putV_other _ _ e'] at hm'
        exact h.ap kl kl' v v' hne hm hm'
  · by_cases e : kl = keyG (proj t.vals)
    · subst e
      rw [putV_same] at hm
      rw [← Option.some.inj hm] at hx
      have hx : g = x := Option.some.inj hx
      rcases hg with hg | hg
      · exact hvb x (by rw [hg, hx])
      · intro hc
        have := h.vlt x hc
        omega
    · rw [putV_other _ _ e] at hm
      exact h.vb kl v x hm hx

/-- the keys that have been done -/
def DoneG (K : Nat) (m2 : Lit → Option Value) (left : Lit → Bool) (done : List (List Val)) : Prop := done.Nodup ∧ (∀ kv ∈ done, kv.length = K) ∧ ∀ kv, kv.length = K → (kv ∈ done ↔ (m2 (keyG kv)).isSome = true ∧ left (keyG kv) = false)
theorem DoneG.start {left : Lit → Bool} (h : ∀ kl, WideAt.IsKeyLit kl → left kl = (m2 kl).isSome) : DoneG K m2 left [] :=
  ⟨List.nodup_nil, fun _ h => (by cases h), fun r _ => ⟨fun hr => (by cases hr), fun ⟨h1, h2⟩ => by rw [h _ (keyG_lit r), h1] at h2; cases h2⟩⟩
theorem DoneG.step {left : Lit → Bool} {done : List (List Val)} (h : DoneG K m2 left done) {r : List Val} (hr : r.length = K) (hm : (m2 (keyG r)).isSome = true) (hl : left (keyG r) = true) : DoneG K m2 (fun z => left z && !z.sameKey (keyG r)) (done ++ [r]) := by
  have hn : r ∉ done := fun hx => by rw [((h.2.2 r hr).1 hx).2] at hl; cases hl
  refine ⟨List.nodup_append.2 ⟨h.1, by simp, fun a ha b hb => ?_⟩, fun kv hkv => ?_, fun s hs => ?_⟩
  · rw [List.mem_singleton] at hb
    subst hb
    exact fun e => hn (e ▸ ha)
  · rcases List.mem_append.1 hkv with hkv | hkv
    · exact h.2.1 kv hkv
    · rw [List.mem_singleton] at hkv; rw [hkv]; exact hr
  · rw [List.mem_append, List.mem_singleton, h.2.2 s hs]
    by_cases e : s = r
    · subst e
      simp [hm, WideAt.sameKey_self (keyG_lit s)]
    · have hk : (keyG s).sameKey (keyG r) = false := by
        cases hs2 : (keyG s).sameKey (keyG r)
        · rfl
        · exact absurd (keyG_inj (hs.trans hr.symm) (WideAt.sameKey_eq hs2)) e
      simp [hk, e]
theorem DoneG.all {left : Lit → Bool} {done : List (List Val)} (h : DoneG K m2 left done) (hi : GInv proj K w' B base T VB l m1 m2) (hp : ∀ vs, (proj vs).length = K) (hl : ∀ kl, left kl = false) : ∀ r, r ∈ done ↔ (K = 0 ∧ r = []) ∨ ∃ t ∈ l, r = proj t.vals := by
  intro r
  constructor
  · intro hr
    have hrl := h.2.1 r hr
    have h1 := ((h.2.2 r hrl).1 hr).1
    obtain ⟨v, hv⟩ := Option.isSome_iff_exists.1 h1
    obtain ⟨kv, h2, h3, h4, _⟩ := hi.p1 _ v hv
    have e := keyG_inj (hrl.trans h2.symm) h3
    subst e
    rcases h4 with h4 | h4
    · exact .inl ⟨h4, List.eq_nil_of_length_eq_zero (hrl.trans h4)⟩
    · exact .inr h4
  · rintro (⟨h1, rfl⟩ | ⟨t, h1, rfl⟩)
    · exact (h.2.2 [] h1.symm).2 ⟨hi.p3 h1, hl _⟩
    · exact (h.2.2 _ (hp _)).2 ⟨hi.p2 t h1, hl _⟩
end

theorem lookup_run {P : Program} {w : World} {k e t : TypeId} {S : Value → Prop} {b n : Nat} {mp : Lit → Option Value} (h : MapV w P k S b n mp) (K : Go.Maps.Keyed P k) (ht : P.underlying t = some (.map k e)) {z : Value} (hz : (zeroValue e).run P w = .ok z w) (hS : S z) {key : Value} {kl : Lit} (hkey : keyOf P k key = some kl) {v : Value} (hv : (mp kl).getD z = v) :
    (Instr.lookup t (.map (some b)) key false).run P w = .ok v w := by
  obtain ⟨D, h1, h2⟩ := h
  obtain ⟨u, ps, hrun, hat⟩ := h1.lookup K ht hz (rawR_mk hS) hkey
  obtain ⟨hs, hu⟩ := rawR_inv hat
  have h3 := h2.2 kl (K.key hkey) (.held z)
  rw [(Prod.mk.inj hu).1] at h3
  rw [hrun, ← hv]
  cases hmk : mp kl with
  | none => rw [hmk] at h3; injection h3 with h3; rw [h3]; rfl
  | some x => rw [hmk] at h3; injection h3 with h3; rw [h3]; rfl
theorem store_run {P : Program} {w : World} {k e t : TypeId} {S : Value → Prop} {b n : Nat} {mp : Lit → Option Value} (h : MapV w P k S b n mp) (K : Go.Maps.Keyed P k) (ht : P.underlying t = some (.map k e)) (hn : n < maxLen) {key val : Value} {kl : Lit} (hkey : keyOf P k key = some kl) (hval : S val) :
    ∃ w', (Instr.mapUpdate t (.map (some b)) key val).run P w = .ok () w' ∧ MapV w' P k S b (n + 1) (putV mp kl val) ∧ w.grownBy w' (some b) := by
  obtain ⟨D, h1, h2⟩ := h
  obtain ⟨w', hrun, r1, r2⟩ := h1.update K ht hn hkey (rawR_mk hval)
  exact ⟨w', hrun, ⟨_, r1, h2.put (K.key hkey) val⟩, r2⟩
/-- a tuple of a row of one's own: what it leads to lies in S -/
theorem tup_own_at {w : World} {S : Nat → Prop} {base : Nat} {e : TypeId} {g n cap : Nat} {xs : List Tup} (h : OwnOf Rep.tup w S base e (.slice (some ⟨g, 0, none⟩) n cap) xs) (hn : n = xs.length) (i : Nat) (hi : i < xs.length) :
    ∃ u v, w.cell? ⟨g, i * 4, none⟩ = some u ∧ w.cell? ⟨g, i * 4 + 1, none⟩ = some (.int .i64 xs[i].from_) ∧ w.cell? ⟨g, i * 4 + 2, none⟩ = some (.int .i64 xs[i].to_) ∧ w.cell? ⟨g, i * 4 + 3, none⟩ = some v ∧
      SliceOf Rep.val (on w S) u xs[i].vals ∧ SliceOf Rep.int (on w S) v xs[i].lin ∧ okI xs[i].from_ ∧ okI xs[i].to_ := by
  obtain ⟨css, h1, h2⟩ := h
  obtain ⟨c, ⟨u, v, rfl, g1, g2, g3, g4⟩, _, h3⟩ := h1.at i hi
  subst hn
  have hc : ∀ j z, [u, Value.int .i64 xs[i].from_, .int .i64 xs[i].to_, v][j]? = some z → w.cell? ⟨g, i * 4 + j, none⟩ = some z := fun j z hj => by
    have hjl : j < 4 := by
      have := (List.getElem?_eq_some_iff.1 hj).1
      simpa using this
    have h4 := h2.cellAt (i * 4 + j) (by show i * 4 + j < xs.length * 4; omega)
    rw [h4]
    exact h3 j z hj
  have hs : Sub (on w (avoid S (.slice (some ⟨g, 0, none⟩) xs.length cap))) (on w S) := on_mono w fun k _ hk => hk.2
  exact ⟨u, v, hc 0 _ rfl, hc 1 _ rfl, hc 2 _ rfl, hc 3 _ rfl, g1.ext hs, g2.ext hs, g3, g4⟩
/-- what the rows of the groups make -/
noncomputable def rawG (proj : List Val → List Val) (aggV : List (List Val) → List Val) (always : Bool) (l : List Tup) (done : List (List Val)) : List Tup := done.flatMap fun kv => gOut aggV always kv (memOf proj kv l)
theorem rawG_snoc (proj : List Val → List Val) (aggV : List (List Val) → List Val) (always : Bool) (l : List Tup) (done : List (List Val)) (r : List Val) : rawG proj aggV always l (done ++ [r]) = rawG proj aggV always l done ++ gOut aggV always r (memOf proj r l) := by
  unfold rawG
  rw [List.flatMap_append, List.flatMap_cons, List.flatMap_nil, List.append_nil]
theorem rawG_norm {proj : List Val → List Val} {aggV : List (List Val) → List Val} {K : Nat} {l : List Tup} {done : List (List Val)} (hp : ∀ vs, (proj vs).length = K) (h1 : done.Nodup) (h2 : ∀ r, r ∈ done ↔ (K = 0 ∧ r = []) ∨ ∃ t ∈ clipT l, r = proj t.vals) :
    normT (rawG proj aggV (decide (K = 0)) (clipT l) done) = aggT proj aggV (decide (K = 0)) l := by
  have hperm : done.Perm (gKeys proj (decide (K = 0)) l) := by
    refine (List.perm_ext_iff_of_nodup h1 ?_).2 fun r => ?_
    · unfold gKeys
      split
      · simp
      · exact once_nodup _
    · rw [h2]
      unfold gKeys
      by_cases hK : K = 0
      · rw [if_pos (decide_eq_true hK), List.mem_singleton]
        constructor
        · rintro (⟨_, h⟩ | ⟨t, _, rfl⟩)
          · exact h
          · exact List.eq_nil_of_length_eq_zero ((hp _).trans hK)
        · exact fun h => .inl ⟨hK, h⟩
      · rw [if_neg (by rw [decide_eq_true_eq]; exact hK), mem_once, List.mem_map]
        constructor
        · rintro (⟨h, _⟩ | ⟨t, h, rfl⟩)
          · exact absurd h hK
          · exact ⟨t, h, rfl⟩
        · rintro ⟨t, h, rfl⟩
          exact .inr ⟨t, h, rfl⟩
  exact normT_perm (hperm.flatMap_right _)
theorem gUpto_len (aggV : List (List Val) → List Val) (always : Bool) (P : List Int) (kv : List Val) (ms : List Tup) (k : Nat) : (gUpto aggV always P kv ms k).length ≤ k := by
  induction k with
  | zero => exact Nat.zero_le _
  | succ k ih =>
    unfold gUpto
    rw [List.length_append]
    split
    · simp only [List.length_singleton]; omega
    · simp only [List.length_nil]; omega
theorem gPts_len (always : Bool) (ms : List Tup) : (gPts always ms).length ≤ 2 * ms.length + 2 := by
  have h : ∀ l : List Tup, (pts l).length ≤ 2 * l.length := fun l => Nat.le_trans (pts_law l).2.2 (bnd_len l)
  unfold gPts
  split
  · have := h (dayT :: ms); rw [List.length_cons] at this; omega
  · have := h ms; omega
theorem rawG_len (proj : List Val → List Val) (aggV : List (List Val) → List Val) (always : Bool) (l : List Tup) (done : List (List Val)) : (rawG proj aggV always l done).length ≤ done.length * (2 * l.length + 2) := by
  induction done with
  | nil => exact Nat.zero_le _
  | cons r done ih =>
    unfold rawG at *
    rw [List.flatMap_cons, List.length_append, List.length_cons, Nat.succ_mul]
    have h1 := gUpto_len aggV always (gPts always (memOf proj r l)) r (memOf proj r l) ((gPts always (memOf proj r l)).length - 1)
    have h2 := gPts_len always (memOf proj r l)
    have h3 := memOf_len proj r l
    have h4 : (gOut aggV always r (memOf proj r l)).length ≤ 2 * l.length + 2 := by unfold gOut; omega
    omega

end Go.Proofs.YtdgpbpbjlnlijaaGreatDoor

/- expr.Eval of columns -/
namespace Go.Proofs.YtdgpbpbjlnlijaaGreatDoor
open Go.RowKit

structure ExprI where
  op : Int
  a : Int
  b : Int
  col : Int
  c : Val
def exprEnc (x : ExprI) : List Value := [.int .i64 x.op, .int .i64 x.a, .int .i64 x.b, .int .i64 x.col, .int .i64 x.c.kind, .int .i64 x.c.n, .string x.c.s]
def Rep.expr : Rep ExprI where
  size := 7
  holds _ cs x := cs = exprEnc x ∧ (okI x.op ∧ okI x.a ∧ okI x.b ∧ okI x.col) ∧ okVal x.c
  len := by rintro w cs x ⟨rfl, _⟩; rfl
  ext := by rintro w w' cs x h _; exact h
  one := by rintro w cs x ⟨rfl, _⟩; simp [exprEnc, Value.oneCell']
theorem flat_expr : Rep.expr.flat := fun _ _ _ _ h => h
/-- a column of a row -/
def colAt (vals : List Val) (c : Int) : Val := if 0 ≤ c ∧ c < vals.length then vals.getD c.toNat nV else nV
theorem colAt_in {vals : List Val} {c : Nat} (h : c < vals.length) : colAt vals c = vals[c] := by
  unfold colAt
  rw [if_pos (by omega)]
  simp [h]
theorem colAt_out {vals : List Val} {c : Int} (h : ¬ (0 ≤ c ∧ c < vals.length)) : colAt vals c = nV := if_neg h

set_option maxRecDepth 100000 in
set_option maxHeartbeats 4000000 in
theorem apply_col (x : ExprI) (hop : x.op = 2) (pa : Option Addr) (na ka : Nat) (v : Value) (vals : List Val) (w : World) (hv : SliceOf Rep.val w.cell? v vals) :
    Calls Tryz.prog 129 #[.agg (exprEnc x).toArray, .slice pa na ka, v] w fun e w' => e = .returned (valV (colAt vals x.col)) ∧ Ext w w' := by
  obtain ⟨p, cap, rfl, _, _, hp⟩ := hv.form
  obtain ⟨op, a, b, col, ⟨ck, cn, cs⟩⟩ := x
  dsimp only at hop
  subst hop
  unfold exprEnc
  dsimp only
  have HV := Lib.hid hv
  have HP := Lib.hid hp
  clear hv hp
  by_cases h0 : col < 0
  · have hd : decide (col < 0) = true := by simp [h0]
    have HC := Lib.hid (colAt_out (vals := vals) (c := col) (by omega))
    go_enter Tryz.func129, Tryz.ntmps129
    go_wp2_with fail
    refine bodyPost_ret (v := valV (colAt vals col)) (by rw [HC.out]; simp [results, Tryz.results129, go_sem, valV, nV]; rfl) rfl ⟨rfl, ?_⟩
    exact ((Ext.refl w).alloc _).alloc _
  · have hd : decide (col < 0) = false := by simp [h0]
    by_cases h1 : col < vals.length
    · obtain ⟨c, hc⟩ : ∃ c : Nat, col = c := ⟨col.toNat, by omega⟩
      subst hc
      have hcl : c < vals.length := by omega
      have hd2 : decide ((vals.length : Int) ≤ (c : Int)) = false := by simp; omega
      have hb1 : (c : Int) < (vals.length : Int) := by omega
      obtain ⟨bb, o, rfl⟩ := HP.out (by decide) (by omega)
      obtain ⟨c0, c1, c2, _⟩ := val_cells HV.out c hcl
      have HC := Lib.hid (colAt_in hcl)
      generalize vals[c] = y at c0 c1 c2 HC
      obtain ⟨yk, yn, ys⟩ := y
      dsimp only at c0 c1 c2
      have e0 := cell_lt c0
      clear h0 h1
      go_enter Tryz.func129, Tryz.ntmps129
      go_wp2_with fail
      refine bodyPost_ret (v := valV (colAt vals c)) (by rw [HC.out]; simp [results, Tryz.results129, go_sem, valV]) rfl ⟨rfl, ?_⟩
      exact ((Ext.refl w).alloc _).alloc _
    · have hd2 : decide ((vals.length : Int) ≤ col) = true := by simp; omega
      have hb1 : ¬ col < (vals.length : Int) := h1
      have HC := Lib.hid (colAt_out (vals := vals) (c := col) (by omega))
      clear h0 h1
      go_enter Tryz.func129, Tryz.ntmps129
      go_wp2_with fail
      refine bodyPost_ret (v := valV (colAt vals col)) (by rw [HC.out]; simp [results, Tryz.results129, go_sem, valV, nV]; rfl) rfl ⟨rfl, ?_⟩
      exact ((Ext.refl w).alloc _).alloc _

theorem arity_col (w : World) : Calls Tryz.prog 178 #[.int .i64 2] w fun e w' => e = .returned (.int .i64 0) ∧ Ext w w' := by
  go_enter Tryz.func178, Tryz.ntmps178
  go_wp2_with fail
  go_ret
  exact ⟨rfl, Ext.refl w⟩

set_option maxRecDepth 100000 in
set_option maxHeartbeats 4000000 in
theorem operands_col (x : ExprI) (hop : x.op = 2) (w : World) :
    Calls Tryz.prog 127 #[.agg (exprEnc x).toArray] w fun e w' => ∃ p c, e = .returned (.slice p 0 c) ∧ Ext w w' := by
  obtain ⟨op, a, b, col, ⟨ck, cn, cs⟩⟩ := x
  dsimp only at hop
  subst hop
  unfold exprEnc
  dsimp only
  go_enter Tryz.func127, Tryz.ntmps127
  go_wp2_with fail
  have k0 : (w.alloc (.cells #[.int .i64 2, .int .i64 a, .int .i64 b, .int .i64 col, .int .i64 ck, .int .i64 cn, .string cs] 73)).cell? ⟨w.heap.size, 0, none⟩ = some (.int .i64 2) := by go_simp
  have k1 : (w.alloc (.cells #[.int .i64 2, .int .i64 a, .int .i64 b, .int .i64 col, .int .i64 ck, .int .i64 cn, .string cs] 73)).cell? ⟨w.heap.size, 1, none⟩ = some (.int .i64 a) := by go_simp
  have k2 : (w.alloc (.cells #[.int .i64 2, .int .i64 a, .int .i64 b, .int .i64 col, .int .i64 ck, .int .i64 cn, .string cs] 73)).cell? ⟨w.heap.size, 2, none⟩ = some (.int .i64 b) := by go_simp
  have x0 : Ext w (w.alloc (.cells #[.int .i64 2, .int .i64 a, .int .i64 b, .int .i64 col, .int .i64 ck, .int .i64 cn, .string cs] 73)) := (Ext.refl w).alloc _
  generalize w.alloc (.cells #[.int .i64 2, .int .i64 a, .int .i64 b, .int .i64 col, .int .i64 ck, .int .i64 cn, .string cs] 73) = W at k0 k1 k2 x0 ⊢
  have hS0 : Ext w W.drew ∧ W.drew.cell? ⟨w.heap.size, 0, none⟩ = some (.int .i64 2) ∧ W.drew.cell? ⟨w.heap.size, 1, none⟩ = some (.int .i64 a) ∧ W.drew.cell? ⟨w.heap.size, 2, none⟩ = some (.int .i64 b) := ⟨x0.drew, k0, k1, k2⟩
  clear k0 k1 k2
  go_region_held3 (fun w' => Ext w w' ∧ w'.cell? ⟨w.heap.size, 0, none⟩ = some (.int .i64 2) ∧ w'.cell? ⟨w.heap.size, 1, none⟩ = some (.int .i64 a) ∧ w'.cell? ⟨w.heap.size, 2, none⟩ = some (.int .i64 b))
    (first | with_reducible assumption | with_reducible exact keepE3 (by assumption) hx2 | with_reducible exact keepE3 (by assumption) ((Ext.refl _).alloc _))
    (first | (go_at_call 178; refine (arity_col _).mono ?_; rintro e w2 ⟨rfl, hx2⟩))
  all_goals (obtain ⟨hfin, _⟩ := ‹Ext w _ ∧ _›)
  all_goals go_wp2_with fail
  all_goals go_ret
  all_goals exact ⟨_, _, rfl, hfin⟩

/-- n cells of a block may be written -/
def FreeN (w : World) (g n : Nat) : Prop := ∀ j, j < n → (∃ u, w.cell? ⟨g, j, none⟩ = some u) ∧ w.frozen? ⟨g, j, none⟩ = false
theorem FreeN.set {w : World} {g n : Nat} (h : FreeN w g n) (i : Nat) (u : Value) : FreeN (w.setCell ⟨g, i, none⟩ u) g n := fun j hj => by
  obtain ⟨⟨z, h1⟩, h2⟩ := h j hj
  by_cases e : j = i
  · subst e
    exact ⟨⟨u, by go_simp⟩, by go_simp⟩
  · exact ⟨⟨z, by rw [World.cell?_setCell_other _ _ _ _ (by simp only [ne_eq, Addr.mk.injEq, true_and, and_true]; omega)]; exact h1⟩, by go_simp⟩
theorem FreeN.ext {w w' : World} {g n : Nat} (h : FreeN w g n) (hx : Ext w w') : FreeN w' g n := fun j hj => by
  obtain ⟨⟨z, h1⟩, h2⟩ := h j hj
  exact ⟨⟨z, hx.at h1⟩, hx.unfrozen h1 h2⟩
theorem FreeN.made {w : World} {base g n c k : Nat} {e : TypeId} {xs : List Value} (h : w.ownsRow base e k (.slice (some ⟨g, 0, none⟩) n c) n xs) : FreeN w g (c * k) := fun j hj => by
  rcases h.2 with ⟨h1, _⟩ | ⟨g', cap, cur, he, _, hg, _, _, hsz, _⟩
  · cases h1
  · injection he with e1 e2 e3
    injection e1 with e1
    injection e1 with e1
    subst e1 e3
    refine ⟨⟨cur[j]'(by omega), ?_⟩, Lib.frozen_of_heap hg j⟩
    rw [Lib.cell_of_heap hg]
    exact Array.getElem?_eq_getElem _
theorem info_val3 : (Tryz.prog.info? 44).map (fun i => (i.zero, i.size, i.bytes)) = some (some (.agg #[.int .i64 0, .int .i64 0, .string ByteArray.empty]), 3, 32) := by kernel_rfl
theorem expr_at {h : View} {b o n cap : Nat} {xs : List ExprI} (k : SliceOf Rep.expr h (.slice (some ⟨b, o, none⟩) n cap) xs) (i : Nat) (hi : i < xs.length) :
    h ⟨b, o + i * 7, none⟩ = some (.int .i64 xs[i].op) ∧ h ⟨b, o + i * 7 + 1, none⟩ = some (.int .i64 xs[i].a) ∧ h ⟨b, o + i * 7 + 2, none⟩ = some (.int .i64 xs[i].b) ∧ h ⟨b, o + i * 7 + 3, none⟩ = some (.int .i64 xs[i].col) ∧ h ⟨b, o + i * 7 + 4, none⟩ = some (.int .i64 xs[i].c.kind) ∧ h ⟨b, o + i * 7 + 5, none⟩ = some (.int .i64 xs[i].c.n) ∧ h ⟨b, o + i * 7 + 6, none⟩ = some (.string xs[i].c.s) := by
  obtain ⟨c, ⟨rfl, _⟩, h2⟩ := k.at i hi
  exact ⟨h2 0 _ rfl, h2 1 _ rfl, h2 2 _ rfl, h2 3 _ rfl, h2 4 _ rfl, h2 5 _ rfl, h2 6 _ rfl⟩

set_option maxRecDepth 100000 in
set_option maxHeartbeats 8000000 in
theorem eval_col (v : Value) (es : List ExprI) (root : Nat) (vv : Value) (vals : List Val) (w : World) (he : SliceOf Rep.expr w.cell? v es) (hcol : ∀ e ∈ es, e.op = 2) (hr : root < es.length) (hl : es.length ≤ 1000) (hv : SliceOf Rep.val w.cell? vv vals) :
    Calls Tryz.prog 85 #[v, .int .i64 root, vv] w fun e w' => e = .returned (valV (colAt vals (es[root].col))) ∧ Ext w w' := by
  obtain ⟨i3, hi3, hz30, hz31, hz32⟩ := info_parts info_val3
  obtain ⟨p, cap, rfl, hc1, hc2, hp⟩ := he.form
  obtain ⟨q, qc, rfl, _⟩ := hv.form
  obtain ⟨bb, ob, rfl⟩ := hp (by decide) (by omega)
  obtain ⟨y, hy⟩ : ∃ y, y = colAt vals (es[root].col) := ⟨_, rfl⟩
  rw [← hy]
  have HY := Lib.hid hy
  obtain ⟨N, hN⟩ : ∃ N, N = es.length := ⟨_, rfl⟩
  have HE := Lib.hid he
  rw [← hN] at HE hc1 ⊢
  have HV := Lib.hid hv
  have HCOL := Lib.hid hcol
  have HN := Lib.hid hN
  obtain ⟨M, hM⟩ : ∃ M, M = root + 1 := ⟨_, rfl⟩
  have HM := Lib.hid hM
  have hMN : M ≤ N := by omega
  have hM1 : M ≤ 1000 := by omega
  have em : (root : Int) + 1 = (M : Int) := by omega
  have hw1 : IntKind.i64.wrap (M : Int) = (M : Int) := by rw [IntKind.wrap_i64]; omega
  have hd0 : decide ((root : Int) < 0) = false := by simp
  have hd1 : decide ((N : Int) ≤ (root : Int)) = false := by simp; omega
  have hrM : (root : Int) < (M : Int) := by omega
  have hMc : M ≤ cap := by omega
  have hMc' : (M : Int) ≤ (cap : Int) := by omega
  clear he hv hcol hN hl hy hM hc2 hp
  go_enter Tryz.func85, Tryz.ntmps85
  go_wp2_with fail
  go_step3
  go_wp2_with (at_make; go_loud (refine wpList_make_full _ rfl _ _ 40 rfl w.heap.size 44 i3 _ 3 Tryz.underlying40 hi3 hz30 hz31 .i64 .i64 (M : Int) (M : Int) M rfl rfl rfl rfl (by rw [hz32]; omega) (by unfold maxLen; omega) (by simp) ?_))
  intro w1 own1 gr1
  have hF1 := FreeN.made own1
  have X1 := Lib.hid (ext_grown ((Ext.refl w).alloc _) gr1 (fun k hk => by cases hk))
  have xz := ext_grown (Ext.refl _) gr1 (fun k hk => by cases hk)
  have HX0 := Lib.hid (show (w1.cell? ⟨w.heap.size, 0, none⟩ = some (.int .i64 0) ∧ w1.cell? ⟨w.heap.size, 1, none⟩ = some (.int .i64 0) ∧ w1.cell? ⟨w.heap.size, 2, none⟩ = some (.string ⟨#[]⟩)) ∧ w1.frozen? ⟨w.heap.size, 0, none⟩ = false ∧ w1.frozen? ⟨w.heap.size, 1, none⟩ = false ∧ w1.frozen? ⟨w.heap.size, 2, none⟩ = false from
    ⟨⟨xz.at (by go_simp), xz.at (by go_simp), xz.at (by go_simp)⟩, xz.unfrozen (p := ⟨w.heap.size, 0, none⟩) (v := .int .i64 0) (by go_simp) (by go_simp), xz.unfrozen (p := ⟨w.heap.size, 1, none⟩) (v := .int .i64 0) (by go_simp) (by go_simp), xz.unfrozen (p := ⟨w.heap.size, 2, none⟩) (v := .string ⟨#[]⟩) (by go_simp) (by go_simp)⟩)
  clear xz
  obtain ⟨g, hg⟩ : ∃ g, g = w.heap.size + 1 := ⟨_, rfl⟩
  have hF2 : FreeN w1 g (M * 3) := by
    rw [hg]
    exact hF1
  have HG := Lib.hid hg
  have HF2 := Lib.hid hF2
  have HX1 := Lib.hid (show Ext w w1 from X1.out)
  have hgl : ∀ z : Nat, z = w.heap.size + 1 → (⟨z, 0, none⟩ : Addr) = ⟨g, 0, none⟩ := fun z hz => by rw [hz, hg]
  try rw [← hg]
  clear hF1 hF2 own1 gr1 X1 hg hgl
  go_wp2_with fail
  refine wp_label ?_
  go_wp2_with fail
  go_loopg [30] M (fun gk vi wr => ∃ (k : Nat), k ≤ M ∧ gk = M - k ∧ vi = .int .i64 k ∧ Hid (FreeN wr g (M * 3)) ∧ Hid (k = M → wr.cell? ⟨g, root * 3, none⟩ = some (.int .i64 y.kind) ∧ wr.cell? ⟨g, root * 3 + 1, none⟩ = some (.int .i64 y.n) ∧ wr.cell? ⟨g, root * 3 + 2, none⟩ = some (.string y.s)) ∧ Hid (FreeN wr w.heap.size 3) ∧ Ext w wr)
  case atStart => exact ⟨0, by omega, rfl, rfl, HF2.out, fun h => by omega, (fun j hj => by
    obtain ⟨⟨a0, a1, a2⟩, b0, b1, b2⟩ := HX0.out
    rcases (by omega : j = 0 ∨ j = 1 ∨ j = 2) with rfl | rfl | rfl
    · exact ⟨⟨_, a0⟩, b0⟩
    · exact ⟨⟨_, a1⟩, b1⟩
    · exact ⟨⟨_, a2⟩, b2⟩), HX1.out⟩
  case round =>
    clear HF2 HX1 HX0
    obtain ⟨k, hk, rfl, rfl, HFR, HLS, HRS, hx⟩ := hrel
    by_cases hlt : k < M
    · have hd : decide ((k : Int) < (M : Int)) = true := by simp; omega
      have hkM : (k : Int) < (M : Int) := by omega
      have hkn : k < es.length := by have := HN.out; omega
      obtain ⟨c0, c1, c2, c3, c4, c5, c6⟩ := expr_at HE.out k hkn
      have hop := HCOL.out es[k] (List.getElem_mem hkn)
      have hyk : k + 1 = M → colAt vals es[k].col = y := fun e => by
        have h1 := HM.out
        have h2 : k = root := by omega
        subst h2
        exact HY.out.symm
      generalize es[k] = x at c0 c1 c2 c3 c4 c5 c6 hop hyk
      obtain ⟨xo, xa, xb, xc, ⟨xk, xn, xs⟩⟩ := x
      dsimp only at c0 c1 c2 c3 c4 c5 c6 hop hyk
      replace c0 := hx.at c0
      replace c1 := hx.at c1
      replace c2 := hx.at c2
      replace c3 := hx.at c3
      replace c4 := hx.at c4
      replace c5 := hx.at c5
      replace c6 := hx.at c6
      have HOP := Lib.hid hop
      have HYK := Lib.hid hyk
      have e0 := cell_lt c0
      clear hop hyk
      go_wp2_with fail
      refine (operands_col ⟨xo, xa, xb, xc, ⟨xk, xn, xs⟩⟩ HOP.out _).mono ?_
      rintro e w2 ⟨p2, d2, rfl, x2⟩
      have a0 : w2.cell? ⟨wr.heap.size, 0, none⟩ = some (.int .i64 xo) := x2.at (by go_simp)
      have a1 : w2.cell? ⟨wr.heap.size, 1, none⟩ = some (.int .i64 xa) := x2.at (by go_simp)
      have a2 : w2.cell? ⟨wr.heap.size, 2, none⟩ = some (.int .i64 xb) := x2.at (by go_simp)
      have a3 : w2.cell? ⟨wr.heap.size, 3, none⟩ = some (.int .i64 xc) := x2.at (by go_simp)
      have a4 : w2.cell? ⟨wr.heap.size, 4, none⟩ = some (.int .i64 xk) := x2.at (by go_simp)
      have a5 : w2.cell? ⟨wr.heap.size, 5, none⟩ = some (.int .i64 xn) := x2.at (by go_simp)
      have a6 : w2.cell? ⟨wr.heap.size, 6, none⟩ = some (.string xs) := x2.at (by go_simp)
      have X2 := Lib.hid (show Ext wr w2 from ((Ext.refl wr).alloc _).trans x2)
      have e2 := cell_lt a0
      clear x2 c0 c1 c2 c3 c4 c5 c6 e0
      go_wp2_with fail
      have HFR2 := Lib.hid (HFR.out.ext X2.out)
      have HRS2 := Lib.hid (HRS.out.ext X2.out)
      have HX2 := Lib.hid (hx.trans X2.out)
      clear HFR HRS HLS hx X2
      go_loopg [10, 38] 0 (fun gk va vi wq => gk = 0 ∧ va = .slice none 0 0 ∧ vi = .int .i64 0 ∧ wq = w2)
      case atStart => exact ⟨rfl, rfl, rfl, rfl⟩
      case round =>
        obtain ⟨rfl, rfl, rfl, rfl⟩ := hrel
        go_wp2_with fail
        refine (apply_col ⟨xo, xa, xb, xc, ⟨xk, xn, xs⟩⟩ HOP.out none 0 0 _ vals _ (HV.out.ext HX2.out.full)).mono ?_
        rintro e w3 ⟨rfl, x3⟩
        dsimp only
        obtain ⟨yy, hyy⟩ : ∃ z, z = colAt vals xc := ⟨_, rfl⟩
        rw [← hyy]
        have HYY := Lib.hid (show k + 1 = M → yy = y from fun e => by rw [hyy]; exact HYK.out e)
        obtain ⟨zk, zn, zs⟩ := yy
        have HFR3 := Lib.hid (HFR2.out.ext x3)
        have HRS3 := Lib.hid (HRS2.out.ext x3)
        have HX3 := Lib.hid (HX2.out.trans x3)
        obtain ⟨⟨o0, p0⟩, f0⟩ := HFR3.out (k * 3) (by omega)
        obtain ⟨⟨o1, p1⟩, f1⟩ := HFR3.out (k * 3 + 1) (by omega)
        obtain ⟨⟨o2, p2'⟩, f2⟩ := HFR3.out (k * 3 + 2) (by omega)
        have e3 := cell_lt p0
        have HGB := Lib.hid (show w.heap.size ≤ g ∧ g ≠ w.heap.size from by have := HG.out; omega)
        clear hyy HYK HFR2 HRS2 HX2 x3 a0 a1 a2 a3 a4 a5 a6 e2
        go_wp2_with fail
        go_roundg (M - (k + 1))
        case measure => omega
        case rel =>
          refine ⟨k + 1, by omega, rfl, by go_num, ((HFR3.out.set _ _).set _ _).set _ _, fun e => ?_, fun j hj => ?_, Below.setCell (Below.setCell (Below.setCell HX3.out HGB.out.1 _) HGB.out.1 _) HGB.out.1 _⟩
          · have h1 := HYY.out e
            have h2 : k = root := by have := HM.out; omega
            subst h2
            rw [← h1]
            refine ⟨?_, ?_, ?_⟩ <;> go_simp
          · obtain ⟨⟨u, hu⟩, hf⟩ := HRS3.out j hj
            exact ⟨⟨u, cell_set (cell_set (cell_set hu HGB.out.2) HGB.out.2) HGB.out.2⟩, by go_simp⟩
    · have hkM : k = M := by omega
      have hd : ¬ (k : Int) < (M : Int) := by omega
      obtain ⟨s0, s1, s2⟩ := HLS.out hkM
      obtain ⟨⟨o0, p0⟩, f0⟩ := HRS.out 0 (by omega)
      obtain ⟨⟨o1, p1⟩, f1⟩ := HRS.out 1 (by omega)
      obtain ⟨⟨o2, p2⟩, f2⟩ := HRS.out 2 (by omega)
      have e3 := cell_lt s0
      have e4 := cell_lt p0
      have HXF := Lib.hid hx
      clear hkM HLS HRS HFR hx
      go_wp2_with fail
      exact bodyPost_ret (v := valV y) (by simp [results, Tryz.results85, go_sem, p0, p1, p2]) rfl ⟨rfl, Below.setCell (Below.setCell (Below.setCell HXF.out (Nat.le_refl _) _) (Nat.le_refl _) _) (Nat.le_refl _) _⟩

end Go.Proofs.YtdgpbpbjlnlijaaGreatDoor

/- algebra.Project of columns, algebra.Aggregate of the count -/
namespace Go.Proofs.YtdgpbpbjlnlijaaGreatDoor
open Go.RowKit

/-- the columns that the keys name -/
def projC (es : List ExprI) (keys : List Int) (vals : List Val) : List Val := keys.map fun k => colAt vals ((es.map ExprI.col).getD k.toNat 0)
theorem proj_take (es : List ExprI) (keys : List Int) (vals : List Val) (k : Nat) (h : k < keys.length) : projC es (keys.take (k + 1)) vals = projC es (keys.take k) vals ++ [colAt vals ((es.map ExprI.col).getD keys[k].toNat 0)] := by
  rw [List.take_succ_eq_append_getElem h]
  unfold projC
  rw [List.map_append]
  rfl
theorem ok_colAt {vals : List Val} (h : ∀ x ∈ vals, okVal x) (c : Int) : okVal (colAt vals c) := by
  unfold colAt
  split
  · rename_i hc
    have hlt : c.toNat < vals.length := by omega
    rw [List.getD_eq_getElem?_getD, List.getElem?_eq_getElem hlt]
    exact h _ (List.getElem_mem hlt)
  · exact ok_nV
theorem vals_ok {h : View} {v : Value} {vs : List Val} (k : SliceOf Rep.val h v vs) : ∀ x ∈ vs, okVal x := by
  intro x hx
  obtain ⟨i, hi, rfl⟩ := List.getElem_of_mem hx
  obtain ⟨p, cap, rfl, _, _, hp⟩ := k.form
  obtain ⟨b, o, rfl⟩ := hp (by decide) (by omega)
  obtain ⟨c, ⟨_, h3⟩, _⟩ := k.at i hi
  exact h3

set_option maxRecDepth 100000 in
set_option maxHeartbeats 4000000 in
theorem project_col (v : Value) (es : List ExprI) (kv : Value) (keys : List Int) (vv : Value) (vals : List Val) (w : World) (he : SliceOf Rep.expr w.cell? v es) (hcol : ∀ e ∈ es, e.op = 2) (hl : es.length ≤ 1000) (hk : SliceOf Rep.int w.cell? kv keys) (hkr : ∀ k ∈ keys, 0 ≤ k ∧ k < es.length) (hkl : keys.length ≤ 1000) (hv : SliceOf Rep.val w.cell? vv vals) :
    Calls Tryz.prog 42 #[v, kv, vv] w fun e w' => ∃ v', e = .returned v' ∧ OwnOf Rep.val w' (fun _ => True) w.heap.size 44 v' (projC es keys vals) ∧ Ext w w' := by
  obtain ⟨i3, hi3, hz30, hz31, hz32⟩ := info_parts info_val3
  obtain ⟨pe, ce, rfl, _⟩ := he.form
  obtain ⟨pv, cv, rfl, _⟩ := hv.form
  obtain ⟨p, cap, rfl, hc1, hc2, hp⟩ := hk.form
  obtain ⟨N, hN⟩ : ∃ N, N = keys.length := ⟨_, rfl⟩
  have HK := Lib.hid hk
  rw [← hN]
  have HN := Lib.hid hN
  have HP := Lib.hid hp
  have HE := Lib.hid he
  have HV := Lib.hid hv
  have HCOL := Lib.hid hcol
  have HKR := Lib.hid hkr
  have HL := Lib.hid hl
  have hNl : N ≤ 1000 := by omega
  clear he hcol hl hk hkr hkl hv hp hc1 hc2 hN
  go_enter Tryz.func42, Tryz.ntmps42
  go_wp2_with fail
  go_loopg [7, 12] N (fun gk vo vi wr => ∃ (k : Nat) (u : Value) (o : List Val), k ≤ N ∧ gk = N - k ∧ vi = .int .i64 k ∧ u = vo ∧ Hid (OwnOf Rep.val wr (fun _ => True) w.heap.size 44 u o) ∧ Hid (o = projC es (keys.take k) vals) ∧ Ext w wr)
  case atStart => exact ⟨0, _, [], by omega, rfl, rfl, rfl, OwnOf.nil _ _ _ _ _, rfl, Ext.refl w⟩
  case round =>
    obtain ⟨k, u, o, hk, rfl, rfl, rfl, OW, AS, hx⟩ := hrel
    by_cases hlt : k < N
    · have hkl : k < keys.length := by have := HN.out; omega
      have hd : decide ((k : Int) < (N : Int)) = true := by simp; omega
      obtain ⟨b, o', rfl⟩ := HP.out (by decide) (by omega)
      have hv := HK.out
      rw [← HN.out] at hv
      obtain ⟨c0, _⟩ := int_at hv k hkl
      replace c0 := hx.at c0
      have hst := proj_take es keys vals k hkl
      have hkr := HKR.out keys[k] (List.getElem_mem hkl)
      have hol : o.length ≤ 1000 := by rw [AS.out]; unfold projC; rw [List.length_map, List.length_take]; omega
      rw [← AS.out] at hst
      generalize keys[k] = x at c0 hst hkr
      obtain ⟨root, rfl⟩ : ∃ r : Nat, x = r := ⟨x.toNat, by omega⟩
      have hrl : root < es.length := by omega
      have hcx : (es.map ExprI.col).getD (Int.toNat (root : Int)) 0 = es[root].col := by
        rw [Int.toNat_natCast, List.getD_eq_getElem?_getD, List.getElem?_map, List.getElem?_eq_getElem hrl]
        rfl
      rw [hcx] at hst
      obtain ⟨y, hy⟩ : ∃ y, y = colAt vals es[root].col := ⟨_, rfl⟩
      have hoy : okVal y := by rw [hy]; exact ok_colAt (vals_ok HV.out) _
      have e0 := cell_lt c0
      have HST := Lib.hid hst
      have HHY := Lib.hid hy
      have HOY := Lib.hid hoy
      have B1 : o.length + 1 ≤ maxLen := by unfold maxLen; omega
      have B2 : (o.length + 1) * 32 ≤ 140737488355328 := by omega
      clear hst hkr hv hol hcx hy hoy
      go_wp2_with fail
      refine (eval_col _ es root _ vals _ (HE.out.ext hx.full) HCOL.out hrl HL.out (HV.out.ext hx.full)).mono ?_
      rintro e w1 ⟨rfl, x1⟩
      rw [← HHY.out]
      have HX1 := Lib.hid x1
      obtain ⟨yk, yn, ys⟩ := y
      clear x1
      dsimp only
      go_wp2_with (at_builtin; go_loud (refine wpList_append_one Rep.val (fun _ => True) rfl _ _ 40 rfl w.heap.size 44 i3 _ 32 Tryz.underlying40 hi3 hz30 hz31 hz32 rfl (by decide) u o rfl (OW.out.ext (HX1.out.alloc _)) ⟨w1.heap.size, 0, none⟩ 1 ⟨yk, yn, ys⟩ [.int .i64 yk, .int .i64 yn, .string ys] rfl ⟨rfl, HOY.out⟩ (by exact cells_new w1 [.int .i64 yk, .int .i64 yn, .string ys] _) B1 B2 (by exact (hx.trans (HX1.out.alloc _)).size) ?_))
      intro g cap3 w3 own gr _
      have hxx : Ext w w3 := Ext.grownNew (hx.trans (HX1.out.alloc _)) gr OW.out.base
      have OW2 := Lib.hid own
      clear own gr
      go_wp2_with fail
      go_roundg (N - (k + 1))
      case measure => omega
      case rel => exact ⟨k + 1, _, _, by omega, rfl, by go_num, rfl, OW2.out, by show _ = _; rw [HST.out, ← HHY.out], hxx⟩
    · have hkN : k = N := by omega
      have hd : ¬ (k : Int) < (N : Int) := by omega
      have HF := Lib.hid (show o = projC es keys vals from by
        have h := AS.out
        rw [hkN, HN.out, List.take_length] at h
        exact h)
      clear hkN
      go_wp2_with fail
      go_ret
      exact ⟨u, rfl, by rw [← HF.out]; exact OW.out, hx⟩

set_option maxRecDepth 100000 in
set_option maxHeartbeats 4000000 in
theorem aggregate_count (v : Value) (pg : Option Addr) (ng cg : Nat) (arg : Int) (w : World) :
    Calls Tryz.prog 92 #[v, .agg #[.int .i64 1, .int .i64 arg], .slice pg ng cg] w fun e w' => e = .returned (valV (intVal ng)) ∧ Ext w w' := by
  go_enter Tryz.func92, Tryz.ntmps92
  go_wp2_with fail
  exact bodyPost_ret (v := valV (intVal ng)) (by simp [results, Tryz.results92, go_sem, valV, intVal]; rfl) rfl ⟨rfl, ((Ext.refl w).alloc _).alloc _⟩

end Go.Proofs.YtdgpbpbjlnlijaaGreatDoor

/- tuple.Boundaries, group.clip -/
namespace Go.Proofs.YtdgpbpbjlnlijaaGreatDoor
open Go.RowKit

theorem bnd_take (l : List Tup) (k : Nat) (h : k < l.length) : bnd (l.take (k + 1)) = bnd (l.take k) ++ if validB l[k].from_ l[k].to_ = true then [l[k].from_, l[k].to_] else [] := by
  rw [List.take_succ_eq_append_getElem h, bnd_append]
  simp only [bnd, List.flatMap_cons, List.flatMap_nil, List.append_nil]
  rfl

set_option maxRecDepth 100000 in
set_option maxHeartbeats 4000000 in
theorem bounds_any (v : Value) (l : List Tup) (w : World) (hv : SliceOf Rep.tup w.cell? v l) (hl : l.length ≤ 1048576) :
    Calls Tryz.prog 44 #[v] w fun e w' => ∃ v', e = .returned v' ∧ OwnOf Rep.int w' (fun _ => True) w.heap.size 3 v' (pts l) ∧ Ext w w' := by
  obtain ⟨i2, hi2, hz20, hz21, hz22⟩ := info_parts info_ints
  obtain ⟨p, cap, rfl, hc1, hc2, hp⟩ := hv.form
  obtain ⟨N, hN⟩ : ∃ N, N = l.length := ⟨_, rfl⟩
  have HV := Lib.hid hv
  rw [← hN]
  have HN := Lib.hid hN
  have HP := Lib.hid hp
  have hNl : N ≤ 1048576 := by omega
  clear hv hN hp hc1 hc2 hl
  go_enter Tryz.func44, Tryz.ntmps44
  go_wp2_with fail
  go_loopg [3, 8] N (fun gk vo vi wr => ∃ (k : Nat) (u : Value) (o : List Int), k ≤ N ∧ gk = N - k ∧ vi = .int .i64 k ∧ u = vo ∧ Hid (OwnOf Rep.int wr (fun _ => True) w.heap.size 3 u o) ∧ Hid (o = bnd (l.take k)) ∧ Ext w wr)
  case atStart => exact ⟨0, _, [], by omega, rfl, rfl, rfl, OwnOf.nil _ _ _ _ _, rfl, Ext.refl w⟩
  case round =>
    obtain ⟨k, u, o, hk, rfl, rfl, rfl, OW, AS, hx⟩ := hrel
    by_cases hlt : k < N
    · have hkl : k < l.length := by have := HN.out; omega
      obtain ⟨b, o', rfl⟩ := HP.out (by decide) (by omega)
      have hv := HV.out
      rw [← HN.out] at hv
      obtain ⟨ta, tb, c0, c1, c2, c3, g0, g1, r1, r2⟩ := tup_at hv k hkl
      obtain ⟨pa, ka, ta', _⟩ := g0.form
      obtain ⟨pb, kb, tb', _⟩ := g1.form
      subst ta' tb'
      replace c0 := hx.at c0
      replace c1 := hx.at c1
      replace c2 := hx.at c2
      replace c3 := hx.at c3
      have hst := bnd_take l k hkl
      have hol : o.length ≤ 2097152 := by
        have h2 := bnd_len (l.take k)
        have h3 := List.length_take_le k l
        rw [AS.out]
        omega
      rw [← AS.out] at hst
      generalize l[k].from_ = f at c1 hst r1
      generalize l[k].to_ = t at c2 hst r2
      generalize l[k].vals.length = na at c0
      generalize l[k].lin.length = nb at c3
      have HST := Lib.hid hst
      have HR := Lib.hid (show okI f ∧ okI t from ⟨r1, r2⟩)
      have B1 : o.length + 2 ≤ maxLen := by unfold maxLen; omega
      have B2 : (o.length + 2) * 8 ≤ 140737488355328 := by omega
      have hd : decide ((k : Int) < (N : Int)) = true := by simp; omega
      have e0 := cell_lt c0
      clear hst g0 g1 r1 r2 hv hol
      go_wp2_with fail
      refine (valid_any f t _).mono ?_
      rintro e w1 ⟨rfl, x1⟩
      have d1 : w1.cell? ⟨wr.heap.size, 1, none⟩ = some (.int .i64 f) := x1.at (by go_simp)
      have d2 : w1.cell? ⟨wr.heap.size, 2, none⟩ = some (.int .i64 t) := x1.at (by go_simp)
      have X1 := Lib.hid (show Ext wr w1 from ((Ext.refl wr).alloc _).trans x1)
      have e1 := cell_lt d1
      clear x1 c0 c1 c2 c3 e0
      cases hvb : validB f t with
      | true =>
        have HVB := Lib.hid hvb
        clear hvb
        go_wp2_with (at_builtin; refine wpList_append_all Rep.int (fun _ => True) rfl _ _ 24 rfl w.heap.size 3 i2 _ 8 Tryz.underlying24 hi2 hz20 hz21 hz22 rfl (by decide) u o rfl (OW.out.ext (X1.out.alloc _)) _ [f, t] rfl (lit_new (R := Rep.int) w1 [.int .i64 f, .int .i64 t] 3 [[.int .i64 f], [.int .i64 t]] [f, t] rfl (fun _ => ⟨⟨rfl, HR.out.1⟩, ⟨rfl, HR.out.2⟩, trivial⟩) (by simp [maxLen]) (fun x hx => Nat.lt_of_lt_of_le (OW.out.lt x hx).2 X1.out.size)) B1 B2 (by exact (hx.trans (X1.out.alloc _)).size) ?_)
        intro v3 w3 own gr _
        have hxx : Ext w w3 := Ext.grownNew (hx.trans (X1.out.alloc _)) gr OW.out.base
        have OW2 := Lib.hid own
        clear own gr d1 d2 e1
        go_wp2_with fail
        go_roundg (N - (k + 1))
        case measure => omega
        case rel => exact ⟨k + 1, v3, _, by omega, rfl, by go_num, rfl, OW2.out, by show _ = _; rw [HST.out, if_pos HVB.out], hxx⟩
      | false =>
        have HVB := Lib.hid hvb
        clear hvb
        go_wp2_with fail
        go_roundg (N - (k + 1))
        case measure => omega
        case rel => exact ⟨k + 1, u, o, by omega, rfl, by go_num, rfl, OW.out.ext X1.out, by show _ = _; rw [HST.out, HVB.out, if_neg (by decide), List.append_nil], hx.trans X1.out⟩
    · have hkN : k = N := by omega
      have hd : ¬ (k : Int) < (N : Int) := by omega
      have HF := Lib.hid (show o = bnd l from by
        have h := AS.out
        rw [hkN, HN.out, List.take_length] at h
        exact h)
      have hol : o.length ≤ 2097152 := by
        have h2 := bnd_len l
        have := HN.out
        rw [HF.out]
        omega
      have HOL := Lib.hid hol
      clear hkN hol
      go_wp2_with fail
      refine (sort_ints (fun _ => True) _ _ _ _ _ OW.out (by have := HOL.out; omega)).mono ?_
      rintro e w4 ⟨rfl, own4, gr4⟩
      have X4 := Lib.hid (Ext.grownNew hx gr4 OW.out.base)
      have OW4 := Lib.hid own4
      clear own4 gr4
      go_wp2_with fail
      refine (compact_ints (fun _ => True) _ _ _ _ _ OW4.out).mono ?_
      rintro e w5 ⟨v5, rfl, own5, gr5⟩
      have X5 := Lib.hid (Ext.grownNew X4.out gr5 OW4.out.base)
      have OW5 := Lib.hid (show OwnOf Rep.int w5 (fun _ => True) w.heap.size 3 v5 (pts l) from by
        have h : pts l = Lib.compact (o.mergeSort fun x y => decide (x ≤ y)) := by unfold pts mergeL; rw [List.append_nil, HF.out]
        rw [h]
        exact own5)
      clear own5 gr5
      go_wp2_with fail
      go_ret
      exact ⟨v5, rfl, OW5.out, X5.out⟩

end Go.Proofs.YtdgpbpbjlnlijaaGreatDoor

/- group.clip -/
namespace Go.Proofs.YtdgpbpbjlnlijaaGreatDoor
open Go.RowKit

theorem clip_take (l : List Tup) (k : Nat) (h : k < l.length) : clipT (l.take (k + 1)) = clipT (l.take k) ++ if interB l[k].from_ l[k].to_ 0 1000000 = true then [⟨l[k].vals, max l[k].from_ 0, min l[k].to_ 1000000, l[k].lin⟩] else [] := by
  rw [List.take_succ_eq_append_getElem h]
  unfold clipT
  rw [List.filterMap_append, List.filterMap_cons, List.filterMap_nil]
  congr 1
  have e : interB l[k].from_ l[k].to_ 0 1000000 = (validB l[k].from_ l[k].to_ && decide (max l[k].from_ 0 < min l[k].to_ 1000000)) := by
    unfold interB
    rw [show validB 0 1000000 = true by decide, Bool.and_true]
  unfold clip1 validT
  rw [e]
  by_cases c : validB l[k].from_ l[k].to_ = true ∧ max l[k].from_ 0 < min l[k].to_ 1000000
  · rw [if_pos c, if_pos (by rw [Bool.and_eq_true, decide_eq_true_eq]; exact c)]
  · rw [if_neg c, if_neg (by rw [Bool.and_eq_true, decide_eq_true_eq]; exact c)]
theorem clip_len (l : List Tup) : (clipT l).length ≤ l.length := List.length_filterMap_le _ _

theorem old_avoidS {w w' : World} {S : Nat → Prop} {u : Value} {α : Type} {R : Rep α} {e : TypeId} {xs : List α} (hS : ∀ x, S x → x < w.heap.size) (hx : Ext w w') (own : OwnOf R w' S w.heap.size e u xs) : Sub (on w S) (on w' (avoid S u)) := fun p v h => by
  obtain ⟨h1, h2⟩ := on_some.1 h
  exact on_some.2 ⟨⟨fun e => by have := (own.lt _ e.symm).1; have := hS _ h1; omega, h1⟩, hx.at h2⟩
set_option maxRecDepth 100000 in
set_option maxHeartbeats 4000000 in
theorem clip_any (v : Value) (l : List Tup) (w : World) (S : Nat → Prop) (hS : ∀ x, S x → x < w.heap.size) (hv : SliceOf Rep.tup (on w S) v l) (hl : l.length ≤ 1048576) (hD : DaysW w) :
    Calls Tryz.prog 41 #[v] w fun e w' => ∃ v', e = .returned v' ∧ OwnOf Rep.tup w' S w.heap.size 77 v' (clipT l) ∧ Ext w w' := by
  obtain ⟨i2, hi2, hz20, hz21, hz22⟩ := info_parts info_tupN
  obtain ⟨p, cap, rfl, hc1, hc2, hp⟩ := hv.form
  obtain ⟨N, hN⟩ : ∃ N, N = l.length := ⟨_, rfl⟩
  have HV := Lib.hid hv
  rw [← hN]
  have HN := Lib.hid hN
  have HP := Lib.hid hp
  have HD := Lib.hid hD
  have HSS := Lib.hid hS
  have hNl : N ≤ 1048576 := by omega
  clear hv hN hp hc1 hc2 hl hD hS
  go_enter Tryz.func41, Tryz.ntmps41
  go_wp2_with fail
  go_loopg [3, 10] N (fun gk vo vi wr => ∃ (k : Nat) (u : Value) (o : List Tup), k ≤ N ∧ gk = N - k ∧ vi = .int .i64 k ∧ u = vo ∧ Hid (OwnOf Rep.tup wr S w.heap.size 77 u o) ∧ Hid (o = clipT (l.take k)) ∧ Ext w wr)
  case atStart => exact ⟨0, _, [], by omega, rfl, rfl, rfl, OwnOf.nil _ _ _ _ _, rfl, Ext.refl w⟩
  case round =>
    obtain ⟨k, u, o, hk, rfl, rfl, rfl, OW, AS, hx⟩ := hrel
    by_cases hlt : k < N
    · have hkl : k < l.length := by have := HN.out; omega
      have hd : decide ((k : Int) < (N : Int)) = true := by simp; omega
      obtain ⟨b, o', rfl⟩ := HP.out (by decide) (by omega)
      have hv := HV.out
      rw [← HN.out] at hv
      obtain ⟨ta, tb, c0, c1, c2, c3, g0, g1, r1, r2⟩ := tup_at hv k hkl
      obtain ⟨pa, ka, ta', _⟩ := g0.form
      obtain ⟨pb, kb, tb', _⟩ := g1.form
      subst ta' tb'
      replace c0 := hx.at (on_some.1 c0).2
      replace c1 := hx.at (on_some.1 c1).2
      replace c2 := hx.at (on_some.1 c2).2
      replace c3 := hx.at (on_some.1 c3).2
      have hst := clip_take l k hkl
      have hol : o.length ≤ 1048576 := by
        rw [AS.out]
        exact Nat.le_trans (clip_len _) (Nat.le_trans (List.length_take_le _ _) (by omega))
      rw [← AS.out] at hst
      generalize l[k] = y at c0 c1 c2 c3 g0 g1 r1 r2 hst
      obtain ⟨vs, f, t, ln⟩ := y
      dsimp only at c0 c1 c2 c3 g0 g1 r1 r2 hst
      have HST := Lib.hid hst
      have G0 := Lib.hid g0
      have G1 := Lib.hid g1
      have HR := Lib.hid (show okI f ∧ okI t from ⟨r1, r2⟩)
      have e0 := cell_lt c0
      obtain ⟨y0, y1⟩ := days_cells (HD.out.ext hx)
      have e9 := cell_lt y0
      clear hst g0 g1 r1 r2 hv
      go_wp2_with fail
      refine (intersect_any f t 0 1000000 _).mono ?_
      rintro e w1 ⟨rfl, x1⟩
      have d0 : w1.cell? ⟨wr.heap.size, 0, none⟩ = some (.slice pa vs.length ka) := x1.at (by go_simp)
      have d1 : w1.cell? ⟨wr.heap.size, 1, none⟩ = some (.int .i64 f) := x1.at (by go_simp)
      have d2 : w1.cell? ⟨wr.heap.size, 2, none⟩ = some (.int .i64 t) := x1.at (by go_simp)
      have d3 : w1.cell? ⟨wr.heap.size, 3, none⟩ = some (.slice pb ln.length kb) := x1.at (by go_simp)
      have u1 : w1.frozen? ⟨wr.heap.size, 1, none⟩ = false := x1.unfrozen (p := ⟨wr.heap.size, 1, none⟩) (v := .int .i64 f) (by go_simp) (by go_simp)
      have u2 : w1.frozen? ⟨wr.heap.size, 2, none⟩ = false := x1.unfrozen (p := ⟨wr.heap.size, 2, none⟩) (v := .int .i64 t) (by go_simp) (by go_simp)
      have X1 := Lib.hid (show Ext wr w1 from ((Ext.refl wr).alloc _).trans x1)
      have e1 := cell_lt d0
      clear x1 c0 c1 c2 c3 e0 y0 y1 e9
      obtain ⟨f', hf'⟩ : ∃ x, x = max f 0 := ⟨_, rfl⟩
      obtain ⟨t', ht'⟩ : ∃ x, x = min t 1000000 := ⟨_, rfl⟩
      have HFT := Lib.hid (And.intro hf' ht')
      cases hib : interB f t 0 1000000 with
      | true =>
        have HIB := Lib.hid hib
        have hok : okI f' ∧ okI t' := by have := HR.out; unfold okI at *; omega
        have HOK := Lib.hid hok
        rw [interV_yes hib hf' ht']
        unfold perV
        have B1 : o.length + 1 ≤ maxLen := by unfold maxLen; omega
        have B2 : (o.length + 1) * 64 ≤ 140737488355328 := by omega
        clear hib hok hf' ht'
        have XW0 : Ext wr (((w1.setCell ⟨wr.heap.size, 1, none⟩ (.int .i64 f')).setCell ⟨wr.heap.size, 2, none⟩ (.int .i64 t')).alloc (.cells #[.int .i64 f', .int .i64 t'] 52)) := Ext.alloc (Below.setCell (Below.setCell X1.out (Nat.le_refl _) _) (Nat.le_refl _) _) _
        have hsz : (((w1.setCell ⟨wr.heap.size, 1, none⟩ (.int .i64 f')).setCell ⟨wr.heap.size, 2, none⟩ (.int .i64 t')).alloc (.cells #[.int .i64 f', .int .i64 t'] 52)).heap.size = w1.heap.size + 1 := by simp
        have HXW := Lib.hid (And.intro XW0 hsz)
        clear XW0 hsz
        have HC := Lib.hid (show ∀ (j : Nat) (z : Value), [.slice pa vs.length ka, .int .i64 f', .int .i64 t', .slice pb ln.length kb][j]? = some z → ((((w1.setCell ⟨wr.heap.size, 1, none⟩ (.int .i64 f')).setCell ⟨wr.heap.size, 2, none⟩ (.int .i64 t')).alloc (.cells #[.int .i64 f', .int .i64 t'] 52)).alloc (.cells #[.slice pa vs.length ka, .int .i64 f', .int .i64 t', .slice pb ln.length kb] 77)).cell? ((⟨w1.heap.size + 1, 0, none⟩ : Addr).add j) = some z from by
          have h := cells_new (((w1.setCell ⟨wr.heap.size, 1, none⟩ (.int .i64 f')).setCell ⟨wr.heap.size, 2, none⟩ (.int .i64 t')).alloc (.cells #[.int .i64 f', .int .i64 t'] 52)) [.slice pa vs.length ka, .int .i64 f', .int .i64 t', .slice pb ln.length kb] 77
          rw [HXW.out.2] at h
          exact h)
        have HH := Lib.hid (show Rep.tup.holds (on ((((w1.setCell ⟨wr.heap.size, 1, none⟩ (.int .i64 f')).setCell ⟨wr.heap.size, 2, none⟩ (.int .i64 t')).alloc (.cells #[.int .i64 f', .int .i64 t'] 52)).alloc (.cells #[.slice pa vs.length ka, .int .i64 f', .int .i64 t', .slice pb ln.length kb] 77)) (avoid S u)) [.slice pa vs.length ka, .int .i64 f', .int .i64 t', .slice pb ln.length kb] ⟨vs, f', t', ln⟩ from by
          have hs : Sub (on w S) (on ((((w1.setCell ⟨wr.heap.size, 1, none⟩ (.int .i64 f')).setCell ⟨wr.heap.size, 2, none⟩ (.int .i64 t')).alloc (.cells #[.int .i64 f', .int .i64 t'] 52)).alloc (.cells #[.slice pa vs.length ka, .int .i64 f', .int .i64 t', .slice pb ln.length kb] 77)) (avoid S u)) := old_avoidS HSS.out (hx.trans (HXW.out.1.alloc _)) (OW.out.ext (HXW.out.1.alloc _))
          exact ⟨_, _, rfl, G0.out.ext hs, G1.out.ext hs, HOK.out.1, HOK.out.2⟩)
        go_wp2_with (at_builtin; refine wpList_append_one Rep.tup S rfl _ _ 22 rfl w.heap.size 77 i2 _ 64 Tryz.underlying22 hi2 hz20 hz21 hz22 rfl (by decide) u o rfl (OW.out.ext (HXW.out.1.alloc _)) ⟨w1.heap.size + 1, 0, none⟩ 1 ⟨vs, f', t', ln⟩ [.slice pa vs.length ka, .int .i64 f', .int .i64 t', .slice pb ln.length kb] rfl HH.out HC.out B1 B2 (by exact (hx.trans (HXW.out.1.alloc _)).size) ?_)
        intro g cap3 w3 own gr _
        have hxx : Ext w w3 := Ext.grownNew (hx.trans (HXW.out.1.alloc _)) gr OW.out.base
        have OW2 := Lib.hid own
        clear own gr d0 d1 d2 d3 e1 HC HH
        go_wp2_with fail
        go_roundg (N - (k + 1))
        case measure => omega
        case rel => exact ⟨k + 1, _, o ++ [(⟨vs, f', t', ln⟩ : Tup)], by omega, rfl, by go_num, rfl, OW2.out, by show _ = _; rw [HST.out, if_pos HIB.out, HFT.out.1, HFT.out.2], hxx⟩
      | false =>
        have HIB := Lib.hid hib
        rw [interV_no hib]
        unfold perV
        clear hib hf' ht'
        go_wp2_with fail
        go_roundg (N - (k + 1))
        case measure => omega
        case rel => exact ⟨k + 1, u, o, by omega, rfl, by go_num, rfl, OW.out.ext (X1.out.alloc _), by show _ = _; rw [HST.out, HIB.out, if_neg (by decide), List.append_nil], hx.trans (X1.out.alloc _)⟩
    · have hkN : k = N := by omega
      have hd : ¬ (k : Int) < (N : Int) := by omega
      have HF := Lib.hid (show o = clipT l from by
        have h := AS.out
        rw [hkN, HN.out, List.take_length] at h
        exact h)
      clear hkN
      go_wp2_with fail
      go_ret
      exact ⟨u, rfl, by rw [← HF.out]; exact OW.out, hx⟩

end Go.Proofs.YtdgpbpbjlnlijaaGreatDoor
