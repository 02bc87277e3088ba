/- joined texts of a proof: PlainS, BagD, BagE, BagF, BagH, BagI, BagJ, BagK, ShelfB -/
import Derived.Sort.LotA
import Derived.Test.YtdgpbpbjlnlijaaGreatDoorKJ02
import Derived.Test.YtdgpbpbjlnlijaaGreatDoorKJ01
import Derived.IntWalk
import Derived.Shelf.Spec.SlicesGrow
import Derived.Ground.Names8Prog
import Derived.Test.YtdgpbpbjlnlijaaGreatDoorProg

/- StabP, HeapP, PairP, SwapP, RefP, joined -/

/- plain: exchange of blocks, rotation, the merge of two ascending neighbours in place; no program in sight -/
namespace Go.Proofs.YtdgpbpbjlnlijaaGreatDoor
open Go.Sort

section
variable {α : Type} [Inhabited α]
theorem get_at (d : Array α) {x y : Nat} (h : x = y) : d[x]! = d[y]! := by rw [h]
/-- n elements from a on, exchanged with those from b on -/
def SwapOf (d d' : Array α) (a b n : Nat) : Prop :=
  d'.size = d.size ∧ ∀ k, d'[k]! = if a ≤ k ∧ k < a + n then d[k - a + b]! else if b ≤ k ∧ k < b + n then d[k - b + a]! else d[k]!
/-- the two neighbouring blocks of i and of j elements from lo on, exchanged -/
def RotOf (d d' : Array α) (lo i j : Nat) : Prop :=
  d'.size = d.size ∧ ∀ k, d'[k]! = if lo ≤ k ∧ k < lo + j then d[k + i]! else if lo + j ≤ k ∧ k < lo + i + j then d[k - j]! else d[k]!
theorem SwapOf.zero (d : Array α) (a b : Nat) : SwapOf d d a b 0 := ⟨rfl, fun k => by rw [if_neg (by omega), if_neg (by omega)]⟩
theorem SwapOf.step {d dk : Array α} {a b i : Nat} (h : SwapOf d dk a b i) (hab : a + i + 1 ≤ b) (hb : b + i < d.size) : SwapOf d (swp dk (a + i) (b + i)) a b (i + 1) := by
  have hs := h.1
  refine ⟨by rw [size_swp]; exact h.1, fun k => ?_⟩
  rw [swp_get dk (by omega) (by omega), h.2 (a + i), h.2 (b + i), h.2 k]
  repeat' split
  all_goals first | omega | rfl | exact get_at d (by omega)
theorem RotOf.left {d d2 d' : Array α} {lo i j : Nat} (h : SwapOf d d2 lo (lo + i) j) (hij : j < i) (k : RotOf d2 d' (lo + j) (i - j) j) : RotOf d d' lo i j := by
  refine ⟨k.1.trans h.1, fun x => ?_⟩
  rw [k.2 x, h.2 (x + (i - j)), h.2 (x - j), h.2 x]
  repeat' split
  all_goals first | omega | rfl | exact get_at d (by omega)
theorem RotOf.right {d d2 d' : Array α} {lo i j : Nat} (h : SwapOf d d2 lo (lo + j) i) (hij : i < j) (k : RotOf d2 d' lo i (j - i)) : RotOf d d' lo i j := by
  refine ⟨k.1.trans h.1, fun x => ?_⟩
  rw [k.2 x, h.2 (x + i), h.2 (x - (j - i)), h.2 x]
  repeat' split
  all_goals first | omega | rfl | exact get_at d (by omega)
theorem RotOf.last {d d2 : Array α} {lo i : Nat} (h : SwapOf d d2 lo (lo + i) i) : RotOf d d2 lo i i := by
  refine ⟨h.1, fun x => ?_⟩
  rw [h.2 x]
  repeat' split
  all_goals first | omega | rfl | exact get_at d (by omega)
theorem RotOf.none_left (d : Array α) (lo j : Nat) : RotOf d d lo 0 j := ⟨rfl, fun k => by
  repeat' split
  all_goals first | omega | rfl⟩
theorem RotOf.none_right (d : Array α) (lo i : Nat) : RotOf d d lo i 0 := ⟨rfl, fun k => by
  repeat' split
  all_goals first | omega | rfl⟩
/-- one element moves up by one place more -/
theorem RotOf.up {d dk : Array α} {a k : Nat} (h : RotOf d dk a 1 (k - a)) (hak : a ≤ k) (hk : k + 1 < d.size) : RotOf d (swp dk k (k + 1)) a 1 (k + 1 - a) := by
  have hs := h.1
  refine ⟨by rw [size_swp]; exact h.1, fun x => ?_⟩
  rw [swp_get dk (by omega) (by omega), h.2 k, h.2 (k + 1), h.2 x]
  repeat' split
  all_goals first | omega | rfl | exact get_at d (by omega)
/-- .. moves down -/
theorem RotOf.down {d dk : Array α} {m k : Nat} (h : RotOf d dk k (m - k) 1) (h0 : 0 < k) (hkm : k ≤ m) (hm : m < d.size) : RotOf d (swp dk k (k - 1)) (k - 1) (m - (k - 1)) 1 := by
  have hs := h.1
  refine ⟨by rw [size_swp]; exact h.1, fun x => ?_⟩
  rw [swp_get dk (by omega) (by omega), h.2 k, h.2 (k - 1), h.2 x]
  repeat' split
  all_goals first | omega | rfl | exact get_at d (by omega)

variable {lt : α → α → Bool}
theorem srt_le (hS : SWO lt) {a b i j : Nat} {d : Array α} (h : SortedIn lt a b d) (hi : a ≤ i) (hij : i ≤ j) (hj : j < b) : lt d[j]! d[i]! = false := by
  by_cases e : i = j
  · subst e; exact hS.irrefl _
  · exact h i j hi (by omega) hj
theorem sorted_join {a m b : Nat} {d : Array α} (h1 : SortedIn lt a m d) (h2 : SortedIn lt m b d) (hc : ∀ i j, a ≤ i → i < m → m ≤ j → j < b → lt d[j]! d[i]! = false) : SortedIn lt a b d := by
  intro i j hi hij hj
  by_cases him : i < m
  · by_cases hjm : j < m
    · exact h1 i j hi hij hjm
    · exact hc i j hi him (by omega) hj
  · exact h2 i j (by omega) hij hj
theorem sorted_one {a : Nat} {d : Array α} : SortedIn lt a (a + 1) d := fun i j hi hij hj => by omega
/-- two ascending neighbours, cut at s and e, their inner parts exchanged: what is known behind it -/
theorem rot_parts (hS : SWO lt) {d d1 : Array α} {a s m e b : Nat} (h1 : SortedIn lt a m d) (h2 : SortedIn lt m b d) (has : a ≤ s) (hsm : s ≤ m) (hme : m ≤ e) (heb : e ≤ b) (hr : RotOf d d1 s (m - s) (e - m))
    (hlo : s = a ∨ e = b ∨ lt d[e]! d[s - 1]! = false) (hhi : s = m ∨ e = m ∨ lt d[e - 1]! d[s]! = true) :
    SortedIn lt a s d1 ∧ SortedIn lt s (s + (e - m)) d1 ∧ SortedIn lt (s + (e - m)) e d1 ∧ SortedIn lt e b d1 ∧
      ∀ i j, a ≤ i → i < s + (e - m) → s + (e - m) ≤ j → j < b → lt d1[j]! d1[i]! = false := by
  have gA1 : ∀ x, x < s → d1[x]! = d[x]! := fun x hx => by rw [hr.2 x, if_neg (by omega), if_neg (by omega)]
  have gB1 : ∀ x, s ≤ x → x < s + (e - m) → d1[x]! = d[x + (m - s)]! := fun x hx hx2 => by rw [hr.2 x, if_pos ⟨hx, hx2⟩]
  have gA2 : ∀ x, s + (e - m) ≤ x → x < e → d1[x]! = d[x - (e - m)]! := fun x hx hx2 => by rw [hr.2 x, if_neg (by omega), if_pos (by omega)]
  have gB2 : ∀ x, e ≤ x → d1[x]! = d[x]! := fun x hx => by rw [hr.2 x, if_neg (by omega), if_neg (by omega)]
  refine ⟨fun i j hi hij hj => ?_, fun i j hi hij hj => ?_, fun i j hi hij hj => ?_, fun i j hi hij hj => ?_, fun i j hi him hmj hj => ?_⟩
  · rw [gA1 i (by omega), gA1 j hj]; exact h1 i j hi hij (by omega)
  · rw [gB1 i hi (by omega), gB1 j (by omega) hj]; exact h2 _ _ (by omega) (by omega) (by omega)
  · rw [gA2 i hi (by omega), gA2 j (by omega) hj]; exact h1 _ _ (by omega) (by omega) (by omega)
  · rw [gB2 i hi, gB2 j (by omega)]; exact h2 _ _ (by omega) (by omega) (by omega)
  · by_cases hi1 : i < s
    · rw [gA1 i hi1]
      by_cases hj1 : j < e
      · rw [gA2 j hmj hj1]; exact srt_le hS h1 hi (by omega) (by omega)
      · rw [gB2 j (by omega)]
        rcases hlo with hlo | hlo | hlo
        · omega
        · omega
        · exact hS.ntrans _ _ _ (srt_le hS h2 hme (by omega) hj) (hS.ntrans _ _ _ hlo (srt_le hS h1 hi (by omega) (by omega)))
    · rw [gB1 i (by omega) him]
      by_cases hj1 : j < e
      · rw [gA2 j hmj hj1]
        rcases hhi with hhi | hhi | hhi
        · omega
        · omega
        · exact hS.ntrans _ _ _ (srt_le hS h1 has (by omega) (by omega)) (hS.ntrans _ _ _ (SWO.asymmA hS hhi) (srt_le hS h2 (by omega) (by omega) (by omega)))
      · rw [gB2 j (by omega)]; exact srt_le hS h2 (by omega) (by omega) hj
/-- the first half is one element -/
theorem rot_first (hS : SWO lt) {d d1 : Array α} {a e b : Nat} (h2 : SortedIn lt (a + 1) b d) (hme : a + 1 ≤ e) (heb : e ≤ b) (hr : RotOf d d1 a 1 (e - (a + 1)))
    (hhi : e = a + 1 ∨ lt d[e - 1]! d[a]! = true) (hlo : e = b ∨ lt d[e]! d[a]! = false) : SortedIn lt a b d1 := by
  obtain ⟨_, p2, p3, p4, p5⟩ := rot_parts hS (a := a) (s := a) (sorted_one (d := d)) h2 (Nat.le_refl _) (by omega) hme heb (by rwa [Nat.add_sub_cancel_left]) (.inl rfl) (.inr hhi)
  refine sorted_join p2 (sorted_join p3 p4 fun i j hi hie hj hjb => ?_) p5
  have hi2 : i = e - 1 := by omega
  subst hi2
  rw [hr.2 (e - 1), hr.2 j, if_neg (by omega), if_neg (by omega), if_neg (by omega), if_pos (by omega)]
  rcases hlo with hlo | hlo
  · omega
  · rw [get_at d (show e - 1 - (e - (a + 1)) = a by omega)]
    exact hS.ntrans _ _ _ (srt_le hS h2 hme (by omega) hjb) hlo
/-- the second half is one element -/
theorem rot_second (hS : SWO lt) {d d1 : Array α} {a s m : Nat} (h1 : SortedIn lt a m d) (has : a ≤ s) (hsm : s ≤ m) (hr : RotOf d d1 s (m - s) 1)
    (hlo : s = a ∨ lt d[m]! d[s - 1]! = false) (hhi : s = m ∨ lt d[m]! d[s]! = true) : SortedIn lt a (m + 1) d1 := by
  obtain ⟨p1, p2, p3, _, p5⟩ := rot_parts hS (s := s) (e := m + 1) (b := m + 1) h1 (sorted_one (d := d)) has hsm (by omega) (Nat.le_refl _) (by rwa [Nat.add_sub_cancel_left]) (.inr (.inl rfl)) (hhi.elim .inl fun h => .inr (.inr h))
  rw [Nat.add_sub_cancel_left] at p2 p3 p5
  refine sorted_join (sorted_join p1 p2 fun i j hi his hj hje => ?_) p3 p5
  have hj2 : j = s := by omega
  subst hj2
  rw [hr.2 i, hr.2 j, if_pos (by omega), if_neg (by omega), if_neg (by omega)]
  rcases hlo with hlo | hlo
  · omega
  · rw [get_at d (show j + (m - j) = m by omega)]
    exact hS.ntrans _ _ _ hlo (srt_le hS h1 hi (by omega) (by omega))
/-- behind the two inner merges -/
theorem merge_end {d d1 d2 d3 : Array α} {a mid b : Nat} (hb : b ≤ d.size) (ham : a ≤ mid) (hmb : mid ≤ b) (p0 : PermIn a b d d1) (hc : ∀ i j, a ≤ i → i < mid → mid ≤ j → j < b → lt d1[j]! d1[i]! = false)
    (p1 : PermIn a mid d1 d2) (s1 : SortedIn lt a mid d2) (p2 : PermIn mid b d2 d3) (s2 : SortedIn lt mid b d3) : PermIn a b d d3 ∧ SortedIn lt a b d3 := by
  have z1 := p0.1
  have z2 := p1.1
  have z3 := p2.1
  refine ⟨permIn_trans _ _ _ _ _ (permIn_trans _ _ _ _ _ p0 (permIn_mono _ _ _ _ _ _ (Nat.le_refl _) hmb (by omega) p1)) (permIn_mono _ _ _ _ _ _ ham (Nat.le_refl _) (by omega) p2), ?_⟩
  refine sorted_join (fun i j hi hij hj => ?_) s2 fun i j hi him hmj hj => ?_
  · rw [p2.2.1 i (.inl (by omega)), p2.2.1 j (.inl hj)]; exact s1 i j hi hij hj
  · rw [p2.2.1 i (.inl him)]
    refine permIn_all d2 d3 mid b (fun y => lt y d2[i]! = false) (by omega) p2 (fun y hy hyb => ?_) j hmj hj
    rw [p1.2.1 y (.inr hy)]
    exact permIn_all d1 d2 a mid (fun x => lt d1[y]! x = false) (by omega) p1 (fun x hx hxm => hc x y hx hxm hy hyb) i hi him
theorem sorted_perm_out {d d' : Array α} {a b x y : Nat} (p : PermIn a b d d') (h : SortedIn lt x y d) (ho : y ≤ a ∨ b ≤ x) : SortedIn lt x y d' := fun i j hi hij hj => by
  rw [p.2.1 i (by omega), p.2.1 j (by omega)]; exact h i j hi hij hj
end

end Go.Proofs.YtdgpbpbjlnlijaaGreatDoor

/- plain: a heap in an array (the moves of container/heap); no program in sight -/
namespace Go.Proofs.YtdgpbpbjlnlijaaGreatDoor
open Go.Sort

section
variable {α : Type} [Inhabited α] {lt : α → α → Bool}
/-- no child is less than its parent, among the first n -/
def HeapTo (lt : α → α → Bool) (n : Nat) (d : Array α) : Prop := ∀ k, 0 < k → k < n → lt d[k]! d[(k - 1) / 2]! = false
/-- .. but perhaps at j; the children of j are not less than its parent -/
def UpInv (lt : α → α → Bool) (n : Nat) (d : Array α) (j : Nat) : Prop :=
  (∀ k, 0 < k → k < n → k ≠ j → lt d[k]! d[(k - 1) / 2]! = false) ∧ (0 < j → ∀ k, 0 < k → k < n → (k - 1) / 2 = j → lt d[k]! d[(j - 1) / 2]! = false)
theorem UpInv.start {n : Nat} {d : Array α} (h : HeapTo lt n d) {d' : Array α} (hd : ∀ k, k < n → d'[k]! = d[k]!) : UpInv lt (n + 1) d' n := by
  refine ⟨fun k h0 hk hkn => ?_, fun h0 k hk0 hk hp => by omega⟩
  rw [hd k (by omega), hd _ (by omega)]
  exact h k h0 (by omega)
theorem UpInv.stop {n j : Nat} {d : Array α} (h : UpInv lt n d j) (hj : j = 0 ∨ lt d[j]! d[(j - 1) / 2]! = false) : HeapTo lt n d := by
  intro k h0 hk
  by_cases e : k = j
  · subst e
    rcases hj with hj | hj
    · omega
    · exact hj
  · exact h.1 k h0 hk e
theorem UpInv.step (hS : SWO lt) {n j : Nat} {d : Array α} (h : UpInv lt n d j) (hjn : j < n) (hn : n ≤ d.size) (hj : 0 < j) (hl : lt d[j]! d[(j - 1) / 2]! = true) : UpInv lt n (swp d ((j - 1) / 2) j) ((j - 1) / 2) := by
  have g := fun k => swp_get d (i := (j - 1) / 2) (j := j) (by omega) (by omega) k
  have hb := SWO.asymmA hS hl
  refine ⟨fun k h0 hk hkn => ?_, fun hi0 k h0 hk hp => ?_⟩
  · by_cases e1 : k = j
    · subst e1
      rw [g k, g ((k - 1) / 2), if_pos rfl, if_neg (by omega), if_pos rfl]
      exact hb
    · rw [g k, if_neg e1, if_neg hkn, g ((k - 1) / 2)]
      by_cases e2 : (k - 1) / 2 = j
      · rw [if_pos e2]; exact h.2 hj k h0 hk e2
      · rw [if_neg e2]
        have h1 := h.1 k h0 hk e1
        by_cases e3 : (k - 1) / 2 = (j - 1) / 2
        · rw [if_pos e3]
          rw [e3] at h1
          exact hS.ntrans _ _ _ h1 hb
        · rw [if_neg e3]; exact h1
  · have h1 := h.1 ((j - 1) / 2) hi0 (by omega) (by omega)
    rw [g k, g (((j - 1) / 2 - 1) / 2), if_neg (show ((j - 1) / 2 - 1) / 2 ≠ j by omega), if_neg (show ((j - 1) / 2 - 1) / 2 ≠ (j - 1) / 2 by omega)]
    by_cases e1 : k = j
    · rw [if_pos e1]; exact h1
    · rw [if_neg e1, if_neg (show k ≠ (j - 1) / 2 by omega)]
      have h2 := h.1 k h0 hk e1
      rw [hp] at h2
      exact hS.ntrans _ _ _ h2 h1
/-- .. but perhaps below i -/
def DownInv (lt : α → α → Bool) (n : Nat) (d : Array α) (i : Nat) : Prop :=
  (∀ k, 0 < k → k < n → (k - 1) / 2 ≠ i → lt d[k]! d[(k - 1) / 2]! = false) ∧ (0 < i → ∀ k, 0 < k → k < n → (k - 1) / 2 = i → lt d[k]! d[(i - 1) / 2]! = false)
theorem DownInv.start {n : Nat} {d : Array α} (h : HeapTo lt (n + 1) d) (hn : n < d.size) : DownInv lt n (swp d 0 n) 0 := by
  have g := fun k => swp_get d (i := 0) (j := n) (by omega) hn k
  refine ⟨fun k h0 hk hp => ?_, fun h0 => by omega⟩
  rw [g k, g ((k - 1) / 2), if_neg (by omega), if_neg (by omega), if_neg (by omega), if_neg hp]
  exact h k h0 (by omega)
theorem DownInv.leaf {n i : Nat} {d : Array α} (h : DownInv lt n d i) (hi : n ≤ 2 * i + 1) : HeapTo lt n d := fun k h0 hk => h.1 k h0 hk (by omega)
/-- j: the smaller child of i -/
def Small (lt : α → α → Bool) (n : Nat) (d : Array α) (i j : Nat) : Prop := (j = 2 * i + 1 ∨ j = 2 * i + 2) ∧ j < n ∧ ∀ k, k < n → (k = 2 * i + 1 ∨ k = 2 * i + 2) → lt d[k]! d[j]! = false
theorem DownInv.stop (hS : SWO lt) {n i j : Nat} {d : Array α} (h : DownInv lt n d i) (hj : Small lt n d i j) (hl : lt d[j]! d[i]! = false) : HeapTo lt n d := by
  intro k h0 hk
  by_cases e : (k - 1) / 2 = i
  · rw [e]
    exact hS.ntrans _ _ _ (hj.2.2 k hk (by omega)) hl
  · exact h.1 k h0 hk e
theorem DownInv.step (hS : SWO lt) {n i j : Nat} {d : Array α} (h : DownInv lt n d i) (hn : n ≤ d.size) (hj : Small lt n d i j) (hl : lt d[j]! d[i]! = true) : DownInv lt n (swp d i j) j := by
  obtain ⟨h1, h2, h3⟩ := hj
  have g := fun k => swp_get d (i := i) (j := j) (by omega) (by omega) k
  have hb := SWO.asymmA hS hl
  refine ⟨fun k h0 hk hp => ?_, fun hj0 k h0 hk hp => ?_⟩
  · rw [g k, g ((k - 1) / 2), if_neg hp]
    by_cases e1 : k = j
    · rw [if_pos e1, if_pos (show (k - 1) / 2 = i by omega)]
      exact hb
    · rw [if_neg e1]
      by_cases e2 : k = i
      · rw [if_pos e2, if_neg (show (k - 1) / 2 ≠ i by omega), e2]
        exact h.2 (by omega) j (by omega) h2 (by omega)
      · rw [if_neg e2]
        by_cases e3 : (k - 1) / 2 = i
        · rw [if_pos e3]; exact h3 k hk (by omega)
        · rw [if_neg e3]; exact h.1 k h0 hk e3
  · rw [g k, g ((j - 1) / 2), if_neg (show k ≠ j by omega), if_neg (show k ≠ i by omega), if_neg (show (j - 1) / 2 ≠ j by omega), if_pos (show (j - 1) / 2 = i by omega)]
    have h4 := h.1 k h0 hk (by omega)
    rwa [hp] at h4
theorem HeapTo.root (hS : SWO lt) {n : Nat} {d : Array α} (h : HeapTo lt n d) (k : Nat) (hk : k < n) : lt d[k]! d[0]! = false := by
  induction k using Nat.strongRecOn with
  | _ k ih =>
    by_cases h0 : k = 0
    · subst h0; exact hS.irrefl _
    · exact hS.ntrans _ _ _ (h k (by omega) hk) (ih _ (by omega) (by omega))
theorem HeapTo.sub {n m : Nat} {d d' : Array α} (h : HeapTo lt n d) (hm : m ≤ n) (hd : ∀ k, k < m → d'[k]! = d[k]!) : HeapTo lt m d' := fun k h0 hk => by
  rw [hd k hk, hd _ (by omega)]; exact h k h0 (by omega)
end

end Go.Proofs.YtdgpbpbjlnlijaaGreatDoor

/- plain: the pairs of overlapping tuples, found by a sweep; no program in sight -/
namespace Go.Proofs.YtdgpbpbjlnlijaaGreatDoor
open Go.RowKit Go.Shelf Go.Sort

/-- all unordered pairs of a list, through f -/
def allPairs {α β : Type} (f : α → α → List β) : List α → List β
  | [] => []
  | x :: l => l.flatMap (f x) ++ allPairs f l
theorem allPairs_perm {α β : Type} {f : α → α → List β} (hf : ∀ x y, f x y = f y x) {l l' : List α} (h : l.Perm l') : (allPairs f l).Perm (allPairs f l') := by
  induction h with
  | nil => exact .refl _
  | cons x h ih => exact (h.flatMap_right _).append ih
  | swap x y l =>
    simp only [allPairs, List.flatMap_cons, hf y x, List.append_assoc]
    exact List.Perm.append_left _ (List.perm_append_comm_assoc _ _ _)
  | trans _ _ h1 h2 => exact h1.trans h2
theorem allPairs_snoc {α β : Type} (f : α → α → List β) (l : List α) (s : α) : (allPairs f (l ++ [s])).Perm (allPairs f l ++ l.flatMap fun o => f o s) := by
  induction l with
  | nil => simp [allPairs]
  | cons x l ih =>
    simp only [List.cons_append, allPairs, List.flatMap_append, List.flatMap_cons, List.flatMap_nil, List.append_nil]
    refine (List.Perm.append_left _ ih).trans ?_
    simp only [List.append_assoc]
    exact List.Perm.append_left _ (List.perm_append_comm_assoc _ _ _)
theorem allPairs_two {α β : Type} (f : α → α → List β) (x y : List α) (hx : ∀ a ∈ x, ∀ b ∈ x, f a b = []) (hy : ∀ a ∈ y, ∀ b ∈ y, f a b = []) : allPairs f (x ++ y) = x.flatMap fun a => y.flatMap (f a) := by
  have nil : ∀ (a : α) (l : List α), (∀ b ∈ l, f a b = []) → l.flatMap (f a) = [] := fun a l h => by
    rw [List.flatMap_eq_nil_iff]; exact h
  induction x with
  | nil =>
    simp only [List.nil_append, List.flatMap_nil]
    induction y with
    | nil => rfl
    | cons b y ih =>
      simp only [allPairs]
      rw [nil b y fun c hc => hy b (by simp) c (by simp [hc]), ih fun a ha c hc => hy a (by simp [ha]) c (by simp [hc])]
      rfl
  | cons a x ih =>
    simp only [List.cons_append, allPairs, List.flatMap_append, List.flatMap_cons]
    rw [nil a x fun c hc => hx a (by simp) c (by simp [hc]), ih fun b hb c hc => hx b (by simp [hb]) c (by simp [hc])]
    rfl

/-- the start of a tuple: side (false: the first relation), number, period -/
structure Ev where
  side : Bool
  idx : Nat
  from_ : Int
  to_ : Int
/-- a pair of overlapping tuples -/
structure Pair where
  a : Nat
  b : Nat
  from_ : Int
  to_ : Int
def mkPair (o s : Ev) : Pair := ⟨if o.side then s.idx else o.idx, if o.side then o.idx else s.idx, max o.from_ s.from_, min o.to_ s.to_⟩
/-- a valid period -/
def validB (a b : Int) : Bool := decide (0 ≤ a) && decide (a < b) && decide (b ≤ 1099511627776)
def okEv (e : Ev) : Bool := validB e.from_ e.to_
theorem validB_lt {a b : Int} (h : validB a b = true) : 0 ≤ a ∧ a < b ∧ b ≤ 1099511627776 := by simpa [validB, and_assoc] using h
def meet (o s : Ev) : List Pair := if o.side ≠ s.side ∧ okEv o = true ∧ okEv s = true ∧ max o.from_ s.from_ < min o.to_ s.to_ then [mkPair o s] else []
theorem meet_comm (o s : Ev) : meet o s = meet s o := by
  obtain ⟨os, oi, o1, o2⟩ := o
  obtain ⟨ss, si, s1, s2⟩ := s
  have h1 : max o1 s1 = max s1 o1 := by omega
  have h2 : min o2 s2 = min s2 o2 := by omega
  cases os <;> cases ss <;> simp [meet, mkPair, h1, h2, and_left_comm]
theorem meet_same {o s : Ev} (h : o.side = s.side) : meet o s = [] := if_neg fun k => k.1 h
theorem meet_bad {o s : Ev} (h : okEv o = false ∨ okEv s = false) : meet o s = [] := if_neg fun k => by
  rcases h with h | h
  · rw [h] at k; exact Bool.noConfusion k.2.1
  · rw [h] at k; exact Bool.noConfusion k.2.2.1
/-- what the sweep finds at the start s, of the tuples that started before -/
theorem meet_block (l : List Ev) (s : Ev) (h : ∀ o ∈ l, o.from_ ≤ s.from_) (hok : ∀ o ∈ l, okEv o = true) (hs : okEv s = true) :
    (l.flatMap fun o => meet o s) = (l.filter fun o => (o.side == !s.side) && decide (s.from_ < o.to_)).map fun o => mkPair o s := by
  induction l with
  | nil => rfl
  | cons o l ih =>
    rw [List.flatMap_cons, List.filter_cons, ih (fun x hx => h x (by simp [hx])) fun x hx => hok x (by simp [hx])]
    have ho := h o (by simp)
    have hk := hok o (by simp)
    have e : (o.side ≠ s.side ∧ okEv o = true ∧ okEv s = true ∧ max o.from_ s.from_ < min o.to_ s.to_) ↔ ((o.side == !s.side) && decide (s.from_ < o.to_)) = true := by
      have hv := validB_lt hs
      have hm : max o.from_ s.from_ < min o.to_ s.to_ ↔ s.from_ < o.to_ := by omega
      rw [hm]
      cases o.side <;> cases s.side <;> simp [hk, hs]
    unfold meet
    by_cases hc : o.side ≠ s.side ∧ okEv o = true ∧ okEv s = true ∧ max o.from_ s.from_ < min o.to_ s.to_
    · rw [if_pos hc, if_pos (e.1 hc)]; rfl
    · rw [if_neg hc, if_neg fun k => hc (e.2 k)]; rfl

/-- all tuples of a relation, numbered -/
def evs (c : Bool) : Nat → List Tup → List Ev
  | _, [] => []
  | i, t :: l => ⟨c, i, t.from_, t.to_⟩ :: evs c (i + 1) l
/-- the starts of the valid ones -/
def starts (c : Bool) (l : List Tup) : List Ev := (evs c 0 l).filter okEv
theorem evs_append (c : Bool) (i : Nat) (x y : List Tup) : evs c i (x ++ y) = evs c i x ++ evs c (i + x.length) y := by
  induction x generalizing i with
  | nil => rfl
  | cons t x ih => simp only [List.cons_append, evs, ih, List.length_cons]; rw [show i + 1 + x.length = i + (x.length + 1) by omega]
theorem evs_length (c : Bool) (i : Nat) (l : List Tup) : (evs c i l).length = l.length := by
  induction l generalizing i with
  | nil => rfl
  | cons t l ih => simp [evs, ih]
theorem evs_mem {c : Bool} {i : Nat} {l : List Tup} {e : Ev} (h : e ∈ evs c i l) : e.side = c ∧ i ≤ e.idx ∧ ∃ t, l[e.idx - i]? = some t ∧ e.from_ = t.from_ ∧ e.to_ = t.to_ := by
  induction l generalizing i with
  | nil => simp [evs] at h
  | cons t l ih =>
    rcases List.mem_cons.1 h with rfl | h
    · exact ⟨rfl, Nat.le_refl _, t, by simp, rfl, rfl⟩
    · obtain ⟨h1, h2, u, h3, h4⟩ := ih h
      refine ⟨h1, by omega, u, ?_, h4⟩
      rw [show e.idx - i = (e.idx - (i + 1)) + 1 by omega, List.getElem?_cons_succ]
      exact h3
theorem starts_mem {c : Bool} {l : List Tup} {e : Ev} (h : e ∈ starts c l) : e.side = c ∧ okEv e = true ∧ ∃ t, l[e.idx]? = some t ∧ e.from_ = t.from_ ∧ e.to_ = t.to_ := by
  obtain ⟨h1, h2⟩ := List.mem_filter.1 h
  obtain ⟨h3, _, t, h4, h5⟩ := evs_mem h1
  exact ⟨h3, h2, t, h4, h5⟩
theorem starts_take (c : Bool) (l : List Tup) (k : Nat) (h : k < l.length) :
    starts c (l.take (k + 1)) = starts c (l.take k) ++ if validB l[k].from_ l[k].to_ = true then [⟨c, k, l[k].from_, l[k].to_⟩] else [] := by
  unfold starts
  rw [List.take_succ_eq_append_getElem h, evs_append, List.filter_append]
  congr 1
  simp only [evs, List.length_take, List.filter_cons, List.filter_nil, okEv]
  rw [show 0 + min k l.length = k by omega]
  by_cases hv : validB l[k].from_ l[k].to_ = true
  · simp only [hv, if_true]
  · simp only [hv]
theorem starts_len (c : Bool) (l : List Tup) : (starts c l).length ≤ l.length := by
  rw [← evs_length c 0 l]; exact List.length_filter_le _ _
/-- all pairs, in the order of their numbers -/
def rawPairs (a b : List Tup) : List Pair := (evs false 0 a).flatMap fun x => (evs true 0 b).flatMap (meet x)
theorem flatMap_filter {α β : Type} (p : α → Bool) (f : α → List β) (l : List α) (h : ∀ x ∈ l, p x = false → f x = []) : (l.filter p).flatMap f = l.flatMap f := by
  induction l with
  | nil => rfl
  | cons x l ih =>
    have ih' := ih fun y hy => h y (by simp [hy])
    rw [List.filter_cons, List.flatMap_cons]
    by_cases hp : p x = true
    · rw [if_pos hp, List.flatMap_cons, ih']
    · rw [if_neg hp, ih', h x (by simp) (by simpa using hp)]
      rfl
theorem rawPairs_eq (a b : List Tup) : allPairs meet (starts false a ++ starts true b) = rawPairs a b := by
  rw [allPairs_two]
  · unfold starts rawPairs
    rw [flatMap_filter okEv _ _ fun x _ hx => ?_]
    · congr 1
      funext x
      exact flatMap_filter okEv _ _ fun y _ hy => meet_bad (.inr hy)
    · rw [List.flatMap_eq_nil_iff]
      exact fun y _ => meet_bad (.inl hx)
  · exact fun x hx y hy => meet_same ((starts_mem hx).1.trans (starts_mem hy).1.symm)
  · exact fun x hx y hy => meet_same ((starts_mem hx).1.trans (starts_mem hy).1.symm)
theorem sweep_raw {a b : List Tup} {E : List Ev} (h : E.Perm (starts false a ++ starts true b)) : (allPairs meet E).Perm (rawPairs a b) := by
  rw [← rawPairs_eq]; exact allPairs_perm meet_comm h

/-- the order of pairs -/
def cmpPair (x y : Pair) : Int := if cmpI x.from_ y.from_ = 0 then (if cmpI x.a y.a = 0 then cmpI x.b y.b else cmpI x.a y.a) else cmpI x.from_ y.from_
def cmpPair4 (x y : Pair) : Int := if cmpI x.from_ y.from_ = 0 then (if cmpI x.a y.a = 0 then (if cmpI x.b y.b = 0 then cmpI x.to_ y.to_ else cmpI x.b y.b) else cmpI x.a y.a) else cmpI x.from_ y.from_
theorem ord_I2 : Ord3 fun x y : Int × Int => if cmpI x.1 y.1 = 0 then cmpI x.2 y.2 else cmpI x.1 y.1 := ord_then ord_int ord_int Prod.fst Prod.snd fun _ _ h1 h2 => Prod.ext h1 h2
theorem ord_I3 : Ord3 fun x y : Int × Int × Int => if cmpI x.1 y.1 = 0 then (if cmpI x.2.1 y.2.1 = 0 then cmpI x.2.2 y.2.2 else cmpI x.2.1 y.2.1) else cmpI x.1 y.1 :=
  ord_then ord_int ord_I2 Prod.fst Prod.snd fun _ _ h1 h2 => Prod.ext h1 h2
theorem ord_I4 : Ord3 fun x y : Int × Int × Int × Int => if cmpI x.1 y.1 = 0 then (if cmpI x.2.1 y.2.1 = 0 then (if cmpI x.2.2.1 y.2.2.1 = 0 then cmpI x.2.2.2 y.2.2.2 else cmpI x.2.2.1 y.2.2.1) else cmpI x.2.1 y.2.1) else cmpI x.1 y.1 :=
  ord_then ord_int ord_I3 Prod.fst Prod.snd fun _ _ h1 h2 => Prod.ext h1 h2
theorem ord_pair4 : Ord3 cmpPair4 := ord_pull ord_I4 (fun x : Pair => (x.from_, (x.a : Int), (x.b : Int), x.to_)) fun x y h => by
  obtain ⟨xa, xb, xf, xt⟩ := x
  obtain ⟨ya, yb, yf, yt⟩ := y
  simp only [Prod.mk.injEq] at h
  simp only [Pair.mk.injEq]
  omega
theorem swo_pair : Go.Sort.SWO (ltOf cmpPair) := swo_pull ord_I3.swo fun x : Pair => (x.from_, (x.a : Int), (x.b : Int))
/-- pairs that agree in their numbers agree -/
def Keyed (l : List Pair) : Prop := ∀ x ∈ l, ∀ y ∈ l, x.a = y.a → x.b = y.b → x = y
theorem rawPairs_mem {a b : List Tup} {p : Pair} (h : p ∈ rawPairs a b) : ∃ x y, a[p.a]? = some x ∧ b[p.b]? = some y ∧ p.from_ = max x.from_ y.from_ ∧ p.to_ = min x.to_ y.to_ ∧ p.from_ < p.to_ ∧ validB x.from_ x.to_ = true ∧ validB y.from_ y.to_ = true := by
  unfold rawPairs at h
  obtain ⟨x, hx, h⟩ := List.mem_flatMap.1 h
  obtain ⟨y, hy, h⟩ := List.mem_flatMap.1 h
  obtain ⟨sx, _, t, h1, h2, h3⟩ := evs_mem hx
  obtain ⟨sy, _, u, h4, h5, h6⟩ := evs_mem hy
  unfold meet at h
  split at h
  · rename_i hm
    rw [List.mem_singleton] at h
    subst h
    simp only [mkPair, sx, Bool.false_eq_true, if_false]
    exact ⟨t, u, h1, h4, by rw [h2, h5], by rw [h3, h6], hm.2.2.2, by rw [← h2, ← h3]; exact hm.2.1, by rw [← h5, ← h6]; exact hm.2.2.1⟩
  · simp at h
theorem rawPairs_keyed (a b : List Tup) : Keyed (rawPairs a b) := by
  intro p hp q hq h1 h2
  obtain ⟨x, y, e1, e2, e3, e4, _⟩ := rawPairs_mem hp
  obtain ⟨x', y', f1, f2, f3, f4, _⟩ := rawPairs_mem hq
  rw [h1, f1] at e1
  rw [h2, f2] at e2
  injection e1 with e1
  injection e2 with e2
  obtain ⟨pa, pb, pf, pt⟩ := p
  obtain ⟨qa, qb, qf, qt⟩ := q
  simp only at *
  rw [h1, h2, e3, e4, f3, f4, e1, e2]
/-- the pairs in their order -/
def pairsOf (a b : List Tup) : List Pair := sortBy cmpPair4 (rawPairs a b)
theorem pairs_unique {a b : List Tup} {l : List Pair} (hp : l.Perm (rawPairs a b)) (hs : l.Pairwise fun x y => ¬ cmpPair y x < 0) : l = pairsOf a b := by
  refine sortBy_unique ord_pair4 hp (hs.imp_of_mem fun {x y} hx hy h => ?_)
  have hk := rawPairs_keyed a b x (hp.mem_iff.1 hx) y (hp.mem_iff.1 hy)
  by_cases e : cmpPair x y = 0
  · have h1 : x.a = y.a ∧ x.b = y.b := by
      unfold cmpPair cmpI at e
      (repeat' split at e) <;> omega
    rw [hk h1.1 h1.2, (ord_pair4.eq y y).2 rfl]
    exact Int.le_refl _
  · unfold cmpPair cmpI at h e
    unfold cmpPair4 cmpI
    (repeat' split) <;> omega

/-- the queue of one side holds, beyond x, what has started there -/
def Queued (q P : List Ev) (c : Bool) : Prop := ∀ x, (∀ e ∈ P, e.from_ ≤ x) → (q.filter fun e => decide (x < e.to_)).Perm (P.filter fun e => (e.side == c) && decide (x < e.to_))
theorem Queued.nil (c : Bool) : Queued [] [] c := fun _ _ => .refl _
theorem Queued.expire {q q' P : List Ev} {c : Bool} {x : Int} (h : Queued q P c) (hx : ∀ e ∈ P, e.from_ ≤ x) (hq : q'.Perm (q.filter fun e => decide (x < e.to_))) (s : Ev) (hs : s.from_ = x) (hc : s.side = !c) :
    q'.Perm (P.filter fun e => (e.side == c) && decide (x < e.to_)) ∧ Queued q' (P ++ [s]) c := by
  refine ⟨hq.trans (h x hx), fun z hz => ?_⟩
  have hxz : x ≤ z := by rw [← hs]; exact hz s (by simp)
  refine (hq.filter _).trans ?_
  rw [List.filter_filter, List.filter_append]
  have e : (q.filter fun e => decide (z < e.to_) && decide (x < e.to_)) = q.filter fun e => decide (z < e.to_) := by
    congr 1
    funext e
    by_cases h1 : z < e.to_
    · simp [h1, show x < e.to_ by omega]
    · simp [h1]
  rw [e]
  have h2 : ([s].filter fun e => (e.side == c) && decide (z < e.to_)) = [] := by
    rw [List.filter_cons, hc]
    cases c <;> simp
  rw [h2, List.append_nil]
  exact h z fun e he => hz e (by simp [he])
theorem Queued.push {q q' P : List Ev} {c : Bool} {s : Ev} (h : Queued q P c) (hq : q'.Perm (s :: q)) (hc : s.side = c) : Queued q' (P ++ [s]) c := by
  intro z hz
  refine (hq.filter _).trans ?_
  rw [List.filter_append, List.filter_cons, List.filter_cons, List.filter_nil, hc]
  have h1 := h z fun e he => hz e (by simp [he])
  by_cases h2 : z < s.to_
  · simp only [h2, decide_true, if_true, beq_self_eq_true, Bool.and_self]
    exact (List.Perm.cons s h1).trans (by simpa using List.perm_append_comm (l₁ := [s]) (l₂ := P.filter fun e => (e.side == c) && decide (z < e.to_)))
  · simp only [h2, decide_false, Bool.and_false, Bool.false_eq_true, if_false, List.append_nil]
    exact h1

end Go.Proofs.YtdgpbpbjlnlijaaGreatDoor

/- plain: exchanging the relations exchanges the numbers of each pair; no program in sight -/
namespace Go.Proofs.YtdgpbpbjlnlijaaGreatDoor
open Go.RowKit

theorem evs_get {c : Bool} {l : List Tup} : ∀ {i k : Nat} {t : Tup}, l[k]? = some t → (⟨c, i + k, t.from_, t.to_⟩ : Ev) ∈ evs c i l := by
  induction l with
  | nil => intro i k t h; simp at h
  | cons x l ih =>
    intro i k t h
    cases k with
    | zero => simp at h; subst h; simp [evs]
    | succ k =>
      have := ih (i := i + 1) (k := k) (t := t) (by simpa using h)
      rw [show i + 1 + k = i + (k + 1) by omega] at this
      simp [evs, this]
theorem rawPairs_iff {a b : List Tup} {p : Pair} : p ∈ rawPairs a b ↔ ∃ x y, a[p.a]? = some x ∧ b[p.b]? = some y ∧ p.from_ = max x.from_ y.from_ ∧ p.to_ = min x.to_ y.to_ ∧ p.from_ < p.to_ ∧ validB x.from_ x.to_ = true ∧ validB y.from_ y.to_ = true := by
  refine ⟨rawPairs_mem, ?_⟩
  rintro ⟨x, y, h1, h2, h3, h4, h5, h6, h7⟩
  obtain ⟨pa, pb, pf, pt⟩ := p
  simp only at *
  unfold rawPairs
  refine List.mem_flatMap.2 ⟨⟨false, pa, x.from_, x.to_⟩, by have := evs_get (c := false) (i := 0) h1; rwa [Nat.zero_add] at this, List.mem_flatMap.2 ⟨⟨true, pb, y.from_, y.to_⟩, by have := evs_get (c := true) (i := 0) h2; rwa [Nat.zero_add] at this, ?_⟩⟩
  unfold meet
  rw [if_pos ⟨by simp, h6, h7, by simp only; omega⟩]
  simp [mkPair, h3, h4]
def swP (p : Pair) : Pair := ⟨p.b, p.a, p.from_, p.to_⟩
theorem pairsOf_perm (a b : List Tup) : (pairsOf a b).Perm (rawPairs a b) := sortBy_perm _ _
/-- is t the exchanged pair of s? -/
def isSw (s t : Pair) : Bool := decide (t.a = s.b) && decide (t.b = s.a) && decide (t.from_ = s.from_ ∧ t.to_ = s.to_)
theorem pairs_len (a b : List Tup) : (pairsOf a b).length ≤ a.length * b.length := by
  rw [(pairsOf_perm a b).length_eq]
  unfold rawPairs
  have h1 : ∀ x : Ev, ((evs true 0 b).flatMap (meet x)).length ≤ b.length := fun x => by
    have h2 : ∀ (l : List Ev), (l.flatMap (meet x)).length ≤ l.length := fun l => by
      induction l with
      | nil => simp
      | cons y l ih =>
        rw [List.flatMap_cons, List.length_append, List.length_cons]
        have : (meet x y).length ≤ 1 := by unfold meet; split <;> simp
        omega
    have := h2 (evs true 0 b)
    rwa [evs_length] at this
  have h3 : ∀ (l : List Ev), (l.flatMap fun x => (evs true 0 b).flatMap (meet x)).length ≤ l.length * b.length := fun l => by
    induction l with
    | nil => simp
    | cons y l ih =>
      rw [List.flatMap_cons, List.length_append, List.length_cons, Nat.succ_mul]
      have := h1 y
      omega
  have := h3 (evs false 0 a)
  rwa [evs_length] at this

end Go.Proofs.YtdgpbpbjlnlijaaGreatDoor

/- plain: the definition's pairs, by insertion; no program in sight -/
namespace Go.Proofs.YtdgpbpbjlnlijaaGreatDoor
open Go.RowKit

/-- the pairs up to (i, k) are there, in their order -/
structure DoneAt (a b : List Tup) (i k : Nat) (out : List Pair) : Prop where
  nd : out.Nodup
  mem : ∀ p, p ∈ out ↔ p ∈ rawPairs a b ∧ (p.a < i ∨ p.a = i ∧ p.b < k)
  srt : out.Pairwise fun x y => ¬ cmpPair y x < 0
theorem raw_at {a b : List Tup} {p : Pair} (h : p ∈ rawPairs a b) : p.a < a.length ∧ p.b < b.length := by
  obtain ⟨x, y, h1, h2, _⟩ := rawPairs_iff.1 h
  exact ⟨(List.getElem?_eq_some_iff.1 h1).1, (List.getElem?_eq_some_iff.1 h2).1⟩
end Go.Proofs.YtdgpbpbjlnlijaaGreatDoor

/- slices.Clone at values and at ints; bag.Clone: new memory that holds the same. -/
namespace Go.Proofs.YtdgpbpbjlnlijaaGreatDoor
open Go.RowKit

theorem info_val : (Tryz.prog.info? 44).map (fun i => (i.zero, i.size, i.bytes)) = some (some (.agg #[.int .i64 0, .int .i64 0, .string ByteArray.empty]), Rep.val.size, 32) := by kernel_rfl
set_option maxHeartbeats 1000000 in
theorem clone_val (v : Value) (l : List _) (w : World) (hv : SliceOf Rep.val w.cell? v l) (hbig : l.length * 32 ≤ 140737488355328) :
    Calls Tryz.prog 138 #[v] w fun e w' => ∃ v', e = .returned v' ∧ SliceOf Rep.val (on w' (fun k => w.heap.size ≤ k)) v' l ∧ Ext w w' := by
  have q22 : ∀ (w : World) (a : Option Addr) (n c n' c' : Nat), (binOp .eql 40 (.slice a n c) (.slice none n' c')).run Tryz.prog w = .ok (.bool a.isNone) w := fun w a n c n' c' => Lib.run_eql_slice_nil w _ _ a n c n' c' Tryz.underlying40
  obtain ⟨i0, hi, hz0, hz1, hz2⟩ := info_parts info_val
  obtain ⟨a, cap, rfl, hc1, hc2, _⟩ := hv.form
  cases a with
  | none =>
    have hl : l.length = 0 := by
      obtain ⟨css, h1, h2⟩ := hv
      rcases h2 with ⟨_, h0, _⟩ | ⟨ad, c, he, _⟩
      · exact h0
      · cases he
    have hln : l = [] := List.eq_nil_of_length_eq_zero hl
    subst hln
    go_enter Tryz.func138, Tryz.ntmps138
    go_wp2
    go_ret
    exact ⟨_, rfl, SliceOf.nil _ _, Ext.refl w⟩
  | some ad =>
    have hw : SliceOf Rep.val (on (w.alloc (.cells #[] 44)) (avoid (fun _ => True) (.slice (some ⟨w.heap.size, 0, none⟩) 0 0))) (.slice (some ad) l.length cap) l := by
      by_cases hn : 0 < l.length
      · have hx := (Ext.refl w).alloc (.cells #[] 44)
        obtain ⟨css, h1, h2⟩ := hv
        exact ⟨css, h1.flatView flat_val, h2.sub fun p u hp => on_some.2 ⟨⟨by have := World.block_lt_of_cell? w p hp; simp [Value.ownBlock]; omega, trivial⟩, hx.at hp⟩⟩
      · obtain ⟨css, h1, h2⟩ := hv
        have hln : l = [] := List.eq_nil_of_length_eq_zero (by omega)
        subst hln
        rcases h2 with ⟨he, _⟩ | ⟨ad', c', he, g1, g2, _⟩
        · cases he
        · injection he with e1 e2 e3
          injection e1 with e1
          subst e1 e3
          exact ⟨[], trivial, .inr ⟨ad, cap, rfl, by simp, g2, .inl rfl⟩⟩
    have HW := Lib.hid hw
    clear hv hw
    go_enter Tryz.func138, Tryz.ntmps138
    go_wp2_with (at_builtin; refine wpList_append_all Rep.val (fun _ => True) rfl _ _ 40 rfl w.heap.size 44 i0 _ 32 Tryz.underlying40 hi hz0 hz1 hz2 rfl (by decide) _ [] rfl (OwnOf.made _ w _ _) _ l rfl HW.out ?c1 ?c2 ?c3 ?_)
    case c1 => simp; omega
    case c2 => simpa using hbig
    case c3 => simp
    intro v' w1 hown hgr _
    go_wp2_with fail
    go_ret
    exact ⟨v', rfl, OwnOf.fresh flat_val (by simpa using hown), Below.grown (Below.alloc (Below.refl w.heap.size w) (Nat.le_refl _) _) hgr (by simp) (fun k hk => by simp [Value.ownBlock] at hk; omega)⟩

theorem info_ints : (Tryz.prog.info? 3).map (fun i => (i.zero, i.size, i.bytes)) = some (some (.int .i64 0), Rep.int.size, 8) := by kernel_rfl
set_option maxHeartbeats 1000000 in
theorem clone_ints (v : Value) (l : List _) (w : World) (hv : SliceOf Rep.int w.cell? v l) (hbig : l.length * 8 ≤ 140737488355328) :
    Calls Tryz.prog 139 #[v] w fun e w' => ∃ v', e = .returned v' ∧ SliceOf Rep.int (on w' (fun k => w.heap.size ≤ k)) v' l ∧ Ext w w' := by
  have q22 : ∀ (w : World) (a : Option Addr) (n c n' c' : Nat), (binOp .eql 24 (.slice a n c) (.slice none n' c')).run Tryz.prog w = .ok (.bool a.isNone) w := fun w a n c n' c' => Lib.run_eql_slice_nil w _ _ a n c n' c' Tryz.underlying24
  obtain ⟨i0, hi, hz0, hz1, hz2⟩ := info_parts info_ints
  obtain ⟨a, cap, rfl, hc1, hc2, _⟩ := hv.form
  cases a with
  | none =>
    have hl : l.length = 0 := by
      obtain ⟨css, h1, h2⟩ := hv
      rcases h2 with ⟨_, h0, _⟩ | ⟨ad, c, he, _⟩
      · exact h0
      · cases he
    have hln : l = [] := List.eq_nil_of_length_eq_zero hl
    subst hln
    go_enter Tryz.func139, Tryz.ntmps139
    go_wp2
    go_ret
    exact ⟨_, rfl, SliceOf.nil _ _, Ext.refl w⟩
  | some ad =>
    have hw : SliceOf Rep.int (on (w.alloc (.cells #[] 3)) (avoid (fun _ => True) (.slice (some ⟨w.heap.size, 0, none⟩) 0 0))) (.slice (some ad) l.length cap) l := by
      by_cases hn : 0 < l.length
      · have hx := (Ext.refl w).alloc (.cells #[] 3)
        obtain ⟨css, h1, h2⟩ := hv
        exact ⟨css, h1.flatView flat_int, h2.sub fun p u hp => on_some.2 ⟨⟨by have := World.block_lt_of_cell? w p hp; simp [Value.ownBlock]; omega, trivial⟩, hx.at hp⟩⟩
      · obtain ⟨css, h1, h2⟩ := hv
        have hln : l = [] := List.eq_nil_of_length_eq_zero (by omega)
        subst hln
        rcases h2 with ⟨he, _⟩ | ⟨ad', c', he, g1, g2, _⟩
        · cases he
        · injection he with e1 e2 e3
          injection e1 with e1
          subst e1 e3
          exact ⟨[], trivial, .inr ⟨ad, cap, rfl, by simp, g2, .inl rfl⟩⟩
    have HW := Lib.hid hw
    clear hv hw
    go_enter Tryz.func139, Tryz.ntmps139
    go_wp2_with (at_builtin; refine wpList_append_all Rep.int (fun _ => True) rfl _ _ 24 rfl w.heap.size 3 i0 _ 8 Tryz.underlying24 hi hz0 hz1 hz2 rfl (by decide) _ [] rfl (OwnOf.made _ w _ _) _ l rfl HW.out ?c1 ?c2 ?c3 ?_)
    case c1 => simp; omega
    case c2 => simpa using hbig
    case c3 => simp
    intro v' w1 hown hgr _
    go_wp2_with fail
    go_ret
    exact ⟨v', rfl, OwnOf.fresh flat_int (by simpa using hown), Below.grown (Below.alloc (Below.refl w.heap.size w) (Nat.le_refl _) _) hgr (by simp) (fun k hk => by simp [Value.ownBlock] at hk; omega)⟩

set_option maxHeartbeats 1000000 in
theorem clone_row (va ua : Value) (r : Row) (w : World) (hv : SliceOf Rep.val w.cell? va r.vals) (hu : SliceOf Rep.int w.cell? ua r.lin) (hb1 : r.vals.length * 32 ≤ 140737488355328) (hb2 : r.lin.length * 8 ≤ 140737488355328) :
    Calls Tryz.prog 93 #[.agg #[va, ua]] w fun e w' => ∃ a b, e = .returned (.agg #[a, b]) ∧ SliceOf Rep.val (on w' (fun k => w.heap.size ≤ k)) a r.vals ∧ SliceOf Rep.int (on w' (fun k => w.heap.size ≤ k)) b r.lin ∧ Ext w w' := by
  have HV := Lib.hid hv
  have HU := Lib.hid hu
  obtain ⟨pa, ca, rfl, _⟩ := hv.form
  obtain ⟨qa, da, rfl, _⟩ := hu.form
  generalize r.vals = vs at *
  generalize r.lin = ls at *
  clear hv hu
  go_enter Tryz.func93, Tryz.ntmps93
  go_wp2_with fail
  have c1 : ((w.alloc (.cells #[.slice pa vs.length ca, .slice qa ls.length da] 42)).alloc (.cells #[.slice none 0 0, .slice none 0 0] 42)).cell? ⟨w.heap.size, 0, none⟩ = some (.slice pa vs.length ca) := by go_simp
  have c2 : ((w.alloc (.cells #[.slice pa vs.length ca, .slice qa ls.length da] 42)).alloc (.cells #[.slice none 0 0, .slice none 0 0] 42)).cell? ⟨w.heap.size, 1, none⟩ = some (.slice qa ls.length da) := by go_simp
  have c3 : ((w.alloc (.cells #[.slice pa vs.length ca, .slice qa ls.length da] 42)).alloc (.cells #[.slice none 0 0, .slice none 0 0] 42)).cell? ⟨w.heap.size + 1, 0, none⟩ = some (.slice none 0 0) := by go_simp
  have c4 : ((w.alloc (.cells #[.slice pa vs.length ca, .slice qa ls.length da] 42)).alloc (.cells #[.slice none 0 0, .slice none 0 0] 42)).cell? ⟨w.heap.size + 1, 1, none⟩ = some (.slice none 0 0) := by go_simp
  have f1 : ((w.alloc (.cells #[.slice pa vs.length ca, .slice qa ls.length da] 42)).alloc (.cells #[.slice none 0 0, .slice none 0 0] 42)).frozen? ⟨w.heap.size + 1, 0, none⟩ = false := by go_simp
  have f2 : ((w.alloc (.cells #[.slice pa vs.length ca, .slice qa ls.length da] 42)).alloc (.cells #[.slice none 0 0, .slice none 0 0] 42)).frozen? ⟨w.heap.size + 1, 1, none⟩ = false := by go_simp
  have hxx := ((Ext.refl w).alloc (.cells #[.slice pa vs.length ca, .slice qa ls.length da] 42)).alloc (.cells #[.slice none 0 0, .slice none 0 0] 42)
  generalize ((w.alloc (.cells #[.slice pa vs.length ca, .slice qa ls.length da] 42)).alloc (.cells #[.slice none 0 0, .slice none 0 0] 42)) = w1 at c1 c2 c3 c4 f1 f2 hxx ⊢
  go_region_with (first | (go_at_call 138; refine (clone_val _ vs _ (by exact HV.out.ext hxx.drew.full) hb1).mono ?_; rintro e w2 ⟨v2, rfl, hs2, hx2⟩; obtain ⟨a2, k2, rfl, _⟩ := hs2.form; have d1 := hx2.at (p := ⟨w.heap.size, 0, none⟩) c1; have d2 := hx2.at (p := ⟨w.heap.size, 1, none⟩) c2; have d3 := hx2.at (p := ⟨w.heap.size + 1, 0, none⟩) c3; have d4 := hx2.at (p := ⟨w.heap.size + 1, 1, none⟩) c4; have g1 := hx2.unfrozen (p := ⟨w.heap.size + 1, 0, none⟩) c3 f1; have g2 := hx2.unfrozen (p := ⟨w.heap.size + 1, 1, none⟩) c4 f2) | (go_at_call 139; refine (clone_ints _ ls _ (by exact HU.out.ext (hxx.drew.trans hx2).full) hb2).mono ?_; rintro e w3 ⟨v3, rfl, hs3, hx3⟩; obtain ⟨a3, k3, rfl, _⟩ := hs3.form; have j3 := hx3.at d3; have j4 := hx3.at d4; have l1 := hx3.unfrozen d3 g1; have l2 := hx3.unfrozen d4 g2))
  all_goals
    have z1 := cell_lt c4
    have z2 := cell_lt d4
    have z3 := cell_lt j4
    clear c1 c2 c3 c4 f1 f2 d1 d2 d3 d4 g1 g2
    go_wp2_with fail
    refine bodyPost_ret (v := .agg #[.slice a2 vs.length k2, .slice a3 ls.length k3]) (by simp [results, Tryz.results93, go_sem, j3, j4]) rfl ⟨_, _, rfl, ?_, ?_, ?_⟩
    · refine hs2.ext ((on_mono w2 (T := fun k => w.heap.size + 1 < k) (fun k _ hk => ?_)).trans ((hx3.sub _).trans ((set_sub _ _ _ ?_).trans ((set_sub _ _ _ ?_).trans (on_mono _ fun k _ hk => ?_)))))
      · exact Nat.lt_of_lt_of_le z1 hk
      · simp
      · simp
      · exact Nat.le_trans (Nat.le_succ _) (Nat.le_of_lt hk)
    · refine hs3.ext ((on_mono w3 (T := fun k => w.heap.size + 1 < k) (fun k _ hk => ?_)).trans ((set_sub _ _ _ ?_).trans ((set_sub _ _ _ ?_).trans (on_mono _ fun k _ hk => ?_))))
      · exact Nat.lt_of_lt_of_le z2 hk
      · simp
      · simp
      · exact Nat.le_trans (Nat.le_succ _) (Nat.le_of_lt hk)
    · exact Below.setCell (Below.setCell ((hxx.drew.trans hx2).trans hx3) (by simp) _) (by simp) _

end Go.Proofs.YtdgpbpbjlnlijaaGreatDoor

/- bag.Sort: new memory that holds the rows in canonical order. -/
namespace Go.Proofs.YtdgpbpbjlnlijaaGreatDoor
open Go.RowKit

/-- rows that are few and short -/
def fitR (r : Row) : Prop := r.vals.length ≤ 1048576 ∧ r.lin.length ≤ 1048576
def fitRows (l : List Row) : Prop := l.length ≤ 1048576 ∧ ∀ r ∈ l, fitR r
/-- what is new since w -/
abbrev since (w : World) (k : Nat) : Prop := w.heap.size ≤ k

end Go.Proofs.YtdgpbpbjlnlijaaGreatDoor

/- bag.Equal, bag.Multiplicity. -/
namespace Go.Proofs.YtdgpbpbjlnlijaaGreatDoor
open Go.RowKit

/-- equality as a Bool -/
noncomputable def eqB {α : Type} (x y : α) : Bool := @decide (x = y) (Classical.propDecidable _)
theorem eqB_iff {α : Type} {x y : α} : eqB x y = true ↔ x = y := by simp [eqB]
theorem cmpRow_zero (a b : Row) : (cmpRow a b == 0) = eqB a b := by
  rw [Bool.eq_iff_iff, eqB_iff, beq_iff_eq, ord_row.eq]

/-- how often the values occur -/
def mult (vs : List Val) (l : List Row) : Nat := l.countP fun r => cmpVals r.vals vs == 0
end Go.Proofs.YtdgpbpbjlnlijaaGreatDoor

/- the reference's comparisons -/
namespace Go.Proofs.YtdgpbpbjlnlijaaGreatDoor
open Go.RowKit

theorem bytesLess_cmp (x y : List UInt8) : Op.bytesLess x y = decide (Lib.compareBytes x y = -1) := by
  induction x generalizing y with
  | nil => cases y <;> simp [Op.bytesLess, Lib.compareBytes]
  | cons a x ih =>
    cases y with
    | nil => simp [Op.bytesLess, Lib.compareBytes]
    | cons b y =>
      simp only [Op.bytesLess, Lib.compareBytes]
      by_cases h1 : a < b
      · simp [h1]
      · by_cases h2 : b < a
        · have : a ≠ b := fun e => by subst e; exact h1 h2
          simp [h1, h2, this]
        · have : a = b := UInt8.le_antisymm (UInt8.not_lt.1 h2) (UInt8.not_lt.1 h1)
          subst this
          simp [h1, ih]

theorem cmpS_if (sa sb : ByteArray) : cmpS sa sb = if Op.bytesLess sa.toList sb.toList = true then -1 else if sa.toList = sb.toList then 0 else 1 := by
  have hr := ord_bytes.rng sa.data.toList sb.data.toList
  have he := ord_bytes.eq sa.data.toList sb.data.toList
  unfold cmpS
  rw [bytesLess_cmp, Lib.toList_data, Lib.toList_data]
  generalize Lib.compareBytes sa.data.toList sb.data.toList = s at *
  simp only [decide_eq_true_eq]
  split
  · assumption
  · split
    · exact he.2 (by assumption)
    · have : s ≠ 0 := fun e => by have := he.1 e; contradiction
      omega

set_option maxHeartbeats 2000000 in
theorem ref_compare (a b : Val) (w : World) : Calls Tryz.prog 24 #[valV a, valV b] w fun e w' => e = .returned (.int .i64 (cmpVal a b)) ∧ Gro w w' := by
  obtain ⟨ak, an, sa⟩ := a
  obtain ⟨bk, bn, sb⟩ := b
  unfold cmpVal
  dsimp only
  go_enter Tryz.func24, Tryz.ntmps24
  go_wp2_with fail
  all_goals go_ret
  all_goals refine ⟨ret_int ?_, ((Gro.refl w).alloc _).alloc _⟩
  all_goals simp only [orI, cmpI, cmpS_if]
  all_goals ((repeat' split) <;> first | rfl | omega | contradiction | simp_all)

theorem lexI_done {α : Type} (c : α → α → Int) (l l' : List α) (k : Nat) (hk : k ≤ l.length) (hk' : k ≤ l'.length) (h : ¬ (k < l.length ∧ k < l'.length)) :
    lexI c (l.drop k) (l'.drop k) = if l.length < l'.length then -1 else if l'.length < l.length then 1 else 0 := by
  by_cases h1 : k < l.length
  · have : k = l'.length := by omega
    subst this
    rw [List.drop_eq_nil_of_le (Nat.le_refl l'.length), List.drop_eq_getElem_cons h1, if_neg (by omega), if_pos (by omega)]
    rfl
  · have : k = l.length := by omega
    subst this
    rw [lexI_end]
    by_cases h2 : l.length < l'.length
    · rw [if_pos h2, if_pos h2]
    · rw [if_neg h2, if_neg h2, if_neg (by omega)]

set_option maxHeartbeats 2000000 in
theorem ref_compareInts (va vb : Value) (l l' : List Int) (w : World) (ha : SliceOf Rep.int w.cell? va l) (hb : SliceOf Rep.int w.cell? vb l') :
    Calls Tryz.prog 83 #[va, vb] w
      fun e w' => e = .returned (.int .i64 (cmpInts l l')) ∧ Gro w w' := by
  obtain ⟨pa, ca, rfl, ha1, ha2, ha3⟩ := ha.form
  obtain ⟨pb, cb, rfl, hb1, hb2, hb3⟩ := hb.form
  unfold maxLen at ha2 hb2
  go_enter Tryz.func83, Tryz.ntmps83
  go_wp2_with fail
  go_loopg [5] l.length (fun gk i wr => ∃ k : Nat, k ≤ l.length ∧ gk = l.length - k ∧ i = .int .i64 k ∧ (k ≤ l'.length ∧ cmpInts l l' = lexI cmpI (l.drop k) (l'.drop k)) ∧ Gro w wr)
  case atStart => exact ⟨0, by omega, rfl, rfl, ⟨by omega, rfl⟩, Gro.refl w⟩
  case round =>
    obtain ⟨k, hk, rfl, rfl, ⟨hk2, hc⟩, hx⟩ := hrel
    have HC := Lib.hid hc
    clear hc
    by_cases hlt : k < l.length ∧ k < l'.length
    · obtain ⟨hlt, hlt2⟩ := hlt
      obtain ⟨ba, oa, rfl⟩ := ha3 (by decide) (by omega)
      obtain ⟨c1, _⟩ := int_at ha k hlt
      replace c1 := hx.at c1
      have hd : decide ((k : Int) < (l.length : Int)) = true := by simp; omega
      have hd1 : (k : Int) < (l.length : Int) := by omega
      obtain ⟨bb, ob, rfl⟩ := hb3 (by decide) (by omega)
      obtain ⟨d1, _⟩ := int_at hb k hlt2
      replace d1 := hx.at d1
      have hdr := lexI_drop cmpI l l' k hlt hlt2
      have hdb : decide ((k : Int) < (l'.length : Int)) = true := by simp; omega
      have hd2 : (k : Int) < (l'.length : Int) := by omega
      generalize l[k] = x at c1 hdr
      generalize l'[k] = y at d1 hdr
      have HD := Lib.hid hdr
      clear hdr ha hb ha3 hb3
      rcases Int.lt_trichotomy x y with h | h | h
      · have hb1 : decide (x < y) = true := by simp [h]
        have HQ := Lib.hid h
        clear h
        go_wp2_with fail
        go_quiet (fail)
        go_wp2_with fail
        go_ret
        exact ⟨ret_int (by rw [HC.out, HD.out]; have := HQ.out; simp [cmpI, this]), hx.drewN _⟩
      · have hb1 : decide (x < y) = false := by simp; omega
        have hb2 : decide (y < x) = false := by simp; omega
        have hb3 : decide (x > y) = false := by simp; omega
        have HQ := Lib.hid h
        clear h
        go_wp2_with fail
        go_quiet (fail)
        go_wp2_with fail
        go_quiet (fail)
        go_wp2_with fail
        go_roundg (l.length - (k + 1))
        case measure => omega
        case rel => exact ⟨k + 1, by omega, rfl, by go_num, ⟨by omega, by rw [HC.out, HD.out]; have := HQ.out; simp [cmpI, this]⟩, by first | exact hx.drewN _ | exact (hx.drewN _).drewN _⟩
      · have hb1 : decide (x < y) = false := by simp; omega
        have hb2 : decide (y < x) = true := by simp; omega
        have hb3 : decide (x > y) = true := by simp; omega
        have HQ := Lib.hid h
        clear h
        go_wp2_with fail
        go_quiet (fail)
        go_wp2_with fail
        go_quiet (fail)
        go_wp2_with fail
        go_ret
        exact ⟨ret_int (by rw [HC.out, HD.out]; have := HQ.out; have h2 : ¬ x < y := (by omega); simp [cmpI, this, h2]), (hx.drewN _).drewN _⟩
    · have hend := lexI_done cmpI l l' k hk hk2 hlt
      have HE := Lib.hid hend
      clear hend
      by_cases hk3 : k < l.length
      · have hd : decide ((k : Int) < (l.length : Int)) = true := by simp; omega
        have hdb : decide ((k : Int) < (l'.length : Int)) = false := by simp; omega
        go_wp2_with fail
        all_goals go_ret
        all_goals exact ⟨ret_int (by rw [HC.out, HE.out]; (repeat' split) <;> first | rfl | omega), hx⟩
      · have hd : decide ((k : Int) < (l.length : Int)) = false := by simp; omega
        go_wp2_with fail
        all_goals go_ret
        all_goals exact ⟨ret_int (by rw [HC.out, HE.out]; (repeat' split) <;> first | rfl | omega), hx⟩

end Go.Proofs.YtdgpbpbjlnlijaaGreatDoor

/- the reference's comparisons of rows -/
namespace Go.Proofs.YtdgpbpbjlnlijaaGreatDoor
open Go.RowKit

set_option maxHeartbeats 2000000 in
theorem ref_compareRows (va vb : Value) (l l' : List Val) (w : World) (ha : SliceOf Rep.val w.cell? va l) (hb : SliceOf Rep.val w.cell? vb l') :
    Calls Tryz.prog 36 #[va, vb] w
      fun e w' => e = .returned (.int .i64 (cmpVals l l')) ∧ Gro w w' := by
  obtain ⟨pa, ca, rfl, ha1, ha2, ha3⟩ := ha.form
  obtain ⟨pb, cb, rfl, hb1, hb2, hb3⟩ := hb.form
  unfold maxLen at ha2 hb2
  go_enter Tryz.func36, Tryz.ntmps36
  go_wp2_with fail
  go_loopg [5] l.length (fun gk i wr => ∃ k : Nat, k ≤ l.length ∧ gk = l.length - k ∧ i = .int .i64 k ∧ (k ≤ l'.length ∧ cmpVals l l' = lexI cmpVal (l.drop k) (l'.drop k)) ∧ Gro w wr)
  case atStart => exact ⟨0, by omega, rfl, rfl, ⟨by omega, rfl⟩, Gro.refl w⟩
  case round =>
    obtain ⟨k, hk, rfl, rfl, ⟨hk2, hc⟩, hx⟩ := hrel
    have HC := Lib.hid hc
    clear hc
    by_cases hlt : k < l.length ∧ k < l'.length
    · obtain ⟨hlt, hlt2⟩ := hlt
      obtain ⟨ba, oa, rfl⟩ := ha3 (by decide) (by omega)
      obtain ⟨c1, c2, c3⟩ := val_at ha k hlt
      replace c1 := hx.at c1
      replace c2 := hx.at c2
      replace c3 := hx.at c3
      have hd : decide ((k : Int) < (l.length : Int)) = true := by simp; omega
      have hd1 : (k : Int) < (l.length : Int) := by omega
      obtain ⟨bb, ob, rfl⟩ := hb3 (by decide) (by omega)
      obtain ⟨d1, d2, d3⟩ := val_at hb k hlt2
      replace d1 := hx.at d1
      replace d2 := hx.at d2
      replace d3 := hx.at d3
      have hdr := lexI_drop cmpVal l l' k hlt hlt2
      have hdb : decide ((k : Int) < (l'.length : Int)) = true := by simp; omega
      have hd2 : (k : Int) < (l'.length : Int) := by omega
      generalize l[k] = x at c1 c2 c3 hdr
      generalize l'[k] = y at d1 d2 d3 hdr
      have HD := Lib.hid hdr
      clear hdr ha hb ha3 hb3
      have hxr := Gro.refl wr
      go_wp2_with fail
      go_region_held3 (fun w' => Gro wr w' ∧ w'.cell? ⟨ba, oa + k * 3, none⟩ = some (.int .i64 x.kind) ∧ w'.cell? ⟨ba, oa + k * 3 + 1, none⟩ = some (.int .i64 x.n) ∧ w'.cell? ⟨ba, oa + k * 3 + 2, none⟩ = some (.string x.s) ∧ w'.cell? ⟨bb, ob + k * 3, none⟩ = some (.int .i64 y.kind) ∧ w'.cell? ⟨bb, ob + k * 3 + 1, none⟩ = some (.int .i64 y.n) ∧ w'.cell? ⟨bb, ob + k * 3 + 2, none⟩ = some (.string y.s))
        (first | exact ⟨hxr.drew, c1, c2, c3, d1, d2, d3⟩ | assumption | exact keepG6 (by assumption) hx2)
        (first | (go_at_call 24; refine (ref_compare x y _).mono ?_; rintro e w2 ⟨rfl, hx2⟩))
      all_goals (obtain ⟨hfin, _⟩ := ‹Gro wr _ ∧ _›)
      all_goals (replace hx := hx.trans hfin)
      all_goals clear c1 c2 c3 d1 d2 d3
      all_goals generalize hq : cmpVal x y = q
      all_goals (have HQ := Lib.hid hq)
      all_goals clear hq
      all_goals by_cases hq0 : q = 0
      all_goals first
        | (have hqb : (q != 0) = false := by simp [hq0]
           have HQ0 := Lib.hid hq0
           clear hq0
           go_wp2_with fail
           go_roundg (l.length - (k + 1))
           case measure => omega
           case rel => exact ⟨k + 1, by omega, rfl, by go_num, ⟨by omega, by rw [HC.out, HD.out, HQ.out, if_pos HQ0.out]⟩, hx⟩)
        | (have hqb : (q != 0) = true := by simp [hq0]
           have HQ0 := Lib.hid hq0
           clear hq0
           go_wp2_with fail
           go_ret
           exact ⟨ret_int (by rw [HC.out, HD.out, HQ.out, if_neg HQ0.out]), hx⟩)
    · have hend := lexI_done cmpVal l l' k hk hk2 hlt
      have HE := Lib.hid hend
      clear hend
      by_cases hk3 : k < l.length
      · have hd : decide ((k : Int) < (l.length : Int)) = true := by simp; omega
        have hdb : decide ((k : Int) < (l'.length : Int)) = false := by simp; omega
        go_wp2_with fail
        all_goals go_ret
        all_goals exact ⟨ret_int (by rw [HC.out, HE.out]; (repeat' split) <;> first | rfl | omega), hx⟩
      · have hd : decide ((k : Int) < (l.length : Int)) = false := by simp; omega
        go_wp2_with fail
        all_goals go_ret
        all_goals exact ⟨ret_int (by rw [HC.out, HE.out]; (repeat' split) <;> first | rfl | omega), hx⟩

theorem eqB_row (a b : Row) : eqB a b = ((cmpVals a.vals b.vals == 0) && (cmpInts a.lin b.lin == 0)) := by
  rw [← cmpRow_zero]
  unfold cmpRow orI orI orI
  by_cases h1 : cmpVals a.vals b.vals = 0 <;> by_cases h2 : cmpInts a.lin b.lin = 0 <;> simp [h1, h2]
set_option maxHeartbeats 2000000 in
theorem ref_sameRow (va vb ua ub : Value) (a b : Row) (w : World) (ha : SliceOf Rep.val w.cell? va a.vals) (hb : SliceOf Rep.val w.cell? vb b.vals) (ka : SliceOf Rep.int w.cell? ua a.lin) (kb : SliceOf Rep.int w.cell? ub b.lin) :
    Calls Tryz.prog 39 #[.agg #[va, ua], .agg #[vb, ub]] w fun e w' => e = .returned (.bool (eqB a b)) ∧ Gro w w' := by
  have HA := Lib.hid ha
  have HB := Lib.hid hb
  have KA := Lib.hid ka
  have KB := Lib.hid kb
  have HE := Lib.hid (eqB_row a b)
  obtain ⟨pa, ca, rfl, _⟩ := ha.form
  obtain ⟨pb, cb, rfl, _⟩ := hb.form
  obtain ⟨qa, da, rfl, _⟩ := ka.form
  obtain ⟨qb, db, rfl, _⟩ := kb.form
  generalize eqB a b = r at HE ⊢
  clear ha hb ka kb
  go_enter Tryz.func39, Tryz.ntmps39
  go_wp2_with fail
  have hx := ((Gro.refl w).alloc (.cells #[.slice pa a.vals.length ca, .slice qa a.lin.length da] 42)).alloc (.cells #[.slice pb b.vals.length cb, .slice qb b.lin.length db] 42)
  have c2 : ((w.alloc (.cells #[.slice pa a.vals.length ca, .slice qa a.lin.length da] 42)).alloc (.cells #[.slice pb b.vals.length cb, .slice qb b.lin.length db] 42)).cell? ⟨w.heap.size, 1, none⟩ = some (.slice qa a.lin.length da) := by go_simp
  have c4 : ((w.alloc (.cells #[.slice pa a.vals.length ca, .slice qa a.lin.length da] 42)).alloc (.cells #[.slice pb b.vals.length cb, .slice qb b.lin.length db] 42)).cell? ⟨w.heap.size + 1, 1, none⟩ = some (.slice qb b.lin.length db) := by go_simp
  refine (ref_compareRows _ _ a.vals b.vals _ (HA.out.ext hx.ext.full) (HB.out.ext hx.ext.full)).mono ?_
  rintro e w1 ⟨rfl, hx1⟩
  replace hx := hx.trans hx1
  replace c2 := hx1.at c2
  replace c4 := hx1.at c4
  clear hx1
  generalize cmpVals a.vals b.vals = q at HE ⊢
  by_cases hq : q = 0
  · subst hq
    go_wp2_with fail
    refine (ref_compareInts _ _ a.lin b.lin _ (KA.out.ext hx.ext.full) (KB.out.ext hx.ext.full)).mono ?_
    rintro e w2 ⟨rfl, hx2⟩
    replace hx := hx.trans hx2
    clear hx2 c2 c4
    generalize cmpInts a.lin b.lin = q2 at HE ⊢
    go_wp2_with fail
    all_goals go_ret
    all_goals exact ⟨ret_bool (by rw [HE.out]; simp), hx⟩
  · have hqb : (q == 0) = false := by simp [hq]
    have HQ := Lib.hid hq
    clear hq
    go_wp2_with fail
    all_goals go_ret
    all_goals exact ⟨ret_bool (by rw [HE.out]; simp [HQ.out]), hx⟩

end Go.Proofs.YtdgpbpbjlnlijaaGreatDoor

/- the reference's SameRows, Multiplicity; annalistlaw0.FewRows -/
namespace Go.Proofs.YtdgpbpbjlnlijaaGreatDoor
open Go.RowKit

/-- rows that a law takes -/
def few (n : Nat) (l : List Row) : Prop := l.length ≤ n ∧ ∀ r ∈ l, r.vals.length ≤ 6 ∧ r.lin.length ≤ 6
end Go.Proofs.YtdgpbpbjlnlijaaGreatDoor

/- the reference's Sort -/
namespace Go.Proofs.YtdgpbpbjlnlijaaGreatDoor
open Go.RowKit

theorem RepAll.flatten_take {α : Type} {R : Rep α} {w : View} {css : List (List Value)} {xs : List α} (h : RepAll R w css xs) (k : Nat) : (css.take k).flatten = css.flatten.take (k * R.size) := by
  induction css generalizing xs k with
  | nil => simp
  | cons c css ih => cases xs with
    | nil => exact h.elim
    | cons x xs => cases k with
      | zero => simp
      | succ k =>
        have hc := R.len h.1
        rw [List.take_succ_cons, List.flatten_cons, List.flatten_cons, ih h.2, List.take_append, hc, Nat.succ_mul, List.take_of_length_le (l := c) (by rw [hc]; omega), Nat.add_sub_cancel]
theorem RepAll.flatten_drop {α : Type} {R : Rep α} {w : View} {css : List (List Value)} {xs : List α} (h : RepAll R w css xs) (k : Nat) : (css.drop k).flatten = css.flatten.drop (k * R.size) := by
  induction css generalizing xs k with
  | nil => simp
  | cons c css ih => cases xs with
    | nil => exact h.elim
    | cons x xs => cases k with
      | zero => simp
      | succ k =>
        have hc := R.len h.1
        rw [List.drop_succ_cons, List.flatten_cons, ih h.2, List.drop_append, hc, Nat.succ_mul, List.drop_of_length_le (l := c) (by rw [hc]; omega), Nat.add_sub_cancel, List.nil_append]
theorem SliceOf.takeV {α : Type} {R : Rep α} {w : View} {b o cap n : Nat} {xs : List α} (h : SliceOf R w (.slice (some ⟨b, o, none⟩) n cap) xs) (k : Nat) (hk : k ≤ xs.length) :
    SliceOf R w (.slice (some ⟨b, o, none⟩) k cap) (xs.take k) := by
  obtain ⟨css, h1, h2⟩ := h
  refine ⟨css.take k, h1.take k, ?_⟩
  have hl : (xs.take k).length = k := by simp; omega
  rw [hl, h1.flatten_take]
  rcases h2 with ⟨he, _⟩ | ⟨ad, c, he, g1, g2, g3⟩
  · cases he
  · injection he with e1 e2 e3
    injection e1 with e1
    subst e1 e2 e3
    refine .inr ⟨_, cap, rfl, by omega, g2, ?_⟩
    rcases g3 with g3 | ⟨b', o', ha, g3⟩
    · exact .inl (by rw [g3]; simp)
    · refine .inr ⟨b', o', ha, fun j u hj => ?_⟩
      rw [List.getElem?_take] at hj
      split at hj
      · exact g3 j u hj
      · cases hj
theorem SliceOf.dropV {α : Type} {R : Rep α} {w : View} {b o cap n : Nat} {xs : List α} (h : SliceOf R w (.slice (some ⟨b, o, none⟩) n cap) xs) (k : Nat) (hk : k ≤ xs.length) :
    SliceOf R w (.slice (some ⟨b, o + k * R.size, none⟩) (xs.length - k) (cap - k)) (xs.drop k) := by
  obtain ⟨css, h1, h2⟩ := h
  refine ⟨css.drop k, h1.drop k, ?_⟩
  rw [List.length_drop, h1.flatten_drop]
  rcases h2 with ⟨he, _⟩ | ⟨ad, c, he, g1, g2, g3⟩
  · cases he
  · injection he with e1 e2 e3
    injection e1 with e1
    subst e1 e2 e3
    refine .inr ⟨_, cap - k, rfl, by omega, by omega, ?_⟩
    rcases g3 with g3 | ⟨b', o', ha, g3⟩
    · exact .inl (by rw [g3]; simp)
    · injection ha with ha1 ha2
      subst ha1 ha2
      refine .inr ⟨b, _, rfl, fun j u hj => ?_⟩
      rw [List.getElem?_drop] at hj
      rw [Nat.add_assoc]
      exact g3 _ u hj

/-- two sorted lists as one -/
def mergeBy {α : Type} (c : α → α → Int) (l l' : List α) : List α := List.merge l l' fun a b => decide (c a b ≤ 0)
theorem sortBy_short {α : Type} (c : α → α → Int) (l : List α) (h : l.length < 2) : sortBy c l = l := by
  match l, h with
  | [], _ => simp [sortBy]
  | [a], _ => simp [sortBy]

end Go.Proofs.YtdgpbpbjlnlijaaGreatDoor

/-
  DERIVED: THE SHELF's CONTRACTS AT THIS DUMP, IN PLAIN WORDS (tools/lay-plain.mjs out of 'TryzShelfB.lean', which tools/lay-shelf.mjs wrote): THE SAME DECLARATIONS UNDER THE SAME NAMES: 'import', 'namespace', 'open', 'def', 'theorem' AND NOTHING ELSE: no command of the shelf's: FOR A HAND-IN. Each laying: the table of numbers ('.._ren') and one theorem, a field a fact of the dump's own or the kernel's comparison; each contract: ONE APPLICATION.
-/
namespace Go.Proofs
open Go.Shelf
def Tryz.growInt_ren : Go.Shelf.Ren := ⟨fun | 4 => 187 | n => n, fun | 22 => 24 | 25 => 3 | 3 => 3 | 4 => 4 | 9 => 9 | 20 => 20 | 0 => 0 | n => n, fun | n => n⟩
theorem Tryz.growInt : Go.Proofs.Lays8.n4 Tryz.prog Tryz.growInt_ren := {
  mixed := by kernel_rfl
  f4 := ⟨Tryz.f187.name, by decide, Tryz.func187.trans (congrArg some (by kernel_rfl))⟩
  t0 := Tryz.underlying0
  a0 := Tryz.isAgg0
  z0 := Tryz.sizeOf0
  v0 := Tryz.zeroValue0
  t3 := Tryz.underlying3
  a3 := Tryz.isAgg3
  z3 := Tryz.sizeOf3
  v3 := Tryz.zeroValue3
  t4 := Tryz.underlying4
  a4 := Tryz.isAgg4
  z4 := Tryz.sizeOf4
  v4 := Tryz.zeroValue4
  t9 := Tryz.underlying9
  a9 := Tryz.isAgg9
  z9 := Tryz.sizeOf9
  v9 := Tryz.zeroValue9
  t20 := Tryz.underlying20
  a20 := Tryz.isAgg20
  z20 := Tryz.sizeOf20
  v20 := Tryz.zeroValue20
  t22 := Tryz.underlying24
  a22 := Tryz.isAgg24
  z22 := Tryz.sizeOf24
  v22 := Tryz.zeroValue24 }
end Go.Proofs
