/- the queue of active tuples: its row of cells; the methods Len, Less, Swap -/
import Derived.Test.YtdgpbpbjlnlijaaGreatPlainS
import Derived.Test.YtdgpbpbjlnlijaaGreatKeep
import Derived.Test.YtdgpbpbjlnlijaaGreatStep
import Derived.Shelf.SlSortCmp.KitK
import Derived.Sort.WalkB2
import Derived.Sort.WalkB12
import Derived.Deep.LoopGhost
namespace Go.Proofs.YtdgpbpbjlnlijaaGreat
open Go.RowKit Go.Shelf Go.Sort

instance : Inhabited Ev := ⟨⟨false, 0, 0, 0⟩⟩
def actEnc (x : Ev) : List Value := [.int .i64 x.idx, .int .i64 x.to_]
def okE (x : Ev) : Prop := x.idx ≤ 1048576 ∧ -9223372036854775808 ≤ x.to_ ∧ x.to_ ≤ 9223372036854775807
def Rep.act : Rep Ev where
  size := 2
  holds _ cs x := cs = actEnc x ∧ okE x
  len := by rintro w cs x ⟨rfl, _⟩; rfl
  ext := by rintro w w' cs x h _; exact h
  one := by rintro w cs x ⟨rfl, _⟩; simp [actEnc, Value.oneCell']
theorem flat_act : Rep.act.flat := fun _ _ _ _ h => h
theorem act_len (x : Ev) : (actEnc x).length = 2 := rfl
theorem act_one (x : Ev) : ∀ v ∈ actEnc x, v.oneCell' = true := by simp [actEnc, Value.oneCell']

section
variable {α : Type} {R : Rep α} {enc : α → List Value} {ok : α → Prop}
theorem css_enc (hR : ∀ h cs x, R.holds h cs x ↔ cs = enc x ∧ ok x) {h : View} {css : List (List Value)} {xs : List α} (k : RepAll R h css xs) : css = xs.map enc ∧ ∀ x ∈ xs, ok x := by
  induction xs generalizing css with
  | nil =>
    cases css with
    | nil => simp
    | cons c css => exact k.elim
  | cons x xs ih =>
    cases css with
    | nil => exact k.elim
    | cons c css =>
      obtain ⟨h1, h2⟩ := ih k.2
      obtain ⟨h3, h4⟩ := (hR _ _ _).1 k.1
      exact ⟨by rw [h3, h1]; rfl, by simpa using ⟨h4, h2⟩⟩
theorem enc_css (hR : ∀ h cs x, R.holds h cs x ↔ cs = enc x ∧ ok x) {h : View} {xs : List α} (k : ∀ x ∈ xs, ok x) : RepAll R h (xs.map enc) xs := by
  have := repAll_map R h xs enc id (fun x hx => (hR _ _ _).2 ⟨rfl, k x hx⟩)
  simpa using this
variable [Inhabited α]
/-- a row of one's own, as an array that is sorted in place -/
theorem own_split (hR : ∀ h cs x, R.holds h cs x ↔ cs = enc x ∧ ok x) {w : World} {S : Nat → Prop} {base : Nat} {e : TypeId} {v : Value} {xs : List α} (hown : OwnOf R w S base e v xs) (hn : 0 < xs.length) :
    ∃ g cap cur, v = .slice (some ⟨g, 0, none⟩) xs.length cap ∧ base ≤ g ∧ w.heap[g]? = some (.cells cur e (0, 0)) ∧ xs.length ≤ cap ∧ cap ≤ maxLen ∧ cur.size = cap * R.size ∧ HoldsK enc R.size w g 0 xs.toArray ∧ ∀ x ∈ xs, ok x := by
  obtain ⟨css, h1, h2⟩ := hown
  obtain ⟨rfl, hok⟩ := css_enc hR h1
  obtain ⟨h2l, h2⟩ := h2
  rcases h2 with ⟨_, h0⟩ | ⟨gB, cap, cur, rfl, hb, hh, hc1, hc2, hsz, htk⟩
  · omega
  refine ⟨gB, cap, cur, rfl, hb, hh, hc1, hc2, hsz, ?_, hok⟩
  have hel : ∀ x ∈ xs, (enc x).length = R.size := fun x hx => R.len ((hR w.cell? _ _).2 ⟨rfl, hok x hx⟩)
  have hflat : ∀ j, j < xs.length * R.size → ((xs.map enc).flatten)[j]? = some (flatK enc R.size xs.toArray)[j]! := by
    intro j hj
    have hk0 : 0 < R.size := by
      rcases Nat.eq_zero_or_pos R.size with h | h
      · rw [h] at hj; simp at hj
      · exact h
    have hdiv : j / R.size < xs.length := by rw [Nat.div_lt_iff_lt_mul hk0]; exact hj
    have hmod := Nat.mod_lt j hk0
    rw [get_flatK _ _ _ _ (by simpa using hj)]
    rw [getElem!_pos xs.toArray _ (by simpa using hdiv)]
    have key : ∀ (l : List α) (i r : Nat) (x : α), (∀ y ∈ l, (enc y).length = R.size) → l[i]? = some x → r < R.size → (l.map enc).flatten[i * R.size + r]? = some ((enc x)[r]!) := by
      intro l
      induction l with
      | nil => intro i r x _ h; simp at h
      | cons y l ih =>
        intro i r x hl h hr
        have hy := hl y (by simp)
        cases i with
        | zero =>
          simp at h
          subst h
          rw [List.map_cons, List.flatten_cons, Nat.zero_mul, Nat.zero_add, List.getElem?_append_left (by rw [hy]; exact hr)]
          rw [getElem!_pos _ r (by rw [hy]; exact hr), List.getElem?_eq_getElem]
        | succ i =>
          rw [List.map_cons, List.flatten_cons, List.getElem?_append_right (by rw [hy, Nat.succ_mul]; omega), hy]
          rw [show (i + 1) * R.size + r - R.size = i * R.size + r from by rw [Nat.succ_mul]; omega]
          exact ih i r x (fun z hz => hl z (by simp [hz])) (by simpa using h) hr
    have := key xs (j / R.size) (j % R.size) (xs[j / R.size]) hel (List.getElem?_eq_getElem hdiv) hmod
    rw [show j / R.size * R.size + j % R.size = j from by rw [Nat.mul_comm]; exact Nat.div_add_mod j R.size] at this
    rw [this]
    simp
  intro j hj
  have hj' : j < xs.length * R.size := by simpa using hj
  constructor
  · have hu := hflat j hj'
    rw [← htk, List.getElem?_take, if_pos hj'] at hu
    rw [Nat.zero_add, cell_of_row w gB j cur e (0, 0) hh]
    simpa using hu
  · simp [World.frozen?, hh]
theorem own_back (hR : ∀ h cs x, R.holds h cs x ↔ cs = enc x ∧ ok x) (hel : ∀ x, (enc x).length = R.size) {w : World} {S : Nat → Prop} {base : Nat} {e : TypeId} {g cap : Nat} {cur : Array Value} {n m : Nat} {d : Array α} {os : Array Obj} (hb : base ≤ g) (hh : w.heap[g]? = some (.cells cur e (0, 0))) (hc1 : n ≤ cap) (hc2 : cap ≤ maxLen) (hsz : cur.size = cap * R.size)
    (hd : d.size = n) (hok : ∀ x ∈ d.toList, ok x) : OwnOf R (sortWorldK enc R.size w g 0 m d os) S base e (.slice (some ⟨g, 0, none⟩) n cap) d.toList := by
  subst hd
  refine ⟨d.toList.map enc, enc_css hR hok, ?_, .inr ⟨g, cap, putCells id 0 (flatK enc R.size d) cur, by simp, hb, sortWorld_row enc R.size w g 0 m d os cur e (0, 0) hh, by simpa using hc1, hc2, by simp [putCells, hsz], ?_⟩⟩
  · rw [← flatK_toList enc R.size hel]; simp
  · rw [← flatK_toList enc R.size hel]
    apply List.ext_getElem?
    intro j
    rw [List.getElem?_take]
    by_cases hj : j < d.size * R.size
    · have hjc : j < cur.size := by rw [hsz]; exact Nat.lt_of_lt_of_le hj (Nat.mul_le_mul_right _ hc1)
      simp [putCells, hjc, hj]
    · rw [if_neg (by simpa using hj), List.getElem?_eq_none (by simpa using Nat.le_of_not_lt hj)]
end

theorem act_iff : ∀ h cs x, Rep.act.holds h cs x ↔ cs = actEnc x ∧ okE x := fun _ _ _ => Iff.rfl
theorem act_cell {w : World} {g : Nat} {d : Array Ev} (h : HoldsK actEnc 2 w g 0 d) (i : Nat) (hi : i < d.size) :
    w.cell? ⟨g, i * 2, none⟩ = some (.int .i64 d[i]!.idx) ∧ w.cell? ⟨g, i * 2 + 1, none⟩ = some (.int .i64 d[i]!.to_) := by
  have g0 := (h (i * 2) (by simp; omega)).1
  have g1 := (h (i * 2 + 1) (by simp; omega)).1
  rw [Nat.zero_add, get_flatK _ _ _ _ (by omega)] at g0 g1
  rw [show i * 2 / 2 = i by omega, show i * 2 % 2 = 0 by omega] at g0
  rw [show (i * 2 + 1) / 2 = i by omega, show (i * 2 + 1) % 2 = 1 by omega] at g1
  exact ⟨g0, g1⟩
def ltAct (x y : Ev) : Bool := decide (x.to_ < y.to_)
theorem swo_act : SWO ltAct where
  irrefl x := by simp [ltAct]
  trans x y z := by simp only [ltAct, decide_eq_true_eq]; omega
  ntrans x y z := by simp only [ltAct, decide_eq_false_iff_not]; omega

theorem mixedOrd : Tryz.prog.follows Departure.mixedOrders = true := by kernel_rfl
theorem len_act (p : Option Addr) (n cap : Nat) (w : World) : Calls Tryz.prog 32 #[.slice p n cap] w fun e w' => e = .returned (.int .i64 n) ∧ w = w' := by
  go_enter Tryz.func32, Tryz.ntmps32
  go_wp2_with fail
  go_ret
  exact ⟨rfl, rfl⟩

set_option maxHeartbeats 1000000 in
theorem less_act (g n cap : Nat) (d : Array Ev) (i j : Nat) (w : World) (hH : HoldsK actEnc 2 w g 0 d) (hn : d.size = n) (hi : i < d.size) (hj : j < d.size) :
    Calls Tryz.prog 133 #[.slice (some ⟨g, 0, none⟩) n cap, .int .i64 i, .int .i64 j] w fun e w' => e = .returned (.bool (ltAct d[i]! d[j]!)) ∧ Gro w w' := by
  subst hn
  obtain ⟨_, ci⟩ := act_cell hH i hi
  obtain ⟨_, cj⟩ := act_cell hH j hj
  have hiz : (i : Int) < (d.size : Int) := by omega
  have hjz : (j : Int) < (d.size : Int) := by omega
  clear hH
  unfold ltAct
  generalize d[i]!.to_ = ti at ci ⊢
  generalize d[j]!.to_ = tj at cj ⊢
  have mixed := mixedOrd
  go_enter Tryz.func133, Tryz.ntmps133
  go_wp2_with fail
  go_big_region_o
  all_goals go_wp2_with fail
  all_goals go_ret
  all_goals exact ⟨rfl, (Gro.refl w).drew⟩

theorem act_free {w : World} {g : Nat} {d : Array Ev} (h : HoldsK actEnc 2 w g 0 d) (i : Nat) (hi : i < d.size) :
    w.frozen? ⟨g, i * 2, none⟩ = false ∧ w.frozen? ⟨g, i * 2 + 1, none⟩ = false := by
  have g0 := (h (i * 2) (by simp; omega)).2
  have g1 := (h (i * 2 + 1) (by simp; omega)).2
  rw [Nat.zero_add] at g0 g1
  exact ⟨g0, g1⟩
set_option maxHeartbeats 4000000 in
theorem swap_act (g n cap : Nat) (d0 d : Array Ev) (i j : Nat) (w0 w : World) (R : RowK actEnc 2 w0 g 0 d0) (hs : d.size = d0.size) (hn : d.size = n) (S : SWK actEnc 2 w0 g 0 d w) (hi : i < d.size) (hj : j < d.size) :
    Calls Tryz.prog 134 #[.slice (some ⟨g, 0, none⟩) n cap, .int .i64 i, .int .i64 j] w fun e w' => e = .returned (.tuple #[]) ∧ SWK actEnc 2 w0 g 0 (swp d i j) w' := by
  subst hn
  have mixed := mixedOrd
  have hiz : (i : Int) < (d.size : Int) := by omega
  have hjz : (j : Int) < (d.size : Int) := by omega
  have S2 : Aside (SWK actEnc 2 w0 g 0 (swp d i j) ((w.drew.setCells g (0 + i * 2) (actEnc d[j]!)).setCells g (0 + j * 2) (actEnc d[i]!))) := S.swapped R i j hi hj
  have hH := S.holds R.hblk R.hH hs
  obtain ⟨ci0, ci1⟩ := act_cell hH i hi
  obtain ⟨cj0, cj1⟩ := act_cell hH j hj
  obtain ⟨fi0, fi1⟩ := act_free hH i hi
  obtain ⟨fj0, fj1⟩ := act_free hH j hj
  simp only [actEnc, World.setCells, Nat.zero_add] at S2
  clear S hH
  by_cases hij : i = j
  · subst hij
    clear cj0 cj1 fj0 fj1 hjz hj
    generalize d[i]!.to_ = ti at S2 ci1
    generalize d[i]!.idx = ni at S2 ci0
    go_enter Tryz.func134, Tryz.ntmps134
    go_wp2_with fail
    go_big_region_o
    all_goals go_wp2_with fail
    all_goals go_end0
    all_goals exact ⟨rfl, S2.out⟩
  · generalize d[i]!.to_ = ti at S2 ci1
    generalize d[j]!.to_ = tj at S2 cj1
    generalize d[i]!.idx = ni at S2 ci0
    generalize d[j]!.idx = nj at S2 cj0
    have e1 : ¬ i * 2 = j * 2 := by omega
    have e2 : ¬ i * 2 + 1 = j * 2 := by omega
    have e3 : ¬ i * 2 = j * 2 + 1 := by omega
    have e4 : ¬ i * 2 + 1 = j * 2 + 1 := by omega
    go_enter Tryz.func134, Tryz.ntmps134
    go_wp2_with fail
    go_big_region_o
    all_goals go_wp2_with fail
    all_goals go_end0
    all_goals exact ⟨rfl, S2.out⟩

end Go.Proofs.YtdgpbpbjlnlijaaGreat
