/- What Compose hands back holds the relation of the first and the third of any three valid periods; the walk of PeriodComposeSound. -/
import Derived.Test.YtjhbndbfgbkccaaPerM
import Derived.Test.YtjhbndbfgbkccaaPerJ
namespace Go.Proofs.Ytjhbndbfgbkccaa
open Go.RowKit

/-- how many of the end points lie before x -/
def rk (E : List Int) (x : Int) : Nat := E.countP fun e => decide (e < x)
theorem rk_mono (E : List Int) {x y : Int} (h : x ≤ y) : rk E x ≤ rk E y :=
  List.countP_mono_left fun e _ he => by simp at he ⊢; omega
theorem rk_lt (E : List Int) {x y : Int} (hx : x ∈ E) (h : x < y) : rk E x < rk E y := by
  induction E with
  | nil => cases hx
  | cons e E ih =>
    unfold rk at ih ⊢
    rw [List.countP_cons, List.countP_cons]
    rcases List.mem_cons.1 hx with rfl | hx
    · have := rk_mono E (Int.le_of_lt h)
      unfold rk at this
      rw [if_neg (by simp), if_pos (by simpa using h)]
      omega
    · have := ih hx
      by_cases h1 : e < x
      · rw [if_pos (by simpa using h1), if_pos (by simp; omega)]; omega
      · rw [if_neg (by simpa using h1)]; omega
theorem rk_len (E : List Int) {x : Int} (hx : x ∈ E) : rk E x < E.length := by
  induction E with
  | nil => cases hx
  | cons e E ih =>
    unfold rk at ih ⊢
    rw [List.countP_cons, List.length_cons]
    rcases List.mem_cons.1 hx with rfl | hx
    · have := List.countP_le_length (p := fun e => decide (e < x)) (l := E)
      rw [if_neg (by simp)]; omega
    · have := ih hx
      split <;> omega
theorem rk_iff (E : List Int) {x y : Int} (hx : x ∈ E) (hy : y ∈ E) : (x < y ↔ (rk E x : Int) < (rk E y : Int)) ∧ (x = y ↔ (rk E x : Int) = (rk E y : Int)) := by
  rcases Int.lt_trichotomy x y with h | h | h
  · have := rk_lt E hx h
    constructor <;> constructor <;> intro g <;> omega
  · subst h; simp
  · have := rk_lt E hy h
    constructor <;> constructor <;> intro g <;> omega
theorem relI_rk (E : List Int) {a b c d : Int} (ha : a ∈ E) (hb : b ∈ E) (hc : c ∈ E) (hd : d ∈ E) : relI a b c d = relI (rk E a) (rk E b) (rk E c) (rk E d) := by
  have e1 := propext (rk_iff E hb hc).1
  have e2 := propext (rk_iff E hb hc).2
  have e3 := propext (rk_iff E hd ha).1
  have e4 := propext (rk_iff E hd ha).2
  have e5 := propext (rk_iff E ha hc).1
  have e6 := propext (rk_iff E hc ha).1
  have e7 := propext (rk_iff E hb hd).1
  have e8 := propext (rk_iff E hd hb).1
  unfold relI
  simp only [e1, e2, e3, e4, e5, e6, e7, e8]
theorem perAt_of (p q : Nat) (hq : q < 6) (h : p < q) : ∃ k, k < 15 ∧ perAt k = ((p : Int), (q : Int)) := by
  have : ∀ q : Nat, q < 6 → ∀ p : Nat, p < q → ∃ k : Nat, k < 15 ∧ perAt k = ((p : Int), (q : Int)) := by decide +kernel
  exact this q hq p h
theorem compL_sound (a b c d e f : Int) (h1 : a < b) (h2 : c < d) (h3 : e < f) : relI a b e f ∈ compL (relI a b c d) (relI c d e f) := by
  have hE : ∀ x ∈ [a, b, c, d, e, f], rk [a, b, c, d, e, f] x < 6 := fun x hx => rk_len _ hx
  have ma : a ∈ [a, b, c, d, e, f] := by simp
  have mb : b ∈ [a, b, c, d, e, f] := by simp
  have mc : c ∈ [a, b, c, d, e, f] := by simp
  have md : d ∈ [a, b, c, d, e, f] := by simp
  have me : e ∈ [a, b, c, d, e, f] := by simp
  have mf : f ∈ [a, b, c, d, e, f] := by simp
  generalize [a, b, c, d, e, f] = E at hE ma mb mc md me mf
  obtain ⟨i, hi, ei⟩ := perAt_of _ _ (hE b mb) (rk_lt E ma h1)
  obtain ⟨j, hj, ej⟩ := perAt_of _ _ (hE d md) (rk_lt E mc h2)
  obtain ⟨k, hk, ek⟩ := perAt_of _ _ (hE f mf) (rk_lt E me h3)
  obtain ⟨t, ht, ht14⟩ := relI_nat a b e f
  have hbd := relI_bd a b e f
  have ok : compOk (relI a b c d) (relI c d e f) t = true := by
    rw [compOk_iffR]
    refine ⟨i, hi, j, hj, k, hk, ?_, ?_, ?_⟩
    · unfold relP; rw [ei, ej, relI_rk E ma mb mc md]
    · unfold relP; rw [ej, ek, relI_rk E mc md me mf]
    · unfold relP; rw [ei, ek, ← ht, relI_rk E ma mb me mf]
  rw [ht]
  refine List.mem_map.2 ⟨t - 1, List.mem_filter.2 ⟨List.mem_range.2 (by omega), ?_⟩, ?_⟩
  · rw [show 1 + (t - 1) = t from by omega]; exact ok
  · omega

theorem mem_take_succ {l : List Int} {k : Nat} {r : Int} (h : r ∉ l.take k) (hk : k < l.length) (hne : ¬ l[k] = r) : r ∉ l.take (k + 1) := by
  rw [List.take_succ_eq_append_getElem hk]
  intro hm
  rcases List.mem_append.1 hm with hm | hm
  · exact h hm
  · exact hne (List.mem_singleton.1 hm).symm
theorem keep6 {W wa wb : World} {p1 p2 p3 p4 p5 p6 : Addr} {v1 v2 v3 v4 v5 v6 : Value} (h : Ext W wa ∧ wa.cell? p1 = some v1 ∧ wa.cell? p2 = some v2 ∧ wa.cell? p3 = some v3 ∧ wa.cell? p4 = some v4 ∧ wa.cell? p5 = some v5 ∧ wa.cell? p6 = some v6) (hx : Ext wa wb) :
    Ext W wb ∧ wb.cell? p1 = some v1 ∧ wb.cell? p2 = some v2 ∧ wb.cell? p3 = some v3 ∧ wb.cell? p4 = some v4 ∧ wb.cell? p5 = some v5 ∧ wb.cell? p6 = some v6 :=
  ⟨h.1.trans hx, hx.at h.2.1, hx.at h.2.2.1, hx.at h.2.2.2.1, hx.at h.2.2.2.2.1, hx.at h.2.2.2.2.2.1, hx.at h.2.2.2.2.2.2⟩

set_option maxHeartbeats 1000000 in
theorem PeriodComposeSound_no1 (a b c d f g : Int) (w : World) (h1 : validB a b = false) :
    Calls Try.prog 5 #[perV a b, perV c d, perV f g] w fun e w' => e = .returned (.bool true) ∧ Ext w w' := by
  have H1 := Lib.hid h1
  clear h1
  go_enter Try.func5, Try.ntmps5
  go_wp2_with fail
  refine (rvalid_any _ _ _).mono ?_
  rintro e w1 ⟨rfl, hx1⟩
  rw [H1.out]
  have c3 : w1.cell? ⟨w.heap.size + 1, 0, none⟩ = some (.int .i64 c) := hx1.at (by go_simp)
  have c4 : w1.cell? ⟨w.heap.size + 1, 1, none⟩ = some (.int .i64 d) := hx1.at (by go_simp)
  have c5 : w1.cell? ⟨w.heap.size + 1 + 1, 0, none⟩ = some (.int .i64 f) := hx1.at (by go_simp)
  have c6 : w1.cell? ⟨w.heap.size + 1 + 1, 1, none⟩ = some (.int .i64 g) := hx1.at (by go_simp)
  have hxx := ((Ext.refl w).alloc _ |>.alloc _ |>.alloc _).trans hx1
  clear hx1
  go_wp2_with fail
  refine (awake_any _).mono ?_
  rintro e w4 ⟨rfl, hx4⟩
  replace hxx := hxx.trans hx4
  clear hx4
  go_wp2_with fail
  go_ret
  exact ⟨rfl, hxx⟩

set_option maxHeartbeats 1000000 in
theorem PeriodComposeSound_no2 (a b c d f g : Int) (w : World) (h1 : validB a b = true) (h2 : validB c d = false) :
    Calls Try.prog 5 #[perV a b, perV c d, perV f g] w fun e w' => e = .returned (.bool true) ∧ Ext w w' := by
  have H1 := Lib.hid h1
  clear h1
  have H2 := Lib.hid h2
  clear h2
  go_enter Try.func5, Try.ntmps5
  go_wp2_with fail
  refine (rvalid_any _ _ _).mono ?_
  rintro e w1 ⟨rfl, hx1⟩
  rw [H1.out]
  have c3 : w1.cell? ⟨w.heap.size + 1, 0, none⟩ = some (.int .i64 c) := hx1.at (by go_simp)
  have c4 : w1.cell? ⟨w.heap.size + 1, 1, none⟩ = some (.int .i64 d) := hx1.at (by go_simp)
  have c5 : w1.cell? ⟨w.heap.size + 1 + 1, 0, none⟩ = some (.int .i64 f) := hx1.at (by go_simp)
  have c6 : w1.cell? ⟨w.heap.size + 1 + 1, 1, none⟩ = some (.int .i64 g) := hx1.at (by go_simp)
  have hxx := ((Ext.refl w).alloc _ |>.alloc _ |>.alloc _).trans hx1
  clear hx1
  go_wp2_with fail
  refine (rvalid_any _ _ _).mono ?_
  rintro e w2 ⟨rfl, hx2⟩
  rw [H2.out]
  replace c3 := hx2.at c3
  replace c4 := hx2.at c4
  replace c5 := hx2.at c5
  replace c6 := hx2.at c6
  replace hxx := hxx.trans hx2
  clear hx2
  go_wp2_with fail
  refine (awake_any _).mono ?_
  rintro e w4 ⟨rfl, hx4⟩
  replace hxx := hxx.trans hx4
  clear hx4
  go_wp2_with fail
  go_ret
  exact ⟨rfl, hxx⟩

set_option maxHeartbeats 1000000 in
theorem PeriodComposeSound_no3 (a b c d f g : Int) (w : World) (h1 : validB a b = true) (h2 : validB c d = true) (h3 : validB f g = false) :
    Calls Try.prog 5 #[perV a b, perV c d, perV f g] w fun e w' => e = .returned (.bool true) ∧ Ext w w' := by
  have H1 := Lib.hid h1
  clear h1
  have H2 := Lib.hid h2
  clear h2
  have H3 := Lib.hid h3
  clear h3
  go_enter Try.func5, Try.ntmps5
  go_wp2_with fail
  refine (rvalid_any _ _ _).mono ?_
  rintro e w1 ⟨rfl, hx1⟩
  rw [H1.out]
  have c3 : w1.cell? ⟨w.heap.size + 1, 0, none⟩ = some (.int .i64 c) := hx1.at (by go_simp)
  have c4 : w1.cell? ⟨w.heap.size + 1, 1, none⟩ = some (.int .i64 d) := hx1.at (by go_simp)
  have c5 : w1.cell? ⟨w.heap.size + 1 + 1, 0, none⟩ = some (.int .i64 f) := hx1.at (by go_simp)
  have c6 : w1.cell? ⟨w.heap.size + 1 + 1, 1, none⟩ = some (.int .i64 g) := hx1.at (by go_simp)
  have hxx := ((Ext.refl w).alloc _ |>.alloc _ |>.alloc _).trans hx1
  clear hx1
  go_wp2_with fail
  refine (rvalid_any _ _ _).mono ?_
  rintro e w2 ⟨rfl, hx2⟩
  rw [H2.out]
  replace c3 := hx2.at c3
  replace c4 := hx2.at c4
  replace c5 := hx2.at c5
  replace c6 := hx2.at c6
  replace hxx := hxx.trans hx2
  clear hx2
  go_wp2_with fail
  refine (rvalid_any _ _ _).mono ?_
  rintro e w3 ⟨rfl, hx3⟩
  rw [H3.out]
  replace c3 := hx3.at c3
  replace c4 := hx3.at c4
  replace c5 := hx3.at c5
  replace c6 := hx3.at c6
  replace hxx := hxx.trans hx3
  clear hx3
  go_wp2_with fail
  refine (awake_any _).mono ?_
  rintro e w4 ⟨rfl, hx4⟩
  replace hxx := hxx.trans hx4
  clear hx4
  go_wp2_with fail
  go_ret
  exact ⟨rfl, hxx⟩

set_option maxHeartbeats 2000000 in
theorem PeriodComposeSound_yes (a b c d f g : Int) (w : World) (h1 : validB a b = true) (h2 : validB c d = true) (h3 : validB f g = true) :
    Calls Try.prog 5 #[perV a b, perV c d, perV f g] w fun e w' => e = .returned (.bool true) ∧ Ext w w' := by
  have hsd := compL_sound a b c d f g (validB_lt h1).2.1 (validB_lt h2).2.1 (validB_lt h3).2.1
  have ha : relA a b c d = relI a b c d := by unfold relA; rw [h1, h2]; rfl
  have hb : relA c d f g = relI c d f g := by unfold relA; rw [h2, h3]; rfl
  generalize relI a b c d = q1 at ha hsd
  generalize relI c d f g = q2 at hb hsd
  generalize hl : compL q1 q2 = l at hsd
  have HA := Lib.hid ha
  have HB := Lib.hid hb
  generalize hr : relI a b f g = r at hsd
  have HL := Lib.hid hl
  have HR := Lib.hid hr
  have HS := Lib.hid hsd
  have H1 := Lib.hid h1
  have H2 := Lib.hid h2
  have H3 := Lib.hid h3
  clear hl hr hsd h1 h2 h3 ha hb
  go_enter Try.func5, Try.ntmps5
  go_wp2_with fail
  refine (rvalid_any _ _ _).mono ?_
  rintro e w1 ⟨rfl, hx1⟩
  rw [H1.out]
  have c1 : w1.cell? ⟨w.heap.size, 0, none⟩ = some (.int .i64 a) := hx1.at (by go_simp)
  have c2 : w1.cell? ⟨w.heap.size, 1, none⟩ = some (.int .i64 b) := hx1.at (by go_simp)
  have c3 : w1.cell? ⟨w.heap.size + 1, 0, none⟩ = some (.int .i64 c) := hx1.at (by go_simp)
  have c4 : w1.cell? ⟨w.heap.size + 1, 1, none⟩ = some (.int .i64 d) := hx1.at (by go_simp)
  have c5 : w1.cell? ⟨w.heap.size + 1 + 1, 0, none⟩ = some (.int .i64 f) := hx1.at (by go_simp)
  have c6 : w1.cell? ⟨w.heap.size + 1 + 1, 1, none⟩ = some (.int .i64 g) := hx1.at (by go_simp)
  have hxx := ((Ext.refl w).alloc _ |>.alloc _ |>.alloc _).trans hx1
  clear hx1
  go_wp2_with fail
  refine (rvalid_any _ _ _).mono ?_
  rintro e w2 ⟨rfl, hx2⟩
  rw [H2.out]
  replace c1 := hx2.at c1
  replace c2 := hx2.at c2
  replace c3 := hx2.at c3
  replace c4 := hx2.at c4
  replace c5 := hx2.at c5
  replace c6 := hx2.at c6
  replace hxx := hxx.trans hx2
  clear hx2
  go_wp2_with fail
  refine (rvalid_any _ _ _).mono ?_
  rintro e w3 ⟨rfl, hx3⟩
  rw [H3.out]
  replace c1 := hx3.at c1
  replace c2 := hx3.at c2
  replace c3 := hx3.at c3
  replace c4 := hx3.at c4
  replace c5 := hx3.at c5
  replace c6 := hx3.at c6
  replace hxx := hxx.trans hx3
  clear hx3
  go_wp2_with fail
  refine (relation_any _ _ _ _ _ H1.out H3.out).mono ?_
  rintro e w4 ⟨rfl, hx4⟩
  rw [HR.out]
  replace c1 := hx4.at c1
  replace c2 := hx4.at c2
  replace c3 := hx4.at c3
  replace c4 := hx4.at c4
  replace c5 := hx4.at c5
  replace c6 := hx4.at c6
  replace hxx := hxx.trans hx4
  clear hx4
  go_wp2_with fail
  go_region_held3 (fun w' => Ext w w' ∧ w'.cell? ⟨w.heap.size, 0, none⟩ = some (.int .i64 a) ∧ w'.cell? ⟨w.heap.size, 1, none⟩ = some (.int .i64 b) ∧ w'.cell? ⟨w.heap.size + 1, 0, none⟩ = some (.int .i64 c) ∧ w'.cell? ⟨w.heap.size + 1, 1, none⟩ = some (.int .i64 d) ∧ w'.cell? ⟨w.heap.size + 1 + 1, 0, none⟩ = some (.int .i64 f) ∧ w'.cell? ⟨w.heap.size + 1 + 1, 1, none⟩ = some (.int .i64 g))
    (first | exact ⟨hxx.drew, c1, c2, c3, c4, c5, c6⟩ | exact keep6 (by assumption) hx)
    (first | (go_at_call 10; refine (relation_all _ _ _ _ _).mono ?_; rintro e w5 ⟨rfl, hx⟩; first | rw [HA.out] | rw [HB.out]) | (go_at_call 15; refine (compose_any _ _ _).mono ?_; rintro e w7 ⟨v7, rfl, hown, hx⟩; rw [HL.out] at hown; obtain ⟨pa, cap, rfl, hcap1, hcap2, hs⟩ := SliceAt.own hown; unfold maxLen at hcap2; clear hown))
  obtain ⟨hfin, _⟩ := ‹Ext w _ ∧ _›
  clear c1 c2 c3 c4 c5 c6 hxx
  go_wp2_with fail
  go_loopg [35] l.length (fun gk i wr => ∃ k : Nat, k ≤ l.length ∧ gk = l.length - k ∧ i = .int .i64 k ∧ r ∉ l.take k ∧ Ext w7 wr)
  case atStart => exact ⟨0, by omega, by omega, rfl, by simp, Ext.refl _⟩
  case round =>
    obtain ⟨k, hk, rfl, rfl, hnot, hx⟩ := hrel
    have HN := Lib.hid hnot
    clear hnot
    by_cases hlt : k < l.length
    · obtain ⟨bk, ok, rfl, hs2⟩ := or_pos hs (i := k) (by simpa using hlt)
      have d1 := hx.at (hs2 k (.int .i64 (l[k]'hlt)) (by simp [hlt]))
      generalize hp : l[k]'hlt = p at d1
      have HP := Lib.hid hp
      have hd : decide ((k : Int) < (l.length : Int)) = true := by simp; omega
      have hd2 : (k : Int) < (l.length : Int) := by omega
      clear hp hs hs2
      by_cases hpr : p = r
      · have hb : (p == r) = true := by simp [hpr]
        clear hpr
        go_wp2_with fail
        refine (awake_any _).mono ?_
        rintro e w8 ⟨rfl, hx8⟩
        go_wp2_with fail
        go_ret
        exact ⟨rfl, (hfin.trans hx).trans hx8⟩
      · have hb : (p == r) = false := by simp [hpr]
        have HPR := Lib.hid hpr
        clear hpr
        go_wp2_with fail
        go_roundg (l.length - (k + 1))
        case measure => omega
        case rel => exact ⟨k + 1, by omega, rfl, by go_num, mem_take_succ HN.out hlt (by rw [HP.out]; exact HPR.out), hx⟩
    · have : k = l.length := by omega
      subst this
      have := HN.out
      rw [List.take_of_length_le (Nat.le_refl _)] at this
      exact (this HS.out).elim

theorem PeriodComposeSound_walk (a b c d f g : Int) (_ : (Lit.int .i64 a).wf = true) (_ : (Lit.int .i64 b).wf = true) (_ : (Lit.int .i64 c).wf = true) (_ : (Lit.int .i64 d).wf = true) (_ : (Lit.int .i64 f).wf = true) (_ : (Lit.int .i64 g).wf = true) (w : World) :
    Calls Try.prog 5 #[perV a b, perV c d, perV f g] w fun e w' => e = .returned (.bool true) ∧ Ext w w' := by
  cases h1 : validB a b with
  | false => exact PeriodComposeSound_no1 a b c d f g w h1
  | true =>
    cases h2 : validB c d with
    | false => exact PeriodComposeSound_no2 a b c d f g w h1 h2
    | true =>
      cases h3 : validB f g with
      | false => exact PeriodComposeSound_no3 a b c d f g w h1 h2 h3
      | true => exact PeriodComposeSound_yes a b c d f g w h1 h2 h3

end Go.Proofs.Ytjhbndbfgbkccaa
