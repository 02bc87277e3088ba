/- Contracts of Subtract, of package period and of the reference. -/
import Derived.Test.YtjhbndbfgbkccaaPerE
namespace Go.Proofs.Ytjhbndbfgbkccaa
open Go.RowKit

/-- what is left of (a, b), the common part being (x, y) -/
def restL (a b x y : Int) : List (Int × Int) := (if a < x then [(a, x)] else []) ++ (if y < b then [(y, b)] else [])
def subL (a b c d : Int) : List (Int × Int) :=
  if validB a b = true then (if interB a b c d = true then restL a b (max a c) (min b d) else [(a, b)]) else []
theorem restL_pq {a b x y : Int} (h : a < x) (h' : y < b) : restL a b x y = [(a, x), (y, b)] := by simp [restL, h, h']
theorem restL_p {a b x y : Int} (h : a < x) (h' : ¬ y < b) : restL a b x y = [(a, x)] := by simp [restL, h, h']
theorem restL_q {a b x y : Int} (h : ¬ a < x) (h' : y < b) : restL a b x y = [(y, b)] := by simp [restL, h, h']
theorem restL_no {a b x y : Int} (h : ¬ a < x) (h' : ¬ y < b) : restL a b x y = [] := by simp [restL, h, h']
theorem cells_at (w : World) (b : Nat) (xs : List Value) (T : TypeId) (hb : b = w.heap.size) : ∀ j u, xs[j]? = some u → (w.alloc (.cells xs.toArray T)).cell? ((⟨b, 0, none⟩ : Addr).add j) = some u := by
  subst hb
  exact cells_new w xs T
theorem sliceAt_one (w : World) (b : Nat) (xs : List Value) (T : TypeId) (hb : b = w.heap.size) : SliceAt (w.alloc (.cells xs.toArray T)) (.slice (some ⟨b, 0, none⟩) 1 1) 1 xs := by
  subst hb
  refine ⟨_, 1, rfl, Nat.le_refl _, by simp [maxLen], .inr ⟨w.heap.size, 0, rfl, fun j u hj => ?_⟩⟩
  rw [Nat.zero_add, World.cell?_alloc_at _ _ _ _ rfl]
  simpa using hj

set_option maxHeartbeats 1000000 in
theorem subtract_any (a b c d : Int) (w : World) :
    Calls Try.prog 27 #[perV a b, perV c d] w fun e w' => ∃ v, e = .returned v ∧ SliceAt w' v (subL a b c d).length (perCells (subL a b c d)) ∧ Ext w w' := by
  obtain ⟨i0, hi, hi0, hi1, hi2⟩ := info_parts infoPer
  cases h1 : validB a b with
  | false =>
    have hv : subL a b c d = [] := by simp [subL, h1]
    have H1 := Lib.hid h1
    have HV := Lib.hid hv
    clear h1 hv
    go_enter Try.func27, Try.ntmps27
    go_wp2_with fail
    refine (valid_any _ _ _).mono ?_
    rintro e w1 ⟨rfl, hx1⟩
    rw [H1.out]
    go_wp2_with fail
    go_ret
    exact ⟨_, rfl, by rw [HV.out]; exact SliceAt.nil _, (((Ext.refl w).alloc _).alloc _).trans hx1⟩
  | true =>
    cases h2 : interB a b c d with
    | false =>
      have hv : subL a b c d = [(a, b)] := by simp [subL, h1, h2]
      have hw := interV_no h2
      have H1 := Lib.hid h1
      have HV := Lib.hid hv
      have HW := Lib.hid hw
      clear h1 hv h2 hw
      go_enter Try.func27, Try.ntmps27
      go_wp2_with fail
      refine (valid_any _ _ _).mono ?_
      rintro e w1 ⟨rfl, hx1⟩
      rw [H1.out]
      have hz1 := hx1.size
      simp at hz1
      obtain ⟨hc, hf⟩ := bcell (hx1.mono (B' := w.heap.size + 2) (by simp))
      go_wp2_with fail
      refine (intersect_any _ _ _ _ _).mono ?_
      rintro e w2 ⟨rfl, hx2⟩
      rw [HW.out]
      have hz2 := hx2.size
      obtain ⟨hc2, hf2⟩ := bcell (hx2.mono (B' := w.heap.size + 2) (by omega))
      have hz3 : w.heap.size < w2.heap.size := by omega
      go_wp2_with fail
      go_ret
      refine ⟨_, rfl, ?_, ((((((Ext.refl w).alloc _).alloc _).trans hx1).trans hx2).alloc _).alloc _⟩
      rw [HV.out]
      exact sliceAt_one (w2.alloc (.cells #[.int .i64 0, .int .i64 0] 23)) (w2.heap.size + 1) [.int .i64 a, .int .i64 b] 23 (by simp)
    | true =>
      have hv : subL a b c d = restL a b (max a c) (min b d) := by simp [subL, h1, h2]
      have hw := interV_yes (x := max a c) (y := min b d) h2 rfl rfl
      have hx : a ≤ max a c := by omega
      have hy : min b d ≤ b := by omega
      generalize max a c = x at hv hw hx
      generalize min b d = y at hv hw hy
      have H1 := Lib.hid h1
      have HV := Lib.hid hv
      have HW := Lib.hid hw
      clear h1 hv h2 hw
      have hl1 := fun (h : a < x) (h' : y < b) => restL_pq h h'
      have hl2 := fun (h : a < x) (h' : ¬ y < b) => restL_p h h'
      have hl3 := fun (h : ¬ a < x) (h' : y < b) => restL_q h h'
      have hl4 := fun (h : ¬ a < x) (h' : ¬ y < b) => restL_no h h'
      have HL := Lib.hid (And.intro hl1 (And.intro hl2 (And.intro hl3 hl4)))
      clear hl1 hl2 hl3 hl4
      go_enter Try.func27, Try.ntmps27
      go_wp2_with fail
      refine (valid_any _ _ _).mono ?_
      rintro e w1 ⟨rfl, hx1⟩
      rw [H1.out]
      have hz1 := hx1.size
      simp at hz1
      obtain ⟨hc, hf⟩ := bcell (hx1.mono (B' := w.heap.size + 2) (by simp))
      go_wp2_with fail
      refine (intersect_any _ _ _ _ _).mono ?_
      rintro e w2 ⟨rfl, hx2⟩
      rw [HW.out]
      have hz2 := hx2.size
      obtain ⟨hc2, hf2⟩ := bcell (hx2.mono (B' := w.heap.size + 2) (by omega))
      have hz3 : w.heap.size < w2.heap.size := by omega
      have hz4 : w.heap.size + 1 < w2.heap.size := by omega
      have hxx := ((((Ext.refl w).alloc (.cells #[.int .i64 a, .int .i64 b] 23)).alloc (.cells #[.int .i64 c, .int .i64 d] 23)).trans hx1).trans hx2
      clear hx1 hx2
      by_cases hp : a < x
      · go_wp2_with (at_builtin; refine wpList_append_own _ rfl _ _ 40 rfl (w2.heap.size + 1) 23 i0 _ 2 16 Try.underlying40 hi hi0 hi1 hi2 rfl (by decide) _ _ _ rfl (World.ownsRow_nil _ _ _ _) ⟨w2.heap.size + 1, 0, none⟩ 1 1 [.int .i64 a, .int .i64 x] rfl rfl ?c1 ?c2 ?c3 ?c4 ?c5 ?_)
        case c1 => exact cells_at (w2.alloc (.cells #[.int .i64 x, .int .i64 y] 23)) _ [.int .i64 a, .int .i64 x] _ (by simp)
        case c2 => simp [Value.oneCell']
        case c3 => unfold maxLen; omega
        case c4 => omega
        case c5 => simp
        intro v' w3 hown hgr _
        have hz5 := hgr.size
        simp at hz5
        have hx3 : Ext w w3 := (hxx.alloc (.cells #[.int .i64 x, .int .i64 y] 23)).trans ((Ext.alloc (Ext.refl _) _).trans (Below.grown (Below.refl _ _) hgr (Nat.le_refl _) (fun k hk => by simp [Value.ownBlock] at hk)))
        have hg1 : w3.cell? ⟨w.heap.size, 1, none⟩ = some (.int .i64 b) := hgr.cell (cell_alloc (cell_alloc (by rw [hc2 _ _ (by omega), hc _ _ (by omega)]; go_simp) _) _) (by simp [Value.ownBlock])
        have hg2 : w3.cell? ⟨w2.heap.size, 1, none⟩ = some (.int .i64 y) := hgr.cell (cell_alloc (by go_simp) _) (by simp [Value.ownBlock])
        have hzw : w.heap.size ≤ w2.heap.size := by omega
        clear hc hc2 hf hf2 hgr hz3 hz4 hz1 hz2 hxx
        by_cases hq : y < b
        · go_wp2_with (at_builtin; refine wpList_append_own _ rfl _ _ 40 rfl (w2.heap.size + 1) 23 i0 _ 2 16 Try.underlying40 hi hi0 hi1 hi2 rfl (by decide) _ _ _ rfl (hown.alloc _) ⟨w3.heap.size, 0, none⟩ 1 1 [.int .i64 y, .int .i64 b] rfl rfl ?d1 ?d2 ?d3 ?d4 ?d5 ?_)
          case d1 => exact cells_at w3 _ [.int .i64 y, .int .i64 b] _ rfl
          case d2 => simp [Value.oneCell']
          case d3 => unfold maxLen; omega
          case d4 => omega
          case d5 => simp; omega
          intro v4 w4 hown4 hgr4 _
          go_wp2_with fail
          go_ret
          refine ⟨_, rfl, ?_, (hx3.alloc _).grown hgr4 (by have := hx3.size; simp; omega) (fun k hk => by have := (hown.lt k hk).1; have := hx3.size; omega)⟩
          rw [HV.out, HL.out.1 hp hq]
          exact SliceAt.own hown4
        · go_wp2_with fail
          go_ret
          refine ⟨_, rfl, ?_, hx3⟩
          rw [HV.out, HL.out.2.1 hp hq]
          exact SliceAt.own hown
      · by_cases hq : y < b
        · go_wp2_with (at_builtin; refine wpList_append_own _ rfl _ _ 40 rfl (w2.heap.size + 1) 23 i0 _ 2 16 Try.underlying40 hi hi0 hi1 hi2 rfl (by decide) _ _ _ rfl (World.ownsRow_nil _ _ _ _) ⟨w2.heap.size + 1, 0, none⟩ 1 1 [.int .i64 y, .int .i64 b] rfl rfl ?e1 ?e2 ?e3 ?e4 ?e5 ?_)
          case e1 => exact cells_at (w2.alloc (.cells #[.int .i64 x, .int .i64 y] 23)) _ [.int .i64 y, .int .i64 b] _ (by simp)
          case e2 => simp [Value.oneCell']
          case e3 => unfold maxLen; omega
          case e4 => omega
          case e5 => simp
          intro v' w3 hown hgr _
          go_wp2_with fail
          go_ret
          refine ⟨_, rfl, ?_, (hxx.alloc (.cells #[.int .i64 x, .int .i64 y] 23)).trans ((Ext.alloc (Ext.refl _) _).trans (Below.grown (Below.refl _ _) hgr (Nat.le_refl _) (fun k hk => by simp [Value.ownBlock] at hk)))⟩
          rw [HV.out, HL.out.2.2.1 hp hq]
          exact SliceAt.own hown
        · go_wp2_with fail
          go_ret
          refine ⟨_, rfl, ?_, hxx.alloc _⟩
          rw [HV.out, HL.out.2.2.2 hp hq]
          exact SliceAt.nil _

set_option maxHeartbeats 1000000 in
theorem rsubtract_any (a b c d : Int) (w : World) :
    Calls Try.prog 28 #[perV a b, perV c d] w fun e w' => ∃ v, e = .returned v ∧ SliceAt w' v (subL a b c d).length (perCells (subL a b c d)) ∧ Ext w w' := by
  obtain ⟨i0, hi, hi0, hi1, hi2⟩ := info_parts infoPer
  cases h1 : validB a b with
  | false =>
    have hv : subL a b c d = [] := by simp [subL, h1]
    have H1 := Lib.hid h1
    have HV := Lib.hid hv
    clear h1 hv
    go_enter Try.func28, Try.ntmps28
    go_wp2_with fail
    refine (rvalid_any _ _ _).mono ?_
    rintro e w1 ⟨rfl, hx1⟩
    rw [H1.out]
    go_wp2_with fail
    go_ret
    exact ⟨_, rfl, by rw [HV.out]; exact SliceAt.nil _, (((Ext.refl w).alloc _).alloc _).trans hx1⟩
  | true =>
    cases h2 : interB a b c d with
    | false =>
      have hv : subL a b c d = [(a, b)] := by simp [subL, h1, h2]
      have hw := interV_no h2
      have H1 := Lib.hid h1
      have HV := Lib.hid hv
      have HW := Lib.hid hw
      clear h1 hv h2 hw
      go_enter Try.func28, Try.ntmps28
      go_wp2_with fail
      refine (rvalid_any _ _ _).mono ?_
      rintro e w1 ⟨rfl, hx1⟩
      rw [H1.out]
      have hz1 := hx1.size
      simp at hz1
      obtain ⟨hc, hf⟩ := bcell (hx1.mono (B' := w.heap.size + 2) (by simp))
      go_wp2_with fail
      refine (rintersect_any _ _ _ _ _).mono ?_
      rintro e w2 ⟨rfl, hx2⟩
      rw [HW.out]
      have hz2 := hx2.size
      obtain ⟨hc2, hf2⟩ := bcell (hx2.mono (B' := w.heap.size + 2) (by omega))
      have hz3 : w.heap.size < w2.heap.size := by omega
      go_wp2_with fail
      go_ret
      refine ⟨_, rfl, ?_, ((((((Ext.refl w).alloc _).alloc _).trans hx1).trans hx2).alloc _).alloc _⟩
      rw [HV.out]
      exact sliceAt_one (w2.alloc (.cells #[.int .i64 0, .int .i64 0] 23)) (w2.heap.size + 1) [.int .i64 a, .int .i64 b] 23 (by simp)
    | true =>
      have hv : subL a b c d = restL a b (max a c) (min b d) := by simp [subL, h1, h2]
      have hw := interV_yes (x := max a c) (y := min b d) h2 rfl rfl
      have hx : a ≤ max a c := by omega
      have hy : min b d ≤ b := by omega
      generalize max a c = x at hv hw hx
      generalize min b d = y at hv hw hy
      have H1 := Lib.hid h1
      have HV := Lib.hid hv
      have HW := Lib.hid hw
      clear h1 hv h2 hw
      have hl1 := fun (h : a < x) (h' : y < b) => restL_pq h h'
      have hl2 := fun (h : a < x) (h' : ¬ y < b) => restL_p h h'
      have hl3 := fun (h : ¬ a < x) (h' : y < b) => restL_q h h'
      have hl4 := fun (h : ¬ a < x) (h' : ¬ y < b) => restL_no h h'
      have HL := Lib.hid (And.intro hl1 (And.intro hl2 (And.intro hl3 hl4)))
      clear hl1 hl2 hl3 hl4
      go_enter Try.func28, Try.ntmps28
      go_wp2_with fail
      refine (rvalid_any _ _ _).mono ?_
      rintro e w1 ⟨rfl, hx1⟩
      rw [H1.out]
      have hz1 := hx1.size
      simp at hz1
      obtain ⟨hc, hf⟩ := bcell (hx1.mono (B' := w.heap.size + 2) (by simp))
      go_wp2_with fail
      refine (rintersect_any _ _ _ _ _).mono ?_
      rintro e w2 ⟨rfl, hx2⟩
      rw [HW.out]
      have hz2 := hx2.size
      obtain ⟨hc2, hf2⟩ := bcell (hx2.mono (B' := w.heap.size + 2) (by omega))
      have hz3 : w.heap.size < w2.heap.size := by omega
      have hz4 : w.heap.size + 1 < w2.heap.size := by omega
      have hxx := ((((Ext.refl w).alloc (.cells #[.int .i64 a, .int .i64 b] 23)).alloc (.cells #[.int .i64 c, .int .i64 d] 23)).trans hx1).trans hx2
      clear hx1 hx2
      by_cases hp : a < x
      · go_wp2_with (at_builtin; refine wpList_append_own _ rfl _ _ 40 rfl (w2.heap.size + 1) 23 i0 _ 2 16 Try.underlying40 hi hi0 hi1 hi2 rfl (by decide) _ _ _ rfl (World.ownsRow_nil _ _ _ _) ⟨w2.heap.size + 1, 0, none⟩ 1 1 [.int .i64 a, .int .i64 x] rfl rfl ?c1 ?c2 ?c3 ?c4 ?c5 ?_)
        case c1 => exact cells_at (w2.alloc (.cells #[.int .i64 x, .int .i64 y] 23)) _ [.int .i64 a, .int .i64 x] _ (by simp)
        case c2 => simp [Value.oneCell']
        case c3 => unfold maxLen; omega
        case c4 => omega
        case c5 => simp
        intro v' w3 hown hgr _
        have hz5 := hgr.size
        simp at hz5
        have hx3 : Ext w w3 := (hxx.alloc (.cells #[.int .i64 x, .int .i64 y] 23)).trans ((Ext.alloc (Ext.refl _) _).trans (Below.grown (Below.refl _ _) hgr (Nat.le_refl _) (fun k hk => by simp [Value.ownBlock] at hk)))
        have hg1 : w3.cell? ⟨w.heap.size, 1, none⟩ = some (.int .i64 b) := hgr.cell (cell_alloc (cell_alloc (by rw [hc2 _ _ (by omega), hc _ _ (by omega)]; go_simp) _) _) (by simp [Value.ownBlock])
        have hg2 : w3.cell? ⟨w2.heap.size, 1, none⟩ = some (.int .i64 y) := hgr.cell (cell_alloc (by go_simp) _) (by simp [Value.ownBlock])
        have hzw : w.heap.size ≤ w2.heap.size := by omega
        clear hc hc2 hf hf2 hgr hz3 hz4 hz1 hz2 hxx
        by_cases hq : y < b
        · go_wp2_with (at_builtin; refine wpList_append_own _ rfl _ _ 40 rfl (w2.heap.size + 1) 23 i0 _ 2 16 Try.underlying40 hi hi0 hi1 hi2 rfl (by decide) _ _ _ rfl (hown.alloc _) ⟨w3.heap.size, 0, none⟩ 1 1 [.int .i64 y, .int .i64 b] rfl rfl ?d1 ?d2 ?d3 ?d4 ?d5 ?_)
          case d1 => exact cells_at w3 _ [.int .i64 y, .int .i64 b] _ rfl
          case d2 => simp [Value.oneCell']
          case d3 => unfold maxLen; omega
          case d4 => omega
          case d5 => simp; omega
          intro v4 w4 hown4 hgr4 _
          go_wp2_with fail
          go_ret
          refine ⟨_, rfl, ?_, (hx3.alloc _).grown hgr4 (by have := hx3.size; simp; omega) (fun k hk => by have := (hown.lt k hk).1; have := hx3.size; omega)⟩
          rw [HV.out, HL.out.1 hp hq]
          exact SliceAt.own hown4
        · go_wp2_with fail
          go_ret
          refine ⟨_, rfl, ?_, hx3⟩
          rw [HV.out, HL.out.2.1 hp hq]
          exact SliceAt.own hown
      · by_cases hq : y < b
        · go_wp2_with (at_builtin; refine wpList_append_own _ rfl _ _ 40 rfl (w2.heap.size + 1) 23 i0 _ 2 16 Try.underlying40 hi hi0 hi1 hi2 rfl (by decide) _ _ _ rfl (World.ownsRow_nil _ _ _ _) ⟨w2.heap.size + 1, 0, none⟩ 1 1 [.int .i64 y, .int .i64 b] rfl rfl ?e1 ?e2 ?e3 ?e4 ?e5 ?_)
          case e1 => exact cells_at (w2.alloc (.cells #[.int .i64 x, .int .i64 y] 23)) _ [.int .i64 y, .int .i64 b] _ (by simp)
          case e2 => simp [Value.oneCell']
          case e3 => unfold maxLen; omega
          case e4 => omega
          case e5 => simp
          intro v' w3 hown hgr _
          go_wp2_with fail
          go_ret
          refine ⟨_, rfl, ?_, (hxx.alloc (.cells #[.int .i64 x, .int .i64 y] 23)).trans ((Ext.alloc (Ext.refl _) _).trans (Below.grown (Below.refl _ _) hgr (Nat.le_refl _) (fun k hk => by simp [Value.ownBlock] at hk)))⟩
          rw [HV.out, HL.out.2.2.1 hp hq]
          exact SliceAt.own hown
        · go_wp2_with fail
          go_ret
          refine ⟨_, rfl, ?_, hxx.alloc _⟩
          rw [HV.out, HL.out.2.2.2 hp hq]
          exact SliceAt.nil _

end Go.Proofs.Ytjhbndbfgbkccaa
