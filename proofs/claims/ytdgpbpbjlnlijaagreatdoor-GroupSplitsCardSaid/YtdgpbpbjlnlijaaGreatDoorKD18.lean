/- joined texts of a proof: Open, BagQ, GenO -/
import Derived.Test.YtdgpbpbjlnlijaaGreatDoorKD01
import Derived.ProofKit
import Derived.OpenShut
import Derived.Deep.Strs
import Derived.Lib.SmallJoins
import Derived.Test.YtdgpbpbjlnlijaaGreatDoorKD14

/- From the reading of an argument to how its data lie in memory; no program is named here. -/
namespace Go.Proofs.YtdgpbpbjlnlijaaGreatDoor
open Go.RowKit Go.Deep Go.ChangeShapes Go.WideShapes Go.ChangeAt

/-- whatever reads as data of type t lies as R says -/
def Opens {α : Type} (P : Program) (t : TypeId) (R : Rep α) : Prop :=
  ∀ (H : Type) (enc : TypeId × Value → H) (w : World) (base : Nat) (spare : Nat → Bool) (held : Bool) (fuel : Nat) (cs : List Value) (x : DataW H × List MemPlace),
    DataW.trod enc P w base spare held fuel t cs = some x → ∃ y, R.holds w.cell? cs y

theorem wf_i64 {n : Int} (h : (Lit.int .i64 n).wf = true) : -9223372036854775808 ≤ n ∧ n ≤ 9223372036854775807 := by
  simpa [Lit.wf, IntKind.min, IntKind.max, IntKind.signed, IntKind.bits] using h

theorem opens_int {P : Program} {t : TypeId} (ht : P.underlying t = some (.int .i64)) : Opens P t Rep.int := by
  intro H enc w base spare held fuel cs x h
  obtain ⟨a, e0, _, wa⟩ := DataW.trod_int ht h
  exact ⟨a, e0, wf_i64 wa⟩

theorem repAll_of {α : Type} (R : Rep α) (h : View) (p : Nat → List Value → Prop) (n : Nat) (hp : ∀ i, i < n → ∃ cs y, R.holds h cs y ∧ p i cs) :
    ∃ css ys, css.length = n ∧ RepAll R h css ys ∧ ∀ i c, css[i]? = some c → p i c := by
  induction n with
  | zero => exact ⟨[], [], rfl, trivial, fun i c hc => by simp at hc⟩
  | succ n ih =>
    obtain ⟨css, ys, h1, h2, h3⟩ := ih fun i hi => hp i (by omega)
    obtain ⟨c, y, h4, h5⟩ := hp n (by omega)
    refine ⟨css ++ [c], ys ++ [y], by simp [h1], h2.append (RepAll.one h4), fun i d hd => ?_⟩
    by_cases hi : i < css.length
    · rw [List.getElem?_append_left hi] at hd
      exact h3 i d hd
    · rw [List.getElem?_append_right (by omega)] at hd
      have : i = n := by
        have := (List.getElem?_eq_some_iff.1 hd).1
        simp at this
        omega
      subst this
      rw [h1, Nat.sub_self] at hd
      simp at hd
      subst hd
      exact h5

theorem flat_at {css : List (List Value)} {k : Nat} (hk : ∀ c ∈ css, c.length = k) (j : Nat) (u : Value) (h : css.flatten[j]? = some u) : ∃ i r c, css[i]? = some c ∧ c[r]? = some u ∧ j = i * k + r := by
  induction css generalizing j with
  | nil => simp at h
  | cons c css ih =>
    by_cases hj : j < c.length
    · rw [List.flatten_cons, List.getElem?_append_left hj] at h
      exact ⟨0, j, c, rfl, h, by simp⟩
    · rw [List.flatten_cons, List.getElem?_append_right (by omega)] at h
      obtain ⟨i, r, d, h1, h2, h3⟩ := ih (fun d hd => hk d (by simp [hd])) _ h
      have := hk c (by simp)
      exact ⟨i + 1, r, d, by simpa using h1, h2, by rw [Nat.succ_mul]; omega⟩

theorem repAll_len {α : Type} {R : Rep α} {h : View} {css : List (List Value)} {ys : List α} (k : RepAll R h css ys) : ∀ c ∈ css, c.length = R.size := by
  induction css generalizing ys with
  | nil => simp
  | cons c css ih =>
    cases ys with
    | nil => exact k.elim
    | cons y ys =>
      intro d hd
      rcases List.mem_cons.1 hd with rfl | hd
      · exact R.len k.1
      · exact ih k.2 d hd

theorem opens_slice {α : Type} {P : Program} {t e : TypeId} {R : Rep α} (ht : P.underlying t = some (.slice e)) (hc : P.cellsOf e = R.size) (hR : Opens P e R) : Opens P t R.slice := by
  intro H enc w base spare held fuel cs x h
  rcases open_slice ht h with ⟨rfl, _⟩ | ⟨a, len, cap, m, n, D, Pl, rfl, hb, hl, hm, hmm, _, hx⟩
  · exact ⟨[], _, rfl, SliceOf.nil R _⟩
  · have hlm : len ≤ m := by rw [hmm]; split <;> omega
    obtain ⟨css, ys, h1, h2, h3⟩ := repAll_of R w.cell? (fun i cs' => w.cells? base (a.add (i * P.cellsOf e)) (P.cellsOf e) = some cs') len fun i hi => by
      obtain ⟨cs', g1, g2⟩ := hx i (by omega)
      obtain ⟨y, hy⟩ := hR H enc w base spare held n cs' _ g2
      exact ⟨cs', y, hy, g1⟩
    have hlen : ys.length = len := by rw [← h2.length, h1]
    refine ⟨ys, _, rfl, css, h2, ?_⟩
    rw [hlen]
    refine .inr ⟨a, cap, rfl, hl, hm, ?_⟩
    have hcell : ∀ j u, css.flatten[j]? = some u → w.cell? (a.add j) = some u := by
      intro j u hj
      obtain ⟨i, r, c, g1, g2, g3⟩ := flat_at (repAll_len h2) j u hj
      obtain ⟨_, g5, g6⟩ := World.cells?_some (h3 i c g1)
      have hr : r < P.cellsOf e := by rw [← g5]; exact (List.getElem?_eq_some_iff.1 g2).1
      have := g6 r hr
      rw [g2, Addr.add_add, hc, ← g3] at this
      exact this
    by_cases hne : css.flatten = []
    · exact .inl hne
    · right
      obtain ⟨u, us, hu⟩ := List.exists_cons_of_ne_nil hne
      have h0 := hcell 0 u (by rw [hu]; rfl)
      obtain ⟨b, o, sp⟩ := a
      have hsp : sp = none := by
        cases sp with
        | none => rfl
        | some s => simp [World.cell?, Addr.add] at h0; split at h0 <;> simp at h0
      subst hsp
      exact ⟨b, o, rfl, fun j u hj => by have := hcell j u hj; rwa [add_lit] at this⟩

end Go.Proofs.YtdgpbpbjlnlijaaGreatDoor

/- the arguments []int, []api.Row as data -/
namespace Go.Proofs.YtdgpbpbjlnlijaaGreatDoor
open Go.RowKit Go.Deep Go.ChangeShapes Go.WideShapes Go.ChangeAt

theorem cellsVal : Tryz.prog.cellsOf 44 = 3 := by kernel_rfl
theorem cellsRow : Tryz.prog.cellsOf 42 = 2 := by kernel_rfl
theorem cellsInt : Tryz.prog.cellsOf 3 = 1 := by kernel_rfl
theorem cellsInt64 : Tryz.prog.cellsOf 2 = 1 := by kernel_rfl
theorem cellsStr : Tryz.prog.cellsOf 9 = 1 := by kernel_rfl
theorem cellsVals : Tryz.prog.cellsOf 40 = 1 := by kernel_rfl
theorem cellsInts : Tryz.prog.cellsOf 24 = 1 := by kernel_rfl

theorem list_three {α : Type} {l : List α} (h : l.length = 3) : ∃ a b c, l = [a, b, c] := by
  match l, h with
  | [a, b, c], _ => exact ⟨a, b, c, rfl⟩
theorem list_two {α : Type} {l : List α} (h : l.length = 2) : ∃ a b, l = [a, b] := by
  match l, h with
  | [a, b], _ => exact ⟨a, b, rfl⟩
theorem opens_val : Opens Tryz.prog 44 Rep.val := by
  intro H enc w base spare held fuel cs x h
  obtain ⟨y0, y1, y2, n, _, hl, h0, h1, h2⟩ := trod_struct3 Tryz.underlying44 h
  rw [cellsVal] at hl
  obtain ⟨c0, c1, c2, rfl⟩ := list_three hl
  simp [cellsInt, cellsInt64, cellsStr] at h0 h1 h2
  obtain ⟨a0, e0, _, w0⟩ := DataW.trod_int Tryz.underlying3 h0
  obtain ⟨a1, e1, _, w1⟩ := DataW.trod_int Tryz.underlying2 h1
  obtain ⟨a2, e2, _, w2⟩ := DataW.trod_string Tryz.underlying9 h2
  simp at e0 e1 e2
  subst e0 e1 e2
  exact ⟨⟨a0, a1, a2⟩, rfl, wf_i64 w0, wf_i64 w1, w2⟩
theorem opens_ints : Opens Tryz.prog 24 (Rep.slice Rep.int) := opens_slice Tryz.underlying24 cellsInt (opens_int Tryz.underlying3)
theorem opens_vals : Opens Tryz.prog 40 (Rep.slice Rep.val) := opens_slice Tryz.underlying40 cellsVal opens_val
theorem opens_row : Opens Tryz.prog 42 Rep.row := by
  intro H enc w base spare held fuel cs x h
  obtain ⟨y0, y1, n, _, hl, h0, h1⟩ := trod_struct2 Tryz.underlying42 h
  rw [cellsRow] at hl
  obtain ⟨c0, c1, rfl⟩ := list_two hl
  simp [cellsVals, cellsInts] at h0 h1
  obtain ⟨xs, v, e0, s0⟩ := opens_vals H enc w base spare held n _ _ h0
  obtain ⟨ys, u, e1, s1⟩ := opens_ints H enc w base spare held n _ _ h1
  simp at e0 e1
  subst e0 e1
  exact ⟨⟨xs, ys⟩, _, _, rfl, s0, s1⟩
theorem opens_rows : Opens Tryz.prog 35 (Rep.slice Rep.row) := opens_slice Tryz.underlying35 cellsRow opens_row
/-- an argument that is a slice -/
theorem open_arg {α : Type} {P : Program} {t e : TypeId} {R : Rep α} (ht : P.underlying t = some (.slice e)) (hR : Opens P t (Rep.slice R)) {H : Type} {enc : TypeId × Value → H} {w : World} {base : Nat} {spare : Nat → Bool} {held : Bool} {v : Value} {d : DataW H} {ps : List MemPlace} {r : Reach} {b0 : Nat}
    (hv : Value.okWide P w r b0 t v) (h : DataW.Trod enc P w base spare held t v d ps) : ∃ xs, SliceOf R w.cell? v xs := by
  obtain ⟨a, n, c, rfl⟩ := okWide_slice ht hv
  obtain ⟨m, hm⟩ := h
  obtain ⟨xs, v', e, hs⟩ := hR H enc w base spare held m _ _ hm
  simp [Value.cells] at e
  subst e
  exact ⟨xs, hs⟩

end Go.Proofs.YtdgpbpbjlnlijaaGreatDoor

/- the arguments [][5]uint16 as data -/
namespace Go.Proofs.YtdgpbpbjlnlijaaGreatDoor
open Go.RowKit Go.Deep Go.ChangeShapes Go.WideShapes Go.ChangeAt

theorem cellsNum : Tryz.prog.cellsOf 96 = 5 := by kernel_rfl
theorem cellsU16 : Tryz.prog.cellsOf 38 = 1 := by kernel_rfl
theorem list_five {α : Type} {l : List α} (h : l.length = 5) : ∃ a b c d e, l = [a, b, c, d, e] := by
  match l, h with
  | [a, b, c, d, e], _ => exact ⟨a, b, c, d, e, rfl⟩
theorem opens_num : Opens Tryz.prog 96 Rep.num := by
  intro H enc w base spare held fuel cs x h
  obtain ⟨ys, m, _, _, hl, hn, hel⟩ := DataW.trod_array Tryz.underlying96 h
  rw [cellsNum] at hl
  obtain ⟨c0, c1, c2, c3, c4, rfl⟩ := list_five hl
  have g : ∀ i (hi : i < 5), DataW.trod enc Tryz.prog w base spare held m 38 (([c0, c1, c2, c3, c4].drop (i * 1)).take 1) = some (ys[i]'(by omega)) := fun i hi => by
    have h1 := hel i hi
    rwa [cellsU16, List.getElem?_eq_getElem (by omega)] at h1
  obtain ⟨a0, e0, _, w0⟩ := DataW.trod_int Tryz.underlying38 (g 0 (by decide))
  obtain ⟨a1, e1, _, w1⟩ := DataW.trod_int Tryz.underlying38 (g 1 (by decide))
  obtain ⟨a2, e2, _, w2⟩ := DataW.trod_int Tryz.underlying38 (g 2 (by decide))
  obtain ⟨a3, e3, _, w3⟩ := DataW.trod_int Tryz.underlying38 (g 3 (by decide))
  obtain ⟨a4, e4, _, w4⟩ := DataW.trod_int Tryz.underlying38 (g 4 (by decide))
  simp at e0 e1 e2 e3 e4
  subst e0 e1 e2 e3 e4
  exact ⟨⟨a0, a1, a2, a3, a4⟩, rfl, bounds_u16 w0, bounds_u16 w1, bounds_u16 w2, bounds_u16 w3, bounds_u16 w4⟩
theorem opens_nums : Opens Tryz.prog 31 (Rep.slice Rep.num) := opens_slice Tryz.underlying31 cellsNum opens_num

end Go.Proofs.YtdgpbpbjlnlijaaGreatDoor
