/- the arguments []int, []api.Row as data -/
import Derived.Test.YtdgpbpbjlnlijaaGreatBagP
import Derived.Test.YtdgpbpbjlnlijaaGreatOpen
namespace Go.Proofs.YtdgpbpbjlnlijaaGreat
open Go.RowKit Go.Deep Go.ChangeShapes Go.WideShapes Go.ChangeAt

theorem cellsVal : Tryz.prog.cellsOf 35 = 3 := by kernel_rfl
theorem cellsRow : Tryz.prog.cellsOf 75 = 2 := by kernel_rfl
theorem cellsInt : Tryz.prog.cellsOf 3 = 1 := by kernel_rfl
theorem cellsInt64 : Tryz.prog.cellsOf 2 = 1 := by kernel_rfl
theorem cellsStr : Tryz.prog.cellsOf 9 = 1 := by kernel_rfl
theorem cellsVals : Tryz.prog.cellsOf 42 = 1 := by kernel_rfl
theorem cellsInts : Tryz.prog.cellsOf 43 = 1 := by kernel_rfl

theorem list_three {α : Type} {l : List α} (h : l.length = 3) : ∃ a b c, l = [a, b, c] := by
  match l, h with
  | [a, b, c], _ => exact ⟨a, b, c, rfl⟩
theorem list_two {α : Type} {l : List α} (h : l.length = 2) : ∃ a b, l = [a, b] := by
  match l, h with
  | [a, b], _ => exact ⟨a, b, rfl⟩
theorem opens_val : Opens Tryz.prog 35 Rep.val := by
  intro H enc w base spare held fuel cs x h
  obtain ⟨y0, y1, y2, n, _, hl, h0, h1, h2⟩ := trod_struct3 Tryz.underlying35 h
  rw [cellsVal] at hl
  obtain ⟨c0, c1, c2, rfl⟩ := list_three hl
  simp [cellsInt, cellsInt64, cellsStr] at h0 h1 h2
  obtain ⟨a0, e0, _, w0⟩ := DataW.trod_int Tryz.underlying3 h0
  obtain ⟨a1, e1, _, w1⟩ := DataW.trod_int Tryz.underlying2 h1
  obtain ⟨a2, e2, _, w2⟩ := DataW.trod_string Tryz.underlying9 h2
  simp at e0 e1 e2
  subst e0 e1 e2
  exact ⟨⟨a0, a1, a2⟩, rfl, wf_i64 w0, wf_i64 w1, w2⟩
theorem opens_ints : Opens Tryz.prog 43 (Rep.slice Rep.int) := opens_slice Tryz.underlying43 cellsInt (opens_int Tryz.underlying3)
theorem opens_vals : Opens Tryz.prog 42 (Rep.slice Rep.val) := opens_slice Tryz.underlying42 cellsVal opens_val
theorem opens_row : Opens Tryz.prog 75 Rep.row := by
  intro H enc w base spare held fuel cs x h
  obtain ⟨y0, y1, n, _, hl, h0, h1⟩ := trod_struct2 Tryz.underlying75 h
  rw [cellsRow] at hl
  obtain ⟨c0, c1, rfl⟩ := list_two hl
  simp [cellsVals, cellsInts] at h0 h1
  obtain ⟨xs, v, e0, s0⟩ := opens_vals H enc w base spare held n _ _ h0
  obtain ⟨ys, u, e1, s1⟩ := opens_ints H enc w base spare held n _ _ h1
  simp at e0 e1
  subst e0 e1
  exact ⟨⟨xs, ys⟩, _, _, rfl, s0, s1⟩
theorem opens_rows : Opens Tryz.prog 38 (Rep.slice Rep.row) := opens_slice Tryz.underlying38 cellsRow opens_row
/-- an argument that is a slice -/
theorem open_arg {α : Type} {P : Program} {t e : TypeId} {R : Rep α} (ht : P.underlying t = some (.slice e)) (hR : Opens P t (Rep.slice R)) {H : Type} {enc : TypeId × Value → H} {w : World} {base : Nat} {spare : Nat → Bool} {held : Bool} {v : Value} {d : DataW H} {ps : List MemPlace} {r : Reach} {b0 : Nat}
    (hv : Value.okWide P w r b0 t v) (h : DataW.Trod enc P w base spare held t v d ps) : ∃ xs, SliceOf R w.cell? v xs := by
  obtain ⟨a, n, c, rfl⟩ := okWide_slice ht hv
  obtain ⟨m, hm⟩ := h
  obtain ⟨xs, v', e, hs⟩ := hR H enc w base spare held m _ _ hm
  simp [Value.cells] at e
  subst e
  exact ⟨xs, hs⟩

end Go.Proofs.YtdgpbpbjlnlijaaGreat
