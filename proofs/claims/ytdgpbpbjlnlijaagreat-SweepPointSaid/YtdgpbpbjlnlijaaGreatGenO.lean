/- the arguments [][5]uint16 as data -/
import Derived.Test.YtdgpbpbjlnlijaaGreatGenB
import Derived.Test.YtdgpbpbjlnlijaaGreatBagQ
namespace Go.Proofs.YtdgpbpbjlnlijaaGreat
open Go.RowKit Go.Deep Go.ChangeShapes Go.WideShapes Go.ChangeAt

theorem cellsNum : Tryz.prog.cellsOf 47 = 5 := by kernel_rfl
theorem cellsU16 : Tryz.prog.cellsOf 23 = 1 := by kernel_rfl
theorem list_five {α : Type} {l : List α} (h : l.length = 5) : ∃ a b c d e, l = [a, b, c, d, e] := by
  match l, h with
  | [a, b, c, d, e], _ => exact ⟨a, b, c, d, e, rfl⟩
theorem opens_num : Opens Tryz.prog 47 Rep.num := by
  intro H enc w base spare held fuel cs x h
  obtain ⟨ys, m, _, _, hl, hn, hel⟩ := DataW.trod_array Tryz.underlying47 h
  rw [cellsNum] at hl
  obtain ⟨c0, c1, c2, c3, c4, rfl⟩ := list_five hl
  have g : ∀ i (hi : i < 5), DataW.trod enc Tryz.prog w base spare held m 23 (([c0, c1, c2, c3, c4].drop (i * 1)).take 1) = some (ys[i]'(by omega)) := fun i hi => by
    have h1 := hel i hi
    rwa [cellsU16, List.getElem?_eq_getElem (by omega)] at h1
  obtain ⟨a0, e0, _, w0⟩ := DataW.trod_int Tryz.underlying23 (g 0 (by decide))
  obtain ⟨a1, e1, _, w1⟩ := DataW.trod_int Tryz.underlying23 (g 1 (by decide))
  obtain ⟨a2, e2, _, w2⟩ := DataW.trod_int Tryz.underlying23 (g 2 (by decide))
  obtain ⟨a3, e3, _, w3⟩ := DataW.trod_int Tryz.underlying23 (g 3 (by decide))
  obtain ⟨a4, e4, _, w4⟩ := DataW.trod_int Tryz.underlying23 (g 4 (by decide))
  simp at e0 e1 e2 e3 e4
  subst e0 e1 e2 e3 e4
  exact ⟨⟨a0, a1, a2, a3, a4⟩, rfl, bounds_u16 w0, bounds_u16 w1, bounds_u16 w2, bounds_u16 w3, bounds_u16 w4⟩
theorem opens_nums : Opens Tryz.prog 22 (Rep.slice Rep.num) := opens_slice Tryz.underlying22 cellsNum opens_num

end Go.Proofs.YtdgpbpbjlnlijaaGreat
