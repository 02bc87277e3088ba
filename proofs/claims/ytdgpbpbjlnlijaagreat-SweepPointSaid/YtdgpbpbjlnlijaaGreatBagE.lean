/- bag.Sort: new memory that holds the rows in canonical order. -/
import Derived.Test.YtdgpbpbjlnlijaaGreatBagD
import Derived.Test.YtdgpbpbjlnlijaaGreatSort
import Derived.Test.YtdgpbpbjlnlijaaGreatShelf
namespace Go.Proofs.YtdgpbpbjlnlijaaGreat
open Go.RowKit

theorem infoRow : (Tryz.prog.info? 75).map (fun i => (i.zero, i.size, i.bytes)) = some (some (.agg #[.slice none 0 0, .slice none 0 0]), Rep.row.size, 48) := by kernel_rfl
/-- rows that are few and short -/
def fitR (r : Row) : Prop := r.vals.length ≤ 1048576 ∧ r.lin.length ≤ 1048576
def fitRows (l : List Row) : Prop := l.length ≤ 1048576 ∧ ∀ r ∈ l, fitR r
/-- what is new since w -/
abbrev since (w : World) (k : Nat) : Prop := w.heap.size ≤ k

theorem isAggRow (w : World) : (isAgg 75).run Tryz.prog w = .ok true w := by kernel_rfl
theorem sizeOfRow (w : World) : (Go.sizeOf 75).run Tryz.prog w = .ok 2 w := by kernel_rfl
theorem entersCmpRow : ∀ args w, (callFunc 41 args).run Tryz.prog w = .ok (.enter 41 args) w := enters_of Tryz.func41 (by kernel_rfl) rfl

theorem sort_rows_call (w : World) (S : Nat → Prop) (base : Nat) (e : TypeId) (v : Value) (xs : List Row) (hown : OwnOf Rep.row w S base e v xs) (hlen : xs.length < 4611686018427387904) :
    Calls Tryz.prog 40 #[v, .func (.func 41) #[] #[]] w fun en w' => en = .returned (.tuple #[]) ∧ OwnOf Rep.row w' S base e v (sortBy cmpRow xs) ∧ w.grownBy w' v.ownBlock := by
  have h := sortFunc_rep Tryz.sortRows Rep.row 2 rfl (by decide) isAggRow sizeOfRow cmpRow ord_row 41 entersCmpRow (fun W x y cx cy hx hy => by
    obtain ⟨a, b, rfl, h1, h2⟩ := hx
    obtain ⟨a', b', rfl, h1', h2'⟩ := hy
    exact compareRow_any _ _ _ _ _ _ W h1 h1' h2 h2') w S base e v xs hown hlen
  exact h

set_option maxHeartbeats 2000000 in
theorem sort_rows (v : Value) (l : List Row) (w : World) (hv : SliceOf Rep.row w.cell? v l) (hf : fitRows l) :
    Calls Tryz.prog 24 #[v] w fun e w' => ∃ v', e = .returned v' ∧ SliceOf Rep.row (on w' (since w)) v' (sortBy cmpRow l) ∧ Ext w w' := by
  obtain ⟨i0, hi, hz0, hz1, hz2⟩ := info_parts infoRow
  obtain ⟨pa, ca, rfl, ha1, ha2, ha3⟩ := hv.form
  unfold maxLen at ha2
  obtain ⟨hf1, hf2⟩ := hf
  have HF := Lib.hid hf2
  clear hf2
  go_enter Tryz.func24, Tryz.ntmps24
  go_wp2_with fail
  go_loopg [3, 8] l.length (fun gk v i wr => ∃ k : Nat, k ≤ l.length ∧ gk = l.length - k ∧ i = .int .i64 k ∧ OwnOf Rep.row wr (since w) w.heap.size 75 v (l.take k) ∧ Ext w wr)
  case atStart => exact ⟨0, by omega, rfl, rfl, OwnOf.nil _ _ _ _ _, Ext.refl w⟩
  case round =>
    obtain ⟨k, hk, rfl, rfl, hown, hx⟩ := hrel
    by_cases hlt : k < l.length
    · obtain ⟨ba, oa, rfl⟩ := ha3 (by decide) (by omega)
      obtain ⟨u1, u2, c1, c2, s1, s2⟩ := row_at hv k hlt
      have hfr := HF.out l[k] (List.getElem_mem _)
      have htk := List.take_succ_eq_append_getElem hlt
      have hlen : (l.take k).length = k := by simp; omega
      replace c1 := hx.at c1
      replace c2 := hx.at c2
      replace s1 := s1.ext hx.full
      replace s2 := s2.ext hx.full
      generalize l[k] = r at s1 s2 hfr htk
      have HT := Lib.hid htk
      obtain ⟨pu1, cu1, rfl, _⟩ := s1.form
      obtain ⟨pu2, cu2, rfl, _⟩ := s2.form
      have S1 := Lib.hid s1
      have S2 := Lib.hid s2
      have HO := Lib.hid hown
      have hd : decide ((k : Int) < (l.length : Int)) = true := by simp; omega
      have e1 := cell_lt c1
      clear s1 s2 htk hown hv ha3
      go_wp2_with fail
      refine (clone_row _ _ r _ (S1.out.ext ((Ext.refl _).alloc _).full) (S2.out.ext ((Ext.refl _).alloc _).full) (by have := hfr.1; omega) (by have := hfr.2; omega)).mono ?_
      rintro e w2 ⟨a, b, rfl, t1, t2, hx2⟩
      obtain ⟨a2, k2, rfl, _⟩ := t1.form
      obtain ⟨b2, j2, rfl, _⟩ := t2.form
      have T1 := Lib.hid t1
      have T2 := Lib.hid t2
      have hz := hx2.size
      simp at hz
      have hw := hx.size
      clear t1 t2 c1 c2 e1
      go_wp2_with (at_builtin; refine wpList_append_one Rep.row (since w) rfl _ _ 38 rfl w.heap.size 75 i0 _ 48 Tryz.underlying38 hi hz0 hz1 hz2 rfl (by decide) _ (l.take k) rfl (HO.out.ext (((Ext.refl _).alloc _).trans hx2 |>.alloc _)) ⟨w2.heap.size, 0, none⟩ 1 r [.slice a2 r.vals.length k2, .slice b2 r.lin.length j2] rfl ?c1 ?c2 ?c3 ?c4 ?c5 ?_)
      case c1 =>
        have hlt2 := HO.out.lt
        have hs : Sub (on w2 (since (wr.alloc (.cells #[.slice pu1 r.vals.length cu1, .slice pu2 r.lin.length cu2] 75)))) (on (w2.alloc (.cells #[.slice a2 r.vals.length k2, .slice b2 r.lin.length j2] 75)) (avoid (since w) u3)) := by
          refine (((Ext.refl w2).alloc _).sub _).trans (on_mono _ fun j _ hj => ⟨fun he => ?_, ?_⟩)
          · have := hlt2 j he.symm
            simp [since] at hj
            omega
          · simp [since] at hj ⊢
            omega
        exact ⟨_, _, rfl, T1.out.ext hs, T2.out.ext hs⟩
      case c2 => exact cells_new w2 [.slice a2 r.vals.length k2, .slice b2 r.lin.length j2] _
      case c3 => rw [hlen]; unfold maxLen; omega
      case c4 => rw [hlen]; omega
      case c5 => simp; omega
      intro g cap w3 hown3 hgr _
      clear hz
      go_wp2_with fail
      go_roundg (l.length - (k + 1))
      case measure => omega
      case rel =>
        refine ⟨k + 1, by omega, rfl, by go_num, by rw [HT.out]; exact hown3, ?_⟩
        exact Below.grown (((hx.alloc _).trans hx2).alloc _) hgr (by simp; have := hx2.size; simp at this; omega) (fun j hj => (HO.out.lt j hj).1)
    · have : k = l.length := by omega
      subst this
      rw [List.take_of_length_le (Nat.le_refl _)] at hown
      have HO := Lib.hid hown
      clear hown hv ha3
      go_wp2_with fail
      refine (sort_rows_call _ _ _ _ _ _ HO.out (by omega)).mono ?_
      rintro e w4 ⟨rfl, hown4, hgr4⟩
      go_wp2_with fail
      go_ret
      exact ⟨_, rfl, hown4.sliceIn (fun _ _ h => h) (fun _ h => h), Below.grown hx hgr4 hx.size (fun j hj => (HO.out.lt j hj).1)⟩

end Go.Proofs.YtdgpbpbjlnlijaaGreat
