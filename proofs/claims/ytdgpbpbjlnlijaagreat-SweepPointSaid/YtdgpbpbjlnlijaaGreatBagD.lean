/- slices.Clone at values and at ints; bag.Clone: new memory that holds the same. -/
import Derived.Test.YtdgpbpbjlnlijaaGreatOrd
namespace Go.Proofs.YtdgpbpbjlnlijaaGreat
open Go.RowKit

theorem info_val : (Tryz.prog.info? 35).map (fun i => (i.zero, i.size, i.bytes)) = some (some (.agg #[.int .i64 0, .int .i64 0, .string ByteArray.empty]), Rep.val.size, 32) := by kernel_rfl
set_option maxHeartbeats 1000000 in
theorem clone_val (v : Value) (l : List _) (w : World) (hv : SliceOf Rep.val w.cell? v l) (hbig : l.length * 32 ≤ 140737488355328) :
    Calls Tryz.prog 66 #[v] w fun e w' => ∃ v', e = .returned v' ∧ SliceOf Rep.val (on w' (fun k => w.heap.size ≤ k)) v' l ∧ Ext w w' := by
  have q22 : ∀ (w : World) (a : Option Addr) (n c n' c' : Nat), (binOp .eql 42 (.slice a n c) (.slice none n' c')).run Tryz.prog w = .ok (.bool a.isNone) w := fun w a n c n' c' => Lib.run_eql_slice_nil w _ _ a n c n' c' Tryz.underlying42
  obtain ⟨i0, hi, hz0, hz1, hz2⟩ := info_parts info_val
  obtain ⟨a, cap, rfl, hc1, hc2, _⟩ := hv.form
  cases a with
  | none =>
    have hl : l.length = 0 := by
      obtain ⟨css, h1, h2⟩ := hv
      rcases h2 with ⟨_, h0, _⟩ | ⟨ad, c, he, _⟩
      · exact h0
      · cases he
    have hln : l = [] := List.eq_nil_of_length_eq_zero hl
    subst hln
    go_enter Tryz.func66, Tryz.ntmps66
    go_wp2
    go_ret
    exact ⟨_, rfl, SliceOf.nil _ _, Ext.refl w⟩
  | some ad =>
    have hw : SliceOf Rep.val (on (w.alloc (.cells #[] 35)) (avoid (fun _ => True) (.slice (some ⟨w.heap.size, 0, none⟩) 0 0))) (.slice (some ad) l.length cap) l := by
      by_cases hn : 0 < l.length
      · have hx := (Ext.refl w).alloc (.cells #[] 35)
        obtain ⟨css, h1, h2⟩ := hv
        exact ⟨css, h1.flatView flat_val, h2.sub fun p u hp => on_some.2 ⟨⟨by have := World.block_lt_of_cell? w p hp; simp [Value.ownBlock]; omega, trivial⟩, hx.at hp⟩⟩
      · obtain ⟨css, h1, h2⟩ := hv
        have hln : l = [] := List.eq_nil_of_length_eq_zero (by omega)
        subst hln
        rcases h2 with ⟨he, _⟩ | ⟨ad', c', he, g1, g2, _⟩
        · cases he
        · injection he with e1 e2 e3
          injection e1 with e1
          subst e1 e3
          exact ⟨[], trivial, .inr ⟨ad, cap, rfl, by simp, g2, .inl rfl⟩⟩
    have HW := Lib.hid hw
    clear hv hw
    go_enter Tryz.func66, Tryz.ntmps66
    go_wp2_with (at_builtin; refine wpList_append_all Rep.val (fun _ => True) rfl _ _ 42 rfl w.heap.size 35 i0 _ 32 Tryz.underlying42 hi hz0 hz1 hz2 rfl (by decide) _ [] rfl (OwnOf.made _ w _ _) _ l rfl HW.out ?c1 ?c2 ?c3 ?_)
    case c1 => simp; omega
    case c2 => simpa using hbig
    case c3 => simp
    intro v' w1 hown hgr _
    go_wp2_with fail
    go_ret
    exact ⟨v', rfl, OwnOf.fresh flat_val (by simpa using hown), Below.grown (Below.alloc (Below.refl w.heap.size w) (Nat.le_refl _) _) hgr (by simp) (fun k hk => by simp [Value.ownBlock] at hk; omega)⟩

theorem info_ints : (Tryz.prog.info? 3).map (fun i => (i.zero, i.size, i.bytes)) = some (some (.int .i64 0), Rep.int.size, 8) := by kernel_rfl
set_option maxHeartbeats 1000000 in
theorem clone_ints (v : Value) (l : List _) (w : World) (hv : SliceOf Rep.int w.cell? v l) (hbig : l.length * 8 ≤ 140737488355328) :
    Calls Tryz.prog 67 #[v] w fun e w' => ∃ v', e = .returned v' ∧ SliceOf Rep.int (on w' (fun k => w.heap.size ≤ k)) v' l ∧ Ext w w' := by
  have q22 : ∀ (w : World) (a : Option Addr) (n c n' c' : Nat), (binOp .eql 43 (.slice a n c) (.slice none n' c')).run Tryz.prog w = .ok (.bool a.isNone) w := fun w a n c n' c' => Lib.run_eql_slice_nil w _ _ a n c n' c' Tryz.underlying43
  obtain ⟨i0, hi, hz0, hz1, hz2⟩ := info_parts info_ints
  obtain ⟨a, cap, rfl, hc1, hc2, _⟩ := hv.form
  cases a with
  | none =>
    have hl : l.length = 0 := by
      obtain ⟨css, h1, h2⟩ := hv
      rcases h2 with ⟨_, h0, _⟩ | ⟨ad, c, he, _⟩
      · exact h0
      · cases he
    have hln : l = [] := List.eq_nil_of_length_eq_zero hl
    subst hln
    go_enter Tryz.func67, Tryz.ntmps67
    go_wp2
    go_ret
    exact ⟨_, rfl, SliceOf.nil _ _, Ext.refl w⟩
  | some ad =>
    have hw : SliceOf Rep.int (on (w.alloc (.cells #[] 3)) (avoid (fun _ => True) (.slice (some ⟨w.heap.size, 0, none⟩) 0 0))) (.slice (some ad) l.length cap) l := by
      by_cases hn : 0 < l.length
      · have hx := (Ext.refl w).alloc (.cells #[] 3)
        obtain ⟨css, h1, h2⟩ := hv
        exact ⟨css, h1.flatView flat_int, h2.sub fun p u hp => on_some.2 ⟨⟨by have := World.block_lt_of_cell? w p hp; simp [Value.ownBlock]; omega, trivial⟩, hx.at hp⟩⟩
      · obtain ⟨css, h1, h2⟩ := hv
        have hln : l = [] := List.eq_nil_of_length_eq_zero (by omega)
        subst hln
        rcases h2 with ⟨he, _⟩ | ⟨ad', c', he, g1, g2, _⟩
        · cases he
        · injection he with e1 e2 e3
          injection e1 with e1
          subst e1 e3
          exact ⟨[], trivial, .inr ⟨ad, cap, rfl, by simp, g2, .inl rfl⟩⟩
    have HW := Lib.hid hw
    clear hv hw
    go_enter Tryz.func67, Tryz.ntmps67
    go_wp2_with (at_builtin; refine wpList_append_all Rep.int (fun _ => True) rfl _ _ 43 rfl w.heap.size 3 i0 _ 8 Tryz.underlying43 hi hz0 hz1 hz2 rfl (by decide) _ [] rfl (OwnOf.made _ w _ _) _ l rfl HW.out ?c1 ?c2 ?c3 ?_)
    case c1 => simp; omega
    case c2 => simpa using hbig
    case c3 => simp
    intro v' w1 hown hgr _
    go_wp2_with fail
    go_ret
    exact ⟨v', rfl, OwnOf.fresh flat_int (by simpa using hown), Below.grown (Below.alloc (Below.refl w.heap.size w) (Nat.le_refl _) _) hgr (by simp) (fun k hk => by simp [Value.ownBlock] at hk; omega)⟩

set_option maxHeartbeats 1000000 in
theorem clone_row (va ua : Value) (r : Row) (w : World) (hv : SliceOf Rep.val w.cell? va r.vals) (hu : SliceOf Rep.int w.cell? ua r.lin) (hb1 : r.vals.length * 32 ≤ 140737488355328) (hb2 : r.lin.length * 8 ≤ 140737488355328) :
    Calls Tryz.prog 39 #[.agg #[va, ua]] w fun e w' => ∃ a b, e = .returned (.agg #[a, b]) ∧ SliceOf Rep.val (on w' (fun k => w.heap.size ≤ k)) a r.vals ∧ SliceOf Rep.int (on w' (fun k => w.heap.size ≤ k)) b r.lin ∧ Ext w w' := by
  have HV := Lib.hid hv
  have HU := Lib.hid hu
  obtain ⟨pa, ca, rfl, _⟩ := hv.form
  obtain ⟨qa, da, rfl, _⟩ := hu.form
  generalize r.vals = vs at *
  generalize r.lin = ls at *
  clear hv hu
  go_enter Tryz.func39, Tryz.ntmps39
  go_wp2_with fail
  have c1 : ((w.alloc (.cells #[.slice pa vs.length ca, .slice qa ls.length da] 75)).alloc (.cells #[.slice none 0 0, .slice none 0 0] 75)).cell? ⟨w.heap.size, 0, none⟩ = some (.slice pa vs.length ca) := by go_simp
  have c2 : ((w.alloc (.cells #[.slice pa vs.length ca, .slice qa ls.length da] 75)).alloc (.cells #[.slice none 0 0, .slice none 0 0] 75)).cell? ⟨w.heap.size, 1, none⟩ = some (.slice qa ls.length da) := by go_simp
  have c3 : ((w.alloc (.cells #[.slice pa vs.length ca, .slice qa ls.length da] 75)).alloc (.cells #[.slice none 0 0, .slice none 0 0] 75)).cell? ⟨w.heap.size + 1, 0, none⟩ = some (.slice none 0 0) := by go_simp
  have c4 : ((w.alloc (.cells #[.slice pa vs.length ca, .slice qa ls.length da] 75)).alloc (.cells #[.slice none 0 0, .slice none 0 0] 75)).cell? ⟨w.heap.size + 1, 1, none⟩ = some (.slice none 0 0) := by go_simp
  have f1 : ((w.alloc (.cells #[.slice pa vs.length ca, .slice qa ls.length da] 75)).alloc (.cells #[.slice none 0 0, .slice none 0 0] 75)).frozen? ⟨w.heap.size + 1, 0, none⟩ = false := by go_simp
  have f2 : ((w.alloc (.cells #[.slice pa vs.length ca, .slice qa ls.length da] 75)).alloc (.cells #[.slice none 0 0, .slice none 0 0] 75)).frozen? ⟨w.heap.size + 1, 1, none⟩ = false := by go_simp
  have hxx := ((Ext.refl w).alloc (.cells #[.slice pa vs.length ca, .slice qa ls.length da] 75)).alloc (.cells #[.slice none 0 0, .slice none 0 0] 75)
  generalize ((w.alloc (.cells #[.slice pa vs.length ca, .slice qa ls.length da] 75)).alloc (.cells #[.slice none 0 0, .slice none 0 0] 75)) = w1 at c1 c2 c3 c4 f1 f2 hxx ⊢
  go_region_with (first | (go_at_call 66; refine (clone_val _ vs _ (by exact HV.out.ext hxx.drew.full) hb1).mono ?_; rintro e w2 ⟨v2, rfl, hs2, hx2⟩; obtain ⟨a2, k2, rfl, _⟩ := hs2.form; have d1 := hx2.at (p := ⟨w.heap.size, 0, none⟩) c1; have d2 := hx2.at (p := ⟨w.heap.size, 1, none⟩) c2; have d3 := hx2.at (p := ⟨w.heap.size + 1, 0, none⟩) c3; have d4 := hx2.at (p := ⟨w.heap.size + 1, 1, none⟩) c4; have g1 := hx2.unfrozen (p := ⟨w.heap.size + 1, 0, none⟩) c3 f1; have g2 := hx2.unfrozen (p := ⟨w.heap.size + 1, 1, none⟩) c4 f2) | (go_at_call 67; refine (clone_ints _ ls _ (by exact HU.out.ext (hxx.drew.trans hx2).full) hb2).mono ?_; rintro e w3 ⟨v3, rfl, hs3, hx3⟩; obtain ⟨a3, k3, rfl, _⟩ := hs3.form; have j3 := hx3.at d3; have j4 := hx3.at d4; have l1 := hx3.unfrozen d3 g1; have l2 := hx3.unfrozen d4 g2))
  all_goals
    have z1 := cell_lt c4
    have z2 := cell_lt d4
    have z3 := cell_lt j4
    clear c1 c2 c3 c4 f1 f2 d1 d2 d3 d4 g1 g2
    go_wp2_with fail
    refine bodyPost_ret (v := .agg #[.slice a2 vs.length k2, .slice a3 ls.length k3]) (by simp [results, Tryz.results39, go_sem, j3, j4]) rfl ⟨_, _, rfl, ?_, ?_, ?_⟩
    · refine hs2.ext ((on_mono w2 (T := fun k => w.heap.size + 1 < k) (fun k _ hk => ?_)).trans ((hx3.sub _).trans ((set_sub _ _ _ ?_).trans ((set_sub _ _ _ ?_).trans (on_mono _ fun k _ hk => ?_)))))
      · exact Nat.lt_of_lt_of_le z1 hk
      · simp
      · simp
      · exact Nat.le_trans (Nat.le_succ _) (Nat.le_of_lt hk)
    · refine hs3.ext ((on_mono w3 (T := fun k => w.heap.size + 1 < k) (fun k _ hk => ?_)).trans ((set_sub _ _ _ ?_).trans ((set_sub _ _ _ ?_).trans (on_mono _ fun k _ hk => ?_))))
      · exact Nat.lt_of_lt_of_le z2 hk
      · simp
      · simp
      · exact Nat.le_trans (Nat.le_succ _) (Nat.le_of_lt hk)
    · exact Below.setCell (Below.setCell ((hxx.drew.trans hx2).trans hx3) (by simp) _) (by simp) _

end Go.Proofs.YtdgpbpbjlnlijaaGreat
