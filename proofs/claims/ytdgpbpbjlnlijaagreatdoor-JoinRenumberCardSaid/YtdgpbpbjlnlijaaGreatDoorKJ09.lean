/- joined texts of a proof: ConcV, CombW, Box, EvalC, AggW, PlainX, EvalF, EvalM, EvalA -/
import Derived.Test.YtdgpbpbjlnlijaaGreatDoorKJ04
import Derived.Test.YtdgpbpbjlnlijaaGreatDoorKJ08
import Derived.Test.YtdgpbpbjlnlijaaGreatDoorKJ07
import Derived.WalkMore
import Derived.Test.YtdgpbpbjlnlijaaGreatDoorKJ02
import Derived.Laws.Bits64

/- slices.Grow, slices.Concat at values and at tuples; printed by gen_conc.py -/
namespace Go.Proofs.YtdgpbpbjlnlijaaGreatDoor
open Go.RowKit Go.Shelf

theorem grow_val (S : Nat → Prop) (n : Nat) (w : World) (hn : n ≤ 1099511627776) : Calls Tryz.prog 123 #[.slice none 0 0, .int .i64 n] w fun e w' => ∃ v', e = .returned v' ∧ OwnOf Rep.val w' S w.heap.size 44 v' [] ∧ Ext w w' := by
  obtain ⟨i0, hi, hz0, hz1, hz2⟩ := info_parts info_val
  by_cases h0 : n = 0
  · subst h0
    refine (Any8.slices_Grow_room Tryz.growVal none 0 0 0 w (Nat.le_refl _) (by omega) (by omega) (by omega)).mono ?_
    rintro e w' ⟨rfl, rfl⟩
    exact ⟨_, rfl, OwnOf.nil _ _ _ _ _, Ext.refl _⟩
  · refine (Any8.slices_Grow_grow Tryz.growVal i0 _ hi hz0 (by rw [hz1]; decide) none 0 0 n [] w (Nat.le_refl _) (by omega) (by rw [hz2]; omega) (by omega) (by simp) (fun _ => rfl) (fun a h => by cases h)).mono ?_
    rintro e w' ⟨rfl, rfl⟩
    have hg := grownCap_ge w (0 + n) 0 (Tryz.growVal_ren.t 25)
    have hg2 := grownCap_le_maxLen w (0 + n) 0 (Tryz.growVal_ren.t 25) (by unfold maxLen; omega)
    refine ⟨_, rfl, ⟨[], trivial, ?_⟩, (Ext.refl w).drew.alloc _⟩
    refine World.ownsRow_made w.drew _ _ (Nat.le_refl _) hg2 ?_
    generalize grownCap w (0 + n) 0 (Tryz.growVal_ren.t 25) = cap at hg
    rw [show Rep.val.size = 3 from rfl]
    simp [size_zeroCells, Value.cells]
    omega

set_option maxHeartbeats 2000000 in
theorem concat_val (v : Value) (ls : List (List Val)) (w : World) (hv : SliceOf (Rep.slice Rep.val) w.cell? v ls) (hbig : ls.flatten.length ≤ 1099511627776) :
    Calls Tryz.prog 78 #[v] w fun e w' => ∃ v', e = .returned v' ∧ OwnOf Rep.val w' (fun _ => True) w.heap.size 44 v' ls.flatten ∧ Ext w w' := by
  obtain ⟨i0, hi, hz0, hz1, hz2⟩ := info_parts info_val
  obtain ⟨pa, ca, rfl, ha1, ha2, ha3⟩ := hv.form
  have HV := Lib.hid hv
  unfold maxLen at ha2
  go_enter Tryz.func78, Tryz.ntmps78
  go_wp2_with fail
  go_loopg [3, 11] ls.length (fun gk n i wr => ∃ k m : Nat, k ≤ ls.length ∧ gk = ls.length - k ∧ i = .int .i64 k ∧ n = .int .i64 m ∧ m = (ls.take k).flatten.length ∧ w = wr)
  case atStart => exact ⟨0, 0, by omega, rfl, rfl, rfl, by simp, rfl⟩
  case round =>
    obtain ⟨k, m, hk, rfl, rfl, rfl, hm, rfl⟩ := hrel
    have hle := flatten_take_le ls k
    by_cases hlt : k < ls.length
    · obtain ⟨ba, oa, rfl⟩ := ha3 (by decide) (by omega)
      obtain ⟨u, c1, s1⟩ := slice_at hv k hlt
      have ht := flatten_take ls k hlt
      have hle2 := flatten_take_le ls (k + 1)
      obtain ⟨p1, q1, rfl, hq1, hq2, _⟩ := s1.form
      have hml : (ls.take (k + 1)).flatten.length = m + ls[k].length := by rw [ht, List.length_append, hm]
      rw [hml] at hle2
      rw [← hm] at hle
      generalize ls[k].length = n1 at hml hle2 hq1 c1 s1
      have HL := Lib.hid hml
      have HM := Lib.hid hm
      unfold maxLen at hq2
      have hd : decide ((k : Int) < (ls.length : Int)) = true := by simp; omega
      have hd1 : (k : Int) < (ls.length : Int) := by omega
      have hd2 : decide ((m : Int) + (n1 : Int) < 0) = false := by simp; omega
      clear s1 ht hml hm hv ha3
      go_wp2_with fail
      go_roundg (ls.length - (k + 1))
      case measure => omega
      case rel => exact ⟨k + 1, m + n1, by omega, rfl, by go_num, by go_num, HL.out.symm, rfl⟩
    · have : k = ls.length := by omega
      subst this
      rw [List.take_length] at hm
      have hmb : m ≤ 1099511627776 := by rw [hm]; exact hbig
      clear hv hle hm
      have HB := Lib.hid hbig
      clear hbig
      go_wp2_with fail
      refine (grow_val (fun _ => True) m _ hmb).mono ?_
      rintro e w1 ⟨v1, rfl, hown, hx⟩
      have HO := Lib.hid hown
      clear hown
      go_wp2_with fail
      go_loopg [6, 27] ls.length (fun gk v i wr => ∃ k : Nat, k ≤ ls.length ∧ gk = ls.length - k ∧ i = .int .i64 k ∧ OwnOf Rep.val wr (fun _ => True) w.heap.size 44 v (ls.take k).flatten ∧ Ext w wr)
      case atStart => exact ⟨0, by omega, rfl, rfl, by simpa using HO.out, hx⟩
      case round =>
        clear HO hx
        obtain ⟨k, hk, rfl, rfl, hown, hx⟩ := hrel
        by_cases hlt : k < ls.length
        · obtain ⟨ba, oa, rfl⟩ := ha3 (by decide) (by omega)
          obtain ⟨u, c1, s1⟩ := slice_at HV.out k hlt
          have ht := flatten_take ls k hlt
          have hle2 := flatten_take_le ls (k + 1)
          have HO := Lib.hid hown
          have hbg := Nat.le_trans hle2 HB.out
          rw [ht, List.length_append] at hbg
          have hsub : ∀ v', OwnOf Rep.val wr (fun _ => True) w.heap.size 44 v' (ls.take k).flatten → Sub w.cell? (on wr (avoid (fun _ => True) v')) := fun v' ho p u e => by
            have hlt2 := World.block_lt_of_cell? w p e
            refine on_some.2 ⟨⟨fun he => ?_, trivial⟩, hx.at e⟩
            have := (ho.lt _ he.symm).1
            omega
          replace s1 := s1.ext (hsub _ hown)
          replace c1 := hx.at c1
          generalize ls[k] = x at s1 ht hbg
          have HT := Lib.hid ht
          have HG := Lib.hid hbg
          have S1 := Lib.hid s1
          obtain ⟨p1, q1, rfl, hq1, hq2, _⟩ := s1.form
          have hd : decide ((k : Int) < (ls.length : Int)) = true := by simp; omega
          have hd1 : (k : Int) < (ls.length : Int) := by omega
          clear s1 ht hbg hown ha3 hle2 hsub
          go_wp2_with (at_builtin; refine wpList_append_all Rep.val (fun _ => True) rfl _ _ 40 rfl w.heap.size 44 i0 _ 32 Tryz.underlying40 hi hz0 hz1 hz2 rfl (by decide) _ (ls.take k).flatten rfl HO.out _ x rfl S1.out ?c1 ?c2 ?c3 ?_)
          case c1 => have := HG.out; unfold maxLen; omega
          case c2 => have := HG.out; omega
          case c3 => exact hx.size
          intro v' w3 hown3 hgr _
          go_wp2_with fail
          go_roundg (ls.length - (k + 1))
          case measure => omega
          case rel => exact ⟨k + 1, by omega, rfl, by go_num, by rw [HT.out]; exact hown3, Below.grown hx hgr hx.size (fun j hj => (HO.out.lt j hj).1)⟩
        · have : k = ls.length := by omega
          subst this
          rw [List.take_length] at hown
          have HO := Lib.hid hown
          clear hown ha3
          go_wp2_with fail
          go_ret
          exact ⟨_, rfl, HO.out, hx⟩


theorem grow_tup (S : Nat → Prop) (n : Nat) (w : World) (hn : n ≤ 1099511627776) : Calls Tryz.prog 121 #[.slice none 0 0, .int .i64 n] w fun e w' => ∃ v', e = .returned v' ∧ OwnOf Rep.tup w' S w.heap.size 77 v' [] ∧ Ext w w' := by
  obtain ⟨i0, hi, hz0, hz1, hz2⟩ := info_parts infoTup
  by_cases h0 : n = 0
  · subst h0
    refine (Any8.slices_Grow_room Tryz.growTup none 0 0 0 w (Nat.le_refl _) (by omega) (by omega) (by omega)).mono ?_
    rintro e w' ⟨rfl, rfl⟩
    exact ⟨_, rfl, OwnOf.nil _ _ _ _ _, Ext.refl _⟩
  · refine (Any8.slices_Grow_grow Tryz.growTup i0 _ hi hz0 (by rw [hz1]; decide) none 0 0 n [] w (Nat.le_refl _) (by omega) (by rw [hz2]; omega) (by omega) (by simp) (fun _ => rfl) (fun a h => by cases h)).mono ?_
    rintro e w' ⟨rfl, rfl⟩
    have hg := grownCap_ge w (0 + n) 0 (Tryz.growTup_ren.t 25)
    have hg2 := grownCap_le_maxLen w (0 + n) 0 (Tryz.growTup_ren.t 25) (by unfold maxLen; omega)
    refine ⟨_, rfl, ⟨[], trivial, ?_⟩, (Ext.refl w).drew.alloc _⟩
    refine World.ownsRow_made w.drew _ _ (Nat.le_refl _) hg2 ?_
    generalize grownCap w (0 + n) 0 (Tryz.growTup_ren.t 25) = cap at hg
    rw [show Rep.tup.size = 4 from rfl]
    simp [size_zeroCells, Value.cells]
    omega

set_option maxHeartbeats 2000000 in
theorem concat_tup (v : Value) (ls : List (List Tup)) (w : World) (hv : SliceOf (Rep.slice Rep.tup) w.cell? v ls) (hbig : ls.flatten.length ≤ 1099511627776) :
    Calls Tryz.prog 73 #[v] w fun e w' => ∃ v', e = .returned v' ∧ OwnOf Rep.tup w' (fun _ => True) w.heap.size 77 v' ls.flatten ∧ Ext w w' := by
  obtain ⟨i0, hi, hz0, hz1, hz2⟩ := info_parts infoTup
  obtain ⟨pa, ca, rfl, ha1, ha2, ha3⟩ := hv.form
  have HV := Lib.hid hv
  unfold maxLen at ha2
  go_enter Tryz.func73, Tryz.ntmps73
  go_wp2_with fail
  go_loopg [3, 11] ls.length (fun gk n i wr => ∃ k m : Nat, k ≤ ls.length ∧ gk = ls.length - k ∧ i = .int .i64 k ∧ n = .int .i64 m ∧ m = (ls.take k).flatten.length ∧ w = wr)
  case atStart => exact ⟨0, 0, by omega, rfl, rfl, rfl, by simp, rfl⟩
  case round =>
    obtain ⟨k, m, hk, rfl, rfl, rfl, hm, rfl⟩ := hrel
    have hle := flatten_take_le ls k
    by_cases hlt : k < ls.length
    · obtain ⟨ba, oa, rfl⟩ := ha3 (by decide) (by omega)
      obtain ⟨u, c1, s1⟩ := slice_at hv k hlt
      have ht := flatten_take ls k hlt
      have hle2 := flatten_take_le ls (k + 1)
      obtain ⟨p1, q1, rfl, hq1, hq2, _⟩ := s1.form
      have hml : (ls.take (k + 1)).flatten.length = m + ls[k].length := by rw [ht, List.length_append, hm]
      rw [hml] at hle2
      rw [← hm] at hle
      generalize ls[k].length = n1 at hml hle2 hq1 c1 s1
      have HL := Lib.hid hml
      have HM := Lib.hid hm
      unfold maxLen at hq2
      have hd : decide ((k : Int) < (ls.length : Int)) = true := by simp; omega
      have hd1 : (k : Int) < (ls.length : Int) := by omega
      have hd2 : decide ((m : Int) + (n1 : Int) < 0) = false := by simp; omega
      clear s1 ht hml hm hv ha3
      go_wp2_with fail
      go_roundg (ls.length - (k + 1))
      case measure => omega
      case rel => exact ⟨k + 1, m + n1, by omega, rfl, by go_num, by go_num, HL.out.symm, rfl⟩
    · have : k = ls.length := by omega
      subst this
      rw [List.take_length] at hm
      have hmb : m ≤ 1099511627776 := by rw [hm]; exact hbig
      clear hv hle hm
      have HB := Lib.hid hbig
      clear hbig
      go_wp2_with fail
      refine (grow_tup (fun _ => True) m _ hmb).mono ?_
      rintro e w1 ⟨v1, rfl, hown, hx⟩
      have HO := Lib.hid hown
      clear hown
      go_wp2_with fail
      go_loopg [6, 27] ls.length (fun gk v i wr => ∃ k : Nat, k ≤ ls.length ∧ gk = ls.length - k ∧ i = .int .i64 k ∧ OwnOf Rep.tup wr (fun _ => True) w.heap.size 77 v (ls.take k).flatten ∧ Ext w wr)
      case atStart => exact ⟨0, by omega, rfl, rfl, by simpa using HO.out, hx⟩
      case round =>
        clear HO hx
        obtain ⟨k, hk, rfl, rfl, hown, hx⟩ := hrel
        by_cases hlt : k < ls.length
        · obtain ⟨ba, oa, rfl⟩ := ha3 (by decide) (by omega)
          obtain ⟨u, c1, s1⟩ := slice_at HV.out k hlt
          have ht := flatten_take ls k hlt
          have hle2 := flatten_take_le ls (k + 1)
          have HO := Lib.hid hown
          have hbg := Nat.le_trans hle2 HB.out
          rw [ht, List.length_append] at hbg
          have hsub : ∀ v', OwnOf Rep.tup wr (fun _ => True) w.heap.size 77 v' (ls.take k).flatten → Sub w.cell? (on wr (avoid (fun _ => True) v')) := fun v' ho p u e => by
            have hlt2 := World.block_lt_of_cell? w p e
            refine on_some.2 ⟨⟨fun he => ?_, trivial⟩, hx.at e⟩
            have := (ho.lt _ he.symm).1
            omega
          replace s1 := s1.ext (hsub _ hown)
          replace c1 := hx.at c1
          generalize ls[k] = x at s1 ht hbg
          have HT := Lib.hid ht
          have HG := Lib.hid hbg
          have S1 := Lib.hid s1
          obtain ⟨p1, q1, rfl, hq1, hq2, _⟩ := s1.form
          have hd : decide ((k : Int) < (ls.length : Int)) = true := by simp; omega
          have hd1 : (k : Int) < (ls.length : Int) := by omega
          clear s1 ht hbg hown ha3 hle2 hsub
          go_wp2_with (at_builtin; refine wpList_append_all Rep.tup (fun _ => True) rfl _ _ 22 rfl w.heap.size 77 i0 _ 64 Tryz.underlying22 hi hz0 hz1 hz2 rfl (by decide) _ (ls.take k).flatten rfl HO.out _ x rfl S1.out ?c1 ?c2 ?c3 ?_)
          case c1 => have := HG.out; unfold maxLen; omega
          case c2 => have := HG.out; omega
          case c3 => exact hx.size
          intro v' w3 hown3 hgr _
          go_wp2_with fail
          go_roundg (ls.length - (k + 1))
          case measure => omega
          case rel => exact ⟨k + 1, by omega, rfl, by go_num, by rw [HT.out]; exact hown3, Below.grown hx hgr hx.size (fun j hj => (HO.out.lt j hj).1)⟩
        · have : k = ls.length := by omega
          subst this
          rw [List.take_length] at hown
          have HO := Lib.hid hown
          clear hown ha3
          go_wp2_with fail
          go_ret
          exact ⟨_, rfl, HO.out, hx⟩


end Go.Proofs.YtdgpbpbjlnlijaaGreatDoor

/- join.combine -/
namespace Go.Proofs.YtdgpbpbjlnlijaaGreatDoor
open Go.RowKit

theorem ext_W4 {W wa : World} {B : Nat} (h : Ext W wa) (hB : W.heap.size ≤ B) (u0 u1 u2 u3 : Value) : Ext W ((((wa.setCell ⟨B, 0, none⟩ u0).setCell ⟨B, 1, none⟩ u1).setCell ⟨B, 2, none⟩ u2).setCell ⟨B, 3, none⟩ u3) :=
  Below.setCell (Below.setCell (Below.setCell (Below.setCell h hB u0) hB u1) hB u2) hB u3
theorem cell_W4 {wa : World} {B b o : Nat} {v : Value} (h : wa.cell? ⟨b, o, none⟩ = some v) (hb : B ≠ b) (u0 u1 u2 u3 : Value) : ((((wa.setCell ⟨B, 0, none⟩ u0).setCell ⟨B, 1, none⟩ u1).setCell ⟨B, 2, none⟩ u2).setCell ⟨B, 3, none⟩ u3).cell? ⟨b, o, none⟩ = some v :=
  cell_set (cell_set (cell_set (cell_set h hb) hb) hb) hb
theorem keepW6 {W wa : World} {B : Nat} {u0 u1 u2 u3 v1 v2 v3 v4 v5 v6 : Value} {b1 b2 b3 b4 b5 b6 o1 o2 o3 o4 o5 o6 : Nat}
    (h : Ext W wa ∧ wa.cell? ⟨b1, o1, none⟩ = some v1 ∧ wa.cell? ⟨b2, o2, none⟩ = some v2 ∧ wa.cell? ⟨b3, o3, none⟩ = some v3 ∧ wa.cell? ⟨b4, o4, none⟩ = some v4 ∧ wa.cell? ⟨b5, o5, none⟩ = some v5 ∧ wa.cell? ⟨b6, o6, none⟩ = some v6) (hB : W.heap.size ≤ B) (hb : B ≠ b1 ∧ B ≠ b2 ∧ B ≠ b3 ∧ B ≠ b4 ∧ B ≠ b5 ∧ B ≠ b6) :
    (fun wb : World => Ext W wb ∧ wb.cell? ⟨b1, o1, none⟩ = some v1 ∧ wb.cell? ⟨b2, o2, none⟩ = some v2 ∧ wb.cell? ⟨b3, o3, none⟩ = some v3 ∧ wb.cell? ⟨b4, o4, none⟩ = some v4 ∧ wb.cell? ⟨b5, o5, none⟩ = some v5 ∧ wb.cell? ⟨b6, o6, none⟩ = some v6) ((((wa.setCell ⟨B, 0, none⟩ u0).setCell ⟨B, 1, none⟩ u1).setCell ⟨B, 2, none⟩ u2).setCell ⟨B, 3, none⟩ u3) :=
  ⟨ext_W4 h.1 hB _ _ _ _, cell_W4 h.2.1 hb.1 _ _ _ _, cell_W4 h.2.2.1 hb.2.1 _ _ _ _, cell_W4 h.2.2.2.1 hb.2.2.1 _ _ _ _, cell_W4 h.2.2.2.2.1 hb.2.2.2.1 _ _ _ _, cell_W4 h.2.2.2.2.2.1 hb.2.2.2.2.1 _ _ _ _, cell_W4 h.2.2.2.2.2.2 hb.2.2.2.2.2 _ _ _ _⟩
theorem slice_end {α : Type} {R : Rep α} {w w2 w3 : World} {B : Nat} {u0 u1 u2 u3 v : Value} {T : Nat → Prop} {xs : List α} (s2 : SliceOf R (on w2 T) v xs) (hT : ∀ k, k < w2.heap.size → T k → B < k) (hB : w.heap.size ≤ B) (hx : Ext w2 w3) :
    SliceOf R (on ((((w3.setCell ⟨B, 0, none⟩ u0).setCell ⟨B, 1, none⟩ u1).setCell ⟨B, 2, none⟩ u2).setCell ⟨B, 3, none⟩ u3) (fun j => w.heap.size ≤ j)) v xs :=
  s2.ext (((on_mono w2 (T := fun k => B < k) hT).trans (hx.sub _)).trans ((sub4 w3 u0 u1 u2 u3 (Nat.lt_irrefl B)).trans (on_mono _ fun k _ (hk : B < k) => Nat.le_trans hB (Nat.le_of_lt hk))))

set_option maxRecDepth 100000 in
set_option maxHeartbeats 4000000 in
theorem combine_any (va la vb lb : Value) (xv yv : List Val) (xl yl : List Int) (xf xt yf yt f t : Int) (w : World) (ha : SliceOf Rep.val w.cell? va xv) (hb : SliceOf Rep.val w.cell? vb yv) (hla : SliceOf Rep.int w.cell? la xl) (hlb : SliceOf Rep.int w.cell? lb yl)
    (hf1 : xv.length ≤ 1048576) (hf2 : yv.length ≤ 1048576) (hf3 : xl.length ≤ 1048576) (hf4 : yl.length ≤ 1048576) :
    Calls Tryz.prog 75 #[.agg #[va, .int .i64 xf, .int .i64 xt, la], .agg #[vb, .int .i64 yf, .int .i64 yt, lb], .agg #[.int .i64 f, .int .i64 t]] w fun e w' => ∃ v l, e = .returned (.agg #[v, .int .i64 f, .int .i64 t, l]) ∧ SliceOf Rep.val (on w' (since w)) v (xv ++ yv) ∧ SliceOf Rep.int (on w' (since w)) l (mergeL xl yl) ∧ Ext w w' := by
  have HA := Lib.hid ha
  have HB := Lib.hid hb
  have HLA := Lib.hid hla
  have HLB := Lib.hid hlb
  obtain ⟨pa, ca, rfl, _⟩ := ha.form
  obtain ⟨pb, cb, rfl, _⟩ := hb.form
  obtain ⟨qa, da, rfl, _⟩ := hla.form
  obtain ⟨qb, db, rfl, _⟩ := hlb.form
  obtain ⟨n1, hn1⟩ : ∃ n, n = xv.length := ⟨_, rfl⟩
  obtain ⟨n2, hn2⟩ : ∃ n, n = yv.length := ⟨_, rfl⟩
  obtain ⟨n3, hn3⟩ : ∃ n, n = xl.length := ⟨_, rfl⟩
  obtain ⟨n4, hn4⟩ : ∃ n, n = yl.length := ⟨_, rfl⟩
  rw [← hn1] at HA ⊢
  rw [← hn2] at HB ⊢
  rw [← hn3] at HLA ⊢
  rw [← hn4] at HLB ⊢
  have HF := Lib.hid (And.intro hf1 (And.intro hf2 (And.intro hf3 hf4)))
  clear ha hb hla hlb hf1 hf2 hf3 hf4 hn1 hn2 hn3 hn4
  go_enter Tryz.func75, Tryz.ntmps75
  go_wp2_with fail
  obtain ⟨W1, hW1⟩ : ∃ W1, W1 = ((((w.alloc (.cells #[.slice pa n1 ca, .int .i64 xf, .int .i64 xt, .slice qa n3 da] 77)).alloc (.cells #[.slice pb n2 cb, .int .i64 yf, .int .i64 yt, .slice qb n4 db] 77)).alloc (.cells #[.int .i64 f, .int .i64 t] 52)).alloc (.cells #[.slice none 0 0, .int .i64 0, .int .i64 0, .slice none 0 0] 77)) := ⟨_, rfl⟩
  obtain ⟨B, hB⟩ : ∃ B, B = w.heap.size := ⟨_, rfl⟩
  have hxx : Ext w W1 := by rw [hW1]; exact ((((Ext.refl w).alloc _).alloc _).alloc _).alloc _
  have c1 : W1.cell? ⟨B, 0, none⟩ = some (.slice pa n1 ca) := by rw [hW1, hB]; go_simp
  have c2 : W1.cell? ⟨B, 3, none⟩ = some (.slice qa n3 da) := by rw [hW1, hB]; go_simp
  have c3 : W1.cell? ⟨B + 1, 0, none⟩ = some (.slice pb n2 cb) := by rw [hW1, hB]; go_simp
  have c4 : W1.cell? ⟨B + 1, 3, none⟩ = some (.slice qb n4 db) := by rw [hW1, hB]; go_simp
  have c5 : W1.cell? ⟨B + 1 + 1, 0, none⟩ = some (.int .i64 f) := by rw [hW1, hB]; go_simp
  have c6 : W1.cell? ⟨B + 1 + 1, 1, none⟩ = some (.int .i64 t) := by rw [hW1, hB]; go_simp
  have g0 : W1.cell? ⟨B + 1 + 1 + 1, 0, none⟩ = some (.slice none 0 0) := by rw [hW1, hB]; go_simp
  have f0 : W1.frozen? ⟨B + 1 + 1 + 1, 0, none⟩ = false := by rw [hW1, hB]; go_simp
  have g1 : W1.cell? ⟨B + 1 + 1 + 1, 1, none⟩ = some (.int .i64 0) := by rw [hW1, hB]; go_simp
  have f1 : W1.frozen? ⟨B + 1 + 1 + 1, 1, none⟩ = false := by rw [hW1, hB]; go_simp
  have g2 : W1.cell? ⟨B + 1 + 1 + 1, 2, none⟩ = some (.int .i64 0) := by rw [hW1, hB]; go_simp
  have f2 : W1.frozen? ⟨B + 1 + 1 + 1, 2, none⟩ = false := by rw [hW1, hB]; go_simp
  have g3 : W1.cell? ⟨B + 1 + 1 + 1, 3, none⟩ = some (.slice none 0 0) := by rw [hW1, hB]; go_simp
  have f3 : W1.frozen? ⟨B + 1 + 1 + 1, 3, none⟩ = false := by rw [hW1, hB]; go_simp
  rw [← hB, ← hW1]
  have hF0 : Free4 W1 (B + 1 + 1 + 1) := ⟨⟨_, g0⟩, ⟨_, g1⟩, ⟨_, g2⟩, ⟨_, g3⟩, f0, f1, f2, f3⟩
  have hF1 : Free4 W1.drew (B + 1 + 1 + 1) := Free4.ext hF0 (Ext.refl W1).drew
  have hz1 := cell_lt g0
  have hS0 : Ext w W1.drew ∧ W1.drew.cell? ⟨B, 0, none⟩ = some (.slice pa n1 ca) ∧ W1.drew.cell? ⟨B, 3, none⟩ = some (.slice qa n3 da) ∧ W1.drew.cell? ⟨B + 1, 0, none⟩ = some (.slice pb n2 cb) ∧ W1.drew.cell? ⟨B + 1, 3, none⟩ = some (.slice qb n4 db) ∧ W1.drew.cell? ⟨B + 1 + 1, 0, none⟩ = some (.int .i64 f) ∧ W1.drew.cell? ⟨B + 1 + 1, 1, none⟩ = some (.int .i64 t) := ⟨hxx.drew, c1, c2, c3, c4, c5, c6⟩
  have hwB : w.heap.size ≤ B + 1 + 1 + 1 := by omega
  have HBE := Lib.hid hB
  have hne : B + 1 + 1 + 1 ≠ B ∧ B + 1 + 1 + 1 ≠ B ∧ B + 1 + 1 + 1 ≠ B + 1 ∧ B + 1 + 1 + 1 ≠ B + 1 ∧ B + 1 + 1 + 1 ≠ B + 1 + 1 ∧ B + 1 + 1 + 1 ≠ B + 1 + 1 := by omega
  have HLIT := Lib.hid (show ∀ wz, Ext w wz → SliceOf (Rep.slice Rep.val) (wz.alloc (.cells #[.slice pa n1 ca, .slice pb n2 cb] 40)).cell? (.slice (some ⟨wz.heap.size, 0, none⟩) 2 2) [xv, yv] from fun wz hz =>
    slice_lit (Rep.slice Rep.val) wz [.slice pa n1 ca, .slice pb n2 cb] 40 [[.slice pa n1 ca], [.slice pb n2 cb]] [xv, yv] rfl ⟨⟨_, rfl, HA.out.ext (hz.alloc _).full⟩, ⟨_, rfl, HB.out.ext (hz.alloc _).full⟩, trivial⟩ (by simp [maxLen]))
  obtain ⟨n5, hn5⟩ : ∃ n, n = (xv ++ yv).length := ⟨_, rfl⟩
  have HN5 := Lib.hid hn5
  clear hn5
  have HFL := Lib.hid (show ([xv, yv] : List (List Val)).flatten = xv ++ yv from by simp)
  clear c1 c2 c3 c4 c5 c6 g0 g1 g2 g3 f0 f1 f2 f3 hW1 HA HB hB
  go_region_held3 (fun w' => Ext w w' ∧ w'.cell? ⟨B, 0, none⟩ = some (.slice pa n1 ca) ∧ w'.cell? ⟨B, 3, none⟩ = some (.slice qa n3 da) ∧ w'.cell? ⟨B + 1, 0, none⟩ = some (.slice pb n2 cb) ∧ w'.cell? ⟨B + 1, 3, none⟩ = some (.slice qb n4 db) ∧ w'.cell? ⟨B + 1 + 1, 0, none⟩ = some (.int .i64 f) ∧ w'.cell? ⟨B + 1 + 1, 1, none⟩ = some (.int .i64 t))
    (first | with_reducible assumption | with_reducible exact keepE6 (by assumption) x2 | with_reducible exact keepE6 (by assumption) x3 | with_reducible exact keepE6 (by assumption) ((Ext.refl _).alloc _) | with_reducible exact keepW6 (by assumption) hwB hne | with_reducible exact keepE6 (keepW6 (by assumption) hwB hne) ((Ext.refl _).alloc _))
    (first
      | (go_at_call 78; refine (concat_val _ [xv, yv] _ (by first | exact (HLIT.out _ hxx).ext (Ext.refl _).drew.full | exact HLIT.out _ X3.out | exact (HLIT.out _ hxx).ext ((Ext.refl _).drew.trans x3).full) (by have := HF.out; simp; omega)).mono ?_; rintro e w2 ⟨v2, rfl, o2, x2⟩; rw [HFL.out] at o2; have S2 := Lib.hid (o2.fresh (fun _ _ _ _ h => h)); obtain ⟨p2, q2, rfl, _⟩ := o2.slice.form; rw [← HN5.out] at S2 ⊢; have X2 : Hid (Ext w w2) := (by first | exact Lib.hid ((hxx.alloc _).drew.trans x2) | exact Lib.hid ((X3.out.alloc _).trans x2) | exact Lib.hid (X3.out.trans x2)); have hF2 : Free4 w2 (B + 1 + 1 + 1) := (by first | exact Free4.ext hF0 (((Ext.refl W1).alloc _).drew.trans x2) | exact Free4.ext hF3 x2 | exact Free4.ext hF3 (((Ext.refl _).alloc _).trans x2)); obtain ⟨⟨m20, y20⟩, ⟨m21, y21⟩, ⟨m22, y22⟩, ⟨m23, y23⟩, y24, y25, y26, y27⟩ := id hF2; have z2 := cell_lt y20; clear o2)
      | (go_at_call 91; refine (merge_lineage _ _ xl yl _ (by first | exact HLA.out.ext hxx.drew.full | exact HLA.out.ext (hxx.alloc _).drew.full | exact HLA.out.ext X2.out.full) (by first | exact HLB.out.ext hxx.drew.full | exact HLB.out.ext (hxx.alloc _).drew.full | exact HLB.out.ext X2.out.full) HF.out.2.2.1 HF.out.2.2.2).mono ?_; rintro e w3 ⟨v3, rfl, s3, x3⟩; have S3 := Lib.hid s3; obtain ⟨p3, q3, rfl, _⟩ := s3.form; have X3 : Hid (Ext w w3) := (by first | exact Lib.hid (hxx.drew.trans x3) | exact Lib.hid ((hxx.alloc _).drew.trans x3) | exact Lib.hid (X2.out.trans x3)); have hF3 : Free4 w3 (B + 1 + 1 + 1) := (by first | exact Free4.ext hF1 x3 | exact Free4.ext hF0 (((Ext.refl W1).alloc _).drew.trans x3) | exact Free4.ext hF2 x3); obtain ⟨⟨m30, y30⟩, ⟨m31, y31⟩, ⟨m32, y32⟩, ⟨m33, y33⟩, y34, y35, y36, y37⟩ := id hF3; have z3 := cell_lt y30; clear s3))
  all_goals
    have hfin := And.left ‹Ext w (_ : World) ∧ _›
    clear hS0
    go_wp2_with fail
  all_goals
    with_reducible refine ret4 (by assumption) ?_ ?_ ?_
    · intro j
      simp [results, Tryz.results75, go_sem, j]
    · rfl
    first
      | refine ⟨_, _, rfl, slice_end S2.out ?_ hwB x3, slice_end S3.out ?_ hwB (Ext.refl _), hfin⟩
      | refine ⟨_, _, rfl, slice_end S2.out ?_ hwB (Ext.refl _), slice_end S3.out ?_ hwB x2, hfin⟩
      | refine ⟨_, _, rfl, slice_end S2.out ?_ hwB (Ext.refl _), slice_end S3.out ?_ hwB (((Ext.refl _).alloc _).trans x2), hfin⟩
    · intro k _ hk
      have h1 : _ ≤ k := hk
      have h2 := hxx.size
      first
        | (simp at h1; omega)
        | (have h3 := x3.size; simp at h1 h3; omega)
    · intro k _ hk
      have h1 : _ ≤ k := hk
      first
        | omega
        | (simp at h1; omega)
        | (have h3 := x2.size; simp at h1 h3; omega)

end Go.Proofs.YtdgpbpbjlnlijaaGreatDoor

/- a tuple that a call gives back, stored in a box of four cells that was made ahead of the call or behind it; no program in sight -/
namespace Go.Proofs.YtdgpbpbjlnlijaaGreatDoor
open Go.RowKit

theorem Ext.ofDrew {w w' : World} (h : Ext w w') : Ext w.drew w' := ⟨h.os, h.tape, h.output, h.size, h.block⟩
theorem frozen_grown {w w' : World} {row : Option Nat} {b o : Nat} {v : Value} (gr : w.grownBy w' row) (hc : w.cell? ⟨b, o, none⟩ = some v) (hf : w.frozen? ⟨b, o, none⟩ = false) (hne : ∀ k, row = some k → k ≠ b) : w'.frozen? ⟨b, o, none⟩ = false :=
  (World.frozen?_of_block (w := w) (gr.block b (cell_lt hc) (fun e => hne b e.symm rfl))).trans hf
/-- the box: its cells, and the data behind them (new since w0, the box apart) -/
structure TupBox (w0 W : World) (nb : Nat) (u0 u3 : Value) (f t : Int) (vs : List Val) (ls : List Int) : Prop where
  c0 : W.cell? ⟨nb, 0, none⟩ = some u0
  c1 : W.cell? ⟨nb, 1, none⟩ = some (.int .i64 f)
  c2 : W.cell? ⟨nb, 2, none⟩ = some (.int .i64 t)
  c3 : W.cell? ⟨nb, 3, none⟩ = some u3
  sv : SliceOf Rep.val (on W (fun k => k ≠ nb ∧ w0.heap.size ≤ k)) u0 vs
  sl : SliceOf Rep.int (on W (fun k => k ≠ nb ∧ w0.heap.size ≤ k)) u3 ls
  ext : Ext w0 W
  lo : w0.heap.size ≤ nb
theorem slice_end2 {α : Type} {R : Rep α} {w2 w3 : World} {B N : Nat} {u0 u1 u2 u3 v : Value} {T : Nat → Prop} {xs : List α} (s2 : SliceOf R (on w2 T) v xs) (hT : ∀ k, k < w2.heap.size → T k → k ≠ B ∧ N ≤ k) (hx : Ext w2 w3) :
    SliceOf R (on ((((w3.setCell ⟨B, 0, none⟩ u0).setCell ⟨B, 1, none⟩ u1).setCell ⟨B, 2, none⟩ u2).setCell ⟨B, 3, none⟩ u3) (fun k => k ≠ B ∧ N ≤ k)) v xs :=
  s2.ext (((on_mono w2 (T := fun k => k ≠ B ∧ N ≤ k) hT).trans (hx.sub _)).trans (sub4 w3 u0 u1 u2 u3 (fun h => h.1 rfl)))
section
variable {w0 w1 w4 : World} {u0 u3 : Value} {f t : Int} {vs : List Val} {ls : List Int} {z0 z1 z2 z3 : Value} {T : TypeId}
theorem free_new (w : World) : Free4 (w.alloc (.cells #[z0, z1, z2, z3] T)) w.heap.size := by
  refine ⟨⟨z0, ?_⟩, ⟨z1, ?_⟩, ⟨z2, ?_⟩, ⟨z3, ?_⟩, ?_, ?_, ?_, ?_⟩ <;> go_simp
theorem box_before (h0 : Ext w0 w1) (hx : Ext (w1.alloc (.cells #[z0, z1, z2, z3] T)).drew w4) (sv : SliceOf Rep.val (on w4 (since (w1.alloc (.cells #[z0, z1, z2, z3] T)).drew)) u0 vs) (sl : SliceOf Rep.int (on w4 (since (w1.alloc (.cells #[z0, z1, z2, z3] T)).drew)) u3 ls) :
    TupBox w0 ((((w4.setCell ⟨w1.heap.size, 0, none⟩ u0).setCell ⟨w1.heap.size, 1, none⟩ (.int .i64 f)).setCell ⟨w1.heap.size, 2, none⟩ (.int .i64 t)).setCell ⟨w1.heap.size, 3, none⟩ u3) w1.heap.size u0 u3 f t vs ls := by
  have hz : (w1.alloc (.cells #[z0, z1, z2, z3] T)).drew.heap.size = w1.heap.size + 1 := by simp
  have hT : ∀ k, k < w4.heap.size → since (w1.alloc (.cells #[z0, z1, z2, z3] T)).drew k → k ≠ w1.heap.size ∧ w0.heap.size ≤ k := fun k _ hk => by
    have hk : (w1.alloc (.cells #[z0, z1, z2, z3] T)).drew.heap.size ≤ k := hk
    rw [hz] at hk
    have := h0.size
    omega
  have hF : Free4 w4 w1.heap.size := (Free4.ext (free_new w1) (Ext.refl _).drew).ext hx
  obtain ⟨g0, g1, g2, g3⟩ := set4_read hF u0 (.int .i64 f) (.int .i64 t) u3
  exact ⟨g0, g1, g2, g3, slice_end2 sv hT (Ext.refl _), slice_end2 sl hT (Ext.refl _), ext_W4 (((h0.alloc _).drew).trans hx) h0.size _ _ _ _, h0.size⟩
theorem box_after (h0 : Ext w0 w1) (hx : Ext w1 w4) (sv : SliceOf Rep.val (on w4 (since w1)) u0 vs) (sl : SliceOf Rep.int (on w4 (since w1)) u3 ls) :
    TupBox w0 (((((w4.alloc (.cells #[z0, z1, z2, z3] T)).setCell ⟨w4.heap.size, 0, none⟩ u0).setCell ⟨w4.heap.size, 1, none⟩ (.int .i64 f)).setCell ⟨w4.heap.size, 2, none⟩ (.int .i64 t)).setCell ⟨w4.heap.size, 3, none⟩ u3) w4.heap.size u0 u3 f t vs ls := by
  have hT : ∀ k, k < w4.heap.size → since w1 k → k ≠ w4.heap.size ∧ w0.heap.size ≤ k := fun k h hk => by
    have hk : w1.heap.size ≤ k := hk
    have := h0.size
    omega
  obtain ⟨g0, g1, g2, g3⟩ := set4_read (free_new (z0 := z0) (z1 := z1) (z2 := z2) (z3 := z3) (T := T) w4) u0 (.int .i64 f) (.int .i64 t) u3
  have h4 := h0.trans hx
  exact ⟨g0, g1, g2, g3, slice_end2 sv hT ((Ext.refl _).alloc _), slice_end2 sl hT ((Ext.refl _).alloc _), ext_W4 (h4.alloc _) h4.size _ _ _ _, h4.size⟩
theorem box_alloc (h0 : Ext w0 w1) (hx : Ext w1 w4) (sv : SliceOf Rep.val (on w4 (since w1)) u0 vs) (sl : SliceOf Rep.int (on w4 (since w1)) u3 ls) :
    TupBox w0 (w4.alloc (.cells #[u0, .int .i64 f, .int .i64 t, u3] T)) w4.heap.size u0 u3 f t vs ls := by
  have hT : ∀ k, k < w4.heap.size → since w1 k → k ≠ w4.heap.size ∧ w0.heap.size ≤ k := fun k h hk => by
    have hk : w1.heap.size ≤ k := hk
    have := h0.size
    omega
  have h4 := h0.trans hx
  have x5 : Ext w4 (w4.alloc (.cells #[u0, .int .i64 f, .int .i64 t, u3] T)) := (Ext.refl _).alloc _
  refine ⟨?_, ?_, ?_, ?_, sv.ext ((on_mono w4 hT).trans (x5.sub _)), sl.ext ((on_mono w4 hT).trans (x5.sub _)), h4.trans x5, h4.size⟩ <;> go_simp
end
end Go.Proofs.YtdgpbpbjlnlijaaGreatDoor

/- expr.Eval of columns -/
namespace Go.Proofs.YtdgpbpbjlnlijaaGreatDoor
open Go.RowKit

structure ExprI where
  op : Int
  a : Int
  b : Int
  col : Int
  c : Val
def exprEnc (x : ExprI) : List Value := [.int .i64 x.op, .int .i64 x.a, .int .i64 x.b, .int .i64 x.col, .int .i64 x.c.kind, .int .i64 x.c.n, .string x.c.s]
def Rep.expr : Rep ExprI where
  size := 7
  holds _ cs x := cs = exprEnc x ∧ (okI x.op ∧ okI x.a ∧ okI x.b ∧ okI x.col) ∧ okVal x.c
  len := by rintro w cs x ⟨rfl, _⟩; rfl
  ext := by rintro w w' cs x h _; exact h
  one := by rintro w cs x ⟨rfl, _⟩; simp [exprEnc, Value.oneCell']
/-- a column of a row -/
def colAt (vals : List Val) (c : Int) : Val := if 0 ≤ c ∧ c < vals.length then vals.getD c.toNat nV else nV
theorem colAt_in {vals : List Val} {c : Nat} (h : c < vals.length) : colAt vals c = vals[c] := by
  unfold colAt
  rw [if_pos (by omega)]
  simp [h]
theorem colAt_out {vals : List Val} {c : Int} (h : ¬ (0 ≤ c ∧ c < vals.length)) : colAt vals c = nV := if_neg h

set_option maxRecDepth 100000 in
set_option maxHeartbeats 4000000 in
theorem apply_col (x : ExprI) (hop : x.op = 2) (pa : Option Addr) (na ka : Nat) (v : Value) (vals : List Val) (w : World) (hv : SliceOf Rep.val w.cell? v vals) :
    Calls Tryz.prog 129 #[.agg (exprEnc x).toArray, .slice pa na ka, v] w fun e w' => e = .returned (valV (colAt vals x.col)) ∧ Ext w w' := by
  obtain ⟨p, cap, rfl, _, _, hp⟩ := hv.form
  obtain ⟨op, a, b, col, ⟨ck, cn, cs⟩⟩ := x
  dsimp only at hop
  subst hop
  unfold exprEnc
  dsimp only
  have HV := Lib.hid hv
  have HP := Lib.hid hp
  clear hv hp
  by_cases h0 : col < 0
  · have hd : decide (col < 0) = true := by simp [h0]
    have HC := Lib.hid (colAt_out (vals := vals) (c := col) (by omega))
    go_enter Tryz.func129, Tryz.ntmps129
    go_wp2_with fail
    refine bodyPost_ret (v := valV (colAt vals col)) (by rw [HC.out]; simp [results, Tryz.results129, go_sem, valV, nV]; rfl) rfl ⟨rfl, ?_⟩
    exact ((Ext.refl w).alloc _).alloc _
  · have hd : decide (col < 0) = false := by simp [h0]
    by_cases h1 : col < vals.length
    · obtain ⟨c, hc⟩ : ∃ c : Nat, col = c := ⟨col.toNat, by omega⟩
      subst hc
      have hcl : c < vals.length := by omega
      have hd2 : decide ((vals.length : Int) ≤ (c : Int)) = false := by simp; omega
      have hb1 : (c : Int) < (vals.length : Int) := by omega
      obtain ⟨bb, o, rfl⟩ := HP.out (by decide) (by omega)
      obtain ⟨c0, c1, c2, _⟩ := val_cells HV.out c hcl
      have HC := Lib.hid (colAt_in hcl)
      generalize vals[c] = y at c0 c1 c2 HC
      obtain ⟨yk, yn, ys⟩ := y
      dsimp only at c0 c1 c2
      have e0 := cell_lt c0
      clear h0 h1
      go_enter Tryz.func129, Tryz.ntmps129
      go_wp2_with fail
      refine bodyPost_ret (v := valV (colAt vals c)) (by rw [HC.out]; simp [results, Tryz.results129, go_sem, valV]) rfl ⟨rfl, ?_⟩
      exact ((Ext.refl w).alloc _).alloc _
    · have hd2 : decide ((vals.length : Int) ≤ col) = true := by simp; omega
      have hb1 : ¬ col < (vals.length : Int) := h1
      have HC := Lib.hid (colAt_out (vals := vals) (c := col) (by omega))
      clear h0 h1
      go_enter Tryz.func129, Tryz.ntmps129
      go_wp2_with fail
      refine bodyPost_ret (v := valV (colAt vals col)) (by rw [HC.out]; simp [results, Tryz.results129, go_sem, valV, nV]; rfl) rfl ⟨rfl, ?_⟩
      exact ((Ext.refl w).alloc _).alloc _

/-- n cells of a block may be written -/
def FreeN (w : World) (g n : Nat) : Prop := ∀ j, j < n → (∃ u, w.cell? ⟨g, j, none⟩ = some u) ∧ w.frozen? ⟨g, j, none⟩ = false
theorem FreeN.set {w : World} {g n : Nat} (h : FreeN w g n) (i : Nat) (u : Value) : FreeN (w.setCell ⟨g, i, none⟩ u) g n := fun j hj => by
  obtain ⟨⟨z, h1⟩, h2⟩ := h j hj
  by_cases e : j = i
  · subst e
    exact ⟨⟨u, by go_simp⟩, by go_simp⟩
  · exact ⟨⟨z, by rw [World.cell?_setCell_other _ _ _ _ (by simp only [ne_eq, Addr.mk.injEq, true_and, and_true]; omega)]; exact h1⟩, by go_simp⟩
theorem FreeN.ext {w w' : World} {g n : Nat} (h : FreeN w g n) (hx : Ext w w') : FreeN w' g n := fun j hj => by
  obtain ⟨⟨z, h1⟩, h2⟩ := h j hj
  exact ⟨⟨z, hx.at h1⟩, hx.unfrozen h1 h2⟩
theorem FreeN.made {w : World} {base g n c k : Nat} {e : TypeId} {xs : List Value} (h : w.ownsRow base e k (.slice (some ⟨g, 0, none⟩) n c) n xs) : FreeN w g (c * k) := fun j hj => by
  rcases h.2 with ⟨h1, _⟩ | ⟨g', cap, cur, he, _, hg, _, _, hsz, _⟩
  · cases h1
  · injection he with e1 e2 e3
    injection e1 with e1
    injection e1 with e1
    subst e1 e3
    refine ⟨⟨cur[j]'(by omega), ?_⟩, Lib.frozen_of_heap hg j⟩
    rw [Lib.cell_of_heap hg]
    exact Array.getElem?_eq_getElem _
theorem info_val3 : (Tryz.prog.info? 44).map (fun i => (i.zero, i.size, i.bytes)) = some (some (.agg #[.int .i64 0, .int .i64 0, .string ByteArray.empty]), 3, 32) := by kernel_rfl
theorem expr_at {h : View} {b o n cap : Nat} {xs : List ExprI} (k : SliceOf Rep.expr h (.slice (some ⟨b, o, none⟩) n cap) xs) (i : Nat) (hi : i < xs.length) :
    h ⟨b, o + i * 7, none⟩ = some (.int .i64 xs[i].op) ∧ h ⟨b, o + i * 7 + 1, none⟩ = some (.int .i64 xs[i].a) ∧ h ⟨b, o + i * 7 + 2, none⟩ = some (.int .i64 xs[i].b) ∧ h ⟨b, o + i * 7 + 3, none⟩ = some (.int .i64 xs[i].col) ∧ h ⟨b, o + i * 7 + 4, none⟩ = some (.int .i64 xs[i].c.kind) ∧ h ⟨b, o + i * 7 + 5, none⟩ = some (.int .i64 xs[i].c.n) ∧ h ⟨b, o + i * 7 + 6, none⟩ = some (.string xs[i].c.s) := by
  obtain ⟨c, ⟨rfl, _⟩, h2⟩ := k.at i hi
  exact ⟨h2 0 _ rfl, h2 1 _ rfl, h2 2 _ rfl, h2 3 _ rfl, h2 4 _ rfl, h2 5 _ rfl, h2 6 _ rfl⟩

end Go.Proofs.YtdgpbpbjlnlijaaGreatDoor

/- algebra.Project of columns, algebra.Aggregate of the count -/
namespace Go.Proofs.YtdgpbpbjlnlijaaGreatDoor
open Go.RowKit

/-- the columns that the keys name -/
def projC (es : List ExprI) (keys : List Int) (vals : List Val) : List Val := keys.map fun k => colAt vals ((es.map ExprI.col).getD k.toNat 0)
theorem ok_colAt {vals : List Val} (h : ∀ x ∈ vals, okVal x) (c : Int) : okVal (colAt vals c) := by
  unfold colAt
  split
  · rename_i hc
    have hlt : c.toNat < vals.length := by omega
    rw [List.getD_eq_getElem?_getD, List.getElem?_eq_getElem hlt]
    exact h _ (List.getElem_mem hlt)
  · exact ok_nV
theorem vals_ok {h : View} {v : Value} {vs : List Val} (k : SliceOf Rep.val h v vs) : ∀ x ∈ vs, okVal x := by
  intro x hx
  obtain ⟨i, hi, rfl⟩ := List.getElem_of_mem hx
  obtain ⟨p, cap, rfl, _, _, hp⟩ := k.form
  obtain ⟨b, o, rfl⟩ := hp (by decide) (by omega)
  obtain ⟨c, ⟨_, h3⟩, _⟩ := k.at i hi
  exact h3

end Go.Proofs.YtdgpbpbjlnlijaaGreatDoor

/- plain: what expressions evaluate to -/
namespace Go.Proofs.YtdgpbpbjlnlijaaGreatDoor
open Go.RowKit

instance : Inhabited ExprI := ⟨⟨0, 0, 0, 0, nV⟩⟩
instance : Inhabited Val := ⟨nV⟩
def arityE (op : Int) : Int := if op = 1 ∨ op = 2 then 0 else if op = 10 ∨ op = 11 then 1 else if 3 ≤ op ∧ op ≤ 9 then 2 else -1
theorem arityE_le (op : Int) : -1 ≤ arityE op ∧ arityE op ≤ 2 := by
  unfold arityE
  split
  · omega
  split
  · omega
  split <;> omega
def opsE (x : ExprI) : List Int := [x.a, x.b].take (arityE x.op).toNat
theorem opsE_len (x : ExprI) : (opsE x).length = (arityE x.op).toNat := by
  have := arityE_le x.op
  unfold opsE
  rw [List.length_take]
  simp only [List.length_cons, List.length_nil]
  omega
def boolV (b : Bool) : Val := ⟨3, if b = true then 1 else 0, ByteArray.empty⟩
def trueV (v : Val) : Bool := decide (v.kind = 3) && decide (v.n = 1)
def arithI (op a b : Int) : Int := if op = 3 then a + b else if op = 4 then a - b else a * b
def fit64 (z : Int) : Prop := -9223372036854775808 ≤ z ∧ z ≤ 9223372036854775807
instance (z : Int) : Decidable (fit64 z) := by unfold fit64; infer_instance
def arithV (op : Int) (a b : Val) : Val := if a.kind = 1 ∧ b.kind = 1 ∧ fit64 (arithI op a.n b.n) then intVal (arithI op a.n b.n) else nV
def eqV (a b : Val) : Bool := decide (a.kind ≠ 0) && decide (b.kind ≠ 0) && decide (cmpVal a b = 0)
def lessV (a b : Val) : Bool := decide (a.kind ≠ 0) && decide (a.kind = b.kind) && decide (cmpVal a b < 0)
/-- the value of an operator at its operands -/
def applyV (x : ExprI) (a b : Val) (row : List Val) : Val :=
  if x.op = 1 then x.c
  else if x.op = 2 then colAt row x.col
  else if 3 ≤ x.op ∧ x.op ≤ 5 then arithV x.op a b
  else if x.op = 6 then boolV (eqV a b)
  else if x.op = 7 then boolV (lessV a b)
  else if x.op = 8 then boolV (trueV a && trueV b)
  else if x.op = 9 then boolV (trueV a || trueV b)
  else if x.op = 10 then boolV (!trueV a)
  else if x.op = 11 then boolV (decide (a.kind = 0))
  else nV
def legalE (i : Nat) (x : ExprI) : Bool := (opsE x).all fun o => decide (0 ≤ o) && decide (o < i)
def argE (done : List Val) (o : Int) : Val := done.getD o.toNat nV
def argsE (x : ExprI) (done : List Val) : List Val := (opsE x).map (argE done)
def stepE (row done : List Val) (x : ExprI) : Val := if legalE done.length x = true then applyV x ((argsE x done).getD 0 nV) ((argsE x done).getD 1 nV) row else nV
/-- the values of the first k expressions -/
def evalAll (es : List ExprI) (row : List Val) : Nat → List Val
  | 0 => []
  | k + 1 => evalAll es row k ++ [stepE row (evalAll es row k) es[k]!]
def evalE (es : List ExprI) (root : Int) (row : List Val) : Val := if 0 ≤ root ∧ root < es.length then (evalAll es row (root.toNat + 1)).getD root.toNat nV else nV
theorem evalAll_len (es : List ExprI) (row : List Val) (k : Nat) : (evalAll es row k).length = k := by
  induction k with
  | zero => rfl
  | succ k ih => rw [evalAll, List.length_append, ih]; rfl
theorem evalAll_get (es : List ExprI) (row : List Val) (k j : Nat) (h : j < k) : (evalAll es row k).getD j nV = stepE row (evalAll es row j) es[j]! := by
  induction k with
  | zero => omega
  | succ k ih =>
    rw [evalAll, List.getD_eq_getElem?_getD]
    by_cases c : j < k
    · rw [List.getElem?_append_left (by rw [evalAll_len]; exact c), ← List.getD_eq_getElem?_getD, ih c]
    · have e : j = k := by omega
      subst e
      rw [List.getElem?_append_right (by rw [evalAll_len]; exact Nat.le_refl _), evalAll_len, Nat.sub_self]
      rfl
theorem ok_intVal {z : Int} (h : fit64 z) : okVal (intVal z) := ⟨by simp [intVal], h, by simp [intVal, maxLen]⟩
theorem ok_boolV (b : Bool) : okVal (boolV b) := ⟨by simp [boolV], by cases b <;> simp [boolV], by simp [boolV, maxLen]⟩
theorem ok_arithV (op : Int) (a b : Val) : okVal (arithV op a b) := by
  unfold arithV
  split
  · rename_i h; exact ok_intVal h.2.2
  · exact ok_nV
theorem ok_applyV {x : ExprI} {row : List Val} (hc : okVal x.c) (hr : ∀ v ∈ row, okVal v) (a b : Val) : okVal (applyV x a b row) := by
  unfold applyV
  split
  · exact hc
  split
  · exact ok_colAt hr _
  split
  · exact ok_arithV _ _ _
  iterate 6 (split; · exact ok_boolV _)
  exact ok_nV
theorem ok_evalAll {es : List ExprI} {row : List Val} (he : ∀ x ∈ es, okVal x.c) (hr : ∀ v ∈ row, okVal v) : ∀ (k : Nat), k ≤ es.length → ∀ v ∈ evalAll es row k, okVal v := by
  intro k
  induction k with
  | zero => intro _ v hv; cases hv
  | succ k ih =>
    intro hk v hv
    rw [evalAll] at hv
    rcases List.mem_append.1 hv with hv | hv
    · exact ih (by omega) v hv
    · rw [List.mem_singleton] at hv
      subst hv
      unfold stepE
      split
      · exact ok_applyV (he _ (by rw [getElem!_pos es k (by omega)]; exact List.getElem_mem _)) hr _ _
      · exact ok_nV
theorem ok_getD {l : List Val} (h : ∀ v ∈ l, okVal v) (j : Nat) : okVal (l.getD j nV) := by
  rw [List.getD_eq_getElem?_getD]
  by_cases c : j < l.length
  · rw [List.getElem?_eq_getElem c]; exact h _ (List.getElem_mem c)
  · rw [List.getElem?_eq_none (by omega)]; exact ok_nV
/-- sizes of texts -/
def fitV (v : Val) : Prop := v.s.size ≤ 1048576
end Go.Proofs.YtdgpbpbjlnlijaaGreatDoor

/- expr: arity, legal, boolean, isTrue, multiply, arithmetic -/
namespace Go.Proofs.YtdgpbpbjlnlijaaGreatDoor
open Go.RowKit

set_option maxHeartbeats 1000000 in
theorem arity_any (op : Int) (w : World) : Calls Tryz.prog 178 #[.int .i64 op] w fun e w' => e = .returned (.int .i64 (arityE op)) ∧ w = w' := by
  by_cases h : 1 ≤ op ∧ op ≤ 11
  · have h2 : op = 1 ∨ op = 2 ∨ op = 3 ∨ op = 4 ∨ op = 5 ∨ op = 6 ∨ op = 7 ∨ op = 8 ∨ op = 9 ∨ op = 10 ∨ op = 11 := by omega
    clear h
    rcases h2 with rfl | rfl | rfl | rfl | rfl | rfl | rfl | rfl | rfl | rfl | rfl
    all_goals
      go_enter Tryz.func178, Tryz.ntmps178
      go_wp2_with fail
      go_ret
      exact ⟨rfl, rfl⟩
  · have b1 : (op == 1) = false := by simp; omega
    have b2 : (op == 2) = false := by simp; omega
    have b3 : (op == 3) = false := by simp; omega
    have b4 : (op == 4) = false := by simp; omega
    have b5 : (op == 5) = false := by simp; omega
    have b6 : (op == 6) = false := by simp; omega
    have b7 : (op == 7) = false := by simp; omega
    have b8 : (op == 8) = false := by simp; omega
    have b9 : (op == 9) = false := by simp; omega
    have b10 : (op == 10) = false := by simp; omega
    have b11 : (op == 11) = false := by simp; omega
    have ha : arityE op = -1 := by
      unfold arityE
      rw [if_neg (by omega), if_neg (by omega), if_neg (by omega)]
    rw [ha]
    clear h ha
    go_enter Tryz.func178, Tryz.ntmps178
    go_wp2_with fail
    go_ret
    exact ⟨rfl, rfl⟩

set_option maxHeartbeats 1000000 in
theorem legal_any (i o : Int) (w : World) : Calls Tryz.prog 128 #[.int .i64 i, .int .i64 o] w fun e w' => e = .returned (.bool (decide (0 ≤ o) && decide (o < i))) ∧ w = w' := by
  by_cases h0 : 0 ≤ o
  · have d0 : decide (0 ≤ o) = true := decide_eq_true h0
    rw [d0, Bool.true_and]
    go_enter Tryz.func128, Tryz.ntmps128
    go_wp2_with fail
    go_ret
    exact ⟨rfl, rfl⟩
  · have d0 : decide (0 ≤ o) = false := decide_eq_false h0
    rw [d0, Bool.false_and]
    clear h0
    go_enter Tryz.func128, Tryz.ntmps128
    go_wp2_with fail
    go_ret
    exact ⟨rfl, rfl⟩

set_option maxHeartbeats 1000000 in
theorem boolean_any (b : Bool) (w : World) : Calls Tryz.prog 180 #[.bool b] w fun e w' => e = .returned (valV (boolV b)) ∧ Ext w w' := by
  cases b
  · go_enter Tryz.func180, Tryz.ntmps180
    go_wp2_with fail
    exact bodyPost_ret (v := valV (boolV false)) (by simp [results, Tryz.results180, go_sem, valV, boolV]; rfl) rfl ⟨rfl, (Ext.refl w).alloc _⟩
  · go_enter Tryz.func180, Tryz.ntmps180
    go_wp2_with fail
    exact bodyPost_ret (v := valV (boolV true)) (by simp [results, Tryz.results180, go_sem, valV, boolV]; rfl) rfl ⟨rfl, (Ext.refl w).alloc _⟩

set_option maxHeartbeats 1000000 in
theorem isTrue_any (v : Val) (w : World) : Calls Tryz.prog 181 #[valV v] w fun e w' => e = .returned (.bool (trueV v)) ∧ Ext w w' := by
  obtain ⟨k, n, s⟩ := v
  unfold trueV valV
  dsimp only
  by_cases h : k = 3
  · subst h
    have d : decide ((3 : Int) = 3) = true := rfl
    have e : (n == 1) = decide (n = 1) := by rw [Bool.eq_iff_iff]; simp
    have HE := Lib.hid e
    rw [d, Bool.true_and]
    clear d e
    go_enter Tryz.func181, Tryz.ntmps181
    go_wp2_with fail
    go_ret
    exact ⟨ret_bool HE.out, (Ext.refl w).alloc _⟩
  · have b : (k == 3) = false := by simp [h]
    have d : decide (k = 3) = false := decide_eq_false h
    rw [d, Bool.false_and]
    clear d h
    go_enter Tryz.func181, Tryz.ntmps181
    go_wp2_with fail
    go_ret
    exact ⟨rfl, (Ext.refl w).alloc _⟩

theorem mag_neg {a : Int} (h : a < 0) (h0 : -9223372036854775808 ≤ a) : IntKind.u64.wrap (-IntKind.u64.wrap a) = (a.natAbs : Int) := by
  rw [IntKind.wrap_u64, IntKind.wrap_u64]; omega
theorem mag_pos {a : Int} (h : 0 ≤ a) (h1 : a ≤ 9223372036854775807) : IntKind.u64.wrap a = (a.natAbs : Int) := by
  rw [IntKind.wrap_u64]; omega
set_option maxHeartbeats 1000000 in
theorem magnitude_any (a : Int) (ha : fit64 a) (w : World) : Calls Tryz.prog 265 #[.int .i64 a] w fun e w' => e = .returned (.int .u64 (a.natAbs : Int)) ∧ w = w' := by
  unfold fit64 at ha
  by_cases h : a < 0
  · have HM := Lib.hid (mag_neg h ha.1)
    have d : decide (a < 0) = true := decide_eq_true h
    clear h ha
    go_enter Tryz.func265, Tryz.ntmps265
    go_wp2_with fail
    go_ret
    exact ⟨ret_int HM.out, rfl⟩
  · have HM := Lib.hid (mag_pos (by omega) ha.2)
    have d : decide (a < 0) = false := decide_eq_false h
    clear h ha
    go_enter Tryz.func265, Tryz.ntmps265
    go_wp2_with fail
    go_ret
    exact ⟨ret_int HM.out, rfl⟩
/-- products, by their size and sign -/
theorem mul_same {a b : Int} (h : decide (a < 0) = decide (b < 0)) : a * b = ((a.natAbs * b.natAbs : Nat) : Int) := by
  rw [Int.natCast_mul]
  by_cases h1 : a < 0
  · have h2 : b < 0 := by simpa [h1] using h
    rw [show (a.natAbs : Int) = -a by omega, show (b.natAbs : Int) = -b by omega, Int.neg_mul_neg]
  · have h2 : ¬ b < 0 := by simpa [h1] using h
    rw [show (a.natAbs : Int) = a by omega, show (b.natAbs : Int) = b by omega]
theorem mul_other {a b : Int} (h : decide (a < 0) ≠ decide (b < 0)) : a * b = -((a.natAbs * b.natAbs : Nat) : Int) := by
  rw [Int.natCast_mul]
  by_cases h1 : a < 0
  · have h2 : ¬ b < 0 := by simpa [h1] using h
    rw [show (a.natAbs : Int) = -a by omega, show (b.natAbs : Int) = b by omega, Int.neg_mul, Int.neg_neg]
  · have h2 : b < 0 := by simpa [h1] using h
    rw [show (a.natAbs : Int) = a by omega, show (b.natAbs : Int) = -b by omega, Int.mul_neg, Int.neg_neg]
/-- what multiply answers -/
def MulRes (z : Int) (e : Ending) : Prop := ∃ n, e = .returned (.tuple #[.int .i64 n, .bool (decide (fit64 z))]) ∧ (fit64 z → n = z)
theorem mulRes_mk {z n : Int} {b : Bool} {e : Ending} (he : e = .returned (.tuple #[.int .i64 n, .bool b])) (hb : b = true ↔ fit64 z) (hn : fit64 z → n = z) : MulRes z e := by
  refine ⟨n, ?_, hn⟩
  rw [he]
  have : b = decide (fit64 z) := by rw [Bool.eq_iff_iff, hb, decide_eq_true_eq]
  rw [this]

end Go.Proofs.YtdgpbpbjlnlijaaGreatDoor

/- expr: multiply, arithmetic -/
namespace Go.Proofs.YtdgpbpbjlnlijaaGreatDoor
open Go.RowKit

theorem mul_fit_same {a b : Int} {hi lo : Nat} (h : decide (a < 0) = decide (b < 0)) (hp : a.natAbs * b.natAbs = hi * 18446744073709551616 + lo) (hl : lo < 18446744073709551616) :
    (fit64 (a * b) ↔ hi = 0 ∧ lo ≤ 9223372036854775807) ∧ (fit64 (a * b) → IntKind.i64.wrap (lo : Int) = a * b) := by
  rw [mul_same h, hp]
  unfold fit64
  refine ⟨by omega, fun g => ?_⟩
  rw [IntKind.wrap_i64]
  omega
theorem mul_fit_other {a b : Int} {hi lo : Nat} (h : decide (a < 0) ≠ decide (b < 0)) (hp : a.natAbs * b.natAbs = hi * 18446744073709551616 + lo) (hl : lo < 18446744073709551616) :
    (fit64 (a * b) ↔ hi = 0 ∧ lo ≤ 9223372036854775808) ∧ (fit64 (a * b) → IntKind.i64.wrap (-IntKind.i64.wrap (lo : Int)) = a * b) := by
  rw [mul_other h, hp]
  unfold fit64
  refine ⟨by omega, fun g => ?_⟩
  rw [IntKind.wrap_i64, IntKind.wrap_i64]
  omega

theorem fin_same {a b : Int} {hi lo : Nat} {t : Bool} (h : decide (a < 0) = decide (b < 0)) (hp : a.natAbs * b.natAbs = hi * 18446744073709551616 + lo) (hl : lo < 18446744073709551616) (ht : t = true ↔ hi = 0 ∧ lo ≤ 9223372036854775807) :
    MulRes (a * b) (.returned (.tuple #[.int .i64 (wrap64 (lo : Int)), .bool t])) := mulRes_mk rfl (ht.trans (mul_fit_same h hp hl).1.symm) fun g => by have h2 := (mul_fit_same h hp hl).2 g; rw [IntKind.wrap_i64] at h2; unfold wrap64; exact h2
theorem fin_other {a b : Int} {hi lo : Nat} {t : Bool} (h : decide (a < 0) ≠ decide (b < 0)) (hp : a.natAbs * b.natAbs = hi * 18446744073709551616 + lo) (hl : lo < 18446744073709551616) (ht : t = true ↔ hi = 0 ∧ lo ≤ 9223372036854775808) :
    MulRes (a * b) (.returned (.tuple #[.int .i64 (wrap64 (-wrap64 (lo : Int))), .bool t])) := mulRes_mk rfl (ht.trans (mul_fit_other h hp hl).1.symm) fun g => by have h2 := (mul_fit_other h hp hl).2 g; rw [IntKind.wrap_i64, IntKind.wrap_i64] at h2; unfold wrap64; exact h2
theorem iff_yes {p : Prop} (h : p) : (true = true) ↔ p := ⟨fun _ => h, fun _ => rfl⟩
theorem iff_no {p : Prop} (h : ¬ p) : (false = true) ↔ p := ⟨fun g => (by cases g), fun g => absurd g h⟩

set_option maxRecDepth 100000 in
set_option maxHeartbeats 4000000 in
theorem multiply_any (a b : Int) (ha : fit64 a) (hb : fit64 b) (w : World) : Calls Tryz.prog 230 #[.int .i64 a, .int .i64 b] w fun e w' => MulRes (a * b) e ∧ w = w' := by
  have HA := Lib.hid ha
  have HB := Lib.hid hb
  have hna : a.natAbs < 18446744073709551616 := by unfold fit64 at ha; omega
  have hnb : b.natAbs < 18446744073709551616 := by unfold fit64 at hb; omega
  have HN := Lib.hid (And.intro hna hnb)
  obtain ⟨hi, hhi⟩ : ∃ x, a.natAbs * b.natAbs / 18446744073709551616 = x := ⟨_, rfl⟩
  obtain ⟨lo, hlo⟩ : ∃ x, a.natAbs * b.natAbs % 18446744073709551616 = x := ⟨_, rfl⟩
  have hp : a.natAbs * b.natAbs = hi * 18446744073709551616 + lo := by omega
  have hl : lo < 18446744073709551616 := by omega
  have HHI := Lib.hid (And.intro hhi hlo)
  have HP := Lib.hid hp
  have HL := Lib.hid hl
  obtain ⟨P, hP⟩ : ∃ P, P = fit64 (a * b) := ⟨_, rfl⟩
  clear ha hb hna hnb hhi hlo hp hP
  by_cases h1 : a < 0
  all_goals by_cases h2 : b < 0
  all_goals by_cases h3 : hi = 0
  all_goals by_cases h4 : lo ≤ 9223372036854775807
  all_goals by_cases h5 : lo ≤ 9223372036854775808
  all_goals
    first | (exfalso; omega) | skip
  all_goals
    have d1 : decide (a < 0) = decide (a < 0) := rfl
    first
      | (replace d1 : decide (a < 0) = true := decide_eq_true h1)
      | (replace d1 : decide (a < 0) = false := decide_eq_false h1)
    have d2 : decide (b < 0) = decide (b < 0) := rfl
    first
      | (replace d2 : decide (b < 0) = true := decide_eq_true h2)
      | (replace d2 : decide (b < 0) = false := decide_eq_false h2)
    have d3 : ((hi : Int) == 0) = ((hi : Int) == 0) := rfl
    first
      | (replace d3 : ((hi : Int) == 0) = true := by simp; omega)
      | (replace d3 : ((hi : Int) == 0) = false := by simp; omega)
    have d4 : decide ((lo : Int) ≤ 9223372036854775807) = decide ((lo : Int) ≤ 9223372036854775807) := rfl
    first
      | (replace d4 : decide ((lo : Int) ≤ 9223372036854775807) = true := by simp; omega)
      | (replace d4 : decide ((lo : Int) ≤ 9223372036854775807) = false := by simp; omega)
    have d5 : decide ((lo : Int) ≤ 9223372036854775808) = decide ((lo : Int) ≤ 9223372036854775808) := rfl
    first
      | (replace d5 : decide ((lo : Int) ≤ 9223372036854775808) = true := by simp; omega)
      | (replace d5 : decide ((lo : Int) ≤ 9223372036854775808) = false := by simp; omega)
    have H := Lib.hid (And.intro h1 (And.intro h2 (And.intro h3 (And.intro h4 h5))))
    clear h1 h2 h3 h4 h5
    go_enter Tryz.func230, Tryz.ntmps230
    go_wp2_with fail
    refine (magnitude_any a HA.out _).mono ?_
    rintro e w1 ⟨rfl, rfl⟩
    go_wp2_with fail
    refine (magnitude_any b HB.out _).mono ?_
    rintro e w1 ⟨rfl, rfl⟩
    go_wp2_with fail
    refine (Tryz.bits_Mul64 a.natAbs b.natAbs HN.out.1 HN.out.2 _).mono ?_
    rintro e w1 ⟨rfl, rfl⟩
    rw [HHI.out.1, HHI.out.2]
    go_wp2_with fail
    go_ret2
    obtain ⟨h1, h2, h3, h4, h5⟩ := H.out
    first
      | exact ⟨fin_same (d1.trans d2.symm) HP.out HL.out (iff_yes ⟨h3, h4⟩), rfl⟩
      | exact ⟨fin_same (d1.trans d2.symm) HP.out HL.out (iff_no (fun g => h3 g.1)), rfl⟩
      | exact ⟨fin_same (d1.trans d2.symm) HP.out HL.out (iff_no (fun g => h4 g.2)), rfl⟩
      | exact ⟨fin_other (by rw [d1, d2]; decide) HP.out HL.out (iff_yes ⟨h3, h5⟩), rfl⟩
      | exact ⟨fin_other (by rw [d1, d2]; decide) HP.out HL.out (iff_no (fun g => h3 g.1)), rfl⟩
      | exact ⟨fin_other (by rw [d1, d2]; decide) HP.out HL.out (iff_no (fun g => h5 g.2)), rfl⟩

end Go.Proofs.YtdgpbpbjlnlijaaGreatDoor

/- expr: arithmetic -/
namespace Go.Proofs.YtdgpbpbjlnlijaaGreatDoor
open Go.RowKit

theorem arith_yes {op : Int} {a b : Val} (h1 : a.kind = 1) (h2 : b.kind = 1) (h : fit64 (arithI op a.n b.n)) : arithV op a b = intVal (arithI op a.n b.n) := if_pos ⟨h1, h2, h⟩
theorem arith_no {op : Int} {a b : Val} (h : ¬ (a.kind = 1 ∧ b.kind = 1 ∧ fit64 (arithI op a.n b.n))) : arithV op a b = nV := if_neg h

set_option maxRecDepth 100000 in
set_option maxHeartbeats 4000000 in
theorem arithmetic_add (a b : Val) (h1 : a.kind = 1) (h2 : b.kind = 1) (ha : okVal a) (hb : okVal b) (w : World) : Calls Tryz.prog 179 #[.int .i64 3, valV a, valV b] w fun e w' => e = .returned (valV (arithV 3 a b)) ∧ Ext w w' := by
  have HY := Lib.hid (arith_yes (op := 3) h1 h2)
  have HN := Lib.hid (arith_no (op := 3) (a := a) (b := b))
  obtain ⟨ak, an, sa⟩ := a
  obtain ⟨bk, bn, sb⟩ := b
  dsimp only at h1 h2
  subst h1 h2
  obtain ⟨z, hz⟩ : ∃ z, arithV 3 ⟨1, an, sa⟩ ⟨1, bn, sb⟩ = z := ⟨_, rfl⟩
  rw [hz] at HY HN ⊢
  have hra := ha.2.1
  have hrb := hb.2.1
  dsimp only at hra hrb
  have hsum : arithI 3 an bn = an + bn := rfl
  unfold valV
  dsimp only
  clear hz ha hb
  by_cases hf : fit64 (an + bn)
  · have h3 := HY.out (by rw [hsum]; exact hf)
    rw [hsum] at h3
    subst h3
    unfold fit64 at hf
    obtain ⟨f1, f2⟩ := hf
    clear HY HN hsum
    rcases Int.lt_trichotomy bn 0 with h | h | h
    · have d1 : decide (0 < bn) = false := by simp; omega
      have d2 : decide (an < an + bn) = false := by simp; omega
      clear hra hrb h
      go_enter Tryz.func179, Tryz.ntmps179
      go_wp2_with fail
      exact bodyPost_ret (v := valV (intVal (an + bn))) (by simp [results, Tryz.results179, go_sem, valV, intVal]; rfl) rfl ⟨rfl, (((Ext.refl w).alloc _).alloc _).alloc _⟩
    · subst h
      clear hra hrb
      go_enter Tryz.func179, Tryz.ntmps179
      go_wp2_with fail
      exact bodyPost_ret (v := valV (intVal (an + 0))) (by simp [results, Tryz.results179, go_sem, valV, intVal]; rfl) rfl ⟨rfl, (((Ext.refl w).alloc _).alloc _).alloc _⟩
    · have d1 : decide (0 < bn) = true := by simp; omega
      have d2 : decide (an < an + bn) = true := by simp; omega
      clear hra hrb h
      go_enter Tryz.func179, Tryz.ntmps179
      go_wp2_with fail
      exact bodyPost_ret (v := valV (intVal (an + bn))) (by simp [results, Tryz.results179, go_sem, valV, intVal]; rfl) rfl ⟨rfl, (((Ext.refl w).alloc _).alloc _).alloc _⟩
  · have h3 := HN.out (by rintro ⟨_, _, g⟩; rw [hsum] at g; exact hf g)
    subst h3
    unfold fit64 at hf
    obtain ⟨n, hn⟩ : ∃ n, IntKind.i64.wrap (an + bn) = n := ⟨_, rfl⟩
    have hn2 := hn
    rw [IntKind.wrap_i64] at hn2
    clear HY HN hsum
    rcases (show 0 < bn ∨ bn ≤ 0 by omega) with h | h
    · have d1 : decide (0 < bn) = true := by simp; omega
      have d2 : decide (an < n) = false := by simp; omega
      have d3 : (bn == 0) = false := by simp; omega
      clear hra hrb h hf hn2
      go_enter Tryz.func179, Tryz.ntmps179
      go_wp2_with fail
      exact bodyPost_ret (v := valV nV) (by simp [results, Tryz.results179, go_sem, valV, nV]; rfl) rfl ⟨rfl, (((Ext.refl w).alloc _).alloc _).alloc _⟩
    · have d1 : decide (0 < bn) = false := by simp; omega
      have d2 : decide (an < n) = true := by simp; omega
      have d3 : (bn == 0) = false := by simp; omega
      clear hra hrb h hf hn2
      go_enter Tryz.func179, Tryz.ntmps179
      go_wp2_with fail
      exact bodyPost_ret (v := valV nV) (by simp [results, Tryz.results179, go_sem, valV, nV]; rfl) rfl ⟨rfl, (((Ext.refl w).alloc _).alloc _).alloc _⟩

set_option maxRecDepth 100000 in
set_option maxHeartbeats 4000000 in
theorem arithmetic_sub (a b : Val) (h1 : a.kind = 1) (h2 : b.kind = 1) (ha : okVal a) (hb : okVal b) (w : World) : Calls Tryz.prog 179 #[.int .i64 4, valV a, valV b] w fun e w' => e = .returned (valV (arithV 4 a b)) ∧ Ext w w' := by
  have HY := Lib.hid (arith_yes (op := 4) h1 h2)
  have HN := Lib.hid (arith_no (op := 4) (a := a) (b := b))
  obtain ⟨ak, an, sa⟩ := a
  obtain ⟨bk, bn, sb⟩ := b
  dsimp only at h1 h2
  subst h1 h2
  obtain ⟨z, hz⟩ : ∃ z, arithV 4 ⟨1, an, sa⟩ ⟨1, bn, sb⟩ = z := ⟨_, rfl⟩
  rw [hz] at HY HN ⊢
  have hra := ha.2.1
  have hrb := hb.2.1
  dsimp only at hra hrb
  have hsum : arithI 4 an bn = an - bn := rfl
  unfold valV
  dsimp only
  clear hz ha hb
  by_cases hf : fit64 (an - bn)
  · have h3 := HY.out (by rw [hsum]; exact hf)
    rw [hsum] at h3
    subst h3
    unfold fit64 at hf
    obtain ⟨f1, f2⟩ := hf
    clear HY HN hsum
    rcases Int.lt_trichotomy bn 0 with h | h | h
    · have d1 : decide (0 < bn) = false := by simp; omega
      have d2 : decide (an - bn < an) = false := by simp; omega
      clear hra hrb h
      go_enter Tryz.func179, Tryz.ntmps179
      go_wp2_with fail
      exact bodyPost_ret (v := valV (intVal (an - bn))) (by simp [results, Tryz.results179, go_sem, valV, intVal]; rfl) rfl ⟨rfl, (((Ext.refl w).alloc _).alloc _).alloc _⟩
    · subst h
      clear hra hrb
      go_enter Tryz.func179, Tryz.ntmps179
      go_wp2_with fail
      exact bodyPost_ret (v := valV (intVal (an - 0))) (by simp [results, Tryz.results179, go_sem, valV, intVal]; rfl) rfl ⟨rfl, (((Ext.refl w).alloc _).alloc _).alloc _⟩
    · have d1 : decide (0 < bn) = true := by simp; omega
      have d2 : decide (an - bn < an) = true := by simp; omega
      clear hra hrb h
      go_enter Tryz.func179, Tryz.ntmps179
      go_wp2_with fail
      exact bodyPost_ret (v := valV (intVal (an - bn))) (by simp [results, Tryz.results179, go_sem, valV, intVal]; rfl) rfl ⟨rfl, (((Ext.refl w).alloc _).alloc _).alloc _⟩
  · have h3 := HN.out (by rintro ⟨_, _, g⟩; rw [hsum] at g; exact hf g)
    subst h3
    unfold fit64 at hf
    obtain ⟨n, hn⟩ : ∃ n, IntKind.i64.wrap (an - bn) = n := ⟨_, rfl⟩
    have hn2 := hn
    rw [IntKind.wrap_i64] at hn2
    clear HY HN hsum
    rcases (show 0 < bn ∨ bn ≤ 0 by omega) with h | h
    · have d1 : decide (0 < bn) = true := by simp; omega
      have d2 : decide (n < an) = false := by simp; omega
      have d3 : (bn == 0) = false := by simp; omega
      clear hra hrb h hf hn2
      go_enter Tryz.func179, Tryz.ntmps179
      go_wp2_with fail
      exact bodyPost_ret (v := valV nV) (by simp [results, Tryz.results179, go_sem, valV, nV]; rfl) rfl ⟨rfl, (((Ext.refl w).alloc _).alloc _).alloc _⟩
    · have d1 : decide (0 < bn) = false := by simp; omega
      have d2 : decide (n < an) = true := by simp; omega
      have d3 : (bn == 0) = false := by simp; omega
      clear hra hrb h hf hn2
      go_enter Tryz.func179, Tryz.ntmps179
      go_wp2_with fail
      exact bodyPost_ret (v := valV nV) (by simp [results, Tryz.results179, go_sem, valV, nV]; rfl) rfl ⟨rfl, (((Ext.refl w).alloc _).alloc _).alloc _⟩

set_option maxRecDepth 100000 in
set_option maxHeartbeats 4000000 in
theorem arithmetic_mul (a b : Val) (h1 : a.kind = 1) (h2 : b.kind = 1) (ha : okVal a) (hb : okVal b) (w : World) : Calls Tryz.prog 179 #[.int .i64 5, valV a, valV b] w fun e w' => e = .returned (valV (arithV 5 a b)) ∧ Ext w w' := by
  have HY := Lib.hid (arith_yes (op := 5) h1 h2)
  have HN := Lib.hid (arith_no (op := 5) (a := a) (b := b))
  have HA := Lib.hid (show fit64 a.n from ha.2.1)
  have HB := Lib.hid (show fit64 b.n from hb.2.1)
  obtain ⟨ak, an, sa⟩ := a
  obtain ⟨bk, bn, sb⟩ := b
  dsimp only at h1 h2 HA HB
  subst h1 h2
  obtain ⟨z, hz⟩ : ∃ z, arithV 5 ⟨1, an, sa⟩ ⟨1, bn, sb⟩ = z := ⟨_, rfl⟩
  rw [hz] at HY HN ⊢
  have hsum : arithI 5 an bn = an * bn := rfl
  have HS := Lib.hid hsum
  unfold valV
  dsimp only
  clear hz ha hb hsum
  go_enter Tryz.func179, Tryz.ntmps179
  go_wp2_with fail
  refine (multiply_any an bn HA.out HB.out _).mono ?_
  rintro e w1 ⟨⟨n, rfl, hn⟩, rfl⟩
  by_cases hf : fit64 (an * bn)
  · have h3 := HY.out (by rw [HS.out]; exact hf)
    have hn2 := hn hf
    have hd : decide (fit64 (an * bn)) = true := decide_eq_true hf
    rw [hd]
    rw [HS.out, ← hn2] at h3
    subst h3
    clear HY HN HS hn hf hn2 hd
    go_wp2_with fail
    exact bodyPost_ret (v := valV (intVal n)) (by simp [results, Tryz.results179, go_sem, valV, intVal]; rfl) rfl ⟨rfl, (((Ext.refl w).alloc _).alloc _).alloc _⟩
  · have h3 := HN.out (by rintro ⟨_, _, g⟩; rw [HS.out] at g; exact hf g)
    have hd : decide (fit64 (an * bn)) = false := decide_eq_false hf
    rw [hd]
    subst h3
    clear HY HN HS hn hf hd
    go_wp2_with fail
    exact bodyPost_ret (v := valV nV) (by simp [results, Tryz.results179, go_sem, valV, nV]; rfl) rfl ⟨rfl, (((Ext.refl w).alloc _).alloc _).alloc _⟩

set_option maxRecDepth 100000 in
set_option maxHeartbeats 4000000 in
theorem arithmetic_any (op : Int) (hop : op = 3 ∨ op = 4 ∨ op = 5) (a b : Val) (ha : okVal a) (hb : okVal b) (w : World) : Calls Tryz.prog 179 #[.int .i64 op, valV a, valV b] w fun e w' => e = .returned (valV (arithV op a b)) ∧ Ext w w' := by
  by_cases h1 : a.kind = 1
  · by_cases h2 : b.kind = 1
    · rcases hop with rfl | rfl | rfl
      · exact arithmetic_add a b h1 h2 ha hb w
      · exact arithmetic_sub a b h1 h2 ha hb w
      · exact arithmetic_mul a b h1 h2 ha hb w
    · have h3 : arithV op a b = nV := arith_no fun g => h2 g.2.1
      rw [h3]
      obtain ⟨ak, an, sa⟩ := a
      obtain ⟨bk, bn, sb⟩ := b
      dsimp only at h1 h2
      subst h1
      have d : (bk != 1) = true := by simp [h2]
      unfold valV
      dsimp only
      clear h2 h3 ha hb hop
      go_enter Tryz.func179, Tryz.ntmps179
      go_wp2_with fail
      exact bodyPost_ret (v := valV nV) (by simp [results, Tryz.results179, go_sem, valV, nV]; rfl) rfl ⟨rfl, (((Ext.refl w).alloc _).alloc _).alloc _⟩
  · have h3 : arithV op a b = nV := arith_no fun g => h1 g.1
    rw [h3]
    obtain ⟨ak, an, sa⟩ := a
    obtain ⟨bk, bn, sb⟩ := b
    dsimp only at h1
    have d : (ak != 1) = true := by simp [h1]
    unfold valV
    dsimp only
    clear h1 h3 ha hb hop
    go_enter Tryz.func179, Tryz.ntmps179
    go_wp2_with fail
    exact bodyPost_ret (v := valV nV) (by simp [results, Tryz.results179, go_sem, valV, nV]; rfl) rfl ⟨rfl, (((Ext.refl w).alloc _).alloc _).alloc _⟩

end Go.Proofs.YtdgpbpbjlnlijaaGreatDoor
