/- joined texts of a proof: Rep, Keep, Shelf, BagE, BagF, BagJ, BagK, PlainR, TupT, PlainJ, BagN, PlainU, PlainC, CtnJ -/
import Derived.Test.YtdgpbpbjlnlijaaGreatDoorKJ01
import Derived.Test.YtdgpbpbjlnlijaaGreatDoorKJ02
import Derived.Test.YtdgpbpbjlnlijaaGreatDoorKJ03
import Derived.Test.YtdgpbpbjlnlijaaGreatDoorKJ04
import Derived.Test.YtdgpbpbjlnlijaaGreatDoorKJ05
import Derived.Test.YtdgpbpbjlnlijaaGreatDoorKJ06
import Derived.Test.YtdgpbpbjlnlijaaGreatDoorKJ07
import Derived.Test.YtdgpbpbjlnlijaaGreatDoorKJ08
import Derived.Test.YtdgpbpbjlnlijaaGreatDoorKJ09
import Derived.Test.YtdgpbpbjlnlijaaGreatDoorKJ10
import Derived.Test.YtdgpbpbjlnlijaaGreatDoorKJ11
import Derived.Test.YtdgpbpbjlnlijaaGreatDoorKJ12
import Derived.Test.YtdgpbpbjlnlijaaGreatDoorKJ13
import Derived.Test.YtdgpbpbjlnlijaaGreatDoorKJ14
import Derived.Test.YtdgpbpbjlnlijaaGreatDoorKJ15
import Derived.Test.YtdgpbpbjlnlijaaGreatDoorKJ16
import Derived.Test.YtdgpbpbjlnlijaaGreatDoorKJ17
import Derived.Test.YtdgpbpbjlnlijaaGreatDoorKJ18
import Derived.Test.YtdgpbpbjlnlijaaGreatDoorKJ19
import Derived.Test.YtdgpbpbjlnlijaaGreatDoorKJ20
import Derived.Test.YtdgpbpbjlnlijaaGreatDoorKJ21
import Derived.Deep.Slices
import Derived.Deep.AppendLies
import Derived.Laws.AppendOwnNone
import Derived.Sort.Grow
import Derived.Shelf.SlSortCmp.WholeK
import Derived.Ground.SlsfProg
import Derived.Ground.NamesProg
import Derived.Shelf.Strings.Builder1
import Derived.Shelf.Small.Bits
import Derived.Shelf.Small.Strs
import Derived.Shelf.Small.Wraps
import Derived.Shelf.Strings.BuilderF
import Derived.Shelf.Strings.BuilderK
import Derived.Shelf.Strconv.Itoa0
import Derived.Shelf.Strconv.Itoa1
import Derived.Shelf.LaysM
import Derived.Shelf.Strconv.Itoa2
import Derived.Shelf.Strconv.Itoa3
import Derived.Shelf.Strconv.Itoa4
import Derived.Shelf.Sort.Plain
import Derived.Shelf.Bits.Mul64
import Derived.Ground.Names2Prog
import Derived.Shelf.Slices.Clone
import Derived.Shelf.Slices.CompactI
import Derived.Shelf.Slices.SearchI
import Derived.Shelf.Slices.Cells
import Derived.Shelf.Slices.In.SortNone
import Derived.Shelf.Slices.Empties
import Derived.Ground.SlgnProg
import Derived.Shelf.SlicesE.Clone
import Derived.Test.YtdgpbpbjlnlijaaGreatDoorProg
import Derived.IntWalk

namespace Go.Proofs.YtdgpbpbjlnlijaaGreatDoor
open Go.RowKit Go.Deep

/-- the cells that lie below B are kept by whatever keeps what is below B -/
theorem below_sub {w w' : World} {B : Nat} (h : Below B w w') {S : Nat → Prop} (hS : ∀ k, S k → k < B) : Sub (on w S) (on w' S) := fun p v e => by
  obtain ⟨h1, h2⟩ := on_some.1 e
  exact on_some.2 ⟨h1, (h.cell (hS _ h1)).trans h2⟩
theorem full_on (w : World) (S : Nat → Prop) (h : ∀ k, k < w.heap.size → S k) : Sub w.cell? (on w S) := fun p _ e => on_some.2 ⟨h _ (World.block_lt_of_cell? w p e), e⟩

section
variable {α : Type} {R : Rep α} {w w' : View}
end

section
variable {P : Program} {w : World} {ops : Array Oper} {rest : List Oper} {o : Oper} {a : Act} {Q : Exit → Act → World → Prop}
end

section
variable {P : Program} {w : World} {ops : Array Oper} {rest : List Oper} {o : Oper} {a : Act} {Q : Exit → Act → World → Prop}
end

theorem row_at {w : View} {b o n cap : Nat} {xs : List Row} (h : SliceOf Rep.row w (.slice (some ⟨b, o, none⟩) n cap) xs) (i : Nat) (hi : i < xs.length) :
    ∃ u v, w ⟨b, o + i * 2, none⟩ = some u ∧ w ⟨b, o + i * 2 + 1, none⟩ = some v ∧ SliceOf Rep.val w u xs[i].vals ∧ SliceOf Rep.int w v xs[i].lin := by
  obtain ⟨c, ⟨u, v, rfl, g1, g2⟩, h2⟩ := h.at i hi
  exact ⟨u, v, h2 0 _ rfl, h2 1 _ rfl, g1, g2⟩
end Go.Proofs.YtdgpbpbjlnlijaaGreatDoor

namespace Go.Proofs.YtdgpbpbjlnlijaaGreatDoor
open Go.RowKit

theorem keepE1 {W wa wb : World} {p1 : Addr} {v1 : Value} (h : Ext W wa ∧ wa.cell? p1 = some v1) (hx : Ext wa wb) : Ext W wb ∧ wb.cell? p1 = some v1 :=
  ⟨h.1.trans hx, hx.at (h.2)⟩
theorem keepE2 {W wa wb : World} {p1 p2 : Addr} {v1 v2 : Value} (h : Ext W wa ∧ wa.cell? p1 = some v1 ∧ wa.cell? p2 = some v2) (hx : Ext wa wb) : Ext W wb ∧ wb.cell? p1 = some v1 ∧ wb.cell? p2 = some v2 :=
  ⟨h.1.trans hx, hx.at (h.2.1), hx.at (h.2.2)⟩
end Go.Proofs.YtdgpbpbjlnlijaaGreatDoor

namespace Go.Proofs
open Go.Shelf
theorem Tryz.sortRows : Go.Proofs.SlLaysF0.n6 Tryz.prog Tryz.sortRows_ren := {
  mixed := by kernel_rfl
  f6 := ⟨Tryz.f102.name, by decide, Tryz.func102.trans (congrArg some (by kernel_rfl))⟩
  f14 := ⟨Tryz.f143.name, by decide, Tryz.func143.trans (congrArg some (by kernel_rfl))⟩
  f15 := Tryz.func105.trans (congrArg some (by kernel_rfl))
  f20 := ⟨Tryz.f198.name, by decide, Tryz.func198.trans (congrArg some (by kernel_rfl))⟩
  f21 := ⟨Tryz.f199.name, by decide, Tryz.func199.trans (congrArg some (by kernel_rfl))⟩
  f22 := ⟨Tryz.f200.name, by decide, Tryz.func200.trans (congrArg some (by kernel_rfl))⟩
  f23 := ⟨Tryz.f201.name, by decide, Tryz.func201.trans (congrArg some (by kernel_rfl))⟩
  f24 := ⟨Tryz.f202.name, by decide, Tryz.func202.trans (congrArg some (by kernel_rfl))⟩
  f25 := ⟨Tryz.f203.name, by decide, Tryz.func203.trans (congrArg some (by kernel_rfl))⟩
  f26 := ⟨Tryz.f204.name, by decide, Tryz.func204.trans (congrArg some (by kernel_rfl))⟩
  f27 := ⟨Tryz.f205.name, by decide, Tryz.func205.trans (congrArg some (by kernel_rfl))⟩
  f28 := Tryz.func154.trans (congrArg some (by kernel_rfl))
  f29 := Tryz.func155.trans (congrArg some (by kernel_rfl))
  f46 := ⟨Tryz.f238.name, by decide, Tryz.func238.trans (congrArg some (by kernel_rfl))⟩
  f47 := Tryz.func208.trans (congrArg some (by kernel_rfl))
  f48 := Tryz.func209.trans (congrArg some (by kernel_rfl))
  f49 := ⟨Tryz.f239.name, by decide, Tryz.func239.trans (congrArg some (by kernel_rfl))⟩
  f50 := ⟨Tryz.f240.name, by decide, Tryz.func240.trans (congrArg some (by kernel_rfl))⟩
  f57 := ⟨Tryz.f270.name, by decide, Tryz.func270.trans (congrArg some (by kernel_rfl))⟩
  t0 := Tryz.underlying0
  a0 := Tryz.isAgg0
  z0 := Tryz.sizeOf0
  v0 := Tryz.zeroValue0
  t3 := Tryz.underlying3
  a3 := Tryz.isAgg3
  z3 := Tryz.sizeOf3
  v3 := Tryz.zeroValue3
  t4 := Tryz.underlying4
  a4 := Tryz.isAgg4
  z4 := Tryz.sizeOf4
  v4 := Tryz.zeroValue4
  t5 := Tryz.underlying5
  a5 := Tryz.isAgg5
  z5 := Tryz.sizeOf5
  v5 := Tryz.zeroValue5
  t9 := Tryz.underlying9
  a9 := Tryz.isAgg9
  z9 := Tryz.sizeOf9
  v9 := Tryz.zeroValue9
  t22 := Tryz.underlying35
  a22 := Tryz.isAgg35
  z22 := Tryz.sizeOf35
  v22 := Tryz.zeroValue35
  t25 := Tryz.underlying156
  a25 := Tryz.isAgg156
  z25 := Tryz.sizeOf156
  v25 := Tryz.zeroValue156
  t39 := Tryz.underlying159
  a39 := Tryz.isAgg159
  z39 := Tryz.sizeOf159
  v39 := Tryz.zeroValue159
  t45 := Tryz.underlying196
  a45 := Tryz.isAgg196
  z45 := Tryz.sizeOf196
  v45 := Tryz.zeroValue196
  t46 := Tryz.underlying197
  a46 := Tryz.isAgg197
  z46 := Tryz.sizeOf197
  v46 := Tryz.zeroValue197
  t50 := Tryz.underlying107
  a50 := Tryz.isAgg107
  z50 := Tryz.sizeOf107
  v50 := Tryz.zeroValue107
  t53 := Tryz.underlying203
  a53 := Tryz.isAgg203
  z53 := Tryz.sizeOf203
  v53 := Tryz.zeroValue203
  t55 := Tryz.underlying205
  a55 := Tryz.isAgg205
  z55 := Tryz.sizeOf205
  v55 := Tryz.zeroValue205
  t66 := Tryz.underlying261
  a66 := Tryz.isAgg261
  z66 := Tryz.sizeOf261
  v66 := Tryz.zeroValue261
  t70 := Tryz.underlying265
  a70 := Tryz.isAgg265
  z70 := Tryz.sizeOf265
  v70 := Tryz.zeroValue265
  t76 := Tryz.underlying294
  a76 := Tryz.isAgg294
  z76 := Tryz.sizeOf294
  v76 := Tryz.zeroValue294
  t77 := Tryz.underlying295
  a77 := Tryz.isAgg295
  z77 := Tryz.sizeOf295
  v77 := Tryz.zeroValue295 }
end Go.Proofs

namespace Go.Proofs.YtdgpbpbjlnlijaaGreatDoor
open Go.RowKit

theorem infoRow : (Tryz.prog.info? 42).map (fun i => (i.zero, i.size, i.bytes)) = some (some (.agg #[.slice none 0 0, .slice none 0 0]), Rep.row.size, 48) := by kernel_rfl
theorem isAggRow (w : World) : (isAgg 42).run Tryz.prog w = .ok true w := by kernel_rfl
theorem sizeOfRow (w : World) : (Go.sizeOf 42).run Tryz.prog w = .ok 2 w := by kernel_rfl
theorem entersCmpRow : ∀ args w, (callFunc 103 args).run Tryz.prog w = .ok (.enter 103 args) w := enters_of Tryz.func103 (by kernel_rfl) rfl

theorem sort_rows_call (w : World) (S : Nat → Prop) (base : Nat) (e : TypeId) (v : Value) (xs : List Row) (hown : OwnOf Rep.row w S base e v xs) (hlen : xs.length < 4611686018427387904) :
    Calls Tryz.prog 102 #[v, .func (.func 103) #[] #[]] w fun en w' => en = .returned (.tuple #[]) ∧ OwnOf Rep.row w' S base e v (sortBy cmpRow xs) ∧ w.grownBy w' v.ownBlock := by
  have h := sortFunc_rep Tryz.sortRows Rep.row 2 rfl (by decide) isAggRow sizeOfRow cmpRow ord_row 103 entersCmpRow (fun W x y cx cy hx hy => by
    obtain ⟨a, b, rfl, h1, h2⟩ := hx
    obtain ⟨a', b', rfl, h1', h2'⟩ := hy
    exact compareRow_any _ _ _ _ _ _ W h1 h1' h2 h2') w S base e v xs hown hlen
  exact h

set_option maxHeartbeats 2000000 in
theorem sort_rows (v : Value) (l : List Row) (w : World) (hv : SliceOf Rep.row w.cell? v l) (hf : fitRows l) :
    Calls Tryz.prog 56 #[v] w fun e w' => ∃ v', e = .returned v' ∧ SliceOf Rep.row (on w' (since w)) v' (sortBy cmpRow l) ∧ Ext w w' := by
  obtain ⟨i0, hi, hz0, hz1, hz2⟩ := info_parts infoRow
  obtain ⟨pa, ca, rfl, ha1, ha2, ha3⟩ := hv.form
  unfold maxLen at ha2
  obtain ⟨hf1, hf2⟩ := hf
  have HF := Lib.hid hf2
  clear hf2
  go_enter Tryz.func56, Tryz.ntmps56
  go_wp2_with fail
  go_loopg [3, 8] l.length (fun gk v i wr => ∃ k : Nat, k ≤ l.length ∧ gk = l.length - k ∧ i = .int .i64 k ∧ OwnOf Rep.row wr (since w) w.heap.size 42 v (l.take k) ∧ Ext w wr)
  case atStart => exact ⟨0, by omega, rfl, rfl, OwnOf.nil _ _ _ _ _, Ext.refl w⟩
  case round =>
    obtain ⟨k, hk, rfl, rfl, hown, hx⟩ := hrel
    by_cases hlt : k < l.length
    · obtain ⟨ba, oa, rfl⟩ := ha3 (by decide) (by omega)
      obtain ⟨u1, u2, c1, c2, s1, s2⟩ := row_at hv k hlt
      have hfr := HF.out l[k] (List.getElem_mem _)
      have htk := List.take_succ_eq_append_getElem hlt
      have hlen : (l.take k).length = k := by simp; omega
      replace c1 := hx.at c1
      replace c2 := hx.at c2
      replace s1 := s1.ext hx.full
      replace s2 := s2.ext hx.full
      generalize l[k] = r at s1 s2 hfr htk
      have HT := Lib.hid htk
      obtain ⟨pu1, cu1, rfl, _⟩ := s1.form
      obtain ⟨pu2, cu2, rfl, _⟩ := s2.form
      have S1 := Lib.hid s1
      have S2 := Lib.hid s2
      have HO := Lib.hid hown
      have hd : decide ((k : Int) < (l.length : Int)) = true := by simp; omega
      have e1 := cell_lt c1
      clear s1 s2 htk hown hv ha3
      go_wp2_with fail
      refine (clone_row _ _ r _ (S1.out.ext ((Ext.refl _).alloc _).full) (S2.out.ext ((Ext.refl _).alloc _).full) (by have := hfr.1; omega) (by have := hfr.2; omega)).mono ?_
      rintro e w2 ⟨a, b, rfl, t1, t2, hx2⟩
      obtain ⟨a2, k2, rfl, _⟩ := t1.form
      obtain ⟨b2, j2, rfl, _⟩ := t2.form
      have T1 := Lib.hid t1
      have T2 := Lib.hid t2
      have hz := hx2.size
      simp at hz
      have hw := hx.size
      clear t1 t2 c1 c2 e1
      go_wp2_with (at_builtin; refine wpList_append_one Rep.row (since w) rfl _ _ 35 rfl w.heap.size 42 i0 _ 48 Tryz.underlying35 hi hz0 hz1 hz2 rfl (by decide) _ (l.take k) rfl (HO.out.ext (((Ext.refl _).alloc _).trans hx2 |>.alloc _)) ⟨w2.heap.size, 0, none⟩ 1 r [.slice a2 r.vals.length k2, .slice b2 r.lin.length j2] rfl ?c1 ?c2 ?c3 ?c4 ?c5 ?_)
      case c1 =>
        have hlt2 := HO.out.lt
        have hs : Sub (on w2 (since (wr.alloc (.cells #[.slice pu1 r.vals.length cu1, .slice pu2 r.lin.length cu2] 42)))) (on (w2.alloc (.cells #[.slice a2 r.vals.length k2, .slice b2 r.lin.length j2] 42)) (avoid (since w) u3)) := by
          refine (((Ext.refl w2).alloc _).sub _).trans (on_mono _ fun j _ hj => ⟨fun he => ?_, ?_⟩)
          · have := hlt2 j he.symm
            simp [since] at hj
            omega
          · simp [since] at hj ⊢
            omega
        exact ⟨_, _, rfl, T1.out.ext hs, T2.out.ext hs⟩
      case c2 => exact cells_new w2 [.slice a2 r.vals.length k2, .slice b2 r.lin.length j2] _
      case c3 => rw [hlen]; unfold maxLen; omega
      case c4 => rw [hlen]; omega
      case c5 => simp; omega
      intro g cap w3 hown3 hgr _
      clear hz
      go_wp2_with fail
      go_roundg (l.length - (k + 1))
      case measure => omega
      case rel =>
        refine ⟨k + 1, by omega, rfl, by go_num, by rw [HT.out]; exact hown3, ?_⟩
        exact Below.grown (((hx.alloc _).trans hx2).alloc _) hgr (by simp; have := hx2.size; simp at this; omega) (fun j hj => (HO.out.lt j hj).1)
    · have : k = l.length := by omega
      subst this
      rw [List.take_of_length_le (Nat.le_refl _)] at hown
      have HO := Lib.hid hown
      clear hown hv ha3
      go_wp2_with fail
      refine (sort_rows_call _ _ _ _ _ _ HO.out (by omega)).mono ?_
      rintro e w4 ⟨rfl, hown4, hgr4⟩
      go_wp2_with fail
      go_ret
      exact ⟨_, rfl, hown4.sliceIn (fun _ _ h => h) (fun _ h => h), Below.grown hx hgr4 hx.size (fun j hj => (HO.out.lt j hj).1)⟩

end Go.Proofs.YtdgpbpbjlnlijaaGreatDoor

namespace Go.Proofs.YtdgpbpbjlnlijaaGreatDoor
open Go.RowKit

theorem mult_take (vs : List Val) (l : List Row) (k : Nat) (h : k < l.length) : mult vs (l.take (k + 1)) = mult vs (l.take k) + if cmpVals l[k].vals vs = 0 then 1 else 0 := by
  unfold mult
  rw [List.take_succ_eq_append_getElem h, List.countP_append, List.countP_cons, List.countP_nil]
  simp

end Go.Proofs.YtdgpbpbjlnlijaaGreatDoor

namespace Go.Proofs.YtdgpbpbjlnlijaaGreatDoor
open Go.RowKit

set_option maxHeartbeats 2000000 in
theorem ref_multiplicity (va vb : Value) (l : List Row) (vs : List Val) (w : World) (ha : SliceOf Rep.row w.cell? va l) (hb : SliceOf Rep.val w.cell? vb vs) :
    Calls Tryz.prog 35 #[va, vb] w fun e w' => e = .returned (.int .i64 (mult vs l)) ∧ Ext w w' := by
  have HB := Lib.hid hb
  obtain ⟨pa, ca, rfl, ha1, ha2, ha3⟩ := ha.form
  obtain ⟨pb, cb, rfl, _⟩ := hb.form
  unfold maxLen at ha2
  clear hb
  go_enter Tryz.func35, Tryz.ntmps35
  go_wp2_with fail
  go_loopg [5, 6] l.length (fun gk n i wr => ∃ k m : Nat, k ≤ l.length ∧ gk = l.length - k ∧ i = .int .i64 k ∧ n = .int .i64 m ∧ (m ≤ k ∧ mult vs (l.take k) = m) ∧ Ext w wr)
  case atStart => exact ⟨0, 0, by omega, rfl, rfl, rfl, ⟨by omega, rfl⟩, Ext.refl w⟩
  case round =>
    obtain ⟨k, m, hk, rfl, rfl, rfl, ⟨hmk, hm⟩, hx⟩ := hrel
    have HM := Lib.hid hm
    clear hm
    by_cases hlt : k < l.length
    · obtain ⟨ba, oa, rfl⟩ := ha3 (by decide) (by omega)
      obtain ⟨u1, u2, c1, c2, s1, s2⟩ := row_at ha k hlt
      have hdr := mult_take vs l k hlt
      generalize l[k] = x at s1 s2 hdr
      replace c1 := hx.at c1
      replace s1 := s1.ext hx.full
      have HD := Lib.hid hdr
      have S1 := Lib.hid s1
      obtain ⟨p1, q1, rfl, _⟩ := s1.form
      have hd : decide ((k : Int) < (l.length : Int)) = true := by simp; omega
      have hd1 : (k : Int) < (l.length : Int) := by omega
      clear s1 s2 c2 hdr ha ha3
      go_wp2_with fail
      refine (ref_compareRows _ _ x.vals vs _ S1.out (HB.out.ext hx.full)).mono ?_
      rintro e w1 ⟨rfl, hx1⟩
      replace hx := hx.trans hx1.ext
      clear hx1 c1
      generalize hq : cmpVals x.vals vs = q
      have HQ := Lib.hid hq
      clear hq
      by_cases hq0 : q = 0
      · subst hq0
        go_wp2_with fail
        go_roundg (l.length - (k + 1))
        case measure => omega
        case rel => exact ⟨k + 1, m + 1, by omega, rfl, by go_num, by go_num, ⟨by omega, by rw [HD.out, HQ.out, HM.out, if_pos rfl]⟩, hx⟩
      · have hqb : (q == 0) = false := by simp [hq0]
        have HQ0 := Lib.hid hq0
        clear hq0
        go_wp2_with fail
        go_roundg (l.length - (k + 1))
        case measure => omega
        case rel => exact ⟨k + 1, m, by omega, rfl, by go_num, rfl, ⟨by omega, by rw [HD.out, HQ.out, HM.out, if_neg HQ0.out, Nat.add_zero]⟩, hx⟩
    · have : k = l.length := by omega
      subst this
      go_wp2_with fail
      go_ret
      exact ⟨ret_int (by rw [← HM.out, List.take_length]), hx⟩

end Go.Proofs.YtdgpbpbjlnlijaaGreatDoor

namespace Go.Proofs.YtdgpbpbjlnlijaaGreatDoor
open Go.RowKit

theorem old_avoid {α : Type} {R : Rep α} {W w' : World} {S : Nat → Prop} {e : TypeId} {v : Value} {xs : List α} (hb : Below W.heap.size W w') (hown : OwnOf R w' S W.heap.size e v xs) :
    Sub (on W (fun k => k < W.heap.size)) (on w' (avoid (fun k => k < W.heap.size) v)) :=
  (below_sub hb fun _ h => h).trans (on_mono _ fun k _ hk => ⟨fun he => by have := (hown.lt k he.symm).1; omega, hk⟩)
end Go.Proofs.YtdgpbpbjlnlijaaGreatDoor

namespace Go.Proofs.YtdgpbpbjlnlijaaGreatDoor
open Go.RowKit

theorem slice_step (l : List Tup) (x : Int) (k : Nat) (h : k < l.length) : sliceRows (l.take (k + 1)) x = sliceRows (l.take k) x ++ if (validB l[k].from_ l[k].to_ && decide (l[k].from_ ≤ x) && decide (x < l[k].to_)) = true then [tupRow l[k]] else [] := by
  rw [List.take_succ_eq_append_getElem h]
  unfold sliceRows
  rw [List.filter_append, List.map_append]
  congr 1
  rw [List.filter_cons, List.filter_nil]
  show List.map tupRow (if holdsAt x l[k] = true then [l[k]] else []) = _
  rw [show holdsAt x l[k] = (validB l[k].from_ l[k].to_ && decide (l[k].from_ ≤ x) && decide (x < l[k].to_)) from rfl]
  split <;> rfl
theorem sliceRows_len (l : List Tup) (x : Int) : (sliceRows l x).length = cntAt l x := by unfold sliceRows cntAt; rw [List.length_map]

end Go.Proofs.YtdgpbpbjlnlijaaGreatDoor

namespace Go.Proofs.YtdgpbpbjlnlijaaGreatDoor
open Go.RowKit

set_option maxHeartbeats 1000000 in
theorem includes_day (f t x : Int) (w : World) :
    Calls Tryz.prog 54 #[perV f t, .int .i64 x] w fun e w' => e = .returned (.bool (validB f t && decide (f ≤ x) && decide (x < t))) ∧ Ext w w' := by
  go_enter Tryz.func54, Tryz.ntmps54
  go_wp2_with fail
  refine (valid_any f t _).mono ?_
  rintro e w1 ⟨rfl, x1⟩
  have d0 : w1.cell? ⟨w.heap.size, 0, none⟩ = some (.int .i64 f) := x1.at (by go_simp)
  have d1 : w1.cell? ⟨w.heap.size, 1, none⟩ = some (.int .i64 t) := x1.at (by go_simp)
  have X1 := Lib.hid (show Ext w w1 from ((Ext.refl w).alloc _).trans x1)
  have e1 := cell_lt d1
  clear x1
  cases hvb : validB f t with
  | false =>
    go_wp2_with fail
    go_ret
    exact ⟨by rw [hvb]; simp, X1.out⟩
  | true =>
    by_cases h1 : f ≤ x
    · have hd1 : decide (f ≤ x) = true := by simp [h1]
      by_cases h2 : x < t
      · have hd2 : decide (x < t) = true := by simp [h2]
        go_wp2_with fail
        go_ret
        exact ⟨by rw [hvb]; simp [h1, h2], X1.out⟩
      · have hd2 : decide (x < t) = false := by simp [h2]
        go_wp2_with fail
        go_ret
        exact ⟨by rw [hvb]; simp [h1, h2], X1.out⟩
    · have hd1 : decide (f ≤ x) = false := by simp [h1]
      go_wp2_with fail
      go_ret
      exact ⟨by rw [hvb, hd1]; simp, X1.out⟩

theorem fit_slice {l : List Tup} (h : fitTs l) (x : Int) : fitRows (sliceRows l x) := by
  refine ⟨?_, fun r hr => ?_⟩
  · rw [sliceRows_len]
    exact Nat.le_trans (List.length_filter_le _ _) h.1
  · unfold sliceRows at hr
    obtain ⟨t, ht, rfl⟩ := List.mem_map.1 hr
    exact h.2 t (List.mem_filter.1 ht).1

set_option maxRecDepth 100000 in
set_option maxHeartbeats 4000000 in
theorem timeslice_gen (v : Value) (l : List Tup) (x : Int) (w : World) (hv : SliceOf Rep.tup w.cell? v l) (hnl : l.length ≤ 1099511627776) (hf : fitRows (sliceRows l x)) :
    Calls Tryz.prog 22 #[v, .int .i64 x] w fun e w' => ∃ v', e = .returned v' ∧ SliceOf Rep.row (on w' (since w)) v' (sortBy cmpRow (sliceRows l x)) ∧ Ext w w' := by
  obtain ⟨i0, hi, hz0, hz1, hz2⟩ := info_parts infoRow
  obtain ⟨p, cap, rfl, hc1, hc2, hp⟩ := hv.form
  obtain ⟨N, hN⟩ : ∃ N, N = l.length := ⟨_, rfl⟩
  have HV := Lib.hid hv
  rw [← hN]
  have HN := Lib.hid hN
  have HP := Lib.hid hp
  have HF := Lib.hid hf
  have hNl : N ≤ 1099511627776 := by rw [hN]; exact hnl
  clear hv hN hp hc1 hc2 hf hnl
  go_enter Tryz.func22, Tryz.ntmps22
  go_wp2_with fail
  go_loopg [5, 10] N (fun gk vo vi wr => ∃ (k : Nat) (u : Value) (o : List Row), k ≤ N ∧ gk = N - k ∧ vi = .int .i64 k ∧ u = vo ∧ Hid (OwnOf Rep.row wr (fun k => k < w.heap.size) w.heap.size 42 u o) ∧ Hid (o = sliceRows (l.take k) x) ∧ Ext w wr)
  case atStart => exact ⟨0, _, [], by omega, rfl, rfl, rfl, OwnOf.nil _ _ _ _ _, rfl, Ext.refl w⟩
  case round =>
    obtain ⟨k, u, o, hk, rfl, rfl, rfl, OW, AS, hx⟩ := hrel
    by_cases hlt : k < N
    · have hkl : k < l.length := by have := HN.out; omega
      obtain ⟨b, o', rfl⟩ := HP.out (by decide) (by omega)
      have hv := HV.out
      rw [← HN.out] at hv
      obtain ⟨ta, tb, c0, c1, c2, c3, g0, g1, r1, r2⟩ := tup_at hv k hkl
      obtain ⟨pa, ka, ta', _⟩ := g0.form
      obtain ⟨pb, kb, tb', _⟩ := g1.form
      subst ta' tb'
      replace c0 := hx.at c0
      replace c1 := hx.at c1
      replace c2 := hx.at c2
      replace c3 := hx.at c3
      have hst := slice_step l x k hkl
      have hol : o.length ≤ 1099511627775 := by
        rw [AS.out, sliceRows_len]
        exact Nat.le_trans (List.length_filter_le _ _) (Nat.le_trans (List.length_take_le _ _) (by omega))
      rw [← AS.out] at hst
      unfold tupRow at hst
      generalize l[k] = y at c0 c1 c2 c3 g0 g1 r1 r2 hst
      obtain ⟨vs, f, t, ln⟩ := y
      dsimp only at c0 c1 c2 c3 g0 g1 r1 r2 hst
      have HST := Lib.hid hst
      have G0 := Lib.hid g0
      have G1 := Lib.hid g1
      have HOL := Lib.hid hol
      have hd : decide ((k : Int) < (N : Int)) = true := by simp; omega
      have e0 := cell_lt c0
      clear hst g0 g1 r1 r2 hv hol
      go_wp2_with fail
      refine (includes_day f t x _).mono ?_
      rintro e w1 ⟨rfl, x1⟩
      have d0 : w1.cell? ⟨wr.heap.size, 0, none⟩ = some (.slice pa vs.length ka) := x1.at (by go_simp)
      have d1 : w1.cell? ⟨wr.heap.size, 1, none⟩ = some (.int .i64 f) := x1.at (by go_simp)
      have d2 : w1.cell? ⟨wr.heap.size, 2, none⟩ = some (.int .i64 t) := x1.at (by go_simp)
      have d3 : w1.cell? ⟨wr.heap.size, 3, none⟩ = some (.slice pb ln.length kb) := x1.at (by go_simp)
      have X1 := Lib.hid (show Ext wr w1 from ((Ext.refl wr).alloc _).trans x1)
      have e1 := cell_lt d0
      clear x1 c0 c1 c2 c3 e0
      cases hvb : (validB f t && decide (f ≤ x) && decide (x < t)) with
      | true =>
        have HVB := Lib.hid hvb
        clear hvb
        go_wp2_with fail
        refine (tup_row pa pb vs.length ka ln.length kb f t _).mono ?_
        rintro e w2 ⟨rfl, x2g⟩
        have x2 := x2g.ext
        clear x2g
        have XA := Lib.hid (hx.trans ((X1.out.trans x2).alloc (.cells #[.slice pa vs.length ka, .slice pb ln.length kb] 42)))
        have OA := Lib.hid (OW.out.ext ((X1.out.trans x2).alloc (.cells #[.slice pa vs.length ka, .slice pb ln.length kb] 42)))
        have B1 : o.length + 1 ≤ maxLen := by have := HOL.out; unfold maxLen; omega
        have B2 : (o.length + 1) * 48 ≤ 140737488355328 := by have := HOL.out; omega
        clear x2
        go_wp2_with (at_builtin; refine wpList_append_one Rep.row (fun k => k < w.heap.size) rfl _ _ 35 rfl w.heap.size 42 i0 _ 48 Tryz.underlying35 hi hz0 hz1 hz2 rfl (by decide) u o rfl (by exact OA.out) ⟨w2.heap.size, 0, none⟩ 1 ⟨vs, ln⟩ [.slice pa vs.length ka, .slice pb ln.length kb] rfl (by
            have hs : Sub w.cell? (on (w2.alloc (.cells #[.slice pa vs.length ka, .slice pb ln.length kb] 42)) (avoid (fun k => k < w.heap.size) u)) := (full_on w _ fun _ h => h).trans (old_avoid XA.out OA.out)
            exact ⟨_, _, rfl, G0.out.ext hs, G1.out.ext hs⟩) (by exact cells_new w2 [.slice pa vs.length ka, .slice pb ln.length kb] _) B1 B2 (by exact XA.out.size) ?_)
        intro g cap w3 own gr _
        have hxx : Ext w w3 := XA.out.grownNew gr OW.out.base
        have OW2 := Lib.hid own
        clear own gr d0 d1 d2 d3 e1
        go_wp2_with fail
        go_roundg (N - (k + 1))
        case measure => omega
        case rel => exact ⟨k + 1, _, o ++ [(⟨vs, ln⟩ : Row)], by omega, rfl, by go_num, rfl, OW2.out, by show _ = _; rw [HST.out, if_pos HVB.out], hxx⟩
      | false =>
        have HVB := Lib.hid hvb
        clear hvb
        go_wp2_with fail
        go_roundg (N - (k + 1))
        case measure => omega
        case rel => exact ⟨k + 1, u, o, by omega, rfl, by go_num, rfl, OW.out.ext X1.out, by show _ = _; rw [HST.out, HVB.out, if_neg (by decide), List.append_nil], hx.trans X1.out⟩
    · have hkN : k = N := by omega
      have hd : ¬ (k : Int) < (N : Int) := by omega
      have HFS := Lib.hid (show o = sliceRows l x from by
        have h := AS.out
        rw [hkN, HN.out, List.take_length] at h
        exact h)
      have S5 := Lib.hid (show SliceOf Rep.row wr.cell? u (sliceRows l x) from by rw [← HFS.out]; exact OW.out.slice)
      clear hkN
      go_wp2_with fail
      refine (sort_rows _ (sliceRows l x) _ S5.out HF.out).mono ?_
      rintro e w4 ⟨v4, rfl, s4, x4⟩
      have S4 := Lib.hid (s4.ext (on_mono w4 fun k _ hk => Nat.le_trans hx.size hk))
      have X4 := Lib.hid (hx.trans x4)
      clear s4 x4
      go_wp2_with fail
      go_ret
      exact ⟨_, rfl, S4.out, X4.out⟩
theorem timeslice_day (v : Value) (l : List Tup) (x : Int) (w : World) (hv : SliceOf Rep.tup w.cell? v l) (hf : fitTs l) :
    Calls Tryz.prog 22 #[v, .int .i64 x] w fun e w' => ∃ v', e = .returned v' ∧ SliceOf Rep.row (on w' (since w)) v' (sortBy cmpRow (sliceRows l x)) ∧ Ext w w' :=
  timeslice_gen v l x w hv (by have := hf.1; omega) (fit_slice hf x)

end Go.Proofs.YtdgpbpbjlnlijaaGreatDoor

namespace Go.Proofs.YtdgpbpbjlnlijaaGreatDoor
open Go.RowKit

theorem inner_rows (tr : List Val → Bool) (a b : List Tup) (t : Int) : (sliceRows (innerT tr a b) t).Perm (snapJoin tr (sliceRows a t) (sliceRows b t)) := (normT_rows _ t).trans (join_rows tr a b t)
theorem left_rows (tr : List Val → Bool) (w : Nat) (a b : List Tup) (t : Int) : (sliceRows (leftT tr w a b) t).Perm (snapLeft tr w (sliceRows a t) (sliceRows b t)) := (normT_rows _ t).trans (leftRaw_rows tr w a b t)
end Go.Proofs.YtdgpbpbjlnlijaaGreatDoor

namespace Go.Proofs.YtdgpbpbjlnlijaaGreatDoor
open Go.RowKit Go.Deep

theorem mult_append (vs : List Val) (x y : List Row) : mult vs (x ++ y) = mult vs x + mult vs y := by simp [mult, List.countP_append]
theorem mult_one {vs : List Val} {r : Row} (h : r.vals = vs) : mult vs [r] = 1 := by
  simp [mult, h, (ord_vals.eq vs vs).2 rfl]
theorem mult_zero {vs : List Val} {l : List Row} (h : ∀ p ∈ l, p.vals ≠ vs) : mult vs l = 0 := by
  unfold mult
  rw [List.countP_eq_zero]
  intro p hp
  simpa [ord_vals.eq] using h p hp
end Go.Proofs.YtdgpbpbjlnlijaaGreatDoor

namespace Go.Proofs.YtdgpbpbjlnlijaaGreatDoor
open Go.RowKit

theorem mult_nil (v : List Val) : mult v [] = 0 := rfl
theorem mult_cons (v : List Val) (r : Row) (l : List Row) : mult v (r :: l) = mult v [r] + mult v l := by
  rw [← mult_append]
  rfl
theorem mult_other {vs : List Val} {r : Row} (h : r.vals ≠ vs) : mult vs [r] = 0 := mult_zero (by simpa using h)
theorem mult_perm (v : List Val) {l l' : List Row} (h : l.Perm l') : mult v l = mult v l' := h.countP_eq _
/-- a row without its lineage -/
def plainRow (r : Row) : Row := ⟨r.vals, []⟩
end Go.Proofs.YtdgpbpbjlnlijaaGreatDoor

namespace Go.Proofs.YtdgpbpbjlnlijaaGreatDoor
open Go.RowKit

/-- the rows of four values that begin with the given ones -/
def starts4 (vs : List Val) (r : Row) : Bool := decide (r.vals.length = 4) && (cmpVals (r.vals.take 2) vs == 0)
def startN (vs : List Val) (l : List Row) : Nat := l.countP (starts4 vs)
theorem startN_take (vs : List Val) (l : List Row) (k : Nat) (h : k < l.length) : startN vs (l.take (k + 1)) = startN vs (l.take k) + if starts4 vs l[k] = true then 1 else 0 := by
  unfold startN
  rw [List.take_succ_eq_append_getElem h, List.countP_append, List.countP_cons, List.countP_nil, Nat.zero_add]
theorem left_split (tr : List Val → Bool) (w : Nat) (a b : List Tup) (t : Int) : ∃ ps, (sliceRows (leftT tr w a b) t).Perm (sliceRows (innerT tr a b) t ++ ps) := by
  refine ⟨(sliceRows a t).flatMap fun x => padOf w (joinRow tr (sliceRows b t) x) x, (left_rows tr w a b t).trans ?_⟩
  refine List.Perm.trans ?_ ((inner_rows tr a b t).symm.append_right _)
  exact (flat_perm2 _ _ _).symm
theorem left_mult (tr : List Val → Bool) (w : Nat) (a b : List Tup) (t : Int) (vs : List Val) : mult vs (sortBy cmpRow (sliceRows (innerT tr a b) t)) ≤ mult vs (sortBy cmpRow (sliceRows (leftT tr w a b) t)) := by
  obtain ⟨ps, h⟩ := left_split tr w a b t
  rw [mult_perm vs (sortBy_perm _ _), mult_perm vs (sortBy_perm _ (sliceRows (leftT tr w a b) t)), mult_perm vs h, mult_append]
  omega
theorem left_longer (tr : List Val → Bool) (w : Nat) (a b : List Tup) (t : Int) : (sortBy cmpRow (sliceRows (innerT tr a b) t)).length ≤ (sortBy cmpRow (sliceRows (leftT tr w a b) t)).length := by
  obtain ⟨ps, h⟩ := left_split tr w a b t
  rw [sortBy_length, sortBy_length, h.length_eq, List.length_append]
  omega
theorem starts_flat (tr : List Val → Bool) (B : List Row) (hB : ∀ y ∈ B, y.vals.length = 2) (vs : List Val) : ∀ A : List Row, (∀ x ∈ A, x.vals.length = 2) → mult vs A ≤ startN vs (A.flatMap fun x => joinRow tr B x ++ padOf 2 (joinRow tr B x) x) := by
  intro A
  induction A with
  | nil => intro _; exact Nat.le_refl _
  | cons x A ih =>
    intro hA
    have h1 := ih fun y hy => hA y (by simp [hy])
    have hx := hA x (by simp)
    have e : startN vs ((x :: A).flatMap fun x => joinRow tr B x ++ padOf 2 (joinRow tr B x) x) = startN vs (joinRow tr B x ++ padOf 2 (joinRow tr B x) x) + startN vs (A.flatMap fun x => joinRow tr B x ++ padOf 2 (joinRow tr B x) x) := by
      unfold startN
      rw [List.flatMap_cons, List.countP_append]
    rw [mult_cons, e]
    refine Nat.add_le_add ?_ h1
    by_cases c : x.vals = vs
    · rw [mult_one c]
      refine Nat.succ_le_of_lt (List.countP_pos_iff.2 ?_)
      cases hm : (joinRow tr B x).isEmpty with
      | true =>
        refine ⟨padRow 2 x, List.mem_append.2 (.inr (by unfold padOf; rw [hm]; simp)), ?_⟩
        unfold starts4 padRow
        simp only
        rw [List.take_append_of_le_length (by omega), List.take_of_length_le (by omega), c]
        simp [hx, ← c, (ord_vals.eq x.vals x.vals).2 rfl]
      | false =>
        obtain ⟨z, hz⟩ := List.isEmpty_eq_false_iff_exists_mem.1 hm
        refine ⟨z, List.mem_append.2 (.inl hz), ?_⟩
        unfold joinRow at hz
        obtain ⟨y, hy, rfl⟩ := List.mem_map.1 (List.mem_filter.1 hz).1
        have hy2 := hB y hy
        unfold starts4 pairRow
        simp only
        rw [List.take_append_of_le_length (by omega), List.take_of_length_le (by omega), c]
        simp [hx, hy2, ← c, (ord_vals.eq x.vals x.vals).2 rfl]
    · rw [mult_other c]
      omega
theorem startN_perm (vs : List Val) {l l' : List Row} (h : l.Perm l') : startN vs l = startN vs l' := h.countP_eq _
theorem slice_len2 {l : List Tup} (h : ∀ x ∈ l, x.vals.length = 2) (t : Int) : ∀ r ∈ sliceRows l t, r.vals.length = 2 := by
  intro r hr
  unfold sliceRows at hr
  obtain ⟨x, hx, rfl⟩ := List.mem_map.1 hr
  exact h x (List.mem_filter.1 hx).1
theorem left_starts (tr : List Val → Bool) {a b : List Tup} (ha : ∀ x ∈ a, x.vals.length = 2) (hb : ∀ x ∈ b, x.vals.length = 2) (t : Int) (vs : List Val) : mult vs (sortBy cmpRow (sliceRows a t)) ≤ startN vs (sortBy cmpRow (sliceRows (leftT tr 2 a b) t)) := by
  rw [mult_perm vs (sortBy_perm _ _), startN_perm vs (sortBy_perm _ _), startN_perm vs (left_rows tr 2 a b t)]
  exact starts_flat tr _ (slice_len2 hb t) vs _ (slice_len2 ha t)
theorem genTups_two (x : List Num5) (m : Nat) : ∀ t ∈ genTups x m, t.vals.length = 2 := fun t ht => by
  obtain ⟨y, _, rfl⟩ := List.mem_map.1 ht
  rfl
/-- a row with its halves exchanged -/
def turnR (r : Row) : Row := ⟨r.vals.drop 2 ++ r.vals.take 2, r.lin⟩
/-- the equality of the first columns -/
def eqCols : List ExprI := [⟨2, 0, 0, 0, nV⟩, ⟨2, 0, 0, 2, nV⟩, ⟨6, 0, 1, 0, nV⟩]
end Go.Proofs.YtdgpbpbjlnlijaaGreatDoor

namespace Go.Proofs.YtdgpbpbjlnlijaaGreatDoor
open Go.RowKit

theorem fitN_fitTs {l : List Tup} (h : fitN l) : fitTs l := ⟨by have := h.1; omega, fun t ht => ⟨(h.2 t ht).1.1, (h.2 t ht).2⟩⟩
theorem few_fitTs {l : List Tup} (h : fewT l) (hl : l.length ≤ 8) : fitTs l := ⟨by omega, fun t ht => by have := h t ht; omega⟩

set_option maxRecDepth 100000 in
set_option maxHeartbeats 4000000 in
theorem JoinContains_walk (v0 : Value) (x : List Num5) (v1 : Value) (y : List Num5) (x0 x1 x2 x3 tm : Int) {w : World} (s0 : SliceOf Rep.num w.cell? v0 x) (s1 : SliceOf Rep.num w.cell? v1 y)
    (h0 : 0 ≤ x0 ∧ x0 ≤ 65535) (h1 : 0 ≤ x1 ∧ x1 ≤ 65535) (h2 : 0 ≤ x2 ∧ x2 ≤ 65535) (h3 : 0 ≤ x3 ∧ x3 ≤ 65535) (htm : (Lit.int .u16 tm).wf = true) (hT : TabW w) :
    Calls Tryz.prog 12 #[v0, v1, .agg #[.int .u16 x0, .int .u16 x1, .int .u16 x2, .int .u16 x3], .int .u16 tm] w fun e w' => e = .returned (.bool true) ∧ Ext w w' := by
  have htm2 : 0 ≤ tm ∧ tm ≤ 65535 := by simpa [Lit.wf, IntKind.min, IntKind.max, IntKind.signed, IntKind.bits] using htm
  have HTM := Lib.hid htm2
  clear htm htm2
  have S0 := Lib.hid s0
  have S1 := Lib.hid s1
  obtain ⟨p0, q0, rfl, _⟩ := s0.form
  obtain ⟨p1, q1, rfl, _⟩ := s1.form
  have HT := Lib.hid hT
  have HX := Lib.hid (And.intro h0 (And.intro h1 (And.intro h2 h3)))
  clear s0 s1 hT h0 h1 h2 h3
  go_enter Tryz.func12, Tryz.ntmps12
  go_wp2_with fail
  obtain ⟨bx, hbx⟩ : ∃ z, z = w.heap.size := ⟨_, rfl⟩
  obtain ⟨wb, hwb⟩ : ∃ z, z = w.alloc (.cells #[.int .u16 x0, .int .u16 x1, .int .u16 x2, .int .u16 x3] 64) := ⟨_, rfl⟩
  have HXB := Lib.hid (show Ext w wb from by rw [hwb]; exact (Ext.refl w).alloc _)
  have HBX := Lib.hid (show wb.cell? ⟨bx, 0, none⟩ = some (.int .u16 x0) ∧ wb.cell? ⟨bx, 1, none⟩ = some (.int .u16 x1) ∧ wb.cell? ⟨bx, 2, none⟩ = some (.int .u16 x2) ∧ wb.cell? ⟨bx, 3, none⟩ = some (.int .u16 x3) from by
    rw [hbx, hwb]
    exact ⟨(by go_simp), (by go_simp), (by go_simp), (by go_simp)⟩)
  try rw [← hbx]
  try rw [← hwb]
  clear hbx hwb
  refine (tuples_gen _ x 8 (by decide) _ (S0.out.ext HXB.out.full)).mono ?_
  rintro e w1 ⟨u1, rfl, t1, x1'⟩
  have la := genTups_len x 8
  have fa := genTups_few x 8
  have wa := genTups_two x 8
  generalize genTups x 8 = a at t1 la fa wa
  obtain ⟨r1, k1, rfl, _⟩ := t1.form
  have TA := Lib.hid (t1.ext (on_sub _ _))
  have X1 := Lib.hid (HXB.out.trans x1')
  have XB1 := Lib.hid x1'
  have HLA := Lib.hid la
  have HFA := Lib.hid (And.intro fa wa)
  obtain ⟨na, hna⟩ : ∃ z, z = a.length := ⟨_, rfl⟩
  rw [← hna] at TA ⊢
  clear t1 x1' la fa wa S0 HXB hna
  go_wp2_with fail
  refine (tuples_gen _ y 8 (by decide) _ (S1.out.ext X1.out.full)).mono ?_
  rintro e w2 ⟨u2, rfl, t2, x2'⟩
  have lb := genTups_len y 8
  have fb := genTups_few y 8
  have wb := genTups_two y 8
  generalize genTups y 8 = b at t2 lb fb wb
  obtain ⟨r2, k2, rfl, _⟩ := t2.form
  have TB := Lib.hid (t2.ext (on_sub _ _))
  replace TA := Lib.hid (TA.out.ext x2'.full)
  have X2 := Lib.hid (X1.out.trans x2')
  have HLB := Lib.hid lb
  have HFB := Lib.hid (And.intro fb wb)
  obtain ⟨nb, hnb⟩ : ∃ z, z = b.length := ⟨_, rfl⟩
  rw [← hnb] at TB ⊢
  have xb2 := XB1.out.trans x2'
  have d0 := xb2.at HBX.out.1
  have d1 := xb2.at HBX.out.2.1
  have d2 := xb2.at HBX.out.2.2.1
  have d3 := xb2.at HBX.out.2.2.2
  have e0 := cell_lt d0
  clear t2 x2' lb fb wb S1 X1 XB1 HBX xb2 hnb
  go_wp2_with fail
  refine (predicate_join x0 x1 x2 x3 _ HX.out.1 HX.out.2.1 HX.out.2.2.1 HX.out.2.2.2).mono ?_
  rintro e w3 ⟨u3, rfl, t3, x3'⟩
  have hel := predL_len [1, 2, 1, 2] x0 x1 x2 x3 0
  obtain ⟨pr, hpr⟩ : ∃ z : Int, z = (((predL [1, 2, 1, 2] x0 x1 x2 x3 0).length - 1 : Nat) : Int) := ⟨_, rfl⟩
  rw [← hpr]
  generalize predL [1, 2, 1, 2] x0 x1 x2 x3 0 = es at t3 hel
  obtain ⟨p3, q3, rfl, _⟩ := t3.form
  have HE := Lib.hid t3
  have HEL := Lib.hid (show es.length ≤ 1000 from by omega)
  obtain ⟨ne, hne⟩ : ∃ z, z = es.length := ⟨_, rfl⟩
  rw [← hne] at HE ⊢
  replace TA := Lib.hid (TA.out.ext x3'.full)
  replace TB := Lib.hid (TB.out.ext x3'.full)
  have X3 := Lib.hid (X2.out.trans x3')
  clear t3 x3' X2 d0 d1 d2 d3 e0 hpr hel hne
  obtain ⟨dy, hdy⟩ : ∃ z, z = tm % 60 := ⟨_, rfl⟩
  have eD : tm % 60 = dy := hdy.symm
  have hD0 : 0 ≤ dy ∧ dy < 60 := by have := HTM.out; omega
  have hT0 := HTM.out.1
  have hT1 := HTM.out.2
  clear hdy
  go_wp2_with fail
  try rw [eD]
  refine (inner_any _ _ a b _ es pr _ TA.out TB.out (by have := HLA.out; omega) (by have := HLB.out; omega) HE.out HEL.out HFA.out.1 HFB.out.1 (HT.out.ext X3.out)).mono ?_
  rintro e w4 ⟨u4, rfl, t4, x4'⟩
  obtain ⟨tr, htr⟩ : ∃ tr, tr = trE es pr := ⟨_, rfl⟩
  rw [← htr] at t4
  have HTR := Lib.hid htr
  have HIF := Lib.hid (show fitTs (innerT tr a b) from fitN_fitTs (inner_fitN HFA.out.1 HFB.out.1 HLA.out HLB.out))
  have T4 := Lib.hid (t4.ext (on_sub _ _))
  replace TA := Lib.hid (TA.out.ext x4'.full)
  replace TB := Lib.hid (TB.out.ext x4'.full)
  replace HE := Lib.hid (HE.out.ext x4'.full)
  have X4 := Lib.hid (X3.out.trans x4')
  obtain ⟨nI, hnI⟩ : ∃ z, z = (innerT tr a b).length := ⟨_, rfl⟩
  obtain ⟨r4, k4, rfl, _⟩ := t4.form
  rw [← hnI] at T4 ⊢
  clear t4 x4' X3 htr hnI
  go_wp2_with fail
  refine (timeslice_day _ (innerT tr a b) dy _ T4.out HIF.out).mono ?_
  rintro e w5 ⟨u5, rfl, t5, x5⟩
  have T5 := Lib.hid (t5.ext (on_sub _ _))
  replace TA := Lib.hid (TA.out.ext x5.full)
  replace TB := Lib.hid (TB.out.ext x5.full)
  replace HE := Lib.hid (HE.out.ext x5.full)
  have X5 := Lib.hid (X4.out.trans x5)
  obtain ⟨r5, k5, rfl, _, _, hp5⟩ := t5.form
  obtain ⟨IN, hIN⟩ : ∃ z, z = sortBy cmpRow (sliceRows (innerT tr a b) dy) := ⟨_, rfl⟩
  rw [← hIN] at T5 hp5 ⊢
  have HIN := Lib.hid hIN
  obtain ⟨nI, hnI⟩ : ∃ z, z = IN.length := ⟨_, rfl⟩
  rw [← hnI] at T5 hp5 ⊢
  have HNI := Lib.hid hnI
  have HP5 := Lib.hid hp5
  clear t5 x5 X4 T4 hIN hnI hp5
  go_wp2_with fail
  refine (leftOuter_any _ _ a b _ es pr 2 _ TA.out TB.out (by have := HLA.out; omega) (by have := HLB.out; omega) HE.out HEL.out HFA.out.1 HFB.out.1 (HT.out.ext X5.out)).mono ?_
  rintro e w6 ⟨u6, rfl, t6, x6⟩
  rw [← HTR.out, nullW_two] at t6
  have HJF := Lib.hid (show fitTs (leftT tr 2 a b) from fitN_fitTs (left_fitN HFA.out.1 HFB.out.1 HLA.out HLB.out (by decide)))
  have T6 := Lib.hid (t6.ext (on_sub _ _))
  replace TA := Lib.hid (TA.out.ext x6.full)
  replace T5 := Lib.hid (T5.out.ext x6.full)
  have X6 := Lib.hid (X5.out.trans x6)
  obtain ⟨nJ, hnJ⟩ : ∃ z, z = (leftT tr 2 a b).length := ⟨_, rfl⟩
  obtain ⟨r6, k6, rfl, _⟩ := t6.form
  rw [← hnJ] at T6 ⊢
  clear t6 x6 X5 hnJ TB HE
  go_wp2_with fail
  try rw [eD]
  refine (timeslice_day _ (leftT tr 2 a b) dy _ T6.out HJF.out).mono ?_
  rintro e w7 ⟨u7, rfl, t7, x7⟩
  have T7 := Lib.hid (t7.ext (on_sub _ _))
  replace TA := Lib.hid (TA.out.ext x7.full)
  replace T5 := Lib.hid (T5.out.ext x7.full)
  have X7 := Lib.hid (X6.out.trans x7)
  have hml : ∀ vs, mult vs (sortBy cmpRow (sliceRows (innerT tr a b) dy)) ≤ mult vs (sortBy cmpRow (sliceRows (leftT tr 2 a b) dy)) := left_mult tr 2 a b dy
  have hst : ∀ vs, mult vs (sortBy cmpRow (sliceRows a dy)) ≤ startN vs (sortBy cmpRow (sliceRows (leftT tr 2 a b) dy)) := left_starts tr HFA.out.2 HFB.out.2 dy
  have hlo := left_longer tr 2 a b dy
  have hlf : (sortBy cmpRow (sliceRows (leftT tr 2 a b) dy)).length ≤ 1048576 := by rw [sortBy_length]; exact (fit_slice HJF.out dy).1
  rw [← HIN.out] at hml hlo
  obtain ⟨r7, k7, rfl, _, _, hp7⟩ := t7.form
  generalize sortBy cmpRow (sliceRows (leftT tr 2 a b) dy) = LE at T7 hp7 hml hst hlo hlf ⊢
  obtain ⟨nL, hnL⟩ : ∃ z, z = LE.length := ⟨_, rfl⟩
  rw [← hnL] at T7 hp7 hlo hlf ⊢
  rw [← HNI.out] at hlo
  have HNL := Lib.hid hnL
  have HP7 := Lib.hid hp7
  have HML := Lib.hid hml
  have HST := Lib.hid hst
  have hLI : decide (nI ≤ nL) = true := decide_eq_true hlo
  have hLI2 : decide ((nI : Int) ≤ (nL : Int)) = true := decide_eq_true (by omega)
  clear t7 x7 X6 T6 hnL hp7 hml hst
  go_wp2_with fail
  go_loopg [51] nI (fun gk vi wr => ∃ (k : Nat), k ≤ nI ∧ gk = nI - k ∧ vi = .int .i64 k ∧ Hid (Ext w7 wr))
  case atStart => exact ⟨0, by omega, rfl, rfl, Ext.refl w7⟩
  case round =>
    obtain ⟨k, hk, rfl, rfl, X8⟩ := hrel
    by_cases hlt : k < nI
    · have hkl : k < IN.length := by have := HNI.out; omega
      have hd : decide ((k : Int) < (nI : Int)) = true := by simp; omega
      obtain ⟨b0, o, rfl⟩ := HP5.out (by decide) (by omega)
      have hv := T5.out
      rw [HNI.out] at hv
      obtain ⟨ua, ub, c0, c1, g0, g1⟩ := row_at hv k hkl
      obtain ⟨pa, ka, rfl, _⟩ := g0.form
      obtain ⟨pb, kb, rfl, _⟩ := g1.form
      have hm := HML.out IN[k].vals
      replace c0 := X8.out.at c0
      replace c1 := X8.out.at c1
      generalize IN[k].vals = vs at c0 g0 hm
      generalize IN[k].lin.length = nl at c1
      have G0 := Lib.hid (g0.ext X8.out.full)
      have HM := Lib.hid hm
      obtain ⟨nv, hnv⟩ : ∃ z, z = vs.length := ⟨_, rfl⟩
      rw [← hnv] at c0 G0
      have e0 := cell_lt c0
      clear hv hm g0 g1 hnv
      go_wp2_with fail
      have xn := (Ext.refl wr).alloc (.cells #[.slice pa nv ka, .slice pb nl kb] 42)
      have d1 : (wr.alloc (.cells #[.slice pa nv ka, .slice pb nl kb] 42)).cell? ⟨wr.heap.size, 0, none⟩ = some (.slice pa nv ka) := by go_simp
      generalize (wr.alloc (.cells #[.slice pa nv ka, .slice pb nl kb] 42)) = w8 at xn d1 ⊢
      have hS0 : Ext wr w8.drew ∧ w8.drew.cell? ⟨wr.heap.size, 0, none⟩ = some (.slice pa nv ka) := ⟨xn.drew, d1⟩
      clear c0 c1 e0
      go_region_held3 (fun w' => Ext wr w' ∧ w'.cell? ⟨wr.heap.size, 0, none⟩ = some (.slice pa nv ka))
        (first | with_reducible assumption | with_reducible exact keepE1 (by assumption) hx3 | with_reducible exact keepE1 (by assumption) hx2)
        (first | (go_at_call 35; with_reducible refine (ref_multiplicity (.slice r7 nL k7) _ LE vs _ (by exact T7.out.ext (X8.out.trans (And.left ‹Ext wr _ ∧ _›)).full) (by exact G0.out.ext (And.left ‹Ext wr _ ∧ _›).full)).mono ?_; rintro e w2 ⟨rfl, hx2⟩) | (go_at_call 35; with_reducible refine (ref_multiplicity (.slice _ nI k5) _ IN vs _ (by exact T5.out.ext (X8.out.trans (And.left ‹Ext wr _ ∧ _›)).full) (by exact G0.out.ext (And.left ‹Ext wr _ ∧ _›).full)).mono ?_; rintro e w3 ⟨rfl, hx3⟩))
      all_goals
        clear hS0
        have X10 := Lib.hid (And.left ‹Ext wr _ ∧ _›)
        have hb : decide ((mult vs LE : Int) < (mult vs IN : Int)) = false := decide_eq_false (by have := HM.out; omega)
        have hb2 : ¬ mult vs LE < mult vs IN := by have := HM.out; omega
        go_wp2_with fail
        go_roundg (nI - (k + 1))
        case measure => omega
        case rel => exact ⟨k + 1, by omega, rfl, by go_num, X8.out.trans X10.out⟩
    · have hd : ¬ (k : Int) < (nI : Int) := by omega
      replace TA := Lib.hid (TA.out.ext X8.out.full)
      replace T7 := Lib.hid (T7.out.ext X8.out.full)
      have X11 := Lib.hid (X7.out.trans X8.out)
      clear hlt hk X8 X7 T5 HML
      go_wp2_with fail
      try rw [eD]
      refine (timeslice_day _ a dy _ TA.out (few_fitTs HFA.out.1 HLA.out)).mono ?_
      rintro e w12 ⟨u12, rfl, t12, x12⟩
      obtain ⟨r12, k12, rfl, _, _, hp12⟩ := t12.form
      have T12 := Lib.hid (t12.ext (on_sub _ _))
      replace TA := Lib.hid (TA.out.ext x12.full)
      replace T7 := Lib.hid (T7.out.ext x12.full)
      have X12 := Lib.hid (X11.out.trans x12)
      have hAl : (sortBy cmpRow (sliceRows a dy)).length ≤ 1048576 := by rw [sortBy_length]; exact (fit_slice (few_fitTs HFA.out.1 HLA.out) dy).1
      generalize hAS : sortBy cmpRow (sliceRows a dy) = AS at T12 hp12 hAl ⊢
      have HAS := Lib.hid hAS
      obtain ⟨nA, hnA⟩ : ∃ z, z = AS.length := ⟨_, rfl⟩
      rw [← hnA] at T12 hp12 hAl ⊢
      have HNA := Lib.hid hnA
      have HP12 := Lib.hid hp12
      clear t12 x12 hAS hnA hp12 X11
      go_wp2_with fail
      go_loopg [69] nA (fun gk vi wr => ∃ (k : Nat), k ≤ nA ∧ gk = nA - k ∧ vi = .int .i64 k ∧ Hid (Ext w12 wr))
      case atStart => exact ⟨0, by omega, rfl, rfl, Ext.refl w12⟩
      case round =>
        obtain ⟨k, hk, rfl, rfl, X8⟩ := hrel
        obtain ⟨wo, rfl⟩ : ∃ z, z = wr := ⟨wr, rfl⟩
        by_cases hlt : k < nA
        · have hkl : k < AS.length := by have := HNA.out; omega
          have hd : decide ((k : Int) < (nA : Int)) = true := by simp; omega
          obtain ⟨b0, o, rfl⟩ := HP12.out (by decide) (by omega)
          have hv := T12.out
          rw [HNA.out] at hv
          obtain ⟨ua, ub, c0, c1, g0, g1⟩ := row_at hv k hkl
          obtain ⟨pa, ka, rfl, _⟩ := g0.form
          obtain ⟨pb, kb, rfl, _⟩ := g1.form
          have hm := HST.out AS[k].vals
          replace c0 := X8.out.at c0
          replace c1 := X8.out.at c1
          generalize AS[k].vals = vs at c0 g0 hm
          generalize AS[k].lin.length = nl at c1
          have G0 := Lib.hid (g0.ext X8.out.full)
          have HM := Lib.hid hm
          obtain ⟨nv, hnv⟩ : ∃ z, z = vs.length := ⟨_, rfl⟩
          rw [← hnv] at c0 G0
          have e0 := cell_lt c0
          clear hv hm g0 g1 hnv
          go_wp2_with fail
          go_loopg [20, 75] nL (fun gk vn vi wr => ∃ (j m : Nat), j ≤ nL ∧ gk = nL - j ∧ vi = .int .i64 j ∧ vn = .int .i64 m ∧ (m ≤ j ∧ Hid (m = startN vs (LE.take j))) ∧ Hid (Ext wo wr) ∧ wr.cell? ⟨wo.heap.size, 0, none⟩ = some (.slice pa nv ka))
          case atStart => exact ⟨0, 0, by omega, rfl, rfl, rfl, ⟨Nat.le_refl _, rfl⟩, (Ext.refl wo).alloc _, by go_simp⟩
          case round =>
            obtain ⟨j, m, hj, rfl, rfl, rfl, ⟨hmj, HJ⟩, XI, y0⟩ := hrel
            have e1 := cell_lt y0
            by_cases hlt2 : j < nL
            · have hjl : j < LE.length := by have := HNL.out; omega
              have hd2 : decide ((j : Int) < (nL : Int)) = true := by simp; omega
              obtain ⟨b7, o7, rfl⟩ := HP7.out (by decide) (by omega)
              have hv := T7.out
              rw [HNL.out] at hv
              obtain ⟨va, vb, d0, d1, f0, f1⟩ := row_at hv j hjl
              obtain ⟨qa, la, rfl, hq1, hq2, hq⟩ := f0.form
              obtain ⟨qb, lb, rfl, _⟩ := f1.form
              have hsn := startN_take vs LE j hjl
              rw [← HJ.out] at hsn
              unfold starts4 at hsn
              have XX := Lib.hid (X8.out.trans XI.out)
              replace d0 := XX.out.at d0
              replace d1 := XX.out.at d1
              generalize LE[j].vals = us at d0 f0 hsn hq1 hq
              generalize LE[j].lin.length = ml at d1
              have e2 := cell_lt d0
              have hm1 : m + 1 ≤ 1048577 := by omega
              by_cases h4 : us.length = 4
              · obtain ⟨b8, o8, rfl⟩ := hq (by decide) (by omega)
                have s2 := f0.takeV 2 (by omega)
                rw [h4] at d0 hq1
                have S2 := Lib.hid (s2.ext X8.out.full)
                have d4 : decide (us.length = 4) = true := decide_eq_true h4
                rw [d4, Bool.true_and] at hsn
                have hcap : 2 ≤ la := by omega
                have hcapI : (2 : Int) ≤ (la : Int) := by omega
                have HSN := Lib.hid hsn
                clear hsn f0 f1 hv hq d4 h4 s2
                go_wp2_with fail
                have xn := XI.out.alloc (.cells #[.slice (some ⟨b8, o8, none⟩) 4 la, .slice qb ml lb] 42)
                have y2 : (wr.alloc (.cells #[.slice (some ⟨b8, o8, none⟩) 4 la, .slice qb ml lb] 42)).cell? ⟨wr.heap.size, 0, none⟩ = some (.slice (some ⟨b8, o8, none⟩) 4 la) := by go_simp
                have y3 : (wr.alloc (.cells #[.slice (some ⟨b8, o8, none⟩) 4 la, .slice qb ml lb] 42)).cell? ⟨wo.heap.size, 0, none⟩ = some (.slice pa nv ka) := by go_simp
                generalize (wr.alloc (.cells #[.slice (some ⟨b8, o8, none⟩) 4 la, .slice qb ml lb] 42)) = w8 at xn y2 y3 ⊢
                obtain ⟨q, hq⟩ : ∃ q, q = cmpVals (us.take 2) vs := ⟨_, rfl⟩
                rw [← hq] at HSN
                have HQ := Lib.hid hq
                have hS0 : Ext wo w8.drew ∧ w8.drew.cell? ⟨wr.heap.size, 0, none⟩ = some (.slice (some ⟨b8, o8, none⟩) 4 la) ∧ w8.drew.cell? ⟨wo.heap.size, 0, none⟩ = some (.slice pa nv ka) := ⟨xn.drew, y2, y3⟩
                clear hq d0 d1 e2 y0 e1
                go_region_held3 (fun w' => Ext wo w' ∧ w'.cell? ⟨wr.heap.size, 0, none⟩ = some (.slice (some ⟨b8, o8, none⟩) 4 la) ∧ w'.cell? ⟨wo.heap.size, 0, none⟩ = some (.slice pa nv ka))
                  (first | with_reducible assumption | with_reducible exact keepE2 (by assumption) hx2)
                  (first | (go_at_call 36; refine (ref_compareRows _ _ (us.take 2) vs _ (by exact S2.out.ext (And.left ‹Ext wo _ ∧ _›).full) (by exact G0.out.ext (And.left ‹Ext wo _ ∧ _›).full)).mono ?_; rintro e w2 ⟨rfl, gx2⟩; have hx2 := gx2.ext; rw [← HQ.out]) | fail)
                all_goals
                  clear hS0
                  obtain ⟨x13, _, y1⟩ := ‹Ext wo _ ∧ _›
                  have X13 := Lib.hid x13
                  clear x13
                  by_cases hq0 : q = 0
                  · subst hq0
                    have HN := Lib.hid (show m + 1 = startN vs (LE.take (j + 1)) from by rw [HSN.out]; rfl)
                    go_wp2_with fail
                    go_roundg (nL - (j + 1))
                    case measure => omega
                    case rel => exact ⟨j + 1, m + 1, by omega, rfl, by go_num, by go_num, ⟨by omega, HN.out⟩, X13.out, y1⟩
                  · have hqb : (q == 0) = false := by simp [hq0]
                    have HN := Lib.hid (show m = startN vs (LE.take (j + 1)) from by rw [HSN.out, hqb]; rfl)
                    clear hq0
                    go_wp2_with fail
                    go_roundg (nL - (j + 1))
                    case measure => omega
                    case rel => exact ⟨j + 1, m, by omega, rfl, by go_num, rfl, ⟨by omega, HN.out⟩, X13.out, y1⟩
              · have hb4 : ((us.length : Int) == 4) = false := by simp; omega
                have d4 : decide (us.length = 4) = false := decide_eq_false h4
                rw [d4, Bool.false_and, if_neg (by decide), Nat.add_zero] at hsn
                have HN := Lib.hid hsn.symm
                have y1 : (wr.alloc (.cells #[.slice qa us.length la, .slice qb ml lb] 42)).cell? ⟨wo.heap.size, 0, none⟩ = some (.slice pa nv ka) := by go_simp
                clear hsn f0 f1 hv hq d4 h4
                go_wp2_with fail
                go_quiet (fail)
                go_wp2_with fail
                go_roundg (nL - (j + 1))
                case measure => omega
                case rel => exact ⟨j + 1, m, by omega, rfl, by go_num, rfl, ⟨by omega, HN.out⟩, (XI.out.alloc _).drewN _, ((Ext.refl _).drewN _).at y1⟩
            · have hjn : j = nL := by omega
              have hd2 : ¬ (j : Int) < (nL : Int) := by omega
              have HJ2 := Lib.hid (show mult vs AS ≤ m from by
                have h := HM.out
                rw [HAS.out] at h
                rw [HJ.out, hjn, HNL.out, List.take_length]
                exact h)
              clear hjn hlt2
              go_wp2_with fail
              have hS0 : Ext wo wr.drew ∧ wr.drew.cell? ⟨wo.heap.size, 0, none⟩ = some (.slice pa nv ka) := ⟨XI.out.drew, y0⟩
              clear e1
              go_region_held3 (fun w' => Ext wo w' ∧ w'.cell? ⟨wo.heap.size, 0, none⟩ = some (.slice pa nv ka))
                (first | with_reducible assumption | with_reducible exact keepE1 (by assumption) hx3 | with_reducible exact keepE1 (by assumption) hx2)
                (first | (go_at_call 22; refine (timeslice_day _ a dy _ (by exact TA.out.ext (X8.out.trans (And.left ‹Ext wo _ ∧ _›)).full) (few_fitTs HFA.out.1 HLA.out)).mono ?_; rintro e w2 ⟨u14, rfl, t14, hx2⟩; rw [HAS.out] at t14; have T14 := Lib.hid (t14.ext (on_sub _ _)); clear t14) | (go_at_call 35; refine (ref_multiplicity _ _ AS vs _ (by exact T14.out) (by exact G0.out.ext (And.left ‹Ext wo _ ∧ _›).full)).mono ?_; rintro e w3 ⟨rfl, hx3⟩) | fail)
              all_goals
                clear hS0
                have X15 := Lib.hid (And.left ‹Ext wo _ ∧ _›)
                have hb : decide ((m : Int) < (mult vs AS : Int)) = false := decide_eq_false (by have := HJ2.out; omega)
                have hb2 : ¬ m < mult vs AS := by have := HJ2.out; omega
                go_wp2_with fail
                go_roundg (nA - (k + 1))
                case measure => omega
                case rel => exact ⟨k + 1, by omega, rfl, by go_num, X8.out.trans X15.out⟩
        · have hd : ¬ (k : Int) < (nA : Int) := by omega
          have X16 := Lib.hid (X12.out.trans X8.out)
          clear hlt hk X8
          go_wp2_with fail
          refine (awake_join _ (HT.out.ext X16.out)).mono ?_
          rintro e w17 ⟨rfl, x17⟩
          have X17 := Lib.hid (X16.out.trans x17)
          clear x17
          go_wp2_with fail
          go_ret
          exact ⟨by first | rfl | simp [hlo] | simp, X17.out⟩

end Go.Proofs.YtdgpbpbjlnlijaaGreatDoor
