/- joined texts of a proof: Rep, Keep, Shelf, BagE, BagF, BagI, BagJ, BagK, BagL, PlainR, Step, TupT, PlainJ, PlainU, BagLineageW, PlainC, CtnJ, BagR, BagT, RefC -/
import Derived.Test.YtdgpbpbjlnlijaaGreatDoorKJ01
import Derived.Test.YtdgpbpbjlnlijaaGreatDoorKJ02
import Derived.Test.YtdgpbpbjlnlijaaGreatDoorKJ03
import Derived.Test.YtdgpbpbjlnlijaaGreatDoorKJ04
import Derived.Test.YtdgpbpbjlnlijaaGreatDoorKJ05
import Derived.Test.YtdgpbpbjlnlijaaGreatDoorKJ06
import Derived.Test.YtdgpbpbjlnlijaaGreatDoorKJ07
import Derived.Test.YtdgpbpbjlnlijaaGreatDoorKJ08
import Derived.Test.YtdgpbpbjlnlijaaGreatDoorKJ09
import Derived.Test.YtdgpbpbjlnlijaaGreatDoorKJ10
import Derived.Test.YtdgpbpbjlnlijaaGreatDoorKJ11
import Derived.Test.YtdgpbpbjlnlijaaGreatDoorKJ12
import Derived.Test.YtdgpbpbjlnlijaaGreatDoorKJ13
import Derived.Test.YtdgpbpbjlnlijaaGreatDoorKJ14
import Derived.Test.YtdgpbpbjlnlijaaGreatDoorKJ15
import Derived.Test.YtdgpbpbjlnlijaaGreatDoorKJ16
import Derived.Test.YtdgpbpbjlnlijaaGreatDoorKJ17
import Derived.Test.YtdgpbpbjlnlijaaGreatDoorKJ18
import Derived.Test.YtdgpbpbjlnlijaaGreatDoorKJ19
import Derived.Test.YtdgpbpbjlnlijaaGreatDoorKJ20
import Derived.Test.YtdgpbpbjlnlijaaGreatDoorKJ21
import Derived.Deep.Slices
import Derived.Deep.AppendLies
import Derived.Laws.AppendOwnNone
import Derived.Sort.Grow
import Derived.Shelf.SlSortCmp.WholeK
import Derived.Ground.SlsfProg
import Derived.Ground.NamesProg
import Derived.Shelf.Strings.Builder1
import Derived.Shelf.Small.Bits
import Derived.Shelf.Small.Strs
import Derived.Shelf.Small.Wraps
import Derived.Shelf.Strings.BuilderF
import Derived.Shelf.Strings.BuilderK
import Derived.Shelf.Strconv.Itoa0
import Derived.Shelf.Strconv.Itoa1
import Derived.Shelf.LaysM
import Derived.Shelf.Strconv.Itoa2
import Derived.Shelf.Strconv.Itoa3
import Derived.Shelf.Strconv.Itoa4
import Derived.Shelf.Sort.Plain
import Derived.Shelf.Bits.Mul64
import Derived.Ground.Names2Prog
import Derived.Shelf.Slices.Clone
import Derived.Shelf.Slices.CompactI
import Derived.Shelf.Slices.SearchI
import Derived.Shelf.Slices.Cells
import Derived.Shelf.Slices.In.SortNone
import Derived.Shelf.Slices.Empties
import Derived.Ground.SlgnProg
import Derived.Shelf.SlicesE.Clone
import Derived.Test.YtdgpbpbjlnlijaaGreatDoorProg
import Derived.IntWalk
import Derived.Sort.OwnSortedInts
import Derived.Lib.OwnBridge
import Derived.Lib.SlicesCompact
import Derived.Deep.RegionLaw

namespace Go.Proofs.YtdgpbpbjlnlijaaGreatDoor
open Go.RowKit Go.Deep

theorem Sub.refl (h : View) : Sub h h := fun _ _ e => e
/-- the cells that lie below B are kept by whatever keeps what is below B -/
theorem below_sub {w w' : World} {B : Nat} (h : Below B w w') {S : Nat → Prop} (hS : ∀ k, S k → k < B) : Sub (on w S) (on w' S) := fun p v e => by
  obtain ⟨h1, h2⟩ := on_some.1 e
  exact on_some.2 ⟨h1, (h.cell (hS _ h1)).trans h2⟩
theorem full_on (w : World) (S : Nat → Prop) (h : ∀ k, k < w.heap.size → S k) : Sub w.cell? (on w S) := fun p _ e => on_some.2 ⟨h _ (World.block_lt_of_cell? w p e), e⟩

section
variable {α : Type} {R : Rep α} {w w' : View}
end

section
variable {P : Program} {w : World} {ops : Array Oper} {rest : List Oper} {o : Oper} {a : Act} {Q : Exit → Act → World → Prop}
end

section
variable {P : Program} {w : World} {ops : Array Oper} {rest : List Oper} {o : Oper} {a : Act} {Q : Exit → Act → World → Prop}
end

theorem row_at {w : View} {b o n cap : Nat} {xs : List Row} (h : SliceOf Rep.row w (.slice (some ⟨b, o, none⟩) n cap) xs) (i : Nat) (hi : i < xs.length) :
    ∃ u v, w ⟨b, o + i * 2, none⟩ = some u ∧ w ⟨b, o + i * 2 + 1, none⟩ = some v ∧ SliceOf Rep.val w u xs[i].vals ∧ SliceOf Rep.int w v xs[i].lin := by
  obtain ⟨c, ⟨u, v, rfl, g1, g2⟩, h2⟩ := h.at i hi
  exact ⟨u, v, h2 0 _ rfl, h2 1 _ rfl, g1, g2⟩
end Go.Proofs.YtdgpbpbjlnlijaaGreatDoor

namespace Go.Proofs.YtdgpbpbjlnlijaaGreatDoor
open Go.RowKit

theorem keepE2 {W wa wb : World} {p1 p2 : Addr} {v1 v2 : Value} (h : Ext W wa ∧ wa.cell? p1 = some v1 ∧ wa.cell? p2 = some v2) (hx : Ext wa wb) : Ext W wb ∧ wb.cell? p1 = some v1 ∧ wb.cell? p2 = some v2 :=
  ⟨h.1.trans hx, hx.at (h.2.1), hx.at (h.2.2)⟩
end Go.Proofs.YtdgpbpbjlnlijaaGreatDoor

namespace Go.Proofs
open Go.Shelf
theorem Tryz.sortRows : Go.Proofs.SlLaysF0.n6 Tryz.prog Tryz.sortRows_ren := {
  mixed := by kernel_rfl
  f6 := ⟨Tryz.f102.name, by decide, Tryz.func102.trans (congrArg some (by kernel_rfl))⟩
  f14 := ⟨Tryz.f143.name, by decide, Tryz.func143.trans (congrArg some (by kernel_rfl))⟩
  f15 := Tryz.func105.trans (congrArg some (by kernel_rfl))
  f20 := ⟨Tryz.f198.name, by decide, Tryz.func198.trans (congrArg some (by kernel_rfl))⟩
  f21 := ⟨Tryz.f199.name, by decide, Tryz.func199.trans (congrArg some (by kernel_rfl))⟩
  f22 := ⟨Tryz.f200.name, by decide, Tryz.func200.trans (congrArg some (by kernel_rfl))⟩
  f23 := ⟨Tryz.f201.name, by decide, Tryz.func201.trans (congrArg some (by kernel_rfl))⟩
  f24 := ⟨Tryz.f202.name, by decide, Tryz.func202.trans (congrArg some (by kernel_rfl))⟩
  f25 := ⟨Tryz.f203.name, by decide, Tryz.func203.trans (congrArg some (by kernel_rfl))⟩
  f26 := ⟨Tryz.f204.name, by decide, Tryz.func204.trans (congrArg some (by kernel_rfl))⟩
  f27 := ⟨Tryz.f205.name, by decide, Tryz.func205.trans (congrArg some (by kernel_rfl))⟩
  f28 := Tryz.func154.trans (congrArg some (by kernel_rfl))
  f29 := Tryz.func155.trans (congrArg some (by kernel_rfl))
  f46 := ⟨Tryz.f238.name, by decide, Tryz.func238.trans (congrArg some (by kernel_rfl))⟩
  f47 := Tryz.func208.trans (congrArg some (by kernel_rfl))
  f48 := Tryz.func209.trans (congrArg some (by kernel_rfl))
  f49 := ⟨Tryz.f239.name, by decide, Tryz.func239.trans (congrArg some (by kernel_rfl))⟩
  f50 := ⟨Tryz.f240.name, by decide, Tryz.func240.trans (congrArg some (by kernel_rfl))⟩
  f57 := ⟨Tryz.f270.name, by decide, Tryz.func270.trans (congrArg some (by kernel_rfl))⟩
  t0 := Tryz.underlying0
  a0 := Tryz.isAgg0
  z0 := Tryz.sizeOf0
  v0 := Tryz.zeroValue0
  t3 := Tryz.underlying3
  a3 := Tryz.isAgg3
  z3 := Tryz.sizeOf3
  v3 := Tryz.zeroValue3
  t4 := Tryz.underlying4
  a4 := Tryz.isAgg4
  z4 := Tryz.sizeOf4
  v4 := Tryz.zeroValue4
  t5 := Tryz.underlying5
  a5 := Tryz.isAgg5
  z5 := Tryz.sizeOf5
  v5 := Tryz.zeroValue5
  t9 := Tryz.underlying9
  a9 := Tryz.isAgg9
  z9 := Tryz.sizeOf9
  v9 := Tryz.zeroValue9
  t22 := Tryz.underlying35
  a22 := Tryz.isAgg35
  z22 := Tryz.sizeOf35
  v22 := Tryz.zeroValue35
  t25 := Tryz.underlying156
  a25 := Tryz.isAgg156
  z25 := Tryz.sizeOf156
  v25 := Tryz.zeroValue156
  t39 := Tryz.underlying159
  a39 := Tryz.isAgg159
  z39 := Tryz.sizeOf159
  v39 := Tryz.zeroValue159
  t45 := Tryz.underlying196
  a45 := Tryz.isAgg196
  z45 := Tryz.sizeOf196
  v45 := Tryz.zeroValue196
  t46 := Tryz.underlying197
  a46 := Tryz.isAgg197
  z46 := Tryz.sizeOf197
  v46 := Tryz.zeroValue197
  t50 := Tryz.underlying107
  a50 := Tryz.isAgg107
  z50 := Tryz.sizeOf107
  v50 := Tryz.zeroValue107
  t53 := Tryz.underlying203
  a53 := Tryz.isAgg203
  z53 := Tryz.sizeOf203
  v53 := Tryz.zeroValue203
  t55 := Tryz.underlying205
  a55 := Tryz.isAgg205
  z55 := Tryz.sizeOf205
  v55 := Tryz.zeroValue205
  t66 := Tryz.underlying261
  a66 := Tryz.isAgg261
  z66 := Tryz.sizeOf261
  v66 := Tryz.zeroValue261
  t70 := Tryz.underlying265
  a70 := Tryz.isAgg265
  z70 := Tryz.sizeOf265
  v70 := Tryz.zeroValue265
  t76 := Tryz.underlying294
  a76 := Tryz.isAgg294
  z76 := Tryz.sizeOf294
  v76 := Tryz.zeroValue294
  t77 := Tryz.underlying295
  a77 := Tryz.isAgg295
  z77 := Tryz.sizeOf295
  v77 := Tryz.zeroValue295 }
end Go.Proofs

namespace Go.Proofs.YtdgpbpbjlnlijaaGreatDoor
open Go.RowKit

theorem infoRow : (Tryz.prog.info? 42).map (fun i => (i.zero, i.size, i.bytes)) = some (some (.agg #[.slice none 0 0, .slice none 0 0]), Rep.row.size, 48) := by kernel_rfl
theorem isAggRow (w : World) : (isAgg 42).run Tryz.prog w = .ok true w := by kernel_rfl
theorem sizeOfRow (w : World) : (Go.sizeOf 42).run Tryz.prog w = .ok 2 w := by kernel_rfl
theorem entersCmpRow : ∀ args w, (callFunc 103 args).run Tryz.prog w = .ok (.enter 103 args) w := enters_of Tryz.func103 (by kernel_rfl) rfl

theorem sort_rows_call (w : World) (S : Nat → Prop) (base : Nat) (e : TypeId) (v : Value) (xs : List Row) (hown : OwnOf Rep.row w S base e v xs) (hlen : xs.length < 4611686018427387904) :
    Calls Tryz.prog 102 #[v, .func (.func 103) #[] #[]] w fun en w' => en = .returned (.tuple #[]) ∧ OwnOf Rep.row w' S base e v (sortBy cmpRow xs) ∧ w.grownBy w' v.ownBlock := by
  have h := sortFunc_rep Tryz.sortRows Rep.row 2 rfl (by decide) isAggRow sizeOfRow cmpRow ord_row 103 entersCmpRow (fun W x y cx cy hx hy => by
    obtain ⟨a, b, rfl, h1, h2⟩ := hx
    obtain ⟨a', b', rfl, h1', h2'⟩ := hy
    exact compareRow_any _ _ _ _ _ _ W h1 h1' h2 h2') w S base e v xs hown hlen
  exact h

set_option maxHeartbeats 2000000 in
theorem sort_rows (v : Value) (l : List Row) (w : World) (hv : SliceOf Rep.row w.cell? v l) (hf : fitRows l) :
    Calls Tryz.prog 56 #[v] w fun e w' => ∃ v', e = .returned v' ∧ SliceOf Rep.row (on w' (since w)) v' (sortBy cmpRow l) ∧ Ext w w' := by
  obtain ⟨i0, hi, hz0, hz1, hz2⟩ := info_parts infoRow
  obtain ⟨pa, ca, rfl, ha1, ha2, ha3⟩ := hv.form
  unfold maxLen at ha2
  obtain ⟨hf1, hf2⟩ := hf
  have HF := Lib.hid hf2
  clear hf2
  go_enter Tryz.func56, Tryz.ntmps56
  go_wp2_with fail
  go_loopg [3, 8] l.length (fun gk v i wr => ∃ k : Nat, k ≤ l.length ∧ gk = l.length - k ∧ i = .int .i64 k ∧ OwnOf Rep.row wr (since w) w.heap.size 42 v (l.take k) ∧ Ext w wr)
  case atStart => exact ⟨0, by omega, rfl, rfl, OwnOf.nil _ _ _ _ _, Ext.refl w⟩
  case round =>
    obtain ⟨k, hk, rfl, rfl, hown, hx⟩ := hrel
    by_cases hlt : k < l.length
    · obtain ⟨ba, oa, rfl⟩ := ha3 (by decide) (by omega)
      obtain ⟨u1, u2, c1, c2, s1, s2⟩ := row_at hv k hlt
      have hfr := HF.out l[k] (List.getElem_mem _)
      have htk := List.take_succ_eq_append_getElem hlt
      have hlen : (l.take k).length = k := by simp; omega
      replace c1 := hx.at c1
      replace c2 := hx.at c2
      replace s1 := s1.ext hx.full
      replace s2 := s2.ext hx.full
      generalize l[k] = r at s1 s2 hfr htk
      have HT := Lib.hid htk
      obtain ⟨pu1, cu1, rfl, _⟩ := s1.form
      obtain ⟨pu2, cu2, rfl, _⟩ := s2.form
      have S1 := Lib.hid s1
      have S2 := Lib.hid s2
      have HO := Lib.hid hown
      have hd : decide ((k : Int) < (l.length : Int)) = true := by simp; omega
      have e1 := cell_lt c1
      clear s1 s2 htk hown hv ha3
      go_wp2_with fail
      refine (clone_row _ _ r _ (S1.out.ext ((Ext.refl _).alloc _).full) (S2.out.ext ((Ext.refl _).alloc _).full) (by have := hfr.1; omega) (by have := hfr.2; omega)).mono ?_
      rintro e w2 ⟨a, b, rfl, t1, t2, hx2⟩
      obtain ⟨a2, k2, rfl, _⟩ := t1.form
      obtain ⟨b2, j2, rfl, _⟩ := t2.form
      have T1 := Lib.hid t1
      have T2 := Lib.hid t2
      have hz := hx2.size
      simp at hz
      have hw := hx.size
      clear t1 t2 c1 c2 e1
      go_wp2_with (at_builtin; refine wpList_append_one Rep.row (since w) rfl _ _ 35 rfl w.heap.size 42 i0 _ 48 Tryz.underlying35 hi hz0 hz1 hz2 rfl (by decide) _ (l.take k) rfl (HO.out.ext (((Ext.refl _).alloc _).trans hx2 |>.alloc _)) ⟨w2.heap.size, 0, none⟩ 1 r [.slice a2 r.vals.length k2, .slice b2 r.lin.length j2] rfl ?c1 ?c2 ?c3 ?c4 ?c5 ?_)
      case c1 =>
        have hlt2 := HO.out.lt
        have hs : Sub (on w2 (since (wr.alloc (.cells #[.slice pu1 r.vals.length cu1, .slice pu2 r.lin.length cu2] 42)))) (on (w2.alloc (.cells #[.slice a2 r.vals.length k2, .slice b2 r.lin.length j2] 42)) (avoid (since w) u3)) := by
          refine (((Ext.refl w2).alloc _).sub _).trans (on_mono _ fun j _ hj => ⟨fun he => ?_, ?_⟩)
          · have := hlt2 j he.symm
            simp [since] at hj
            omega
          · simp [since] at hj ⊢
            omega
        exact ⟨_, _, rfl, T1.out.ext hs, T2.out.ext hs⟩
      case c2 => exact cells_new w2 [.slice a2 r.vals.length k2, .slice b2 r.lin.length j2] _
      case c3 => rw [hlen]; unfold maxLen; omega
      case c4 => rw [hlen]; omega
      case c5 => simp; omega
      intro g cap w3 hown3 hgr _
      clear hz
      go_wp2_with fail
      go_roundg (l.length - (k + 1))
      case measure => omega
      case rel =>
        refine ⟨k + 1, by omega, rfl, by go_num, by rw [HT.out]; exact hown3, ?_⟩
        exact Below.grown (((hx.alloc _).trans hx2).alloc _) hgr (by simp; have := hx2.size; simp at this; omega) (fun j hj => (HO.out.lt j hj).1)
    · have : k = l.length := by omega
      subst this
      rw [List.take_of_length_le (Nat.le_refl _)] at hown
      have HO := Lib.hid hown
      clear hown hv ha3
      go_wp2_with fail
      refine (sort_rows_call _ _ _ _ _ _ HO.out (by omega)).mono ?_
      rintro e w4 ⟨rfl, hown4, hgr4⟩
      go_wp2_with fail
      go_ret
      exact ⟨_, rfl, hown4.sliceIn (fun _ _ h => h) (fun _ h => h), Below.grown hx hgr4 hx.size (fun j hj => (HO.out.lt j hj).1)⟩

end Go.Proofs.YtdgpbpbjlnlijaaGreatDoor

namespace Go.Proofs.YtdgpbpbjlnlijaaGreatDoor
open Go.RowKit

theorem eqB_drop {α : Type} (l l' : List α) (k : Nat) (h : k < l.length) (h' : k < l'.length) : eqB (l.drop k) (l'.drop k) = (eqB l[k] l'[k] && eqB (l.drop (k + 1)) (l'.drop (k + 1))) := by
  rw [List.drop_eq_getElem_cons h, List.drop_eq_getElem_cons h', Bool.eq_iff_iff, Bool.and_eq_true, eqB_iff, eqB_iff, eqB_iff]
  exact Iff.of_eq (List.cons.injEq _ _ _ _)
theorem eqB_end {α : Type} (l l' : List α) (h : l.length = l'.length) : eqB (l.drop l.length) (l'.drop l.length) = true := by
  rw [eqB_iff, List.drop_length, List.drop_eq_nil_of_le (by omega)]
theorem eqB_len {α : Type} (l l' : List α) (h : l.length ≠ l'.length) : eqB l l' = false := by
  rw [Bool.eq_false_iff, Ne, eqB_iff]
  intro e
  rw [e] at h
  exact h rfl
end Go.Proofs.YtdgpbpbjlnlijaaGreatDoor

namespace Go.Proofs.YtdgpbpbjlnlijaaGreatDoor
open Go.RowKit

/-- the canonical order, strictly -/
theorem lt_row (a b : Row) : decide (cmpRow a b < 0) = (decide (cmpVals a.vals b.vals < 0) || ((cmpVals a.vals b.vals == 0) && decide (cmpInts a.lin b.lin < 0))) := by
  unfold cmpRow orI orI orI
  by_cases h1 : cmpVals a.vals b.vals = 0 <;> by_cases h2 : cmpInts a.lin b.lin = 0 <;> simp [h1, h2]

set_option maxHeartbeats 2000000 in
theorem ref_less (va vb ua ub : Value) (a b : Row) (w : World) (ha : SliceOf Rep.val w.cell? va a.vals) (hb : SliceOf Rep.val w.cell? vb b.vals) (ka : SliceOf Rep.int w.cell? ua a.lin) (kb : SliceOf Rep.int w.cell? ub b.lin) :
    Calls Tryz.prog 126 #[.agg #[va, ua], .agg #[vb, ub]] w fun e w' => e = .returned (.bool (decide (cmpRow a b < 0))) ∧ Gro w w' := by
  have HA := Lib.hid ha
  have HB := Lib.hid hb
  have KA := Lib.hid ka
  have KB := Lib.hid kb
  have HE := Lib.hid (lt_row a b)
  obtain ⟨pa, ca, rfl, _⟩ := ha.form
  obtain ⟨pb, cb, rfl, _⟩ := hb.form
  obtain ⟨qa, da, rfl, _⟩ := ka.form
  obtain ⟨qb, db, rfl, _⟩ := kb.form
  generalize decide (cmpRow a b < 0) = r at HE ⊢
  clear ha hb ka kb
  go_enter Tryz.func126, Tryz.ntmps126
  go_wp2_with fail
  have hx := ((Gro.refl w).alloc (.cells #[.slice pa a.vals.length ca, .slice qa a.lin.length da] 42)).alloc (.cells #[.slice pb b.vals.length cb, .slice qb b.lin.length db] 42)
  have c2 : ((w.alloc (.cells #[.slice pa a.vals.length ca, .slice qa a.lin.length da] 42)).alloc (.cells #[.slice pb b.vals.length cb, .slice qb b.lin.length db] 42)).cell? ⟨w.heap.size, 1, none⟩ = some (.slice qa a.lin.length da) := by go_simp
  have c4 : ((w.alloc (.cells #[.slice pa a.vals.length ca, .slice qa a.lin.length da] 42)).alloc (.cells #[.slice pb b.vals.length cb, .slice qb b.lin.length db] 42)).cell? ⟨w.heap.size + 1, 1, none⟩ = some (.slice qb b.lin.length db) := by go_simp
  refine (ref_compareRows _ _ a.vals b.vals _ (HA.out.ext hx.ext.full) (HB.out.ext hx.ext.full)).mono ?_
  rintro e w1 ⟨rfl, hx1⟩
  replace hx := hx.trans hx1
  replace c2 := hx1.at c2
  replace c4 := hx1.at c4
  clear hx1
  generalize cmpVals a.vals b.vals = q at HE ⊢
  rcases Int.lt_trichotomy q 0 with hq | hq | hq
  · have hqb : decide (q < 0) = true := by simp [hq]
    have HQ := Lib.hid hq
    clear hq
    go_wp2_with fail
    all_goals go_ret
    all_goals exact ⟨ret_bool (by rw [HE.out]; simp [HQ.out]), hx⟩
  · subst hq
    go_wp2_with fail
    refine (ref_compareInts _ _ a.lin b.lin _ (KA.out.ext hx.ext.full) (KB.out.ext hx.ext.full)).mono ?_
    rintro e w2 ⟨rfl, hx2⟩
    replace hx := hx.trans hx2
    clear hx2 c2 c4
    generalize cmpInts a.lin b.lin = q2 at HE ⊢
    go_wp2_with fail
    all_goals go_ret
    all_goals exact ⟨ret_bool (by rw [HE.out]; simp), hx⟩
  · have hqb : decide (q < 0) = false := by simp; omega
    have hqc : (q == 0) = false := by simp; omega
    have HQ := Lib.hid hq
    clear hq
    go_wp2_with fail
    all_goals go_ret
    all_goals exact ⟨ret_bool (by rw [HE.out]; have := HQ.out; simp; omega), hx⟩

end Go.Proofs.YtdgpbpbjlnlijaaGreatDoor

namespace Go.Proofs.YtdgpbpbjlnlijaaGreatDoor
open Go.RowKit

set_option maxHeartbeats 2000000 in
theorem ref_sameRows (va vb : Value) (l l' : List Row) (w : World) (ha : SliceOf Rep.row w.cell? va l) (hb : SliceOf Rep.row w.cell? vb l') :
    Calls Tryz.prog 81 #[va, vb] w fun e w' => e = .returned (.bool (eqB l l')) ∧ Gro w w' := by
  obtain ⟨pa, ca, rfl, ha1, ha2, ha3⟩ := ha.form
  obtain ⟨pb, cb, rfl, hb1, hb2, hb3⟩ := hb.form
  unfold maxLen at ha2 hb2
  go_enter Tryz.func81, Tryz.ntmps81
  by_cases hlen : l.length = l'.length
  · have hlb : ((l.length : Int) != (l'.length : Int)) = false := by simp [hlen]
    have HLn := Lib.hid hlen
    clear hlen
    go_wp2_with fail
    go_loopg [5] l.length (fun gk i wr => ∃ k : Nat, k ≤ l.length ∧ gk = l.length - k ∧ i = .int .i64 k ∧ eqB l l' = eqB (l.drop k) (l'.drop k) ∧ Gro w wr)
    case atStart => exact ⟨0, by omega, rfl, rfl, rfl, Gro.refl w⟩
    case round =>
      obtain ⟨k, hk, rfl, rfl, hc, hx⟩ := hrel
      have HC := Lib.hid hc
      clear hc
      by_cases hlt : k < l.length
      · have hlt2 : k < l'.length := by have := HLn.out; omega
        obtain ⟨ba, oa, rfl⟩ := ha3 (by decide) (by omega)
        obtain ⟨bb, ob, rfl⟩ := hb3 (by decide) (by omega)
        obtain ⟨u1, u2, c1, c2, s1, s2⟩ := row_at ha k hlt
        obtain ⟨v1, v2, d1, d2, t1, t2⟩ := row_at hb k hlt2
        have hdr := eqB_drop l l' k hlt hlt2
        generalize l[k] = x at s1 s2 hdr
        generalize l'[k] = y at t1 t2 hdr
        replace c1 := hx.at c1
        replace c2 := hx.at c2
        replace d1 := hx.at d1
        replace d2 := hx.at d2
        replace s1 := s1.ext hx.ext.full
        replace s2 := s2.ext hx.ext.full
        replace t1 := t1.ext hx.ext.full
        replace t2 := t2.ext hx.ext.full
        have HD := Lib.hid hdr
        have S1 := Lib.hid s1
        have S2 := Lib.hid s2
        have T1 := Lib.hid t1
        have T2 := Lib.hid t2
        obtain ⟨p1, q1, rfl, _⟩ := s1.form
        obtain ⟨p2, q2, rfl, _⟩ := s2.form
        obtain ⟨p3, q3, rfl, _⟩ := t1.form
        obtain ⟨p4, q4, rfl, _⟩ := t2.form
        have hd : decide ((k : Int) < (l.length : Int)) = true := by simp; omega
        have hd1 : (k : Int) < (l.length : Int) := by omega
        have hd2 : (k : Int) < (l'.length : Int) := by omega
        clear s1 s2 t1 t2 hdr ha hb ha3 hb3
        have hxr := Gro.refl wr
        go_wp2_with fail
        go_region_held3 (fun w' => Gro wr w' ∧ w'.cell? ⟨ba, oa + k * 2, none⟩ = some (.slice p1 x.vals.length q1) ∧ w'.cell? ⟨ba, oa + k * 2 + 1, none⟩ = some (.slice p2 x.lin.length q2) ∧ w'.cell? ⟨bb, ob + k * 2, none⟩ = some (.slice p3 y.vals.length q3) ∧ w'.cell? ⟨bb, ob + k * 2 + 1, none⟩ = some (.slice p4 y.lin.length q4))
          (first | exact ⟨hxr.drew, c1, c2, d1, d2⟩ | assumption | exact keepG4 (by assumption) hx2)
          (first | (go_at_call 39; refine (ref_sameRow _ _ _ _ x y _ (by exact S1.out.ext (And.left ‹Gro wr _ ∧ _›).ext.full) (by exact T1.out.ext (And.left ‹Gro wr _ ∧ _›).ext.full) (by exact S2.out.ext (And.left ‹Gro wr _ ∧ _›).ext.full) (by exact T2.out.ext (And.left ‹Gro wr _ ∧ _›).ext.full)).mono ?_; rintro e w2 ⟨rfl, hx2⟩))
        all_goals (obtain ⟨hfin, _⟩ := ‹Gro wr _ ∧ _›)
        all_goals (replace hx := hx.trans hfin)
        all_goals clear c1 c2 d1 d2
        all_goals generalize hq : eqB x y = q
        all_goals (have HQ := Lib.hid hq)
        all_goals clear hq
        all_goals cases q
        all_goals first
          | (go_wp2_with fail
             go_roundg (l.length - (k + 1))
             case measure => omega
             case rel => exact ⟨k + 1, by omega, rfl, by go_num, by rw [HC.out, HD.out, HQ.out, Bool.true_and], hx⟩)
          | (go_wp2_with fail
             go_ret
             exact ⟨ret_bool (by rw [HC.out, HD.out, HQ.out, Bool.false_and]), hx⟩)
      · have : k = l.length := by omega
        subst this
        have hen := eqB_end l l' HLn.out
        have HE := Lib.hid hen
        clear hen
        go_wp2_with fail
        go_ret
        exact ⟨ret_bool (by rw [HC.out, HE.out]), hx⟩
  · have hlb : ((l.length : Int) != (l'.length : Int)) = true := by simp; omega
    have hen := eqB_len l l' hlen
    have HE := Lib.hid hen
    clear hen
    go_wp2_with fail
    go_ret
    exact ⟨ret_bool HE.out.symm, Gro.refl w⟩

end Go.Proofs.YtdgpbpbjlnlijaaGreatDoor

namespace Go.Proofs.YtdgpbpbjlnlijaaGreatDoor
open Go.RowKit

theorem sort_halves {α : Type} {c : α → α → Int} (h : Ord3 c) (l : List α) (k : Nat) : mergeBy c (sortBy c (l.take k)) (sortBy c (l.drop k)) = sortBy c l := by
  have hle : ∀ a b : α, (decide (c a b ≤ 0) = true ↔ c a b ≤ 0) := fun a b => by simp
  refine sortBy_unique h ?_ ?_
  · refine (List.merge_perm_append _).trans ?_
    refine ((sortBy_perm c _).append (sortBy_perm c _)).trans ?_
    rw [List.take_append_drop]
  · have := List.pairwise_merge (le := fun a b => decide (c a b ≤ 0)) (fun a b d h1 h2 => by simp only [decide_eq_true_eq] at *; exact h.le_tr a b d h1 h2)
      (fun a b => by simp only [Bool.or_eq_true, decide_eq_true_eq]; exact h.le_total a b) (sortBy c (l.take k)) (sortBy c (l.drop k)) ((sortBy_pair h _).imp (by simp)) ((sortBy_pair h _).imp (by simp))
    exact this.imp (by simp)
theorem merge_left {α : Type} (c : α → α → Int) (l l' : List α) (i j : Nat) (hi : i < l.length) (h : ∀ hj : j < l'.length, c l[i] l'[j] ≤ 0) :
    mergeBy c (l.drop i) (l'.drop j) = l[i] :: mergeBy c (l.drop (i + 1)) (l'.drop j) := by
  unfold mergeBy
  rw [List.drop_eq_getElem_cons hi]
  by_cases hj : j < l'.length
  · rw [List.drop_eq_getElem_cons hj, List.cons_merge_cons, if_pos (by simpa using h hj)]
  · have e : l'.drop j = [] := List.drop_eq_nil_of_le (by omega)
    rw [e]
    simp
theorem merge_right {α : Type} (c : α → α → Int) (l l' : List α) (i j : Nat) (hj : j < l'.length) (h : ∀ hi : i < l.length, ¬ c l[i] l'[j] ≤ 0) :
    mergeBy c (l.drop i) (l'.drop j) = l'[j] :: mergeBy c (l.drop i) (l'.drop (j + 1)) := by
  unfold mergeBy
  rw [List.drop_eq_getElem_cons hj]
  by_cases hi : i < l.length
  · rw [List.drop_eq_getElem_cons hi, List.cons_merge_cons, if_neg (by simpa using h hi)]
  · have e : l.drop i = [] := List.drop_eq_nil_of_le (by omega)
    rw [e]
    simp
theorem old_avoid {α : Type} {R : Rep α} {W w' : World} {S : Nat → Prop} {e : TypeId} {v : Value} {xs : List α} (hb : Below W.heap.size W w') (hown : OwnOf R w' S W.heap.size e v xs) :
    Sub (on W (fun k => k < W.heap.size)) (on w' (avoid (fun k => k < W.heap.size) v)) :=
  (below_sub hb fun _ h => h).trans (on_mono _ fun k _ hk => ⟨fun he => by have := (hown.lt k he.symm).1; omega, hk⟩)
theorem full_nil (w : World) : Sub w.cell? (on w (avoid (fun _ => True) (.slice none 0 0))) := full_on _ _ fun k _ => ⟨by simp [Value.ownBlock], trivial⟩
set_option maxRecDepth 100000 in
set_option maxHeartbeats 2000000 in
theorem ref_sort_step (l : List Row) (hl : l.length ≤ 1048576)
    (ih : ∀ (l' : List Row) (v : Value) (w : World), SliceOf Rep.row w.cell? v l' → l'.length < l.length → Calls Tryz.prog 82 #[v] w fun e w' => ∃ v', e = .returned v' ∧ SliceOf Rep.row w'.cell? v' (sortBy cmpRow l') ∧ Ext w w')
    (v : Value) (w : World) (hv : SliceOf Rep.row w.cell? v l) :
    Calls Tryz.prog 82 #[v] w fun e w' => ∃ v', e = .returned v' ∧ SliceOf Rep.row w'.cell? v' (sortBy cmpRow l) ∧ Ext w w' := by
  obtain ⟨i0, hi, hz0, hz1, hz2⟩ := info_parts infoRow
  obtain ⟨pa, ca, rfl, ha1, ha2, ha3⟩ := hv.form
  have HV := Lib.hid hv
  unfold maxLen at ha2
  go_enter Tryz.func82, Tryz.ntmps82
  by_cases h2 : l.length < 2
  · have hd : decide ((l.length : Int) < 2) = true := by simp; omega
    have hs := sortBy_short cmpRow l h2
    have HS := Lib.hid hs
    clear hv ha3 hs
    go_wp2_with (at_builtin; refine wpList_append_all Rep.row (fun _ => True) rfl _ _ 35 rfl w.heap.size 42 i0 _ 48 Tryz.underlying35 hi hz0 hz1 hz2 rfl (by decide) _ [] rfl (OwnOf.nil _ _ _ _ _) _ l rfl (HV.out.ext (full_nil w)) ?c1 ?c2 ?c3 ?_)
    case c1 => simp [maxLen]; omega
    case c2 => simp; omega
    case c3 => exact Nat.le_refl _
    intro v' w1 hown hgr _
    go_wp2_with fail
    go_ret
    exact ⟨v', rfl, by rw [HS.out]; simpa using hown.slice, Below.grown (Ext.refl w) hgr (Nat.le_refl _) (fun k hk => by simp [Value.ownBlock] at hk)⟩
  · have hd : decide ((l.length : Int) < 2) = false := by simp; omega
    obtain ⟨ba, oa, rfl⟩ := ha3 (by decide) (by omega)
    have h1 := HV.out.takeV (l.length / 2) (by omega)
    have h2 : SliceOf Rep.row w.cell? (.slice (some ⟨ba, oa + l.length / 2 * 2, none⟩) (l.length - l.length / 2) (ca - l.length / 2)) (l.drop (l.length / 2)) := HV.out.dropV (l.length / 2) (by omega)
    have HS := Lib.hid (sort_halves ord_row l (l.length / 2))
    have H1 := Lib.hid h1
    have H2 := Lib.hid h2
    have hl1 : (l.take (l.length / 2)).length < l.length := by simp; omega
    have hl2 : (l.drop (l.length / 2)).length < l.length := by simp; omega
    have hxr := Ext.refl w
    generalize hm : l.length / 2 = m at h1 h2 HS H1 H2 hl1 hl2
    have hq1 : (l.length : Int).tdiv 2 = (m : Int) := by rw [Int.tdiv_eq_ediv_of_nonneg (by omega)]; omega
    have hq2 : (l.length : Int) / 2 = (m : Int) := by omega
    have hq3 : IntKind.i64.wrap (m : Int) = (m : Int) := Go.IntWalk.i64_in _ (by omega)
    have hq4 : IntKind.i64.wrap ((l.length : Int).tdiv 2) = (m : Int) := by rw [hq1, hq3]
    have hm1 : (0 : Int) ≤ (m : Int) := by omega
    have hm2 : (m : Int) ≤ (l.length : Int) := by omega
    have hm3 : (m : Int) ≤ (ca : Int) := by omega
    clear hv ha3 h1 h2 hm
    go_wp2_with fail
    go_region_held3 (fun w' => Ext w w')
      (first | exact hxr.drew | assumption | exact Ext.trans (by assumption) hxA | exact Ext.trans (by assumption) hxB)
      (first | (go_at_call 82; refine (ih (l.take m) _ _ (by with_reducible exact H1.out.ext (‹Ext w _›).full) hl1).mono ?_; rintro e wA ⟨vA, rfl, sA, hxA⟩) | (go_at_call 82; refine (ih (l.drop m) _ _ (by with_reducible exact H2.out.ext (‹Ext w _›).full) hl2).mono ?_; rintro e wB ⟨vB, rfl, sB, hxB⟩))
    all_goals (first
      | (have tA := sA.ext hxB.full; have tB := sB.ext (Sub.refl _))
      | (have tB := sB.ext hxA.full; have tA := sA.ext (Sub.refl _)))
    all_goals (have hx0 := ‹Ext w _›)
    all_goals clear sA sB hxA hxB
    obtain ⟨a1, k1, rfl, hA1, hA2, hA3⟩ := tA.form
    obtain ⟨a2, k2, rfl, hB1, hB2, hB3⟩ := tB.form
    have hla : (sortBy cmpRow (l.take m)).length + (sortBy cmpRow (l.drop m)).length = l.length := by rw [sortBy_length, sortBy_length]; simp; omega
    generalize sortBy cmpRow (l.take m) = la at *
    generalize sortBy cmpRow (l.drop m) = lb at *
    have A0 := Lib.hid (tA.ext (full_on _ (fun k => k < wB.heap.size) fun k hk => hk))
    have B0 := Lib.hid (tB.ext (full_on _ (fun k => k < wB.heap.size) fun k hk => hk))
    unfold maxLen at hA2 hB2
    clear tA tB
    go_wp2_with fail
    go_loopg [5, 6, 7] (la.length + lb.length) (fun gk out i j wr => ∃ p q : Nat, p ≤ la.length ∧ q ≤ lb.length ∧ gk = (la.length - p) + (lb.length - q) ∧ i = .int .i64 p ∧ j = .int .i64 q ∧ (∃ xs, xs.length = p + q ∧ OwnOf Rep.row wr (fun k => k < wB.heap.size) wB.heap.size 42 out xs ∧ xs ++ mergeBy cmpRow (la.drop p) (lb.drop q) = sortBy cmpRow l) ∧ Below wB.heap.size wB wr)
    case atStart => exact ⟨0, 0, by omega, by omega, by omega, rfl, rfl, ⟨[], rfl, OwnOf.nil _ _ _ _ _, by simpa using HS.out⟩, Below.refl _ _⟩
    case round =>
      obtain ⟨p, q, hpl, hql, rfl, rfl, rfl, ⟨xs, hxs, hown, hxm⟩, hbw⟩ := hrel
      have HO := Lib.hid hown
      have HX := Lib.hid hxm
      clear hown hxm
      by_cases hp : p < la.length
      · by_cases hq : q < lb.length
        · obtain ⟨b1, o1, rfl⟩ := hA3 (by decide) (by omega)
          obtain ⟨u1, u2, c1, c2, s1, s2⟩ := row_at A0.out p hp
          replace c1 := (on_some.1 (below_sub hbw (fun _ h => h) _ _ c1)).2
          replace c2 := (on_some.1 (below_sub hbw (fun _ h => h) _ _ c2)).2
          obtain ⟨b2, o2, rfl⟩ := hB3 (by decide) (by omega)
          obtain ⟨v1, v2, d1, d2, t1, t2⟩ := row_at B0.out q hq
          replace d1 := (on_some.1 (below_sub hbw (fun _ h => h) _ _ d1)).2
          replace d2 := (on_some.1 (below_sub hbw (fun _ h => h) _ _ d2)).2
          have hmL : cmpRow la[p] lb[q] ≤ 0 → _ := fun h => merge_left cmpRow la lb p q hp (fun _ => h)
          have hmR : ¬ cmpRow la[p] lb[q] ≤ 0 → _ := fun h => merge_right cmpRow la lb p q hq (fun _ => h)
          have hd1 : decide ((p : Int) < (la.length : Int)) = true := by simp; omega
          have hd2 : ((q : Int) == (lb.length : Int)) = false := by simp; omega
          have hd3 : (p : Int) < (la.length : Int) := by omega
          have hd4 : (q : Int) < (lb.length : Int) := by omega
          have hsv : Sub (on wB (fun k => k < wB.heap.size)) wr.cell? := (below_sub hbw (fun _ h => h)).trans (on_sub _ _)
          generalize la[p] = x at s1 s2 hmL hmR
          generalize lb[q] = y at t1 t2 hmL hmR
          have S1 := Lib.hid s1
          have S2 := Lib.hid s2
          obtain ⟨p1, q1, rfl, _⟩ := s1.form
          obtain ⟨p2, q2, rfl, _⟩ := s2.form
          clear s1 s2
          have T1 := Lib.hid t1
          have T2 := Lib.hid t2
          obtain ⟨p3, q3, rfl, _⟩ := t1.form
          obtain ⟨p4, q4, rfl, _⟩ := t2.form
          clear t1 t2
          by_cases hc : cmpRow x y ≤ 0
          · have hm := hmL hc
            have hb : decide (cmpRow y x < 0) = false := by have := ord_row.anti x y; simp; omega
            have HM := Lib.hid hm
            have HB := Lib.hid hb
            clear hm hmL hmR hc hb
            have hxr := Gro.refl wr
            go_wp2_with fail
            go_region_held3 (fun w' => Gro wr w' ∧ w'.cell? ⟨b1, o1 + p * 2, none⟩ = some (.slice p1 x.vals.length q1) ∧ w'.cell? ⟨b1, o1 + p * 2 + 1, none⟩ = some (.slice p2 x.lin.length q2) ∧ w'.cell? ⟨b2, o2 + q * 2, none⟩ = some (.slice p3 y.vals.length q3) ∧ w'.cell? ⟨b2, o2 + q * 2 + 1, none⟩ = some (.slice p4 y.lin.length q4))
              (first | exact ⟨hxr.drew, c1, c2, d1, d2⟩ | assumption | exact keepG4 (by assumption) hx2)
              (first | (go_at_call 126; refine (ref_less _ _ _ _ y x _ (by exact T1.out.ext ((hsv).trans (And.left ‹Gro wr _ ∧ _›).ext.full)) (by exact S1.out.ext ((hsv).trans (And.left ‹Gro wr _ ∧ _›).ext.full)) (by exact T2.out.ext ((hsv).trans (And.left ‹Gro wr _ ∧ _›).ext.full)) (by exact S2.out.ext ((hsv).trans (And.left ‹Gro wr _ ∧ _›).ext.full))).mono ?_; rintro e w2 ⟨rfl, hx2⟩))
            all_goals (obtain ⟨hfin, _⟩ := ‹Gro wr _ ∧ _›)
            all_goals clear hxr
            all_goals clear d1 d2
            all_goals rw [HB.out]
            all_goals (
              replace c1 := hfin.at c1
              replace c2 := hfin.at c2
              have HO2 := Lib.hid (HO.out.ext hfin.ext)
              have hbw2 := Below.trans hbw (hfin.ext.mono hbw.size)
              clear hfin
              go_wp2_with (at_builtin; refine wpList_append_one Rep.row (fun k => k < wB.heap.size) rfl _ _ 35 rfl wB.heap.size 42 i0 _ 48 Tryz.underlying35 hi hz0 hz1 hz2 rfl (by decide) _ xs rfl (HO2.out.ext ((Ext.refl _).alloc _)) ⟨_, 0, none⟩ 1 x [.slice p1 x.vals.length q1, .slice p2 x.lin.length q2] rfl ?c1 ?c2 ?c3 ?c4 ?c5 ?_)
              case c1 =>
                have hs := old_avoid (Below.alloc hbw2 hbw2.size (.cells #[.slice p1 x.vals.length q1, .slice p2 x.lin.length q2] 42)) (HO2.out.ext ((Ext.refl _).alloc _))
                exact ⟨_, _, rfl, S1.out.ext hs, S2.out.ext hs⟩
              case c2 => exact cells_new _ [.slice p1 x.vals.length q1, .slice p2 x.lin.length q2] _
              case c3 => rw [hxs]; unfold maxLen; omega
              case c4 => rw [hxs]; omega
              case c5 => have := hbw2.size; (try simp at this); simp; omega
              intro g cap w3 hown3 hgr _
              go_wp2_with fail
              go_roundg ((la.length - p) + (lb.length - q) - 1)
              case measure => omega
              case rel =>
                refine ⟨p + 1, q, by omega, by omega, by omega, by go_num, rfl, ⟨xs ++ [x], by simp; omega, hown3, by rw [← HX.out, HM.out]; simp⟩, ?_⟩
                exact Below.grown (Below.alloc hbw2 hbw2.size _) hgr (by have := hbw2.size; (try simp at this); simp; omega) (fun j hj => (HO2.out.lt j hj).1))
          · have hm := hmR hc
            have hb : decide (cmpRow y x < 0) = true := by have := ord_row.anti x y; simp; omega
            have HM := Lib.hid hm
            have HB := Lib.hid hb
            clear hm hmL hmR hc hb
            have hxr := Gro.refl wr
            go_wp2_with fail
            go_region_held3 (fun w' => Gro wr w' ∧ w'.cell? ⟨b1, o1 + p * 2, none⟩ = some (.slice p1 x.vals.length q1) ∧ w'.cell? ⟨b1, o1 + p * 2 + 1, none⟩ = some (.slice p2 x.lin.length q2) ∧ w'.cell? ⟨b2, o2 + q * 2, none⟩ = some (.slice p3 y.vals.length q3) ∧ w'.cell? ⟨b2, o2 + q * 2 + 1, none⟩ = some (.slice p4 y.lin.length q4))
              (first | exact ⟨hxr.drew, c1, c2, d1, d2⟩ | assumption | exact keepG4 (by assumption) hx2)
              (first | (go_at_call 126; refine (ref_less _ _ _ _ y x _ (by exact T1.out.ext ((hsv).trans (And.left ‹Gro wr _ ∧ _›).ext.full)) (by exact S1.out.ext ((hsv).trans (And.left ‹Gro wr _ ∧ _›).ext.full)) (by exact T2.out.ext ((hsv).trans (And.left ‹Gro wr _ ∧ _›).ext.full)) (by exact S2.out.ext ((hsv).trans (And.left ‹Gro wr _ ∧ _›).ext.full))).mono ?_; rintro e w2 ⟨rfl, hx2⟩))
            all_goals (obtain ⟨hfin, _⟩ := ‹Gro wr _ ∧ _›)
            all_goals clear hxr
            all_goals clear c1 c2
            all_goals rw [HB.out]
            all_goals (
              replace d1 := hfin.at d1
              replace d2 := hfin.at d2
              have HO2 := Lib.hid (HO.out.ext hfin.ext)
              have hbw2 := Below.trans hbw (hfin.ext.mono hbw.size)
              clear hfin
              go_wp2_with (at_builtin; refine wpList_append_one Rep.row (fun k => k < wB.heap.size) rfl _ _ 35 rfl wB.heap.size 42 i0 _ 48 Tryz.underlying35 hi hz0 hz1 hz2 rfl (by decide) _ xs rfl (HO2.out.ext ((Ext.refl _).alloc _)) ⟨_, 0, none⟩ 1 y [.slice p3 y.vals.length q3, .slice p4 y.lin.length q4] rfl ?c1 ?c2 ?c3 ?c4 ?c5 ?_)
              case c1 =>
                have hs := old_avoid (Below.alloc hbw2 hbw2.size (.cells #[.slice p3 y.vals.length q3, .slice p4 y.lin.length q4] 42)) (HO2.out.ext ((Ext.refl _).alloc _))
                exact ⟨_, _, rfl, T1.out.ext hs, T2.out.ext hs⟩
              case c2 => exact cells_new _ [.slice p3 y.vals.length q3, .slice p4 y.lin.length q4] _
              case c3 => rw [hxs]; unfold maxLen; omega
              case c4 => rw [hxs]; omega
              case c5 => have := hbw2.size; (try simp at this); simp; omega
              intro g cap w3 hown3 hgr _
              go_wp2_with fail
              go_roundg ((la.length - p) + (lb.length - q) - 1)
              case measure => omega
              case rel =>
                refine ⟨p, q + 1, by omega, by omega, by omega, rfl, by go_num, ⟨xs ++ [y], by simp; omega, hown3, by rw [← HX.out, HM.out]; simp⟩, ?_⟩
                exact Below.grown (Below.alloc hbw2 hbw2.size _) hgr (by have := hbw2.size; (try simp at this); simp; omega) (fun j hj => (HO2.out.lt j hj).1))
        · obtain ⟨b1, o1, rfl⟩ := hA3 (by decide) (by omega)
          obtain ⟨u1, u2, c1, c2, s1, s2⟩ := row_at A0.out p hp
          replace c1 := (on_some.1 (below_sub hbw (fun _ h => h) _ _ c1)).2
          replace c2 := (on_some.1 (below_sub hbw (fun _ h => h) _ _ c2)).2
          have hm := merge_left cmpRow la lb p q hp (fun h => absurd h hq)
          have hql : q = lb.length := by omega
          have hd1 : decide ((p : Int) < (la.length : Int)) = true := by simp; omega
          have hd2 : ((q : Int) == (lb.length : Int)) = true := by simp; omega
          have hd3 : (p : Int) < (la.length : Int) := by omega
          generalize la[p] = x at s1 s2 hm
          have S1 := Lib.hid s1
          have S2 := Lib.hid s2
          obtain ⟨p1, q1, rfl, _⟩ := s1.form
          obtain ⟨p2, q2, rfl, _⟩ := s2.form
          clear s1 s2
          clear hql
          have HM := Lib.hid hm
          clear hm
          go_wp2_with fail
          go_quiet (fail)
          all_goals (have hfin := (Gro.refl wr).drewN nq)
          all_goals (
            replace c1 := hfin.at c1
            replace c2 := hfin.at c2
            have HO2 := Lib.hid (HO.out.ext hfin.ext)
            have hbw2 := Below.trans hbw (hfin.ext.mono hbw.size)
            clear hfin
            go_wp2_with (at_builtin; refine wpList_append_one Rep.row (fun k => k < wB.heap.size) rfl _ _ 35 rfl wB.heap.size 42 i0 _ 48 Tryz.underlying35 hi hz0 hz1 hz2 rfl (by decide) _ xs rfl (HO2.out.ext ((Ext.refl _).alloc _)) ⟨_, 0, none⟩ 1 x [.slice p1 x.vals.length q1, .slice p2 x.lin.length q2] rfl ?c1 ?c2 ?c3 ?c4 ?c5 ?_)
            case c1 =>
              have hs := old_avoid (Below.alloc hbw2 hbw2.size (.cells #[.slice p1 x.vals.length q1, .slice p2 x.lin.length q2] 42)) (HO2.out.ext ((Ext.refl _).alloc _))
              exact ⟨_, _, rfl, S1.out.ext hs, S2.out.ext hs⟩
            case c2 => exact cells_new _ [.slice p1 x.vals.length q1, .slice p2 x.lin.length q2] _
            case c3 => rw [hxs]; unfold maxLen; omega
            case c4 => rw [hxs]; omega
            case c5 => have := hbw2.size; (try simp at this); simp; omega
            intro g cap w3 hown3 hgr _
            go_wp2_with fail
            go_roundg ((la.length - p) + (lb.length - q) - 1)
            case measure => omega
            case rel =>
              refine ⟨p + 1, q, by omega, by omega, by omega, by go_num, rfl, ⟨xs ++ [x], by simp; omega, hown3, by rw [← HX.out, HM.out]; simp⟩, ?_⟩
              exact Below.grown (Below.alloc hbw2 hbw2.size _) hgr (by have := hbw2.size; (try simp at this); simp; omega) (fun j hj => (HO2.out.lt j hj).1))
      · by_cases hq : q < lb.length
        · obtain ⟨b2, o2, rfl⟩ := hB3 (by decide) (by omega)
          obtain ⟨v1, v2, d1, d2, t1, t2⟩ := row_at B0.out q hq
          replace d1 := (on_some.1 (below_sub hbw (fun _ h => h) _ _ d1)).2
          replace d2 := (on_some.1 (below_sub hbw (fun _ h => h) _ _ d2)).2
          have hm := merge_right cmpRow la lb p q hq (fun h => absurd h hp)
          have hd1 : decide ((p : Int) < (la.length : Int)) = false := by simp; omega
          have hd5 : decide ((q : Int) < (lb.length : Int)) = true := by simp; omega
          have hd2 : ((q : Int) == (lb.length : Int)) = false := by simp; omega
          have hd4 : (q : Int) < (lb.length : Int) := by omega
          generalize lb[q] = y at t1 t2 hm
          have T1 := Lib.hid t1
          have T2 := Lib.hid t2
          obtain ⟨p3, q3, rfl, _⟩ := t1.form
          obtain ⟨p4, q4, rfl, _⟩ := t2.form
          clear t1 t2
          have HM := Lib.hid hm
          clear hm
          go_wp2_with fail
          go_quiet (fail)
          all_goals (have hfin := (Gro.refl wr).drewN nq)
          all_goals (
            replace d1 := hfin.at d1
            replace d2 := hfin.at d2
            have HO2 := Lib.hid (HO.out.ext hfin.ext)
            have hbw2 := Below.trans hbw (hfin.ext.mono hbw.size)
            clear hfin
            go_wp2_with (at_builtin; refine wpList_append_one Rep.row (fun k => k < wB.heap.size) rfl _ _ 35 rfl wB.heap.size 42 i0 _ 48 Tryz.underlying35 hi hz0 hz1 hz2 rfl (by decide) _ xs rfl (HO2.out.ext ((Ext.refl _).alloc _)) ⟨_, 0, none⟩ 1 y [.slice p3 y.vals.length q3, .slice p4 y.lin.length q4] rfl ?c1 ?c2 ?c3 ?c4 ?c5 ?_)
            case c1 =>
              have hs := old_avoid (Below.alloc hbw2 hbw2.size (.cells #[.slice p3 y.vals.length q3, .slice p4 y.lin.length q4] 42)) (HO2.out.ext ((Ext.refl _).alloc _))
              exact ⟨_, _, rfl, T1.out.ext hs, T2.out.ext hs⟩
            case c2 => exact cells_new _ [.slice p3 y.vals.length q3, .slice p4 y.lin.length q4] _
            case c3 => rw [hxs]; unfold maxLen; omega
            case c4 => rw [hxs]; omega
            case c5 => have := hbw2.size; (try simp at this); simp; omega
            intro g cap w3 hown3 hgr _
            go_wp2_with fail
            go_roundg ((la.length - p) + (lb.length - q) - 1)
            case measure => omega
            case rel =>
              refine ⟨p, q + 1, by omega, by omega, by omega, rfl, by go_num, ⟨xs ++ [y], by simp; omega, hown3, by rw [← HX.out, HM.out]; simp⟩, ?_⟩
              exact Below.grown (Below.alloc hbw2 hbw2.size _) hgr (by have := hbw2.size; (try simp at this); simp; omega) (fun j hj => (HO2.out.lt j hj).1))
        · have hd1 : decide ((p : Int) < (la.length : Int)) = false := by simp; omega
          have hd5 : decide ((q : Int) < (lb.length : Int)) = false := by simp; omega
          have hfn : xs = sortBy cmpRow l := by
            have e1 : la.drop p = [] := List.drop_eq_nil_of_le (by omega)
            have e2 : lb.drop q = [] := List.drop_eq_nil_of_le (by omega)
            rw [← HX.out, e1, e2]
            simp [mergeBy]
          have HN := Lib.hid hfn
          clear hfn
          go_wp2_with fail
          go_ret
          exact ⟨_, rfl, by rw [← HN.out]; exact HO.out.slice, Ext.trans hx0 (hbw.mono (Nat.le_refl _))⟩

theorem ref_sort (n : Nat) : ∀ (l : List Row), l.length ≤ n → ∀ (v : Value) (w : World), l.length ≤ 1048576 → SliceOf Rep.row w.cell? v l → Calls Tryz.prog 82 #[v] w fun e w' => ∃ v', e = .returned v' ∧ SliceOf Rep.row w'.cell? v' (sortBy cmpRow l) ∧ Ext w w' := by
  induction n with
  | zero => exact fun l hl v w hf hv => ref_sort_step l hf (fun l' _ _ _ h => by omega) v w hv
  | succ n ih => exact fun l hl v w hf hv => ref_sort_step l hf (fun l' v' w' hv' h => ih l' (by omega) v' w' (by omega) hv') v w hv

end Go.Proofs.YtdgpbpbjlnlijaaGreatDoor

namespace Go.Proofs.YtdgpbpbjlnlijaaGreatDoor
open Go.RowKit

/-- ascending lists with the same members are the same -/
theorem asc_unique {l l' : List Int} (h : l.Pairwise (· < ·)) (h' : l'.Pairwise (· < ·)) (he : ∀ x, x ∈ l ↔ x ∈ l') : l = l' := by
  refine List.Perm.eq_of_pairwise (le := (· < ·)) (fun a b _ _ h1 h2 => by omega) h h' ?_
  exact (List.perm_ext_iff_of_nodup (h.imp fun h => by omega) (h'.imp fun h => by omega)).2 he

end Go.Proofs.YtdgpbpbjlnlijaaGreatDoor

namespace Go.Proofs.YtdgpbpbjlnlijaaGreatDoor
open Go.RowKit

theorem slice_step (l : List Tup) (x : Int) (k : Nat) (h : k < l.length) : sliceRows (l.take (k + 1)) x = sliceRows (l.take k) x ++ if (validB l[k].from_ l[k].to_ && decide (l[k].from_ ≤ x) && decide (x < l[k].to_)) = true then [tupRow l[k]] else [] := by
  rw [List.take_succ_eq_append_getElem h]
  unfold sliceRows
  rw [List.filter_append, List.map_append]
  congr 1
  rw [List.filter_cons, List.filter_nil]
  show List.map tupRow (if holdsAt x l[k] = true then [l[k]] else []) = _
  rw [show holdsAt x l[k] = (validB l[k].from_ l[k].to_ && decide (l[k].from_ ≤ x) && decide (x < l[k].to_)) from rfl]
  split <;> rfl
theorem sliceRows_len (l : List Tup) (x : Int) : (sliceRows l x).length = cntAt l x := by unfold sliceRows cntAt; rw [List.length_map]

end Go.Proofs.YtdgpbpbjlnlijaaGreatDoor

namespace Go.Proofs.YtdgpbpbjlnlijaaGreatDoor
open Go.RowKit

section
variable {P : Program} {w : World} {o : Oper} {a : Act} {K : Act → World → Prop} {Q : Exit → Act → World → Prop} {E : Prop}
end

theorem own_nil (B : Nat) : ∀ k, (Value.slice none 0 0).ownBlock = some k → B ≤ k := fun k h => by cases h
end Go.Proofs.YtdgpbpbjlnlijaaGreatDoor

namespace Go.Proofs.YtdgpbpbjlnlijaaGreatDoor
open Go.RowKit

set_option maxHeartbeats 1000000 in
theorem includes_day (f t x : Int) (w : World) :
    Calls Tryz.prog 54 #[perV f t, .int .i64 x] w fun e w' => e = .returned (.bool (validB f t && decide (f ≤ x) && decide (x < t))) ∧ Ext w w' := by
  go_enter Tryz.func54, Tryz.ntmps54
  go_wp2_with fail
  refine (valid_any f t _).mono ?_
  rintro e w1 ⟨rfl, x1⟩
  have d0 : w1.cell? ⟨w.heap.size, 0, none⟩ = some (.int .i64 f) := x1.at (by go_simp)
  have d1 : w1.cell? ⟨w.heap.size, 1, none⟩ = some (.int .i64 t) := x1.at (by go_simp)
  have X1 := Lib.hid (show Ext w w1 from ((Ext.refl w).alloc _).trans x1)
  have e1 := cell_lt d1
  clear x1
  cases hvb : validB f t with
  | false =>
    go_wp2_with fail
    go_ret
    exact ⟨by rw [hvb]; simp, X1.out⟩
  | true =>
    by_cases h1 : f ≤ x
    · have hd1 : decide (f ≤ x) = true := by simp [h1]
      by_cases h2 : x < t
      · have hd2 : decide (x < t) = true := by simp [h2]
        go_wp2_with fail
        go_ret
        exact ⟨by rw [hvb]; simp [h1, h2], X1.out⟩
      · have hd2 : decide (x < t) = false := by simp [h2]
        go_wp2_with fail
        go_ret
        exact ⟨by rw [hvb]; simp [h1, h2], X1.out⟩
    · have hd1 : decide (f ≤ x) = false := by simp [h1]
      go_wp2_with fail
      go_ret
      exact ⟨by rw [hvb, hd1]; simp, X1.out⟩

theorem fit_slice {l : List Tup} (h : fitTs l) (x : Int) : fitRows (sliceRows l x) := by
  refine ⟨?_, fun r hr => ?_⟩
  · rw [sliceRows_len]
    exact Nat.le_trans (List.length_filter_le _ _) h.1
  · unfold sliceRows at hr
    obtain ⟨t, ht, rfl⟩ := List.mem_map.1 hr
    exact h.2 t (List.mem_filter.1 ht).1

set_option maxRecDepth 100000 in
set_option maxHeartbeats 4000000 in
theorem timeslice_gen (v : Value) (l : List Tup) (x : Int) (w : World) (hv : SliceOf Rep.tup w.cell? v l) (hnl : l.length ≤ 1099511627776) (hf : fitRows (sliceRows l x)) :
    Calls Tryz.prog 22 #[v, .int .i64 x] w fun e w' => ∃ v', e = .returned v' ∧ SliceOf Rep.row (on w' (since w)) v' (sortBy cmpRow (sliceRows l x)) ∧ Ext w w' := by
  obtain ⟨i0, hi, hz0, hz1, hz2⟩ := info_parts infoRow
  obtain ⟨p, cap, rfl, hc1, hc2, hp⟩ := hv.form
  obtain ⟨N, hN⟩ : ∃ N, N = l.length := ⟨_, rfl⟩
  have HV := Lib.hid hv
  rw [← hN]
  have HN := Lib.hid hN
  have HP := Lib.hid hp
  have HF := Lib.hid hf
  have hNl : N ≤ 1099511627776 := by rw [hN]; exact hnl
  clear hv hN hp hc1 hc2 hf hnl
  go_enter Tryz.func22, Tryz.ntmps22
  go_wp2_with fail
  go_loopg [5, 10] N (fun gk vo vi wr => ∃ (k : Nat) (u : Value) (o : List Row), k ≤ N ∧ gk = N - k ∧ vi = .int .i64 k ∧ u = vo ∧ Hid (OwnOf Rep.row wr (fun k => k < w.heap.size) w.heap.size 42 u o) ∧ Hid (o = sliceRows (l.take k) x) ∧ Ext w wr)
  case atStart => exact ⟨0, _, [], by omega, rfl, rfl, rfl, OwnOf.nil _ _ _ _ _, rfl, Ext.refl w⟩
  case round =>
    obtain ⟨k, u, o, hk, rfl, rfl, rfl, OW, AS, hx⟩ := hrel
    by_cases hlt : k < N
    · have hkl : k < l.length := by have := HN.out; omega
      obtain ⟨b, o', rfl⟩ := HP.out (by decide) (by omega)
      have hv := HV.out
      rw [← HN.out] at hv
      obtain ⟨ta, tb, c0, c1, c2, c3, g0, g1, r1, r2⟩ := tup_at hv k hkl
      obtain ⟨pa, ka, ta', _⟩ := g0.form
      obtain ⟨pb, kb, tb', _⟩ := g1.form
      subst ta' tb'
      replace c0 := hx.at c0
      replace c1 := hx.at c1
      replace c2 := hx.at c2
      replace c3 := hx.at c3
      have hst := slice_step l x k hkl
      have hol : o.length ≤ 1099511627775 := by
        rw [AS.out, sliceRows_len]
        exact Nat.le_trans (List.length_filter_le _ _) (Nat.le_trans (List.length_take_le _ _) (by omega))
      rw [← AS.out] at hst
      unfold tupRow at hst
      generalize l[k] = y at c0 c1 c2 c3 g0 g1 r1 r2 hst
      obtain ⟨vs, f, t, ln⟩ := y
      dsimp only at c0 c1 c2 c3 g0 g1 r1 r2 hst
      have HST := Lib.hid hst
      have G0 := Lib.hid g0
      have G1 := Lib.hid g1
      have HOL := Lib.hid hol
      have hd : decide ((k : Int) < (N : Int)) = true := by simp; omega
      have e0 := cell_lt c0
      clear hst g0 g1 r1 r2 hv hol
      go_wp2_with fail
      refine (includes_day f t x _).mono ?_
      rintro e w1 ⟨rfl, x1⟩
      have d0 : w1.cell? ⟨wr.heap.size, 0, none⟩ = some (.slice pa vs.length ka) := x1.at (by go_simp)
      have d1 : w1.cell? ⟨wr.heap.size, 1, none⟩ = some (.int .i64 f) := x1.at (by go_simp)
      have d2 : w1.cell? ⟨wr.heap.size, 2, none⟩ = some (.int .i64 t) := x1.at (by go_simp)
      have d3 : w1.cell? ⟨wr.heap.size, 3, none⟩ = some (.slice pb ln.length kb) := x1.at (by go_simp)
      have X1 := Lib.hid (show Ext wr w1 from ((Ext.refl wr).alloc _).trans x1)
      have e1 := cell_lt d0
      clear x1 c0 c1 c2 c3 e0
      cases hvb : (validB f t && decide (f ≤ x) && decide (x < t)) with
      | true =>
        have HVB := Lib.hid hvb
        clear hvb
        go_wp2_with fail
        refine (tup_row pa pb vs.length ka ln.length kb f t _).mono ?_
        rintro e w2 ⟨rfl, x2g⟩
        have x2 := x2g.ext
        clear x2g
        have XA := Lib.hid (hx.trans ((X1.out.trans x2).alloc (.cells #[.slice pa vs.length ka, .slice pb ln.length kb] 42)))
        have OA := Lib.hid (OW.out.ext ((X1.out.trans x2).alloc (.cells #[.slice pa vs.length ka, .slice pb ln.length kb] 42)))
        have B1 : o.length + 1 ≤ maxLen := by have := HOL.out; unfold maxLen; omega
        have B2 : (o.length + 1) * 48 ≤ 140737488355328 := by have := HOL.out; omega
        clear x2
        go_wp2_with (at_builtin; refine wpList_append_one Rep.row (fun k => k < w.heap.size) rfl _ _ 35 rfl w.heap.size 42 i0 _ 48 Tryz.underlying35 hi hz0 hz1 hz2 rfl (by decide) u o rfl (by exact OA.out) ⟨w2.heap.size, 0, none⟩ 1 ⟨vs, ln⟩ [.slice pa vs.length ka, .slice pb ln.length kb] rfl (by
            have hs : Sub w.cell? (on (w2.alloc (.cells #[.slice pa vs.length ka, .slice pb ln.length kb] 42)) (avoid (fun k => k < w.heap.size) u)) := (full_on w _ fun _ h => h).trans (old_avoid XA.out OA.out)
            exact ⟨_, _, rfl, G0.out.ext hs, G1.out.ext hs⟩) (by exact cells_new w2 [.slice pa vs.length ka, .slice pb ln.length kb] _) B1 B2 (by exact XA.out.size) ?_)
        intro g cap w3 own gr _
        have hxx : Ext w w3 := XA.out.grownNew gr OW.out.base
        have OW2 := Lib.hid own
        clear own gr d0 d1 d2 d3 e1
        go_wp2_with fail
        go_roundg (N - (k + 1))
        case measure => omega
        case rel => exact ⟨k + 1, _, o ++ [(⟨vs, ln⟩ : Row)], by omega, rfl, by go_num, rfl, OW2.out, by show _ = _; rw [HST.out, if_pos HVB.out], hxx⟩
      | false =>
        have HVB := Lib.hid hvb
        clear hvb
        go_wp2_with fail
        go_roundg (N - (k + 1))
        case measure => omega
        case rel => exact ⟨k + 1, u, o, by omega, rfl, by go_num, rfl, OW.out.ext X1.out, by show _ = _; rw [HST.out, HVB.out, if_neg (by decide), List.append_nil], hx.trans X1.out⟩
    · have hkN : k = N := by omega
      have hd : ¬ (k : Int) < (N : Int) := by omega
      have HFS := Lib.hid (show o = sliceRows l x from by
        have h := AS.out
        rw [hkN, HN.out, List.take_length] at h
        exact h)
      have S5 := Lib.hid (show SliceOf Rep.row wr.cell? u (sliceRows l x) from by rw [← HFS.out]; exact OW.out.slice)
      clear hkN
      go_wp2_with fail
      refine (sort_rows _ (sliceRows l x) _ S5.out HF.out).mono ?_
      rintro e w4 ⟨v4, rfl, s4, x4⟩
      have S4 := Lib.hid (s4.ext (on_mono w4 fun k _ hk => Nat.le_trans hx.size hk))
      have X4 := Lib.hid (hx.trans x4)
      clear s4 x4
      go_wp2_with fail
      go_ret
      exact ⟨_, rfl, S4.out, X4.out⟩
theorem timeslice_day (v : Value) (l : List Tup) (x : Int) (w : World) (hv : SliceOf Rep.tup w.cell? v l) (hf : fitTs l) :
    Calls Tryz.prog 22 #[v, .int .i64 x] w fun e w' => ∃ v', e = .returned v' ∧ SliceOf Rep.row (on w' (since w)) v' (sortBy cmpRow (sliceRows l x)) ∧ Ext w w' :=
  timeslice_gen v l x w hv (by have := hf.1; omega) (fit_slice hf x)

end Go.Proofs.YtdgpbpbjlnlijaaGreatDoor

namespace Go.Proofs.YtdgpbpbjlnlijaaGreatDoor
open Go.RowKit

theorem inner_rows (tr : List Val → Bool) (a b : List Tup) (t : Int) : (sliceRows (innerT tr a b) t).Perm (snapJoin tr (sliceRows a t) (sliceRows b t)) := (normT_rows _ t).trans (join_rows tr a b t)
end Go.Proofs.YtdgpbpbjlnlijaaGreatDoor

namespace Go.Proofs.YtdgpbpbjlnlijaaGreatDoor
open Go.RowKit

theorem mult_nil (v : List Val) : mult v [] = 0 := rfl
/-- a row without its lineage -/
def plainRow (r : Row) : Row := ⟨r.vals, []⟩
end Go.Proofs.YtdgpbpbjlnlijaaGreatDoor

namespace Go.Proofs.YtdgpbpbjlnlijaaGreatDoor
open Go.RowKit

theorem mergeL_comm (l l' : List Int) : eqB (mergeL l l') (mergeL l' l) = true :=
  eqB_iff.2 (asc_unique (mergeL_law _ _).1 (mergeL_law _ _).1 fun x => by rw [(mergeL_law _ _).2, (mergeL_law _ _).2]; exact or_comm)
end Go.Proofs.YtdgpbpbjlnlijaaGreatDoor

namespace Go.Proofs.YtdgpbpbjlnlijaaGreatDoor
open Go.RowKit

/-- the rows of four values that begin with the given ones -/
def starts4 (vs : List Val) (r : Row) : Bool := decide (r.vals.length = 4) && (cmpVals (r.vals.take 2) vs == 0)
def startN (vs : List Val) (l : List Row) : Nat := l.countP (starts4 vs)
theorem slice_len2 {l : List Tup} (h : ∀ x ∈ l, x.vals.length = 2) (t : Int) : ∀ r ∈ sliceRows l t, r.vals.length = 2 := by
  intro r hr
  unfold sliceRows at hr
  obtain ⟨x, hx, rfl⟩ := List.mem_map.1 hr
  exact h x (List.mem_filter.1 hx).1
theorem genTups_two (x : List Num5) (m : Nat) : ∀ t ∈ genTups x m, t.vals.length = 2 := fun t ht => by
  obtain ⟨y, _, rfl⟩ := List.mem_map.1 ht
  rfl
/-- a row with its halves exchanged -/
def turnR (r : Row) : Row := ⟨r.vals.drop 2 ++ r.vals.take 2, r.lin⟩
theorem merge_swap (l m : List Int) : mergeL l m = mergeL m l := by
  have h := mergeL_comm l m
  unfold eqB at h
  simpa using h
theorem flat_swap {α β γ : Type} (f : α → β → List γ) (l : List α) (m : List β) : (l.flatMap fun x => m.flatMap (f x)).Perm (m.flatMap fun y => l.flatMap fun x => f x y) := by
  induction l with
  | nil =>
    refine List.Perm.of_eq ?_
    show [] = _
    symm
    rw [List.flatMap_eq_nil_iff]
    intro y _
    rfl
  | cons x l ih =>
    rw [List.flatMap_cons]
    refine (List.Perm.append_left _ ih).trans ?_
    refine (flat_perm2 (f x) (fun y => l.flatMap fun x => f x y) m).trans (List.Perm.of_eq ?_)
    refine flat_congr fun y _ => ?_
    rw [List.flatMap_cons]
theorem turn_join (tr : List Val → Bool) {A B : List Row} (hA : ∀ x ∈ A, x.vals.length = 2) (hB : ∀ x ∈ B, x.vals.length = 2) (htr : ∀ x y : List Val, x.length = 2 → y.length = 2 → tr (x ++ y) = tr (y ++ x)) :
    (snapJoin tr A B).Perm ((snapJoin tr B A).map turnR) := by
  have h1 : snapJoin tr A B = A.flatMap fun x => B.flatMap fun y => if tr (x.vals ++ y.vals) = true then [pairRow x y] else [] := flat_congr fun x _ => joinRow_flat tr B x
  have h2 : snapJoin tr B A = B.flatMap fun x => A.flatMap fun y => if tr (x.vals ++ y.vals) = true then [pairRow x y] else [] := flat_congr fun x _ => joinRow_flat tr A x
  rw [h1, h2]
  refine (flat_swap _ A B).trans (List.Perm.of_eq ?_)
  rw [List.map_flatMap]
  refine flat_congr fun y hy => ?_
  rw [List.map_flatMap]
  refine flat_congr fun x hx => ?_
  rw [htr x.vals y.vals (hA x hx) (hB y hy)]
  split
  · rw [List.map_cons, List.map_nil]
    unfold turnR pairRow
    simp only
    rw [merge_swap x.lin y.lin, List.drop_append_of_le_length (by rw [hB y hy]; omega), List.drop_of_length_le (by rw [hB y hy]; omega), List.nil_append, List.take_append_of_le_length (by rw [hB y hy]; omega), List.take_of_length_le (by rw [hB y hy]; omega)]
  · rfl
theorem turn_inner (tr : List Val → Bool) {a b : List Tup} (ha : ∀ x ∈ a, x.vals.length = 2) (hb : ∀ x ∈ b, x.vals.length = 2) (htr : ∀ x y : List Val, x.length = 2 → y.length = 2 → tr (x ++ y) = tr (y ++ x)) (t : Int) :
    (sortBy cmpRow (sliceRows (innerT tr a b) t)).Perm ((sortBy cmpRow (sliceRows (innerT tr b a) t)).map turnR) := by
  refine (sortBy_perm _ _).trans ((inner_rows tr a b t).trans ((turn_join tr (slice_len2 ha t) (slice_len2 hb t) htr).trans ?_))
  exact (((sortBy_perm _ _).trans (inner_rows tr b a t)).symm).map _
theorem inner_len4 (tr : List Val → Bool) {a b : List Tup} (ha : ∀ x ∈ a, x.vals.length = 2) (hb : ∀ x ∈ b, x.vals.length = 2) (t : Int) : ∀ r ∈ sortBy cmpRow (sliceRows (innerT tr a b) t), r.vals.length = 4 := by
  intro r hr
  have h := (inner_rows tr a b t).mem_iff.1 ((sortBy_perm _ _).mem_iff.1 hr)
  unfold snapJoin joinRow at h
  obtain ⟨x, hx, h⟩ := List.mem_flatMap.1 h
  obtain ⟨y, hy, rfl⟩ := List.mem_map.1 (List.mem_filter.1 h).1
  show (x.vals ++ y.vals).length = 4
  rw [List.length_append, slice_len2 ha t x hx, slice_len2 hb t y hy]
/-- the equality of the first columns -/
def eqCols : List ExprI := [⟨2, 0, 0, 0, nV⟩, ⟨2, 0, 0, 2, nV⟩, ⟨6, 0, 1, 0, nV⟩]
theorem trE_cols (x y : List Val) (hx : x.length = 2) (hy : y.length = 2) : trE eqCols 2 (x ++ y) = eqV (x.getD 0 nV) (y.getD 0 nV) := by
  match x, y, hx, hy with
  | [x0, x1], [y0, y1], _, _ =>
    unfold trE evalE eqCols
    rw [if_pos (by simp)]
    simp [evalAll, stepE, legalE, opsE, arityE, applyV, colAt, argsE, argE, trueV, boolV]
theorem eqV_comm (a b : Val) : eqV a b = eqV b a := by
  unfold eqV
  rw [Bool.and_comm (decide (a.kind ≠ 0)), Bool.eq_iff_iff]
  simp only [Bool.and_eq_true, decide_eq_true_eq]
  have h : cmpVal a b = 0 ↔ cmpVal b a = 0 := by
    rw [ord_val.eq, ord_val.eq]
    exact ⟨Eq.symm, Eq.symm⟩
  rw [h]
theorem eqCols_turn (x y : List Val) (hx : x.length = 2) (hy : y.length = 2) : trE eqCols 2 (x ++ y) = trE eqCols 2 (y ++ x) := by
  rw [trE_cols x y hx hy, trE_cols y x hy hx, eqV_comm]

end Go.Proofs.YtdgpbpbjlnlijaaGreatDoor

namespace Go.Proofs.YtdgpbpbjlnlijaaGreatDoor
open Go.RowKit

theorem fitN_fitTs {l : List Tup} (h : fitN l) : fitTs l := ⟨by have := h.1; omega, fun t ht => ⟨(h.2 t ht).1.1, (h.2 t ht).2⟩⟩
end Go.Proofs.YtdgpbpbjlnlijaaGreatDoor

namespace Go.Proofs.YtdgpbpbjlnlijaaGreatDoor
open Go.RowKit

set_option maxHeartbeats 1000000 in
theorem ref_equal (va vb : Value) (l l' : List Row) (w : World) (ha : SliceOf Rep.row w.cell? va l) (hb : SliceOf Rep.row w.cell? vb l') (hf : fitRows l) (hf' : fitRows l') :
    Calls Tryz.prog 37 #[va, vb] w fun e w' => e = .returned (.bool (eqB (sortBy cmpRow l) (sortBy cmpRow l'))) ∧ Ext w w' := by
  have HA := Lib.hid ha
  have HB := Lib.hid hb
  have HF := Lib.hid hf
  have HF' := Lib.hid hf'
  obtain ⟨pa, ca, rfl, _⟩ := ha.form
  obtain ⟨pb, cb, rfl, _⟩ := hb.form
  clear ha hb hf hf'
  go_enter Tryz.func37, Tryz.ntmps37
  go_wp2_with fail
  refine (ref_sort l.length l (Nat.le_refl _) _ _ HF.out.1 HA.out).mono ?_
  rintro e w1 ⟨v1, rfl, s1, hx1⟩
  have S1 := Lib.hid s1
  obtain ⟨p1, q1, rfl, _⟩ := s1.form
  clear s1
  go_wp2_with fail
  refine (ref_sort l'.length l' (Nat.le_refl _) _ _ HF'.out.1 (HB.out.ext hx1.full)).mono ?_
  rintro e w2 ⟨v2, rfl, s2, hx2⟩
  have S2 := Lib.hid s2
  obtain ⟨p2, q2, rfl, _⟩ := s2.form
  clear s2
  go_wp2_with fail
  refine (ref_sameRows _ _ _ _ _ (S1.out.ext hx2.full) S2.out).mono ?_
  rintro e w3 ⟨rfl, hx3⟩
  go_wp2_with fail
  go_ret
  exact ⟨rfl, (hx1.trans hx2).trans hx3.ext⟩

end Go.Proofs.YtdgpbpbjlnlijaaGreatDoor

namespace Go.Proofs.YtdgpbpbjlnlijaaGreatDoor
open Go.RowKit

def doneL (a b : List Int) (k : Nat) : List Int := if k = 0 then [] else if k = 1 then a else a ++ b

end Go.Proofs.YtdgpbpbjlnlijaaGreatDoor

namespace Go.Proofs.YtdgpbpbjlnlijaaGreatDoor
open Go.RowKit

/-- two cells that may be written -/
def Free2 (w : World) (B : Nat) : Prop := (∃ u, w.cell? ⟨B, 0, none⟩ = some u) ∧ (∃ u, w.cell? ⟨B, 1, none⟩ = some u) ∧ w.frozen? ⟨B, 0, none⟩ = false ∧ w.frozen? ⟨B, 1, none⟩ = false
/-- what is old is no part of a row that was begun later -/
theorem old_all {w w' : World} {v : Value} (hx : Ext w w') (hb : ∀ k, v.ownBlock = some k → w.heap.size ≤ k) : Sub w.cell? (on w' (avoid (fun _ => True) v)) := fun p u e =>
  on_some.2 ⟨⟨fun he => by have h1 := hb _ he.symm; have h2 := World.block_lt_of_cell? w p e; omega, trivial⟩, hx.at e⟩
theorem flat_valC : Rep.val.flat := fun _ _ _ _ h => h
theorem info_valC : (Tryz.prog.info? 44).map (fun i => (i.zero, i.size, i.bytes)) = some (some (.agg #[.int .i64 0, .int .i64 0, .string ByteArray.empty]), Rep.val.size, 32) := by kernel_rfl

end Go.Proofs.YtdgpbpbjlnlijaaGreatDoor
