/- joined texts of a proof: TupU, KeyW, RowK, NormW -/
import Derived.Test.YtdgpbpbjlnlijaaGreatDoorKC09
import Derived.Test.YtdgpbpbjlnlijaaGreatDoorKC08
import Derived.Test.YtdgpbpbjlnlijaaGreatDoorKC07
import Derived.Test.YtdgpbpbjlnlijaaGreatDoorKC02
import Derived.Lib.ItoaLen
import Derived.Deep.RegionHeld3
import Derived.Maps.Own

/- tuple.During, tuple.compare, the sort of tuples -/
namespace Go.Proofs.YtdgpbpbjlnlijaaGreatDoor
open Go.RowKit

theorem sub6 (w : World) {B C : Nat} (u0 u1 v0 v1 v2 v3 : Value) {S : Nat → Prop} (hB : ¬ S B) (hC : ¬ S C) :
    Sub (on w S) (on ((((((w.setCell ⟨B, 0, none⟩ u0).setCell ⟨B, 1, none⟩ u1).setCell ⟨C, 0, none⟩ v0).setCell ⟨C, 1, none⟩ v1).setCell ⟨C, 2, none⟩ v2).setCell ⟨C, 3, none⟩ v3) S) :=
  (((((set_sub w _ u0 hB).trans (set_sub _ _ u1 hB)).trans (set_sub _ _ v0 hC)).trans (set_sub _ _ v1 hC)).trans (set_sub _ _ v2 hC)).trans (set_sub _ _ v3 hC)

set_option maxRecDepth 100000 in
set_option maxHeartbeats 4000000 in
theorem during_any (va ua : Value) (r : Row) (f t : Int) (w : World) (hv : SliceOf Rep.val w.cell? va r.vals) (hu : SliceOf Rep.int w.cell? ua r.lin) (hb1 : r.vals.length ≤ 1048576) (hb2 : r.lin.length ≤ 1048576) :
    Calls Tryz.prog 46 #[.agg #[va, ua], .agg #[.int .i64 f, .int .i64 t]] w fun e w' => ∃ a b, e = .returned (.agg #[a, .int .i64 f, .int .i64 t, b]) ∧ SliceOf Rep.val (on w' (since w)) a r.vals ∧ SliceOf Rep.int (on w' (since w)) b r.lin ∧ Ext w w' := by
  have HV := Lib.hid hv
  have HU := Lib.hid hu
  obtain ⟨pa, ca, rfl, _⟩ := hv.form
  obtain ⟨qa, da, rfl, _⟩ := hu.form
  have H1 := Lib.hid (show r.vals.length * 32 ≤ 140737488355328 by omega)
  have H2 := Lib.hid (show r.lin.length * 8 ≤ 140737488355328 by omega)
  clear hv hu hb1 hb2
  go_enter Tryz.func46, Tryz.ntmps46
  go_wp2_with fail
  refine (clone_row _ _ r _ (HV.out.ext ((((Ext.refl w).alloc _).alloc _).alloc _).full) (HU.out.ext ((((Ext.refl w).alloc _).alloc _).alloc _).full) H1.out H2.out).mono ?_
  rintro e w1 ⟨a1, b1, rfl, s1, s2, x1⟩
  obtain ⟨p1, c1, rfl, _⟩ := s1.form
  obtain ⟨p2, c2, rfl, _⟩ := s2.form
  have S1 := Lib.hid s1
  have S2 := Lib.hid s2
  clear s1 s2
  have g0 : w1.cell? ⟨w.heap.size, 0, none⟩ = some (.slice pa r.vals.length ca) := x1.at (by go_simp)
  have g1 : w1.cell? ⟨w.heap.size, 1, none⟩ = some (.slice qa r.lin.length da) := x1.at (by go_simp)
  have g2 : w1.cell? ⟨w.heap.size + 1, 0, none⟩ = some (.int .i64 f) := x1.at (by go_simp)
  have g3 : w1.cell? ⟨w.heap.size + 1, 1, none⟩ = some (.int .i64 t) := x1.at (by go_simp)
  have g4 : w1.cell? ⟨w.heap.size + 2, 0, none⟩ = some (.slice none 0 0) := x1.at (by go_simp)
  have g5 : w1.cell? ⟨w.heap.size + 2, 1, none⟩ = some (.int .i64 0) := x1.at (by go_simp)
  have g6 : w1.cell? ⟨w.heap.size + 2, 2, none⟩ = some (.int .i64 0) := x1.at (by go_simp)
  have g7 : w1.cell? ⟨w.heap.size + 2, 3, none⟩ = some (.slice none 0 0) := x1.at (by go_simp)
  have f0 : w1.frozen? ⟨w.heap.size, 0, none⟩ = false := x1.unfrozen (p := ⟨w.heap.size, 0, none⟩) (v := .slice pa r.vals.length ca) (by go_simp) (by go_simp)
  have f1 : w1.frozen? ⟨w.heap.size, 1, none⟩ = false := x1.unfrozen (p := ⟨w.heap.size, 1, none⟩) (v := .slice qa r.lin.length da) (by go_simp) (by go_simp)
  have f4 : w1.frozen? ⟨w.heap.size + 2, 0, none⟩ = false := x1.unfrozen (p := ⟨w.heap.size + 2, 0, none⟩) (v := .slice none 0 0) (by go_simp) (by go_simp)
  have f5 : w1.frozen? ⟨w.heap.size + 2, 1, none⟩ = false := x1.unfrozen (p := ⟨w.heap.size + 2, 1, none⟩) (v := .int .i64 0) (by go_simp) (by go_simp)
  have f6 : w1.frozen? ⟨w.heap.size + 2, 2, none⟩ = false := x1.unfrozen (p := ⟨w.heap.size + 2, 2, none⟩) (v := .int .i64 0) (by go_simp) (by go_simp)
  have f7 : w1.frozen? ⟨w.heap.size + 2, 3, none⟩ = false := x1.unfrozen (p := ⟨w.heap.size + 2, 3, none⟩) (v := .slice none 0 0) (by go_simp) (by go_simp)
  have z1 := cell_lt g4
  have XW : Ext w w1 := ((((Ext.refl w).alloc _).alloc _).alloc _).trans x1
  have HX := Lib.hid XW
  clear XW x1
  go_wp2_with fail
  refine bodyPost_ret (v := .agg #[.slice p1 r.vals.length c1, .int .i64 f, .int .i64 t, .slice p2 r.lin.length c2]) (by simp [results, Tryz.results46, go_sem, g4, g5, g6, g7]) rfl ⟨_, _, rfl, ?_, ?_, ?_⟩
  · refine S1.out.ext ((on_mono w1 (T := fun k => w.heap.size + 2 < k) fun k _ hk => ?_).trans ((sub6 w1 _ _ _ _ _ _ ?_ ?_).trans (on_mono _ fun k _ hk => ?_)))
    · simp at hk; omega
    · omega
    · omega
    · simp only [since]; omega
  · refine S2.out.ext ((on_mono w1 (T := fun k => w.heap.size + 2 < k) fun k _ hk => ?_).trans ((sub6 w1 _ _ _ _ _ _ ?_ ?_).trans (on_mono _ fun k _ hk => ?_)))
    · simp at hk; omega
    · omega
    · omega
    · simp only [since]; omega
  · exact Below.setCell (Below.setCell (Below.setCell (Below.setCell (Below.setCell (Below.setCell HX.out (by simp) _) (by simp) _) (by simp <;> omega) _) (by simp <;> omega) _) (by simp <;> omega) _) (by simp <;> omega) _

theorem keepT8 {w wa wb : World} {B C : Nat} {u0 u1 u2 u3 v0 v1 v2 v3 : Value}
    (h : Gro w wa ∧ wa.cell? ⟨B, 0, none⟩ = some u0 ∧ wa.cell? ⟨B, 1, none⟩ = some u1 ∧ wa.cell? ⟨B, 2, none⟩ = some u2 ∧ wa.cell? ⟨B, 3, none⟩ = some u3 ∧ wa.cell? ⟨C, 0, none⟩ = some v0 ∧ wa.cell? ⟨C, 1, none⟩ = some v1 ∧ wa.cell? ⟨C, 2, none⟩ = some v2 ∧ wa.cell? ⟨C, 3, none⟩ = some v3) (hx : Gro wa wb) :
    Gro w wb ∧ wb.cell? ⟨B, 0, none⟩ = some u0 ∧ wb.cell? ⟨B, 1, none⟩ = some u1 ∧ wb.cell? ⟨B, 2, none⟩ = some u2 ∧ wb.cell? ⟨B, 3, none⟩ = some u3 ∧ wb.cell? ⟨C, 0, none⟩ = some v0 ∧ wb.cell? ⟨C, 1, none⟩ = some v1 ∧ wb.cell? ⟨C, 2, none⟩ = some v2 ∧ wb.cell? ⟨C, 3, none⟩ = some v3 :=
  ⟨h.1.trans hx, hx.ext.at h.2.1, hx.ext.at h.2.2.1, hx.ext.at h.2.2.2.1, hx.ext.at h.2.2.2.2.1, hx.ext.at h.2.2.2.2.2.1, hx.ext.at h.2.2.2.2.2.2.1, hx.ext.at h.2.2.2.2.2.2.2.1, hx.ext.at h.2.2.2.2.2.2.2.2⟩

set_option maxRecDepth 100000 in
set_option maxHeartbeats 4000000 in
theorem compareTup_any (va vb ua ub : Value) (a b : Tup) (w : World) (ha : SliceOf Rep.val w.cell? va a.vals) (hb : SliceOf Rep.val w.cell? vb b.vals) (ka : SliceOf Rep.int w.cell? ua a.lin) (kb : SliceOf Rep.int w.cell? ub b.lin) :
    Calls Tryz.prog 65 #[.agg #[va, .int .i64 a.from_, .int .i64 a.to_, ua], .agg #[vb, .int .i64 b.from_, .int .i64 b.to_, ub]] w fun e w' => e = .returned (.int .i64 (cmpTup a b)) ∧ Gro w w' := by
  have HA := Lib.hid ha
  have HB := Lib.hid hb
  have KA := Lib.hid ka
  have KB := Lib.hid kb
  obtain ⟨pa, ca, rfl, _⟩ := ha.form
  obtain ⟨pb, cb, rfl, _⟩ := hb.form
  obtain ⟨qa, da, rfl, _⟩ := ka.form
  obtain ⟨qb, db, rfl, _⟩ := kb.form
  unfold cmpTup tupRow
  generalize a.vals = av at *
  generalize b.vals = bv at *
  generalize a.lin = al at *
  generalize b.lin = bl at *
  generalize a.from_ = af at *
  generalize b.from_ = bf at *
  generalize a.to_ = at_ at *
  generalize b.to_ = bt at *
  clear ha hb ka kb
  go_enter Tryz.func65, Tryz.ntmps65
  go_wp2_with fail
  have c0 : ((w.alloc (.cells #[.slice pa av.length ca, .int .i64 af, .int .i64 at_, .slice qa al.length da] 77)).alloc (.cells #[.slice pb bv.length cb, .int .i64 bf, .int .i64 bt, .slice qb bl.length db] 77)).cell? ⟨w.heap.size, 0, none⟩ = some (.slice pa av.length ca) := by go_simp
  have c1 : ((w.alloc (.cells #[.slice pa av.length ca, .int .i64 af, .int .i64 at_, .slice qa al.length da] 77)).alloc (.cells #[.slice pb bv.length cb, .int .i64 bf, .int .i64 bt, .slice qb bl.length db] 77)).cell? ⟨w.heap.size, 1, none⟩ = some (.int .i64 af) := by go_simp
  have c2 : ((w.alloc (.cells #[.slice pa av.length ca, .int .i64 af, .int .i64 at_, .slice qa al.length da] 77)).alloc (.cells #[.slice pb bv.length cb, .int .i64 bf, .int .i64 bt, .slice qb bl.length db] 77)).cell? ⟨w.heap.size, 2, none⟩ = some (.int .i64 at_) := by go_simp
  have c3 : ((w.alloc (.cells #[.slice pa av.length ca, .int .i64 af, .int .i64 at_, .slice qa al.length da] 77)).alloc (.cells #[.slice pb bv.length cb, .int .i64 bf, .int .i64 bt, .slice qb bl.length db] 77)).cell? ⟨w.heap.size, 3, none⟩ = some (.slice qa al.length da) := by go_simp
  have c4 : ((w.alloc (.cells #[.slice pa av.length ca, .int .i64 af, .int .i64 at_, .slice qa al.length da] 77)).alloc (.cells #[.slice pb bv.length cb, .int .i64 bf, .int .i64 bt, .slice qb bl.length db] 77)).cell? ⟨w.heap.size + 1, 0, none⟩ = some (.slice pb bv.length cb) := by go_simp
  have c5 : ((w.alloc (.cells #[.slice pa av.length ca, .int .i64 af, .int .i64 at_, .slice qa al.length da] 77)).alloc (.cells #[.slice pb bv.length cb, .int .i64 bf, .int .i64 bt, .slice qb bl.length db] 77)).cell? ⟨w.heap.size + 1, 1, none⟩ = some (.int .i64 bf) := by go_simp
  have c6 : ((w.alloc (.cells #[.slice pa av.length ca, .int .i64 af, .int .i64 at_, .slice qa al.length da] 77)).alloc (.cells #[.slice pb bv.length cb, .int .i64 bf, .int .i64 bt, .slice qb bl.length db] 77)).cell? ⟨w.heap.size + 1, 2, none⟩ = some (.int .i64 bt) := by go_simp
  have c7 : ((w.alloc (.cells #[.slice pa av.length ca, .int .i64 af, .int .i64 at_, .slice qa al.length da] 77)).alloc (.cells #[.slice pb bv.length cb, .int .i64 bf, .int .i64 bt, .slice qb bl.length db] 77)).cell? ⟨w.heap.size + 1, 3, none⟩ = some (.slice qb bl.length db) := by go_simp
  have hxx := ((Gro.refl w).alloc (.cells #[.slice pa av.length ca, .int .i64 af, .int .i64 at_, .slice qa al.length da] 77)).alloc (.cells #[.slice pb bv.length cb, .int .i64 bf, .int .i64 bt, .slice qb bl.length db] 77)
  generalize ((w.alloc (.cells #[.slice pa av.length ca, .int .i64 af, .int .i64 at_, .slice qa al.length da] 77)).alloc (.cells #[.slice pb bv.length cb, .int .i64 bf, .int .i64 bt, .slice qb bl.length db] 77)) = w1 at c0 c1 c2 c3 c4 c5 c6 c7 hxx ⊢
  have hS0 : Gro w w1.drew ∧ w1.drew.cell? ⟨w.heap.size, 0, none⟩ = some (.slice pa av.length ca) ∧ w1.drew.cell? ⟨w.heap.size, 1, none⟩ = some (.int .i64 af) ∧ w1.drew.cell? ⟨w.heap.size, 2, none⟩ = some (.int .i64 at_) ∧ w1.drew.cell? ⟨w.heap.size, 3, none⟩ = some (.slice qa al.length da) ∧ w1.drew.cell? ⟨w.heap.size + 1, 0, none⟩ = some (.slice pb bv.length cb) ∧ w1.drew.cell? ⟨w.heap.size + 1, 1, none⟩ = some (.int .i64 bf) ∧ w1.drew.cell? ⟨w.heap.size + 1, 2, none⟩ = some (.int .i64 bt) ∧ w1.drew.cell? ⟨w.heap.size + 1, 3, none⟩ = some (.slice qb bl.length db) := ⟨hxx.drew, c0, c1, c2, c3, c4, c5, c6, c7⟩
  clear c0 c1 c2 c3 c4 c5 c6 c7
  go_region_held3 (fun w' => Gro w w' ∧ w'.cell? ⟨w.heap.size, 0, none⟩ = some (.slice pa av.length ca) ∧ w'.cell? ⟨w.heap.size, 1, none⟩ = some (.int .i64 af) ∧ w'.cell? ⟨w.heap.size, 2, none⟩ = some (.int .i64 at_) ∧ w'.cell? ⟨w.heap.size, 3, none⟩ = some (.slice qa al.length da) ∧ w'.cell? ⟨w.heap.size + 1, 0, none⟩ = some (.slice pb bv.length cb) ∧ w'.cell? ⟨w.heap.size + 1, 1, none⟩ = some (.int .i64 bf) ∧ w'.cell? ⟨w.heap.size + 1, 2, none⟩ = some (.int .i64 bt) ∧ w'.cell? ⟨w.heap.size + 1, 3, none⟩ = some (.slice qb bl.length db))
    (first | with_reducible assumption | with_reducible exact keepT8 (by assumption) hx2 | with_reducible exact keepT8 (by assumption) hx3 | with_reducible exact keepT8 (by assumption) ((Gro.refl _).alloc _))
    (first | (go_at_call 55; refine (tup_row _ _ _ _ _ _ _ _ _).mono ?_; rintro e w2 ⟨rfl, hx2⟩) | (go_at_call 103; refine (compareRow_any _ _ _ _ ⟨av, al⟩ ⟨bv, bl⟩ _ (by exact HA.out.ext (And.left ‹Gro w _ ∧ _›).ext.full) (by exact HB.out.ext (And.left ‹Gro w _ ∧ _›).ext.full) (by exact KA.out.ext (And.left ‹Gro w _ ∧ _›).ext.full) (by exact KB.out.ext (And.left ‹Gro w _ ∧ _›).ext.full)).mono ?_; rintro e w3 ⟨rfl, hx3⟩) | (go_at_call 112; refine (compare_int _ _ _).mono ?_; rintro e w4 ⟨rfl, rfl⟩) | (go_at_call 114; refine (or_any _ 0 3 [cmpRow ⟨av, al⟩ ⟨bv, bl⟩, cmpI af bf, cmpI at_ bt] _ (by simp [maxLen]) (by exact fun k hk => or_new w3 [cmpRow ⟨av, al⟩ ⟨bv, bl⟩, cmpI af bf, cmpI at_ bt] 3 k hk)).mono ?_; rintro e w5 ⟨rfl, rfl⟩))
  all_goals (obtain ⟨hfin, _⟩ := ‹Gro w _ ∧ _›)
  all_goals go_wp2_with fail
  all_goals go_ret
  all_goals exact ⟨rfl, hfin⟩

theorem isAggTup (w : World) : (isAgg 77).run Tryz.prog w = .ok true w := by kernel_rfl
theorem sizeOfTup (w : World) : (Go.sizeOf 77).run Tryz.prog w = .ok 4 w := by kernel_rfl
theorem entersCmpTup : ∀ args w, (callFunc 65 args).run Tryz.prog w = .ok (.enter 65 args) w := enters_of Tryz.func65 (by kernel_rfl) rfl
theorem sort_tups_call (w : World) (S : Nat → Prop) (base : Nat) (e : TypeId) (v : Value) (xs : List Tup) (hown : OwnOf Rep.tup w S base e v xs) (hlen : xs.length < 4611686018427387904) :
    Calls Tryz.prog 64 #[v, .func (.func 65) #[] #[]] w fun en w' => en = .returned (.tuple #[]) ∧ OwnOf Rep.tup w' S base e v (sortBy cmpTup xs) ∧ w.grownBy w' v.ownBlock := by
  have h := sortFunc_rep Tryz.sortTups Rep.tup 4 rfl (by decide) isAggTup sizeOfTup cmpTup ord_tup 65 entersCmpTup (fun W x y cx cy hx hy => by
    obtain ⟨a, b, rfl, h1, h2, _⟩ := hx
    obtain ⟨a', b', rfl, h1', h2', _⟩ := hy
    exact compareTup_any _ _ _ _ _ _ W h1 h1' h2 h2') w S base e v xs hown hlen
  exact h

end Go.Proofs.YtdgpbpbjlnlijaaGreatDoor

/- value.Key -/
namespace Go.Proofs.YtdgpbpbjlnlijaaGreatDoor
open Go.RowKit

theorem keyVals_take (vs : List Val) (k : Nat) (h : k < vs.length) : keyVals (vs.take (k + 1)) = keyVals (vs.take k) ++ keyVal vs[k] := by
  rw [List.take_succ_eq_append_getElem h]
  unfold keyVals
  rw [List.flatMap_append, List.flatMap_cons, List.flatMap_nil, List.append_nil]
theorem itoa_len (n : Int) (h0 : -9223372036854775808 ≤ n) (h1 : n ≤ 9223372036854775807) : (Lib.itoa n).length ≤ 21 := Lib.itoa_length_le n h0 h1
/-- values with short texts -/
def fitVals (vs : List Val) : Prop := vs.length ≤ 1048576 ∧ ∀ v ∈ vs, v.s.size ≤ 1048576
theorem keyVal_bytes (yk yn : Int) (ys : ByteArray) : (((((((⟨(Lib.itoa yk).toArray⟩ : ByteArray) ++ ⟨#[44]⟩) ++ ⟨(Lib.itoa yn).toArray⟩) ++ ⟨#[44]⟩) ++ ⟨(Lib.itoa (ys.size : Int)).toArray⟩) ++ ⟨#[58]⟩) ++ ys).data.toList = keyVal ⟨yk, yn, ys⟩ := by
  simp [keyVal, ByteArray.data_append]
theorem keyVal_len {yk yn : Int} {ys : ByteArray} (h1 : (Lib.itoa yk).length ≤ 21) (h2 : (Lib.itoa yn).length ≤ 21) (h3 : (Lib.itoa (ys.size : Int)).length ≤ 21) (h4 : ys.size ≤ 1048576) : (keyVal ⟨yk, yn, ys⟩).length ≤ 1048650 := by
  have e : ys.data.toList.length = ys.size := Array.length_toList
  simp only [keyVal, List.length_append, List.length_cons, e]
  omega
theorem of_list (s : ByteArray) : s = ⟨s.data.toList.toArray⟩ := by
  obtain ⟨⟨l⟩⟩ := s
  rfl
theorem writeKey (b : Nat) (bs : List UInt8) (yk yn : Int) (ys : ByteArray) (w : World) (h : Bld b bs w) (hlen : bs.length + (keyVal ⟨yk, yn, ys⟩).length ≤ 140737488355328) :
    Calls Tryz.prog 86 #[.pointer (some ⟨b, 0, none⟩), .string (((((((⟨(Lib.itoa yk).toArray⟩ : ByteArray) ++ ⟨#[44]⟩) ++ ⟨(Lib.itoa yn).toArray⟩) ++ ⟨#[44]⟩) ++ ⟨(Lib.itoa (ys.size : Int)).toArray⟩) ++ ⟨#[58]⟩) ++ ys)] w fun e w' => e = .returned (.tuple #[.int .i64 (keyVal ⟨yk, yn, ys⟩).length, .nilIface]) ∧ Bld b (bs ++ keyVal ⟨yk, yn, ys⟩) w' ∧ Below b w w' ∧ Lib.OthersKept 5 (some b) w w' := by
  rw [of_list (_ ++ ys), keyVal_bytes]
  exact writeString_any b bs _ w h hlen
theorem bldE {b : Nat} {bs : List UInt8} {w w' : World} (h : Bld b bs w) (hx : Ext w w') : Bld b bs w' := h.ext hx
theorem tabE {w w' : World} (h : TabW w) (hx : Ext w w') : TabW w' := h.ext hx
theorem keepK {w wa wb : World} {B : Nat} {v0 v1 v2 : Value} {T : TypeId}
    (h : Ext w wa ∧ wa.cell? ⟨B, 0, none⟩ = some v0 ∧ wa.cell? ⟨B, 1, none⟩ = some v1 ∧ wa.cell? ⟨B, 2, none⟩ = some v2 ∧ wa.heap[B]? = some (.cells #[v0, v1, v2] T (0, 0))) (hx : Ext wa wb) :
    Ext w wb ∧ wb.cell? ⟨B, 0, none⟩ = some v0 ∧ wb.cell? ⟨B, 1, none⟩ = some v1 ∧ wb.cell? ⟨B, 2, none⟩ = some v2 ∧ wb.heap[B]? = some (.cells #[v0, v1, v2] T (0, 0)) :=
  ⟨h.1.trans hx, hx.at h.2.1, hx.at h.2.2.1, hx.at h.2.2.2.1, (hx.block B (Array.getElem?_eq_some_iff.1 h.2.2.2.2).1).trans h.2.2.2.2⟩
theorem keepO {w wa wb : World} {B : Nat} {v0 v1 v2 : Value} {T : TypeId}
    (h : Ext w wa ∧ wa.cell? ⟨B, 0, none⟩ = some v0 ∧ wa.cell? ⟨B, 1, none⟩ = some v1 ∧ wa.cell? ⟨B, 2, none⟩ = some v2 ∧ wa.heap[B]? = some (.cells #[v0, v1, v2] T (0, 0)))
    (hx : Below w.heap.size wa wb) (ho : Lib.OthersKept 5 (some w.heap.size) wa wb) (hB : B ≠ w.heap.size) (hT : T ≠ 5) :
    Ext w wb ∧ wb.cell? ⟨B, 0, none⟩ = some v0 ∧ wb.cell? ⟨B, 1, none⟩ = some v1 ∧ wb.cell? ⟨B, 2, none⟩ = some v2 ∧ wb.heap[B]? = some (.cells #[v0, v1, v2] T (0, 0)) := by
  have hk := kept_at ho h.2.2.2.2 hB hT
  exact ⟨Below.trans h.1 hx, by rw [Lib.cell_of_heap hk]; rfl, by rw [Lib.cell_of_heap hk]; rfl, by rw [Lib.cell_of_heap hk]; rfl, hk⟩

set_option maxRecDepth 100000 in
set_option maxHeartbeats 8000000 in
theorem key_any (v : Value) (vs : List Val) (w : World) (hv : SliceOf Rep.val w.cell? v vs) (hf : fitVals vs) (ht : TabW w) :
    Calls Tryz.prog 43 #[v] w fun e w' => e = .returned (.string ⟨(keyVals vs).toArray⟩) ∧ Ext w w' := by
  obtain ⟨p, cap, rfl, hc1, hc2, hp⟩ := hv.form
  obtain ⟨N, hN⟩ : ∃ N, N = vs.length := ⟨_, rfl⟩
  have HV := Lib.hid hv
  rw [← hN]
  have HN := Lib.hid hN
  have HP := Lib.hid hp
  have HF := Lib.hid hf
  have HT := Lib.hid ht
  have hNl : N ≤ 1048576 := by rw [hN]; exact hf.1
  clear hv hN hp hc1 hc2 hf ht
  have hF0 := Bld.fresh w
  go_enter Tryz.func43, Tryz.ntmps43
  go_wp2_with fail
  go_loopg [8] N (fun gk vi wr => ∃ (k : Nat), k ≤ N ∧ gk = N - k ∧ vi = .int .i64 k ∧ Hid (Bld w.heap.size (keyVals (vs.take k)) wr) ∧ Hid ((keyVals (vs.take k)).length ≤ 1048650 * k) ∧ Hid (Ext w wr))
  case atStart => exact ⟨0, by omega, rfl, rfl, hF0, by show 0 ≤ _; omega, (Ext.refl w).alloc _⟩
  case round =>
    obtain ⟨k, hk, rfl, rfl, HB, HLen, HX⟩ := hrel
    by_cases hlt : k < N
    · have hkl : k < vs.length := by have := HN.out; omega
      have hd : decide ((k : Int) < (N : Int)) = true := by simp; omega
      obtain ⟨b, o, rfl⟩ := HP.out (by decide) (by omega)
      have hv := HV.out
      rw [← HN.out] at hv
      obtain ⟨c0, c1, c2, r1, r2⟩ := val_cells hv k hkl
      replace c0 := HX.out.at c0
      replace c1 := HX.out.at c1
      replace c2 := HX.out.at c2
      have hst := keyVals_take vs k hkl
      have hsz := HF.out.2 vs[k] (List.getElem_mem hkl)
      generalize vs[k] = y at c0 c1 c2 r1 r2 hst hsz
      obtain ⟨yk, yn, ys⟩ := y
      dsimp only at c0 c1 c2 r1 r2 hst hsz
      have HST := Lib.hid hst
      have HR := Lib.hid (show ((-9223372036854775808 ≤ yk ∧ yk ≤ 9223372036854775807) ∧ (-9223372036854775808 ≤ yn ∧ yn ≤ 9223372036854775807)) ∧ ys.size ≤ 1048576 from ⟨⟨r1, r2⟩, hsz⟩)
      have e0 := cell_lt c0
      clear hst hv r1 r2 hsz
      go_wp2_with fail
      have k0 : (wr.alloc (.cells #[.int .i64 yk, .int .i64 yn, .string ys] 44)).cell? ⟨wr.heap.size, 0, none⟩ = some (.int .i64 yk) := by go_simp
      have k1 : (wr.alloc (.cells #[.int .i64 yk, .int .i64 yn, .string ys] 44)).cell? ⟨wr.heap.size, 1, none⟩ = some (.int .i64 yn) := by go_simp
      have k2 : (wr.alloc (.cells #[.int .i64 yk, .int .i64 yn, .string ys] 44)).cell? ⟨wr.heap.size, 2, none⟩ = some (.string ys) := by go_simp
      have k3 : (wr.alloc (.cells #[.int .i64 yk, .int .i64 yn, .string ys] 44)).heap[wr.heap.size]? = some (.cells #[.int .i64 yk, .int .i64 yn, .string ys] 44 (0, 0)) := (MapKept.heap_alloc wr _).1
      have x0 : Ext wr (wr.alloc (.cells #[.int .i64 yk, .int .i64 yn, .string ys] 44)) := (Ext.refl wr).alloc _
      generalize (wr.alloc (.cells #[.int .i64 yk, .int .i64 yn, .string ys] 44)) = W at k0 k1 k2 k3 x0 ⊢
      have hB0 : Bld w.heap.size (keyVals (vs.take k)) W.drew := HB.out.ext x0.drew
      have hT0 : TabW W.drew := HT.out.ext (HX.out.trans x0.drew)
      have hlt2 := HB.out.lt
      have hS0 : Ext w W.drew ∧ W.drew.cell? ⟨wr.heap.size, 0, none⟩ = some (.int .i64 yk) ∧ W.drew.cell? ⟨wr.heap.size, 1, none⟩ = some (.int .i64 yn) ∧ W.drew.cell? ⟨wr.heap.size, 2, none⟩ = some (.string ys) ∧ W.drew.heap[wr.heap.size]? = some (.cells #[.int .i64 yk, .int .i64 yn, .string ys] 44 (0, 0)) := ⟨HX.out.trans x0.drew, k0, k1, k2, k3⟩
      clear k0 k1 k2 k3 c0 c1 c2
      have l1 := itoa_len yk HR.out.1.1.1 HR.out.1.1.2
      have l2 := itoa_len yn HR.out.1.2.1 HR.out.1.2.2
      have l3 := itoa_len (ys.size : Int) (by omega) (by have := HR.out; omega)
      have l4 := HR.out.2
      have q1 : ¬ 9223372036854775807 < (Lib.itoa yk).length + 1 := by omega
      have q2 : ¬ 9223372036854775807 < (Lib.itoa yk).length + 1 + (Lib.itoa yn).length := by omega
      have q3 : ¬ 9223372036854775807 < (Lib.itoa yk).length + 1 + (Lib.itoa yn).length + 1 := by omega
      have q4 : ¬ 9223372036854775807 < (Lib.itoa yk).length + 1 + (Lib.itoa yn).length + 1 + (Lib.itoa (ys.size : Int)).length := by omega
      have q5 : ¬ 9223372036854775807 < (Lib.itoa yk).length + 1 + (Lib.itoa yn).length + 1 + (Lib.itoa (ys.size : Int)).length + 1 := by omega
      have q6 : ¬ 9223372036854775807 < (Lib.itoa yk).length + 1 + (Lib.itoa yn).length + 1 + (Lib.itoa (ys.size : Int)).length + 1 + ys.size := by omega
      have HQ := Lib.hid (And.intro (And.intro l1 l2) (And.intro l3 l4))
      clear l1 l2 l3 l4
      go_region_held3 (fun w' => Ext w w' ∧ w'.cell? ⟨wr.heap.size, 0, none⟩ = some (.int .i64 yk) ∧ w'.cell? ⟨wr.heap.size, 1, none⟩ = some (.int .i64 yn) ∧ w'.cell? ⟨wr.heap.size, 2, none⟩ = some (.string ys) ∧ w'.heap[wr.heap.size]? = some (.cells #[.int .i64 yk, .int .i64 yn, .string ys] 44 (0, 0)))
        (first | with_reducible assumption | with_reducible exact keepK (by assumption) hx2 | with_reducible exact keepO (by assumption) hx5 hO5 (by omega) (by decide))
        (first | (go_at_call 87; refine (itoa_any _ _ (by have := HR.out; omega) (by have := HR.out; omega) (by assumption)).mono ?_; rintro e w2 ⟨rfl, hx2⟩; have hB2 := bldE (by assumption) hx2; have hT2 := tabE (by assumption) hx2) | (go_at_call 88; refine (formatInt_any _ _ (by have := HR.out; omega) (by have := HR.out; omega) (by assumption)).mono ?_; rintro e w2 ⟨rfl, hx2⟩; have hB2 := bldE (by assumption) hx2; have hT2 := tabE (by assumption) hx2) | (go_at_call 86; refine (writeKey _ _ yk yn ys _ (by assumption) (by have h1 := HLen.out; have h2 := HQ.out; have h3 := keyVal_len h2.1.1 h2.1.2 h2.2.1 h2.2.2; omega)).mono ?_; rintro e w5 ⟨rfl, hB5, hx5, hO5⟩))
      all_goals (obtain ⟨hfin, _⟩ := ‹Ext w w5 ∧ _›)
      all_goals have HB5 := Lib.hid (show Bld w.heap.size (keyVals (vs.take (k + 1))) w5 from by rw [HST.out]; exact hB5)
      all_goals have HL5 := Lib.hid (show (keyVals (vs.take (k + 1))).length ≤ 1048650 * (k + 1) from by rw [HST.out, List.length_append]; have h1 := HLen.out; have h2 := HQ.out; have h3 := keyVal_len h2.1.1 h2.1.2 h2.2.1 h2.2.2; omega)
      all_goals have HX5 := Lib.hid hfin
      all_goals clear hB5 hfin hO5 hx5
      all_goals go_wp2_with fail
      all_goals go_roundg (N - (k + 1))
      all_goals first
        | (case measure => omega)
        | (case rel => exact ⟨k + 1, by omega, rfl, by go_num, HB5.out, HL5.out, HX5.out⟩)
    · have hkN : k = N := by omega
      have hd : ¬ (k : Int) < (N : Int) := by omega
      have HBF := Lib.hid (show Bld w.heap.size (keyVals vs) wr from by have h := HB.out; rw [hkN, HN.out, List.take_length] at h; exact h)
      clear hkN HLen
      go_wp2_with fail
      refine (Tryz.Builder_String_any _ _ (keyVals vs) _ HBF.out (Nat.le_of_lt HBF.out.lt)).mono ?_
      rintro e w6 ⟨rfl, x6⟩
      have X6 := Lib.hid (show Ext w w6 from Below.trans HX.out x6)
      clear x6
      go_wp2_with fail
      go_ret
      exact ⟨rfl, X6.out⟩

end Go.Proofs.YtdgpbpbjlnlijaaGreatDoor

/- tuple.rowKey -/
namespace Go.Proofs.YtdgpbpbjlnlijaaGreatDoor
open Go.RowKit

theorem lin_cell {h : View} {b o n cap : Nat} {xs : List Int} (k : SliceOf Rep.int h (.slice (some ⟨b, o, none⟩) n cap) xs) (i : Nat) (hi : i < xs.length) :
    h ⟨b, o + i, none⟩ = some (.int .i64 xs[i]) ∧ (-9223372036854775808 ≤ xs[i] ∧ xs[i] ≤ 9223372036854775807) := by
  obtain ⟨c, ⟨rfl, h3⟩, h2⟩ := k.at i hi
  have h4 := h2 0 _ rfl
  simp only [show i * Rep.int.size = i from Nat.mul_one i] at h4
  exact ⟨h4, h3⟩
theorem vals_range {h : View} {v : Value} {vs : List Val} (k : SliceOf Rep.val h v vs) : ∀ x ∈ vs, (-9223372036854775808 ≤ x.kind ∧ x.kind ≤ 9223372036854775807) ∧ (-9223372036854775808 ≤ x.n ∧ x.n ≤ 9223372036854775807) := by
  intro x hx
  obtain ⟨i, hi, rfl⟩ := List.getElem_of_mem hx
  obtain ⟨p, cap, rfl, _, _, hp⟩ := k.form
  obtain ⟨b, o, rfl⟩ := hp (by decide) (by omega)
  obtain ⟨_, _, _, r1, r2⟩ := val_cells k i hi
  exact ⟨r1, r2⟩
theorem keyVals_len {vs : List Val} (h : ∀ x ∈ vs, (-9223372036854775808 ≤ x.kind ∧ x.kind ≤ 9223372036854775807) ∧ (-9223372036854775808 ≤ x.n ∧ x.n ≤ 9223372036854775807)) (hf : ∀ x ∈ vs, x.s.size ≤ 1048576) : (keyVals vs).length ≤ 1048650 * vs.length := by
  induction vs with
  | nil => exact Nat.zero_le _
  | cons x vs ih =>
    have h1 := ih (fun y hy => h y (by simp [hy])) fun y hy => hf y (by simp [hy])
    have hx := h x (by simp)
    have hs := hf x (by simp)
    have h2 := keyVal_len (itoa_len x.kind hx.1.1 hx.1.2) (itoa_len x.n hx.2.1 hx.2.2) (itoa_len (x.s.size : Int) (by omega) (by omega)) hs
    unfold keyVals at h1 ⊢
    rw [List.flatMap_cons, List.length_append, List.length_cons]
    have h3 : (keyVal x).length ≤ 1048650 := h2
    omega
theorem keyLin_take (l : List Int) (k : Nat) (h : k < l.length) : keyLin (l.take (k + 1)) = keyLin (l.take k) ++ 44 :: Lib.itoa l[k] := by
  rw [List.take_succ_eq_append_getElem h]
  unfold keyLin
  rw [List.flatMap_append, List.flatMap_cons, List.flatMap_nil, List.append_nil]
theorem rowHead_bytes (n : Int) (ks : List UInt8) : (((⟨(Lib.itoa n).toArray⟩ : ByteArray) ++ ⟨#[59]⟩) ++ ⟨ks.toArray⟩).data.toList = Lib.itoa n ++ 59 :: ks := by
  simp [ByteArray.data_append]
theorem linBytes (n : Int) : ((⟨#[44]⟩ : ByteArray) ++ ⟨(Lib.itoa n).toArray⟩).data.toList = 44 :: Lib.itoa n := by
  simp [ByteArray.data_append]
theorem writeHead (b : Nat) (bs : List UInt8) (n : Int) (ks : List UInt8) (w : World) (h : Bld b bs w) (hlen : bs.length + (Lib.itoa n ++ 59 :: ks).length ≤ 140737488355328) :
    Calls Tryz.prog 86 #[.pointer (some ⟨b, 0, none⟩), .string (((⟨(Lib.itoa n).toArray⟩ : ByteArray) ++ ⟨#[59]⟩) ++ ⟨ks.toArray⟩)] w fun e w' => e = .returned (.tuple #[.int .i64 (Lib.itoa n ++ 59 :: ks).length, .nilIface]) ∧ Bld b (bs ++ (Lib.itoa n ++ 59 :: ks)) w' ∧ Below b w w' := by
  rw [of_list (_ ++ (⟨ks.toArray⟩ : ByteArray)), rowHead_bytes]
  exact (writeString_any b bs _ w h hlen).mono fun _ _ h => ⟨h.1, h.2.1, h.2.2.1⟩
theorem writeLin (b : Nat) (bs : List UInt8) (n : Int) (w : World) (h : Bld b bs w) (hlen : bs.length + (44 :: Lib.itoa n).length ≤ 140737488355328) :
    Calls Tryz.prog 86 #[.pointer (some ⟨b, 0, none⟩), .string ((⟨#[44]⟩ : ByteArray) ++ ⟨(Lib.itoa n).toArray⟩)] w fun e w' => e = .returned (.tuple #[.int .i64 (44 :: Lib.itoa n).length, .nilIface]) ∧ Bld b (bs ++ 44 :: Lib.itoa n) w' ∧ Below b w w' := by
  rw [of_list (_ ++ (⟨(Lib.itoa n).toArray⟩ : ByteArray)), linBytes]
  exact (writeString_any b bs _ w h hlen).mono fun _ _ h => ⟨h.1, h.2.1, h.2.2.1⟩
theorem extR {w wa : World} {B : Nat} {v0 v2 : Value} (h : Ext w wa ∧ wa.cell? ⟨B, 0, none⟩ = some v0 ∧ wa.cell? ⟨B, 3, none⟩ = some v2) : Ext w wa := h.1
theorem keepR {w wa wb : World} {B : Nat} {v0 v2 : Value} (h : Ext w wa ∧ wa.cell? ⟨B, 0, none⟩ = some v0 ∧ wa.cell? ⟨B, 3, none⟩ = some v2) (hx : Ext wa wb) : Ext w wb ∧ wb.cell? ⟨B, 0, none⟩ = some v0 ∧ wb.cell? ⟨B, 3, none⟩ = some v2 :=
  ⟨h.1.trans hx, hx.at h.2.1, hx.at h.2.2⟩
theorem keepRB {w wa wb : World} {v0 v2 : Value} (h : Ext w wa ∧ wa.cell? ⟨w.heap.size, 0, none⟩ = some v0 ∧ wa.cell? ⟨w.heap.size, 3, none⟩ = some v2) (hx : Below (w.heap.size + 1) wa wb) : Ext w wb ∧ wb.cell? ⟨w.heap.size, 0, none⟩ = some v0 ∧ wb.cell? ⟨w.heap.size, 3, none⟩ = some v2 :=
  ⟨Below.trans h.1 (hx.mono (Nat.le_succ _)), (Below.cell hx (Nat.lt_succ_self _)).trans h.2.1, (Below.cell hx (Nat.lt_succ_self _)).trans h.2.2⟩

set_option maxRecDepth 100000 in
set_option maxHeartbeats 8000000 in
theorem rowKey_any (pa pb : Option Addr) (ka kb : Nat) (f t : Int) (vs : List Val) (ls : List Int) (w : World) (hv : SliceOf Rep.val w.cell? (.slice pa vs.length ka) vs) (hl : SliceOf Rep.int w.cell? (.slice pb ls.length kb) ls) (hf : fitVals vs) (hfl : ls.length ≤ 1048576) (ht : TabW w) :
    Calls Tryz.prog 62 #[.agg #[.slice pa vs.length ka, .int .i64 f, .int .i64 t, .slice pb ls.length kb]] w fun e w' => e = .returned (.string ⟨(keyRow ⟨vs, ls⟩).toArray⟩) ∧ Ext w w' := by
  obtain ⟨p, cap, hform, _, _, hp⟩ := hl.form
  obtain ⟨rfl, _, rfl⟩ : pb = p ∧ True ∧ kb = cap := by
    injection hform with h1 h2 h3
    exact ⟨h1, trivial, h3⟩
  clear hform
  have hkl := keyVals_len (vals_range hv) hf.2
  obtain ⟨N, hN⟩ : ∃ N, N = ls.length := ⟨_, rfl⟩
  obtain ⟨M, hM⟩ : ∃ M, M = vs.length := ⟨_, rfl⟩
  have HV := Lib.hid hv
  have HL := Lib.hid hl
  have hMl : M ≤ 1048576 := by rw [hM]; exact hf.1
  have hNl : N ≤ 1048576 := by omega
  rw [← hM] at HV hkl ⊢
  rw [← hN] at HL hp ⊢
  have HN := Lib.hid hN
  have HM := Lib.hid hM
  have HP := Lib.hid hp
  have HF := Lib.hid hf
  have HT := Lib.hid ht
  have HK := Lib.hid hkl
  clear hv hl hN hM hp hf hfl ht hkl
  go_enter Tryz.func62, Tryz.ntmps62
  go_wp2_with fail
  have k0 : ((w.alloc (.cells #[.slice pa M ka, .int .i64 f, .int .i64 t, .slice pb N kb] 77)).alloc (.cells #[.pointer none, .slice none 0 0] 138)).cell? ⟨w.heap.size, 0, none⟩ = some (.slice pa M ka) := by go_simp
  have k2 : ((w.alloc (.cells #[.slice pa M ka, .int .i64 f, .int .i64 t, .slice pb N kb] 77)).alloc (.cells #[.pointer none, .slice none 0 0] 138)).cell? ⟨w.heap.size, 3, none⟩ = some (.slice pb N kb) := by go_simp
  have x0 : Ext w ((w.alloc (.cells #[.slice pa M ka, .int .i64 f, .int .i64 t, .slice pb N kb] 77)).alloc (.cells #[.pointer none, .slice none 0 0] 138)) := ((Ext.refl w).alloc _).alloc _
  have hB := Bld.fresh (w.alloc (.cells #[.slice pa M ka, .int .i64 f, .int .i64 t, .slice pb N kb] 77))
  rw [show (w.alloc (.cells #[.slice pa M ka, .int .i64 f, .int .i64 t, .slice pb N kb] 77)).heap.size = w.heap.size + 1 by simp] at hB
  generalize ((w.alloc (.cells #[.slice pa M ka, .int .i64 f, .int .i64 t, .slice pb N kb] 77)).alloc (.cells #[.pointer none, .slice none 0 0] 138)) = W at k0 k2 x0 hB ⊢
  have hB0 : Bld (w.heap.size + 1) [] W.drew := hB.ext (Ext.refl W).drew
  have hT0 : TabW W.drew := HT.out.ext x0.drew
  have hS0 : Ext w W.drew ∧ W.drew.cell? ⟨w.heap.size, 0, none⟩ = some (.slice pa M ka) ∧ W.drew.cell? ⟨w.heap.size, 3, none⟩ = some (.slice pb N kb) := ⟨x0.drew, k0, k2⟩
  have l1 := itoa_len (M : Int) (by omega) (by omega)
  have l2 := HK.out
  have q1 : ¬ 9223372036854775807 < (Lib.itoa (M : Int)).length + 1 := by omega
  have q2 : ¬ 9223372036854775807 < (Lib.itoa (M : Int)).length + 1 + (keyVals vs).length := by omega
  have HQ := Lib.hid (show (Lib.itoa (M : Int)).length ≤ 21 from l1)
  clear l1 l2 k0 k2 hB
  go_region_held3 (fun w' => Ext w w' ∧ w'.cell? ⟨w.heap.size, 0, none⟩ = some (.slice pa M ka) ∧ w'.cell? ⟨w.heap.size, 3, none⟩ = some (.slice pb N kb))
    (first | with_reducible assumption | with_reducible exact keepR (by assumption) hx2 | with_reducible exact keepRB (by assumption) hx5)
    (first | (go_at_call 87; refine (itoa_any _ _ (by omega) (by omega) (by assumption)).mono ?_; rintro e w2 ⟨rfl, hx2⟩; have hB2 := bldE (by assumption) hx2; have hT2 := tabE (by assumption) hx2) | (go_at_call 43; refine (key_any _ vs _ (HV.out.ext (Ext.full (extR (by assumption : Ext w _ ∧ World.cell? _ ⟨w.heap.size, 0, none⟩ = some (.slice pa M ka) ∧ World.cell? _ ⟨w.heap.size, 3, none⟩ = some (.slice pb N kb))))) HF.out (by assumption)).mono ?_; rintro e w2 ⟨rfl, hx2⟩; have hB2 := bldE (by assumption) hx2; have hT2 := tabE (by assumption) hx2) | (go_at_call 86; refine (writeHead _ _ _ (keyVals vs) _ (by assumption) (by have h1 := HQ.out; have h2 := HK.out; simp only [List.length_nil, List.length_append, List.length_cons]; omega)).mono ?_; rintro e w5 ⟨rfl, hB5, hx5⟩))
  all_goals (obtain ⟨hfin, _, k3⟩ := ‹Ext w w5 ∧ _›)
  all_goals have HB5 := Lib.hid (show Bld (w.heap.size + 1) (Lib.itoa (M : Int) ++ 59 :: keyVals vs) w5 from hB5)
  all_goals have HX5 := Lib.hid hfin
  all_goals have e3 := cell_lt k3
  all_goals clear hB5 hfin hx5
  all_goals go_wp2_with fail
  all_goals go_loopg [19] N (fun gk vi wr => ∃ (k : Nat), k ≤ N ∧ gk = N - k ∧ vi = .int .i64 k ∧ Hid (Bld (w.heap.size + 1) ((Lib.itoa (M : Int) ++ 59 :: keyVals vs) ++ keyLin (ls.take k)) wr) ∧ Hid ((keyLin (ls.take k)).length ≤ 22 * k) ∧ Hid (Ext w wr))
  all_goals first
    | (case atStart => exact ⟨0, by omega, rfl, rfl, by rw [List.take_zero]; show Bld _ (_ ++ []) _; rw [List.append_nil]; exact HB5.out, by rw [List.take_zero]; exact Nat.zero_le _, HX5.out⟩)
    | skip
  all_goals
    obtain ⟨k, hk, rfl, rfl, HB, HLen, HX⟩ := hrel
    by_cases hlt : k < N
    · have hkl : k < ls.length := by have := HN.out; omega
      have hd : decide ((k : Int) < (N : Int)) = true := by simp; omega
      obtain ⟨b, o, rfl⟩ := HP.out (by decide) (by omega)
      obtain ⟨c0, r0⟩ := lin_cell HL.out k hkl
      replace c0 := HX.out.at c0
      have hst := keyLin_take ls k hkl
      generalize ls[k] = y at c0 r0 hst
      have HST := Lib.hid hst
      have l1 := itoa_len y r0.1 r0.2
      have q1 : ¬ 9223372036854775807 < 1 + (Lib.itoa y).length := by omega
      have HR := Lib.hid (And.intro l1 r0)
      have e0 := cell_lt c0
      clear hst r0 l1
      go_wp2_with fail
      refine (itoa_any _ _ HR.out.2.1 HR.out.2.2 (HT.out.ext HX.out)).mono ?_
      rintro e w7 ⟨rfl, x7⟩
      have HB7 := HB.out.ext x7
      have HX7 := Lib.hid (HX.out.trans x7)
      clear x7
      go_wp2_with fail
      refine (writeLin _ _ _ _ HB7 (by have h1 := HR.out; have h2 := HK.out; have h3 := HLen.out; have h4 := HQ.out; simp only [List.length_append, List.length_cons]; omega)).mono ?_
      rintro e w8 ⟨rfl, b8, x8⟩
      have HB8 := Lib.hid (show Bld (w.heap.size + 1) ((Lib.itoa (M : Int) ++ 59 :: keyVals vs) ++ keyLin (ls.take (k + 1))) w8 from by rw [HST.out, ← List.append_assoc]; exact b8)
      have HL8 := Lib.hid (show (keyLin (ls.take (k + 1))).length ≤ 22 * (k + 1) from by rw [HST.out, List.length_append, List.length_cons]; have h1 := HR.out.1; have h3 := HLen.out; omega)
      have HX8 := Lib.hid (show Ext w w8 from Below.trans HX7.out (x8.mono (Nat.le_succ _)))
      clear b8 x8 HB7
      go_wp2_with fail
      go_roundg (N - (k + 1))
      case measure => omega
      case rel => exact ⟨k + 1, by omega, rfl, by go_num, HB8.out, HL8.out, HX8.out⟩
    · have hkN : k = N := by omega
      have hd : ¬ (k : Int) < (N : Int) := by omega
      have HBF := Lib.hid (show Bld (w.heap.size + 1) (keyRow ⟨vs, ls⟩) wr from by
        have h := HB.out
        rw [hkN, HN.out, List.take_length] at h
        unfold keyRow
        rw [HM.out, List.append_assoc, List.cons_append] at h
        exact h)
      clear hkN HLen
      go_wp2_with fail
      refine (Tryz.Builder_String_any _ _ (keyRow ⟨vs, ls⟩) _ HBF.out (Nat.le_of_lt HBF.out.lt)).mono ?_
      rintro e w9 ⟨rfl, x9⟩
      have X9 := Lib.hid (show Ext w w9 from Below.trans HX.out (x9.mono (Nat.le_succ _)))
      clear x9
      go_wp2_with fail
      go_ret
      exact ⟨rfl, X9.out⟩

end Go.Proofs.YtdgpbpbjlnlijaaGreatDoor

/- tuple.Normalize -/
namespace Go.Proofs.YtdgpbpbjlnlijaaGreatDoor
open Go.RowKit Go.Maps

theorem MapV.ext {w w' : World} {P : Program} {k : TypeId} {S : Value → Prop} {b n : Nat} {m : Lit → Option Value} (h : MapV w P k S b n m) (hx : Ext w w') : MapV w' P k S b n m := h.kept (Ext.grows hx) (by simp)
theorem NInv.ext {w w' w'' : World} {base : Nat} {T : TypeId} {l : List Tup} {m1 m2 : Lit → Option Value} (h : NInv w w' base T l m1 m2) (hx : Ext w' w'') : NInv w w'' base T l m1 m2 := h.keep (Ext.grows hx) (fun k hk => by cases hk)
theorem RangeV.ext {w w' : World} {P : Program} {k : TypeId} {S : Value → Prop} {b r n : Nat} {m : Lit → Option Value} {left : Lit → Bool} {cnt : Nat} (h : RangeV w P k S b r n m left cnt) (hx : Ext w w') : RangeV w' P k S b r n m left cnt := h.kept (Ext.grows hx) (by simp) (by simp)
theorem ext_grown {a w w' : World} {row : Option Nat} (h : Ext a w) (gr : w.grownBy w' row) (hr : ∀ k, row = some k → a.heap.size ≤ k) : Ext a w' := Below.grown h gr h.size hr
theorem cell_grown {w w' : World} {row : Option Nat} {b o : Nat} {v : Value} (gr : w.grownBy w' row) (hc : w.cell? ⟨b, o, none⟩ = some v) (hne : ∀ k, row = some k → k ≠ b) : w'.cell? ⟨b, o, none⟩ = some v :=
  (World.cell?_of_block (w := w) (gr.block b (cell_lt hc) (fun e => hne b e.symm rfl))).trans hc
theorem off_grow {w w' : World} {u : Value} {g a b : Nat} (gr : w.grownBy w' u.ownBlock) (hg : u.ownBlock = some g ∨ g = w.heap.size) : Sub (on w (fun x => u.ownBlock ≠ some x)) (on w' (fun x => (Value.slice (some ⟨g, 0, none⟩) a b).ownBlock ≠ some x)) := fun p v e => by
  obtain ⟨h1, h2⟩ := on_some.1 e
  have hlt := World.block_lt_of_cell? w p h2
  refine on_some.2 ⟨fun e2 => ?_, (World.cell?_of_block (w := w) (gr.block p.block hlt (fun e3 => h1 e3.symm))).trans h2⟩
  have e2 : g = p.block := Option.some.inj e2
  rcases hg with h | h
  · exact h1 (by rw [← e2]; exact h)
  · omega
theorem key_str (l : List UInt8) (h : l.length ≤ maxLen) : keyOf Tryz.prog 9 (.string ⟨l.toArray⟩) = some (.string l) := by
  rw [keyOf_string Tryz.underlying9]
  unfold mapKey
  rw [Tryz.underlying9]
  simp [ByteArray.size, h]
theorem info_tupN : (Tryz.prog.info? 77).map (fun i => (i.zero, i.size, i.bytes)) = some (some (.agg #[.slice none 0 0, .int .i64 0, .int .i64 0, .slice none 0 0]), Rep.tup.size, 64) := by kernel_rfl
theorem zero_slP (w : World) : (zeroValue 112).run Tryz.prog w = .ok (.slice none 0 0) w := by kernel_rfl
/-- tuples that are few and short -/
def fitN (l : List Tup) : Prop := l.length ≤ 4096 ∧ ∀ t ∈ l, fitVals t.vals ∧ t.lin.length ≤ 1048576
theorem keyRow_len {h1 : View} {v : Value} {r : Row} (k : SliceOf Rep.val h1 v r.vals) (hl : ∀ x ∈ r.lin, -9223372036854775808 ≤ x ∧ x ≤ 9223372036854775807) (hf : fitVals r.vals) (hf2 : r.lin.length ≤ 1048576) : (keyRow r).length ≤ maxLen := by
  have h2 := keyVals_len (vals_range k) hf.2
  have h3 := itoa_len (r.vals.length : Int) (by omega) (by have := hf.1; omega)
  have h4 : ∀ l : List Int, (∀ x ∈ l, -9223372036854775808 ≤ x ∧ x ≤ 9223372036854775807) → (keyLin l).length ≤ 22 * l.length := by
    intro l
    induction l with
    | nil => intro _; exact Nat.zero_le _
    | cons x l ih =>
      intro h
      have := ih fun y hy => h y (by simp [hy])
      have := itoa_len x (h x (by simp)).1 (h x (by simp)).2
      unfold keyLin at *
      rw [List.flatMap_cons, List.length_append, List.length_cons, List.length_cons]
      omega
  have h5 := h4 r.lin hl
  have h6 := hf.1
  unfold keyRow maxLen
  simp only [List.length_append, List.length_cons]
  omega
theorem ints_range {h : View} {v : Value} {xs : List Int} (k : SliceOf Rep.int h v xs) : ∀ x ∈ xs, -9223372036854775808 ≤ x ∧ x ≤ 9223372036854775807 := by
  intro x hx
  obtain ⟨i, hi, rfl⟩ := List.getElem_of_mem hx
  obtain ⟨p, cap, rfl, _, _, hp⟩ := k.form
  obtain ⟨b, o, rfl⟩ := hp (by decide) (by omega)
  exact (int_at k i hi).2
theorem persOf_len (r : Row) (l : List Tup) : (persOf r l).length ≤ l.length := by
  unfold persOf
  rw [List.length_map]
  exact Nat.le_trans (List.length_filter_le _ _) (List.length_filter_le _ _)
theorem levOf_len {P : List Int} {f : Nat → Nat} {n : Nat} (hf : ∀ i, f i ≤ n) (k : Nat) : (levOf P f k).2.length ≤ n * k ∧ (levOf P f k).1.length ≤ n := by
  induction k with
  | zero => exact ⟨Nat.zero_le _, Nat.zero_le _⟩
  | succ k ih =>
    unfold levOf
    refine ⟨?_, by rw [levStep_len]; exact hf k⟩
    unfold levStep
    simp only [List.length_append, List.length_map, List.length_reverse, List.length_drop]
    rw [Nat.mul_succ]
    omega
theorem levels_len (ps : List Per) : (levels ps).length ≤ ps.length * (2 * ps.length) := by
  have h1 := (levOf_len (P := levPts ps) (f := levF ps) (n := ps.length) (fun i => by unfold levF cntAt; exact Nat.le_trans (List.length_filter_le _ _) (by simp)) (levPts ps).length).1
  have h2 : (levPts ps).length ≤ 2 * ps.length := by
    have h3 := (pts_law (ps.map perT)).2.2
    have h5 := bnd_len (ps.map perT)
    rw [List.length_map] at h5
    exact Nat.le_trans h3 h5
  exact Nat.le_trans h1 (Nat.mul_le_mul_left _ h2)
theorem normRaw_len (done : List Row) (l : List Tup) : (normRaw done l).length ≤ done.length * (l.length * (2 * l.length)) := by
  induction done with
  | nil => exact Nat.zero_le _
  | cons r done ih =>
    unfold normRaw at *
    rw [List.flatMap_cons, List.length_append, List.length_map, List.length_cons, Nat.succ_mul]
    have h1 := levels_len (persOf r l)
    have h2 := persOf_len r l
    have h3 : (persOf r l).length * (2 * (persOf r l).length) ≤ l.length * (2 * l.length) := Nat.mul_le_mul h2 (Nat.mul_le_mul_left _ h2)
    omega
theorem normRaw_snoc (done : List Row) (r : Row) (l : List Tup) : normRaw (done ++ [r]) l = normRaw done l ++ (levels (persOf r l)).map (tupOf r) := by
  unfold normRaw
  rw [List.flatMap_append, List.flatMap_cons, List.flatMap_nil, List.append_nil]
theorem own_grown {α : Type} {R : Rep α} {w w' : World} {row : Option Nat} {S : Nat → Prop} {base : Nat} {e : TypeId} {v : Value} {xs : List α} (h : OwnOf R w S base e v xs) (gr : w.grownBy w' row) (hS : ∀ k, S k → row ≠ some k) (hv : ∀ k, v.ownBlock = some k → row ≠ some k) : OwnOf R w' S base e v xs := by
  obtain ⟨css, h1, h2⟩ := h
  refine ⟨css, h1.ext (grown_sub gr fun k hk e => hS k hk.2 e.symm), h2.kept gr ?_⟩
  cases hb : v.ownBlock with
  | none => exact .inl rfl
  | some k => exact .inr fun e => hv k hb e.symm

set_option maxRecDepth 100000 in
set_option maxHeartbeats 16000000 in
theorem normalize_any (v : Value) (l : List Tup) (w : World) (hv : SliceOf Rep.tup w.cell? v l) (hf : fitN l) (ht : TabW w) :
    Calls Tryz.prog 27 #[v] w fun e w' => ∃ v', e = .returned v' ∧ SliceOf Rep.tup (on w' (since w)) v' (normT l) ∧ Ext w w' := by
  obtain ⟨i1, hi1, hz10, hz11, hz12⟩ := info_parts info_per
  obtain ⟨i2, hi2, hz20, hz21, hz22⟩ := info_parts info_tupN
  have hmm := @run_makeMap Tryz.prog
  obtain ⟨p, cap, rfl, hc1, hc2, hp⟩ := hv.form
  obtain ⟨N, hN⟩ : ∃ N, N = l.length := ⟨_, rfl⟩
  have HV := Lib.hid hv
  rw [← hN]
  have HN := Lib.hid hN
  have HP := Lib.hid hp
  have HF := Lib.hid hf
  have HT := Lib.hid ht
  have hNl : N ≤ 4096 := by rw [hN]; exact hf.1
  clear hv hN hp hc1 hc2 hf ht
  go_enter Tryz.func27, Tryz.ntmps27
  go_wp2_with fail
  obtain ⟨b1, hb1⟩ : ∃ b, b = w.heap.size := ⟨_, rfl⟩
  have HB1 := Lib.hid hb1
  have hM1 := MapV.made w Tryz.prog 9 ShRow
  have hM2 := MapV.made (w.alloc (.map #[] 0)) Tryz.prog 9 ShSl
  rw [show (w.alloc (.map #[] 0)).heap.size = w.heap.size + 1 by simp] at hM2
  rw [← hb1] at hM1 hM2 ⊢
  go_loopg [17] N (fun gk vi wr => ∃ (k : Nat) (m1 m2 : Lit → Option Value), k ≤ N ∧ gk = N - k ∧ vi = .int .i64 k ∧ Hid (MapV wr Tryz.prog 9 ShRow b1 k m1) ∧ Hid (MapV wr Tryz.prog 9 ShSl (b1 + 1) k m2) ∧ Hid (NInv w wr (b1 + 2) 52 (l.take k) m1 m2) ∧ Hid (b1 + 2 ≤ wr.heap.size) ∧ Ext w wr)
  case atStart => exact ⟨0, _, _, by omega, rfl, rfl, hM1.alloc _, hM2, NInv.nil _ _ _ _, by show b1 + 2 ≤ _; simp; omega, ((Ext.refl w).alloc _).alloc _⟩
  case round =>
    clear hM1 hM2 hb1
    obtain ⟨k, m1, m2, hk, rfl, rfl, M1, M2, NI, HSZ, hx⟩ := hrel
    by_cases hlt : k < N
    · have hkl : k < l.length := by have := HN.out; omega
      have hd : decide ((k : Int) < (N : Int)) = true := by simp; omega
      obtain ⟨b, o', rfl⟩ := HP.out (by decide) (by omega)
      have hv := HV.out
      rw [← HN.out] at hv
      obtain ⟨ta, tb, c0, c1, c2, c3, g0, g1, r1, r2⟩ := tup_at hv k hkl
      obtain ⟨pa, ka, ta', _⟩ := g0.form
      obtain ⟨pb, kb, tb', _⟩ := g1.form
      subst ta' tb'
      replace c0 := hx.at c0
      replace c1 := hx.at c1
      replace c2 := hx.at c2
      replace c3 := hx.at c3
      have hst : l.take (k + 1) = l.take k ++ [l[k]] := List.take_succ_eq_append_getElem hkl
      have hft := HF.out.2 l[k] (List.getElem_mem hkl)
      generalize l[k] = y at c0 c1 c2 c3 g0 g1 r1 r2 hst hft
      obtain ⟨vs, f, t, ln⟩ := y
      dsimp only at c0 c1 c2 c3 g0 g1 r1 r2 hst hft
      have HST := Lib.hid hst
      have G0 := Lib.hid g0
      have G1 := Lib.hid g1
      have HFT := Lib.hid hft
      have HR := Lib.hid (show okI f ∧ okI t from ⟨r1, r2⟩)
      have e0 := cell_lt c0
      have HKL := Lib.hid (keyRow_len (r := ⟨vs, ln⟩) g0 (ints_range g1) hft.1 hft.2)
      clear hst g0 g1 r1 r2 hv hft
      go_wp2_with fail
      refine (valid_any f t _).mono ?_
      rintro e w1 ⟨rfl, x1⟩
      have d0 : w1.cell? ⟨wr.heap.size, 0, none⟩ = some (.slice pa vs.length ka) := x1.at (by go_simp)
      have d1 : w1.cell? ⟨wr.heap.size, 1, none⟩ = some (.int .i64 f) := x1.at (by go_simp)
      have d2 : w1.cell? ⟨wr.heap.size, 2, none⟩ = some (.int .i64 t) := x1.at (by go_simp)
      have d3 : w1.cell? ⟨wr.heap.size, 3, none⟩ = some (.slice pb ln.length kb) := x1.at (by go_simp)
      have X1 := Lib.hid (show Ext wr w1 from ((Ext.refl wr).alloc _).trans x1)
      clear x1 c0 c1 c2 c3 e0
      cases hvb : validB f t with
      | true =>
        have HVB := Lib.hid hvb
        have e1 := cell_lt d0
        clear hvb
        go_wp2_with fail
        refine (rowKey_any pa pb ka kb f t vs ln _ (G0.out.ext (hx.trans X1.out).full) (G1.out.ext (hx.trans X1.out).full) HFT.out.1 HFT.out.2 (HT.out.ext (hx.trans X1.out))).mono ?_
        rintro e w2 ⟨rfl, x2⟩
        replace d0 := x2.at d0
        replace d1 := x2.at d1
        replace d2 := x2.at d2
        replace d3 := x2.at d3
        have X2 := Lib.hid (X1.out.trans x2)
        have e2 := cell_lt d0
        clear x2 X1 e1
        go_wp2_with fail
        refine (tup_row pa pb vs.length ka ln.length kb f t _).mono ?_
        rintro e w3 ⟨rfl, x3⟩
        replace d1 := x3.ext.at d1
        replace d2 := x3.ext.at d2
        have X3 := Lib.hid (X2.out.trans x3.ext)
        have e3 := cell_lt d1
        have HW3 := Lib.hid (show b1 + 2 ≤ wr.heap.size ∧ wr.heap.size ≤ w3.heap.size from ⟨HSZ.out, X3.out.size⟩)
        have M13 := Lib.hid (M1.out.ext X3.out)
        have M23 := Lib.hid (M2.out.ext X3.out)
        have NI3 := Lib.hid (NI.out.ext X3.out)
        have hx3 := hx.trans X3.out
        clear x3 X2 e2 d0 d3 M1 M2 NI hx X3
        go_wp2_with (at_mapUpdate; refine wpList_store_v _ rfl _ _ _ 109 rfl 9 42 (string_keyed Tryz.underlying9) Tryz.underlying109 ShRow b1 k m1 rfl M13.out (by unfold maxLen; omega) _ _ (keyL ⟨vs, ln⟩) rfl rfl (key_str _ HKL.out) ⟨⟨pa, vs.length, ka, pb, ln.length, kb⟩, rfl⟩ ?_)
        intro w4 m4 gr4
        have hb1w : ∀ x, (some b1 : Option Nat) = some x → x = b1 := fun x e => (Option.some.inj e).symm
        have M14 := Lib.hid m4
        have M24 := Lib.hid (M23.out.kept gr4 (by simp))
        have NI4 := Lib.hid (NI3.out.keep gr4 (fun x e => by have := hb1w x e; omega))
        replace d1 := cell_grown gr4 d1 (fun x e => by have := hb1w x e; have := HW3.out; omega)
        replace d2 := cell_grown gr4 d2 (fun x e => by have := hb1w x e; have := HW3.out; omega)
        have X4 := Lib.hid (ext_grown hx3 gr4 (fun x e => by have := hb1w x e; have := HB1.out; omega))
        have HW4 := Lib.hid (show b1 + 2 ≤ w4.heap.size from Nat.le_trans (by have := HW3.out; omega) gr4.size)
        have e4 := cell_lt d1
        clear m4 gr4 M13 M23 NI3 hx3 e3 HW3 hb1w
        go_wp2_with (at_lookup; refine wpList_lookup_v _ rfl _ _ 110 rfl 9 112 (string_keyed Tryz.underlying9) Tryz.underlying110 (.slice none 0 0) (zero_slP _) ShSl ⟨_, _, _, rfl⟩ (b1 + 1) k m2 rfl M24.out _ (keyL ⟨vs, ln⟩) rfl (key_str _ HKL.out) ?_)
        intro vp HVP hsp
        have own4 := NI4.out.own ⟨vs, ln⟩
        rw [← HVP.out] at own4
        obtain ⟨p9, n9, c9, rfl⟩ := hsp
        have OW4 := Lib.hid own4
        have hpl := persOf_len ⟨vs, ln⟩ (l.take k)
        have hpl2 : (persOf ⟨vs, ln⟩ (l.take k)).length ≤ 4096 := Nat.le_trans hpl (Nat.le_trans (List.length_take_le _ _) (by omega))
        obtain ⟨pl, hpl3⟩ : ∃ x, x = persOf ⟨vs, ln⟩ (l.take k) := ⟨_, rfl⟩
        rw [← hpl3] at OW4 hpl2
        have HPL := Lib.hid hpl3
        have B1 : pl.length + 1 ≤ maxLen := by unfold maxLen; omega
        have B2 : (pl.length + 1) * 16 ≤ 140737488355328 := by omega
        clear own4 hpl hpl3
        go_wp2_with (at_builtin; refine wpList_append_one Rep.per (fun _ => True) rfl _ _ 112 rfl (b1 + 2) 52 i1 _ 16 Tryz.underlying112 hi1 hz10 hz11 hz12 rfl (by decide) (.slice p9 n9 c9) pl rfl (OW4.out.ext ((Ext.refl w4).alloc _)) ⟨w4.heap.size, 0, none⟩ 1 ⟨f, t⟩ [.int .i64 f, .int .i64 t] rfl ⟨rfl, HR.out⟩ (by exact cells_new w4 [.int .i64 f, .int .i64 t] _) B1 B2 (Nat.le_trans HW4.out ((Ext.refl w4).alloc _).size) ?_)
        intro g5 cap5 w5 own5 gr5 hg5
        have hbase5 : ∀ x, (Value.slice p9 n9 c9).ownBlock = some x → b1 + 2 ≤ x := fun x e => (OW4.out.lt x e).1
        have NI5 := Lib.hid (NInv.step (NI4.out.ext ((Ext.refl w4).alloc (.cells #[.int .i64 f, .int .i64 t] 52))) (t := ⟨vs, f, t, ln⟩) HVB.out (x := ⟨pa, vs.length, ka, pb, ln.length, kb⟩) ⟨rfl, rfl, G0.out, G1.out⟩ (g := g5) (a := pl.length + 1) (b := cap5) (by show OwnOf Rep.per _ _ _ _ _ (persOf ⟨vs, ln⟩ (l.take k) ++ _); rw [← HPL.out]; exact own5) (by show World.grownBy _ _ (Option.getD (m2 (keyL ⟨vs, ln⟩)) _).ownBlock; rw [← HVP.out]; exact gr5) (by show (Option.getD (m2 (keyL ⟨vs, ln⟩)) _).ownBlock = _ ∨ _; rw [← HVP.out]; rcases hg5 with h | h; exact .inl h; exact .inr (by rw [h]; simp)))
        have M15 := Lib.hid ((M14.out.ext ((Ext.refl w4).alloc _)).kept gr5 (fun e => by have := hbase5 _ e.symm; omega))
        have M25 := Lib.hid ((M24.out.ext ((Ext.refl w4).alloc _)).kept gr5 (fun e => by have := hbase5 _ e.symm; omega))
        have X5 := Lib.hid (ext_grown (X4.out.alloc _) gr5 (fun x e => by have := hbase5 x e; have := HB1.out; omega))
        have HW5 := Lib.hid (show b1 + 2 ≤ w5.heap.size from Nat.le_trans HW4.out (Nat.le_trans ((Ext.refl w4).alloc _).size gr5.size))
        clear own5 gr5 hg5 hbase5 NI4 M14 M24 X4 HW4 d1 d2 e4 OW4 HVP
        go_wp2_with (at_mapUpdate; refine wpList_store_v _ rfl _ _ _ 110 rfl 9 112 (string_keyed Tryz.underlying9) Tryz.underlying110 ShSl (b1 + 1) k m2 rfl M25.out (by unfold maxLen; omega) _ _ (keyL ⟨vs, ln⟩) rfl rfl (key_str _ HKL.out) ⟨_, _, _, rfl⟩ ?_)
        intro w6 m6 gr6
        have hb2w : ∀ x, (some (b1 + 1) : Option Nat) = some x → x = b1 + 1 := fun x e => (Option.some.inj e).symm
        have M26 := Lib.hid m6
        have M16 := Lib.hid (M15.out.kept gr6 (by simp))
        have NI6 := Lib.hid (NI5.out.keep gr6 (fun x e => by have := hb2w x e; omega))
        have X6 := Lib.hid (ext_grown X5.out gr6 (fun x e => by have := hb2w x e; have := HB1.out; omega))
        have HW6 := Lib.hid (show b1 + 2 ≤ w6.heap.size from Nat.le_trans HW5.out gr6.size)
        clear m6 gr6 M15 M25 NI5 X5 HW5 hb2w
        go_wp2_with fail
        go_roundg (N - (k + 1))
        case measure => omega
        case rel => exact ⟨k + 1, _, _, by omega, rfl, by go_num, M16.out, M26.out, by rw [HST.out]; exact NI6.out, HW6.out, X6.out⟩
      | false =>
        have HVB := Lib.hid hvb
        clear hvb d0 d1 d2 d3
        go_wp2_with fail
        go_roundg (N - (k + 1))
        case measure => omega
        case rel => exact ⟨k + 1, m1, m2, by omega, rfl, by go_num, (M1.out.ext X1.out).mono (Nat.le_succ k), (M2.out.ext X1.out).mono (Nat.le_succ k), by rw [HST.out]; exact (NI.out.ext X1.out).skip HVB.out, Nat.le_trans HSZ.out X1.out.size, hx.trans X1.out⟩
    · have hkN : k = N := by omega
      have hd : ¬ (k : Int) < (N : Int) := by omega
      subst hkN
      have NIL := Lib.hid (show NInv w wr (b1 + 2) 52 l m1 m2 from by
        have h := NI.out
        rw [HN.out, List.take_length] at h
        exact h)
      clear NI hk
      go_wp2_with (at_range; refine wpList_range_v _ rfl _ 109 rfl 9 42 (string_keyed Tryz.underlying9) Tryz.underlying109 ShRow b1 k m1 rfl M1.out ?_)
      intro w2 left0 cnt0 rg2 hleft0 hcnt0 gr2 sz2
      obtain ⟨rb, hrb⟩ : ∃ r, r = wr.heap.size := ⟨_, rfl⟩
      rw [← hrb] at rg2 ⊢
      have RG2 := Lib.hid rg2
      have M22 := Lib.hid (M2.out.kept gr2 (by simp))
      have NI2 := Lib.hid (NIL.out.keep gr2 (fun k hk => by cases hk))
      have X2 := Lib.hid (ext_grown hx gr2 (fun x e => by cases e))
      have HRB := Lib.hid (show w.heap.size + 2 ≤ rb ∧ b1 + 2 ≤ rb ∧ rb < w2.heap.size from ⟨by have := HB1.out; have := HSZ.out; omega, by rw [hrb]; exact HSZ.out, by rw [sz2, hrb]; omega⟩)
      have HLF := Lib.hid hleft0
      have HM2B := Lib.hid (show ∀ kl v x, m2 kl = some v → v.ownBlock = some x → x < rb from fun kl v x hm hx => by rw [hrb]; exact NIL.out.below kl v x hm hx)
      clear rg2 hrb hx gr2 sz2 M1 M2 NIL HSZ hleft0
      go_wp2_with fail
      go_loopg [8] k (fun gk vo wr => ∃ (left : Lit → Bool) (cnt : Nat) (done : List Row) (u : Value), cnt ≤ gk ∧ u = vo ∧ Hid (RangeV wr Tryz.prog 9 ShRow b1 rb k m1 left cnt) ∧ Hid (MapV wr Tryz.prog 9 ShSl (b1 + 1) k m2) ∧ Hid (NInv w wr (b1 + 2) 52 l m1 m2) ∧ Hid (DoneR m1 left done) ∧ Hid (done.length + cnt ≤ k) ∧ Hid (OwnOf Rep.tup wr (fun x => rb < x) (rb + 1) 77 u (normRaw done l)) ∧ Hid (rb < wr.heap.size) ∧ Hid (Ext w wr))
      case atStart => exact ⟨left0, cnt0, [], _, hcnt0, rfl, RG2.out, M22.out, NI2.out, DoneR.start HLF.out, by show 0 + cnt0 ≤ k; omega, OwnOf.nil _ _ _ _ _, HRB.out.2.2, X2.out⟩
      case round =>
        clear RG2 M22 NI2 X2
        obtain ⟨left, cnt, done, u, hgk, rfl, RG, M2, NI, DO, HDL, OU, HRW, HX⟩ := hrel
        have HUB := Lib.hid (show ∀ x, u.ownBlock = some x → rb + 1 ≤ x from fun x hx => (OU.out.lt x hx).1)
        have hnl : (normRaw done l).length ≤ 137438953472 := by
          have h1 := normRaw_len done l
          have h2 := HDL.out
          have h3 := HN.out
          have h4 : done.length * (l.length * (2 * l.length)) ≤ 4096 * (4096 * (2 * 4096)) := Nat.mul_le_mul (by omega) (Nat.mul_le_mul (by omega) (Nat.mul_le_mul_left _ (by omega)))
          omega
        have HNL := Lib.hid hnl
        clear hnl
        go_wp2_with (at_next; refine wpList_next_v _ rfl _ rfl 9 Tryz.underlying9 (string_keyed Tryz.underlying9) ShRow mkRow (fun v h => h) b1 rb k m1 left cnt rfl RG.out ?_ ?_)
        · intro hc0 hl0
          have HALL := Lib.hid (DO.out.all NI.out hl0)
          clear hl0 hc0 RG M2 hgk
          go_wp2_with fail
          refine (sort_tups_call _ _ _ _ _ (normRaw done l) OU.out (by have := HNL.out; omega)).mono ?_
          rintro e w4 ⟨rfl, own4, gr4⟩
          have hfin : sortBy cmpTup (normRaw done l) = normT l := normT_of DO.out.1 HALL.out (List.Perm.refl _)
          rw [hfin] at own4
          have X4 := Lib.hid (ext_grown HX.out gr4 (fun x e => by have := HUB.out x e; have := HRB.out; omega))
          have OW := Lib.hid own4
          clear own4 gr4 hfin
          go_wp2_with fail
          go_ret
          exact ⟨u, rfl, OW.out.sliceIn (fun x _ hx => by have := HRB.out; show w.heap.size ≤ x; omega) (fun x hx => by have := HRB.out; show w.heap.size ≤ x; omega), X4.out⟩
        · intro x c w1 cnt1 hkey hlk hmp hS hrg hlt hg1 hs1 hen
          obtain ⟨t0, ht0, hvt0, hkl0, x', hx', hrv⟩ := NI.out.k1 _ _ hmp
          obtain ⟨r, hr⟩ : ∃ r, r = tupRow t0 := ⟨_, rfl⟩
          rw [← hr] at hkl0 hrv
          have hcx : c = x' := by
            unfold mkRow at hx'
            injection hx' with h1
            have h2 := congrArg (fun a : Array Value => a.toList) h1
            simp only [List.cons.injEq, Value.slice.injEq, and_true] at h2
            obtain ⟨cp, cn, cc, cq, cm, cd⟩ := c
            obtain ⟨xp, xn, xc, xq, xm, xd⟩ := x'
            simp only at h2
            obtain ⟨⟨rfl, rfl, rfl⟩, rfl, rfl, rfl⟩ := h2
            rfl
          subst hcx
          have hmk : (m1 (keyL r)).isSome = true := by rw [← hkl0, hmp]; rfl
          rw [hkl0] at hrg hlk hkey
          have DO2 := Lib.hid (DO.out.step hmk hlk)
          have HDL2 := Lib.hid (show (done ++ [r]).length + cnt1 ≤ k from by have := HDL.out; rw [List.length_append, List.length_singleton]; omega)
          obtain ⟨cp, cn, cc, cq, cm, cd⟩ := c
          obtain ⟨hcn, hcm, hv1, hv2⟩ := hrv
          simp only at hcn hcm hv1 hv2
          subst hcn hcm
          have HV1 := Lib.hid hv1
          have HV2 := Lib.hid hv2
          have HFR := Lib.hid (show fitVals r.vals ∧ r.lin.length ≤ 1048576 from by rw [hr]; exact HF.out.2 t0 ht0)
          have HKX := Lib.hid (show x.data.toList = keyRow r from by have h := hkl0; unfold keyL at h; exact Lit.string.inj h)
          have hrw : ∀ y, (some rb : Option Nat) = some y → y = rb := fun y e => (Option.some.inj e).symm
          have RG1 := Lib.hid hrg
          have M21 := Lib.hid (M2.out.kept hg1 (by have := HRB.out; simp; omega))
          have NI1 := Lib.hid (NI.out.keep2 hg1 (fun kl v y hm hy e => by have := hrw y e; have := HM2B.out kl v y hm hy; omega))
          have OU1 := Lib.hid (own_grown OU.out hg1 (fun y hy e => by have := hrw y e; omega) (fun y hy e => by have := hrw y e; have := HUB.out y hy; omega))
          have X1 := Lib.hid (ext_grown HX.out hg1 (fun y e => by have := hrw y e; have := HRB.out; omega))
          have HRW1 := Lib.hid (show rb < w1.heap.size from by rw [hs1]; exact HRW.out)
          have HCN := Lib.hid (show cnt1 < cnt from hlt)
          clear hmp hS hx' hkl0 hr ht0 hvt0 hmk hlk hrg hg1 hs1 hv1 hv2 RG M2 NI DO HDL OU HRW HX hrw hlt
          unfold mkRow at hen ⊢
          dsimp only at hen ⊢
          have HKEY := Lib.hid hkey
          clear hkey
          go_wp2_with (at_lookup; refine wpList_lookup_v _ rfl _ _ 110 rfl 9 112 (string_keyed Tryz.underlying9) Tryz.underlying110 (.slice none 0 0) (zero_slP _) ShSl ⟨_, _, _, rfl⟩ (b1 + 1) k m2 rfl (M21.out.ext ((Ext.refl w1).alloc _)) _ (keyL r) rfl HKEY.out ?_)
          intro vp HVP hsp
          have own4 := (NI1.out.ext ((Ext.refl w1).alloc (.cells #[.slice cp r.vals.length cc, .slice cq r.lin.length cd] 42))).own r
          rw [← HVP.out] at own4
          obtain ⟨p9, n9, c9, rfl⟩ := hsp
          have S4 := Lib.hid own4.slice
          have hpl := persOf_len r l
          have HPL := Lib.hid (show (persOf r l).length ≤ 4096 from by have := HN.out; omega)
          clear own4 hpl HVP hen
          go_wp2_with fail
          refine (levels_any _ (persOf r l) _ S4.out (persOf_valid r l) (by have := HPL.out; omega)).mono ?_
          rintro e w3 ⟨v3, rfl, own3, x3⟩
          have a0 : w3.cell? ⟨w1.heap.size, 0, none⟩ = some (.slice cp r.vals.length cc) := x3.at (by go_simp)
          have a1 : w3.cell? ⟨w1.heap.size, 1, none⟩ = some (.slice cq r.lin.length cd) := x3.at (by go_simp)
          have X13 : Ext w1 w3 := ((Ext.refl w1).alloc _).trans x3
          have RG3 := Lib.hid (RG1.out.ext X13)
          have M23 := Lib.hid (M21.out.ext X13)
          have NI3 := Lib.hid (NI1.out.ext X13)
          have OU3 := Lib.hid (OU1.out.ext X13)
          have X3 := Lib.hid (X1.out.trans X13)
          have OL3 := Lib.hid own3
          have FR3 := Lib.hid (show SliceOf Rep.per (on w3 (fun x => w1.heap.size + 1 ≤ x)) v3 (levels (persOf r l)) from by have h := own3.fresh flat_per; rw [show (w1.alloc (.cells #[.slice cp r.vals.length cc, .slice cq r.lin.length cd] 42)).heap.size = w1.heap.size + 1 by simp] at h; exact h)
          have HB3 := Lib.hid (show rb < w1.heap.size ∧ w1.heap.size < w3.heap.size ∧ (∀ x, u.ownBlock = some x → x < w1.heap.size) ∧ ∀ x, v3.ownBlock = some x → w1.heap.size < x from ⟨HRW1.out, cell_lt a0, fun x hx => (OU1.out.lt x hx).2, fun x hx => by have := (own3.lt x hx).1; simp at this; omega⟩)
          generalize w1.heap.size = B10 at a0 a1 HB3 FR3 ⊢
          have HLL := Lib.hid (levels_len (persOf r l))
          obtain ⟨pl3, cl3, rfl, hpl3⟩ := own3.shapeL
          obtain ⟨lv, hlv⟩ : ∃ x, x = levels (persOf r l) := ⟨_, rfl⟩
          have hlvn : lv.length ≤ 33554432 := by
            rw [hlv]
            have h1 := HLL.out
            have h2 : (persOf r l).length * (2 * (persOf r l).length) ≤ 4096 * (2 * 4096) := Nat.mul_le_mul HPL.out (Nat.mul_le_mul_left _ HPL.out)
            omega
          rw [← hlv] at OL3 hpl3 HB3 FR3 ⊢
          have HLV := Lib.hid hlv
          obtain ⟨M, hM⟩ : ∃ M, M = lv.length := ⟨_, rfl⟩
          rw [← hM] at OL3 hlvn HB3 FR3 ⊢
          have HM := Lib.hid hM
          have HPL3 := Lib.hid hpl3
          obtain ⟨nr, hnr⟩ : ∃ x, x = normRaw done l := ⟨_, rfl⟩
          rw [← hnr] at OU3
          have HNR := Lib.hid hnr
          have HNL2 := Lib.hid (show nr.length ≤ 137438953472 from by rw [hnr]; exact HNL.out)
          have e3 := cell_lt a0
          clear own3 x3 X13 hlv hM hpl3 hnr RG1 M21 NI1 OU1 X1 HRW1 S4 HUB
          go_wp2_with fail
          go_loopg [8, 52] M (fun gk vo vi wr => ∃ (j : Nat) (u : Value), j ≤ M ∧ gk = M - j ∧ vi = .int .i64 j ∧ u = vo ∧ Hid (RangeV wr Tryz.prog 9 ShRow b1 rb k m1 (fun z => left z && !z.sameKey (keyL r)) cnt1) ∧ Hid (MapV wr Tryz.prog 9 ShSl (b1 + 1) k m2) ∧ Hid (NInv w wr (b1 + 2) 52 l m1 m2) ∧ Hid (OwnOf Rep.tup wr (fun x => rb < x) (rb + 1) 77 u (nr ++ (lv.take j).map (tupOf r))) ∧ Hid (SliceOf Rep.per (on wr (fun x => u.ownBlock ≠ some x)) (.slice pl3 M cl3) lv) ∧ Hid (∀ x, u.ownBlock = some x → x ≠ B10) ∧ wr.cell? ⟨B10, 0, none⟩ = some (.slice cp r.vals.length cc) ∧ wr.cell? ⟨B10, 1, none⟩ = some (.slice cq r.lin.length cd) ∧ Hid (Ext w wr))
          case atStart =>
            have hu := HB3.out.2.2.1
            refine ⟨0, u, by omega, rfl, rfl, rfl, RG3.out, M23.out, NI3.out, by rw [List.take_zero]; show OwnOf Rep.tup _ _ _ _ _ (nr ++ []); rw [List.append_nil]; exact OU3.out, FR3.out.ext (on_mono w3 fun x _ hx e => ?_), fun x hx e => by have := hu x hx; omega, a0, a1, X3.out⟩
            have := hu x e
            omega
          case round =>
            clear RG3 M23 NI3 OU3 OL3 FR3 X3 a0 a1 e3
            have HUB3 := Lib.hid HB3.out.1
            clear HB3
            obtain ⟨j, u, hj, rfl, rfl, rfl, RG, M2, NI, OU, SL, HUX, a0, a1, HX⟩ := hrel
            by_cases hlt3 : j < M
            · have hjl : j < lv.length := by have := HM.out; omega
              have hdj : decide ((j : Int) < (M : Int)) = true := by simp; omega
              obtain ⟨gl, rfl⟩ := HPL3.out (by omega)
              obtain ⟨b0, b1', q0, q1⟩ := per_at SL.out j hjl
              replace b0 := (on_some.1 b0).2
              replace b1' := (on_some.1 b1').2
              simp only [Nat.zero_add] at b0 b1'
              have hst : nr ++ (lv.take (j + 1)).map (tupOf r) = (nr ++ (lv.take j).map (tupOf r)) ++ [tupOf r lv[j]] := by rw [List.take_succ_eq_append_getElem hjl, List.map_append, ← List.append_assoc]; rfl
              obtain ⟨ys, hys⟩ : ∃ x, x = nr ++ (lv.take j).map (tupOf r) := ⟨_, rfl⟩
              rw [← hys] at OU hst
              have hyl : ys.length ≤ 274877906944 := by rw [hys, List.length_append, List.length_map]; have := HNL2.out; have := List.length_take_le j lv; omega
              obtain ⟨⟨f, t⟩, hpj⟩ : ∃ x, x = lv[j] := ⟨_, rfl⟩
              rw [← hpj] at b0 b1' q0 q1 hst
              dsimp only at b0 b1' q0 q1
              have HST := Lib.hid hst
              have HQ := Lib.hid (show okI f ∧ okI t from ⟨q0, q1⟩)
              have e3 := cell_lt a0
              have e4 := cell_lt b0
              have B1 : ys.length + 1 ≤ maxLen := by unfold maxLen; omega
              have B2 : (ys.length + 1) * 64 ≤ 140737488355328 := by omega
              have HUL := Lib.hid (show ∀ x, u.ownBlock = some x → rb + 1 ≤ x ∧ x < wr.heap.size from fun x hx => OU.out.lt x hx)
              have HRBW := Lib.hid (show rb < wr.heap.size from by have := HUB3.out; omega)
              clear hst hys hyl hpj q0 q1 hjl
              go_wp2_with fail
              refine (during_any _ _ r f t _ (HV1.out.ext ((HX.out.alloc _)).full) (HV2.out.ext ((HX.out.alloc _)).full) HFR.out.1.1 HFR.out.2).mono ?_
              rintro e w4 ⟨da, db, rfl, sa, sb, x4⟩
              obtain ⟨pa4, ka4, rfl, _⟩ := sa.form
              obtain ⟨pb4, kb4, rfl, _⟩ := sb.form
              have SA := Lib.hid sa
              have SB := Lib.hid sb
              have X4 := Lib.hid (show Ext wr w4 from ((Ext.refl wr).alloc _).trans x4)
              have HS4 := Lib.hid (show wr.heap.size ≤ w4.heap.size from X4.out.size)
              clear sa sb x4 b0 b1' e3 e4
              go_wp2_with (at_builtin; refine wpList_append_one Rep.tup (fun x => rb < x) rfl _ _ 22 rfl (rb + 1) 77 i2 _ 64 Tryz.underlying22 hi2 hz20 hz21 hz22 rfl (by decide) u ys rfl (OU.out.ext (X4.out.alloc _)) ⟨w4.heap.size, 0, none⟩ 1 (tupOf r ⟨f, t⟩) [.slice pa4 r.vals.length ka4, .int .i64 f, .int .i64 t, .slice pb4 r.lin.length kb4] rfl (by
                have hsub : ∀ (o : Obj), Sub (on w4 (since (wr.alloc (.cells #[.int .i64 f, .int .i64 t] 52)))) (on (w4.alloc o) (avoid (fun x => rb < x) u)) := fun o => (on_mono w4 fun x _ hx => ⟨fun e => by have := (HUL.out x e.symm).2; simp [since] at hx; omega, by have := HRBW.out; simp [since] at hx; omega⟩).trans (((Ext.refl w4).alloc o).sub _)
                exact ⟨_, _, rfl, SA.out.ext (hsub _), SB.out.ext (hsub _), HQ.out.1, HQ.out.2⟩) (by exact cells_new w4 [.slice pa4 r.vals.length ka4, .int .i64 f, .int .i64 t, .slice pb4 r.lin.length kb4] _) B1 B2 (by have h1 := ((Ext.refl w4).alloc (.cells #[.slice pa4 r.vals.length ka4, .int .i64 f, .int .i64 t, .slice pb4 r.lin.length kb4] 77)).size; have := HS4.out; have := HRBW.out; exact Nat.le_trans (by omega) h1) ?_)
              intro g5 cap5 w5 own5 gr5 hg5
              have X4a := X4.out.alloc (.cells #[.slice pa4 r.vals.length ka4, .int .i64 f, .int .i64 t, .slice pb4 r.lin.length kb4] 77)
              have hub : ∀ x, u.ownBlock = some x → rb < x := fun x hx => by have := (HUL.out x hx).1; omega
              have hg5' : u.ownBlock = some g5 ∨ g5 = (w4.alloc (.cells #[.slice pa4 r.vals.length ka4, .int .i64 f, .int .i64 t, .slice pb4 r.lin.length kb4] 77)).heap.size := by rcases hg5 with h | h; exact .inl h; exact .inr (by rw [h]; simp)
              have RG5 := Lib.hid ((RG.out.ext X4a).kept gr5 (fun e => by have := hub _ e.symm; have := HRB.out; omega) (fun e => by have := hub _ e.symm; omega))
              have M25 := Lib.hid ((M2.out.ext X4a).kept gr5 (fun e => by have := hub _ e.symm; have := HRB.out; omega))
              have NI5 := Lib.hid ((NI.out.ext X4a).keep2 gr5 (fun kl v x hm hx e => by have := hub x e; have := HM2B.out kl v x hm hx; omega))
              have SL5 := Lib.hid ((SL.out.ext (X4a.sub _)).ext (off_grow (a := ys.length + 1) (b := cap5) gr5 hg5'))
              have HUX5 := Lib.hid (show ∀ x, (Value.slice (some ⟨g5, 0, none⟩) (ys.length + 1) cap5).ownBlock = some x → x ≠ B10 from fun x hx e => by
                have hx' : g5 = x := Option.some.inj hx
                rcases hg5' with h | h
                · exact HUX.out _ (by rw [← hx']; exact h) e
                · have h1 := cell_lt (X4a.at a0); omega)
              have A0 := cell_grown gr5 (X4a.at a0) (fun x hx => HUX.out x hx)
              have A1 := cell_grown gr5 (X4a.at a1) (fun x hx => HUX.out x hx)
              have HX5 := Lib.hid (ext_grown (HX.out.trans X4a) gr5 (fun x hx => by have := hub x hx; have := HRB.out; omega))
              have OU5 := Lib.hid (show OwnOf Rep.tup w5 (fun x => rb < x) (rb + 1) 77 (.slice (some ⟨g5, 0, none⟩) (ys.length + 1) cap5) (nr ++ (lv.take (j + 1)).map (tupOf r)) from by rw [HST.out]; exact own5)
              clear own5 gr5 hg5 hg5' X4a hub RG M2 NI OU SL HUX a0 a1 HX SA SB X4 HUL
              go_wp2_with fail
              go_roundg (M - (j + 1))
              case measure => omega
              case rel => exact ⟨j + 1, _, by omega, rfl, by go_num, rfl, RG5.out, M25.out, NI5.out, OU5.out, SL5.out, HUX5.out, A0, A1, HX5.out⟩
            · have hjM : j = M := by omega
              have hdj : ¬ (j : Int) < (M : Int) := by omega
              have OUF := Lib.hid (show OwnOf Rep.tup wr (fun x => rb < x) (rb + 1) 77 u (normRaw (done ++ [r]) l) from by
                have h := OU.out
                rw [hjM, HM.out, List.take_length, HNR.out, HLV.out, ← normRaw_snoc] at h
                exact h)
              have HRBW := Lib.hid (show rb < wr.heap.size from by have := HUB3.out; have := cell_lt a0; omega)
              clear hjM OU
              go_wp2_with fail
              go_roundg (cnt1)
              case measure => have := HCN.out; omega
              case rel => exact ⟨_, cnt1, done ++ [r], u, Nat.le_refl _, rfl, RG.out, M2.out, NI.out, DO2.out, HDL2.out, OUF.out, HRBW.out, HX.out⟩

end Go.Proofs.YtdgpbpbjlnlijaaGreatDoor
