/- joined texts of a proof: GrpA, GenC, GrpE, GrpC, GrpX, HeapA, ShelfC, StabX, PairA -/
import Derived.Test.YtdgpbpbjlnlijaaGreatDoorKC13
import Derived.Test.YtdgpbpbjlnlijaaGreatDoorKC03
import Derived.Test.YtdgpbpbjlnlijaaGreatDoorKC05
import Derived.Test.YtdgpbpbjlnlijaaGreatDoorKC06
import Derived.Test.YtdgpbpbjlnlijaaGreatDoorKC02
import Derived.Shelf.SlSortCmp.KitK
import Derived.Sort.WalkB2
import Derived.Sort.WalkB12
import Derived.Deep.LoopGhost
import Derived.Ground.SlsfProg
import Derived.Shelf.SlSortCmp.WholeK
import Derived.Shelf.Spec.SlicesGrow
import Derived.Ground.Names8Prog
import Derived.Test.YtdgpbpbjlnlijaaGreatDoorProg
import Derived.Shelf.SlSortCmp.PdqK
import Derived.Test.YtdgpbpbjlnlijaaGreatDoorKC09

/- plain: the aggregates, and what holds between them; no program in sight -/
namespace Go.Proofs.YtdgpbpbjlnlijaaGreatDoor
open Go.RowKit

def argsC (col : Int) (vss : List (List Val)) : List Val := (vss.map fun vs => colAt vs col).filter fun v => decide (v.kind ≠ 0)
theorem args_take (col : Int) (vss : List (List Val)) (k : Nat) (h : k < vss.length) : argsC col (vss.take (k + 1)) = argsC col (vss.take k) ++ if (colAt vss[k] col).kind = 0 then [] else [colAt vss[k] col] := by
  unfold argsC
  rw [List.take_succ_eq_append_getElem h, List.map_append, List.filter_append]
  congr 1
  rw [List.map_cons, List.map_nil, List.filter_cons, List.filter_nil]
  by_cases e : (colAt vss[k] col).kind = 0
  · rw [if_pos e, if_neg (by simp [e])]
  · rw [if_neg e, if_pos (by simp [e])]
theorem args_len (col : Int) (vss : List (List Val)) : (argsC col vss).length ≤ vss.length := by
  unfold argsC
  exact Nat.le_trans (List.length_filter_le _ _) (by simp)
theorem args_ok {col : Int} {vss : List (List Val)} (h : ∀ vs ∈ vss, ∀ v ∈ vs, okVal v) : ∀ v ∈ argsC col vss, okVal v := fun v hv => by
  obtain ⟨vs, h1, rfl⟩ := List.mem_map.1 (List.mem_filter.1 hv).1
  exact ok_colAt (h vs h1) col
def sumI (xs : List Val) : Int := ((xs.filter fun v => decide (v.kind = 1)).map Val.n).sum
def anyI (xs : List Val) : Bool := xs.any fun v => decide (v.kind = 1)
def sumV (xs : List Val) : Val := if anyI xs = true ∧ -9223372036854775808 ≤ sumI xs ∧ sumI xs ≤ 9223372036854775807 then intVal (sumI xs) else nV
theorem sumI_take (xs : List Val) (k : Nat) (h : k < xs.length) : sumI (xs.take (k + 1)) = sumI (xs.take k) + if xs[k].kind = 1 then xs[k].n else 0 := by
  unfold sumI
  rw [List.take_succ_eq_append_getElem h, List.filter_append, List.map_append, List.sum_append]
  congr 1
  rw [List.filter_cons, List.filter_nil]
  by_cases e : xs[k].kind = 1
  · rw [if_pos e, if_pos (by simp [e])]; simp
  · rw [if_neg e, if_neg (by simp [e])]; simp
theorem anyI_take (xs : List Val) (k : Nat) (h : k < xs.length) : anyI (xs.take (k + 1)) = (anyI (xs.take k) || decide (xs[k].kind = 1)) := by
  unfold anyI
  rw [List.take_succ_eq_append_getElem h, List.any_append, List.any_cons, List.any_nil, Bool.or_false]
theorem sumI_bound {xs : List Val} {b : Int} (hb : 0 ≤ b) (h : ∀ v ∈ xs, -b ≤ v.n ∧ v.n ≤ b) : -(b * xs.length) ≤ sumI xs ∧ sumI xs ≤ b * xs.length := by
  induction xs with
  | nil => simp [sumI]
  | cons x xs ih =>
    have h1 := ih fun v hv => h v (by simp [hv])
    have h2 := h x (by simp)
    have e : b * ((x :: xs).length : Int) = b * xs.length + b := by rw [List.length_cons]; push_cast; rw [Int.mul_add, Int.mul_one]
    have e2 : sumI (x :: xs) = (if x.kind = 1 then x.n else 0) + sumI xs := by
      unfold sumI
      rw [List.filter_cons]
      by_cases c : x.kind = 1
      · rw [if_pos c, if_pos (by simp [c])]; simp
      · rw [if_neg c, if_neg (by simp [c])]; simp
    rw [e, e2]
    split <;> omega
/-- the first of the least -/
def pickMin : List Val → Val
  | [] => nV
  | x :: xs => xs.foldl (fun m y => if cmpVal y m < 0 then y else m) x
/-- the first of the greatest -/
def pickMax : List Val → Val
  | [] => nV
  | x :: xs => xs.foldl (fun m y => if 0 < cmpVal y m then y else m) x
theorem fold_min (xs : List Val) : ∀ x, (xs.foldl (fun m y => if cmpVal y m < 0 then y else m) x = x ∨ xs.foldl (fun m y => if cmpVal y m < 0 then y else m) x ∈ xs) ∧ cmpVal (xs.foldl (fun m y => if cmpVal y m < 0 then y else m) x) x ≤ 0 ∧ ∀ y ∈ xs, cmpVal (xs.foldl (fun m y => if cmpVal y m < 0 then y else m) x) y ≤ 0 := by
  induction xs with
  | nil => exact fun x => ⟨.inl rfl, by rw [List.foldl_nil, (ord_val.eq x x).2 rfl]; decide, fun y hy => by cases hy⟩
  | cons z xs ih =>
    intro x
    rw [List.foldl_cons]
    by_cases c : cmpVal z x < 0
    · rw [if_pos c]
      obtain ⟨h1, h2, h3⟩ := ih z
      refine ⟨?_, ord_val.le_tr _ _ _ h2 (by omega), fun y hy => ?_⟩
      · rcases h1 with h | h
        · exact .inr (by rw [h]; simp)
        · exact .inr (by simp [h])
      · rcases List.mem_cons.1 hy with rfl | hy
        · exact h2
        · exact h3 y hy
    · rw [if_neg c]
      obtain ⟨h1, h2, h3⟩ := ih x
      refine ⟨?_, h2, fun y hy => ?_⟩
      · rcases h1 with h | h
        · exact .inl h
        · exact .inr (by simp [h])
      · rcases List.mem_cons.1 hy with rfl | hy
        · exact ord_val.le_tr _ _ _ h2 (by have := ord_val.anti x y; omega)
        · exact h3 y hy
theorem fold_max (xs : List Val) : ∀ x, (xs.foldl (fun m y => if 0 < cmpVal y m then y else m) x = x ∨ xs.foldl (fun m y => if 0 < cmpVal y m then y else m) x ∈ xs) := by
  induction xs with
  | nil => exact fun x => .inl rfl
  | cons z xs ih =>
    intro x
    rw [List.foldl_cons]
    split
    · rcases ih z with h | h
      · exact .inr (by rw [h]; simp)
      · exact .inr (by simp [h])
    · rcases ih x with h | h
      · exact .inl h
      · exact .inr (by simp [h])
theorem pickMin_law {xs : List Val} (h : xs ≠ []) : pickMin xs ∈ xs ∧ ∀ y ∈ xs, cmpVal (pickMin xs) y ≤ 0 := by
  cases xs with
  | nil => exact absurd rfl h
  | cons x xs =>
    obtain ⟨h1, h2, h3⟩ := fold_min xs x
    refine ⟨?_, fun y hy => ?_⟩
    · show xs.foldl (fun m y => if cmpVal y m < 0 then y else m) x ∈ x :: xs
      rcases h1 with h | h
      · rw [h]; simp
      · simp [h]
    · rcases List.mem_cons.1 hy with rfl | hy
      · exact h2
      · exact h3 y hy
theorem pickMax_mem {xs : List Val} (h : xs ≠ []) : pickMax xs ∈ xs := by
  cases xs with
  | nil => exact absurd rfl h
  | cons x xs =>
    show xs.foldl (fun m y => if 0 < cmpVal y m then y else m) x ∈ x :: xs
    rcases fold_max xs x with h | h
    · rw [h]; simp
    · simp [h]
def aggVal (kind col : Int) (vss : List (List Val)) : Val :=
  if kind = 1 then intVal vss.length else
  if kind = 2 then sumV (argsC col vss) else
  if argsC col vss = [] then nV else
  if kind = 3 then pickMin (argsC col vss) else
  if kind = 4 then pickMax (argsC col vss) else nV
/-- count, sum, least and greatest of a column of terms between -1 and 1 -/
theorem agg_bounds {vss : List (List Val)} (hl : vss.length ≤ 1000) (h : ∀ vs ∈ vss, colAt vs 0 = nV ∨ ∃ n, -1 ≤ n ∧ n ≤ 1 ∧ colAt vs 0 = intVal n) :
    cmpVal (aggVal 3 0 vss) (aggVal 4 0 vss) ≤ 0 ∧ ((aggVal 3 0 vss).kind = 0 ↔ (aggVal 2 0 vss).kind = 0) ∧ (aggVal 2 0 vss).n ≤ vss.length ∧ -(vss.length : Int) ≤ (aggVal 2 0 vss).n := by
  have ha : ∀ v ∈ argsC 0 vss, v.kind = 1 ∧ -1 ≤ v.n ∧ v.n ≤ 1 := fun v hv => by
    obtain ⟨h1, h2⟩ := List.mem_filter.1 hv
    obtain ⟨vs, h3, rfl⟩ := List.mem_map.1 h1
    rcases h vs h3 with e | ⟨n, a, b, e⟩
    · rw [e] at h2; simp [nV] at h2
    · rw [e]; exact ⟨rfl, a, b⟩
  have hal := args_len 0 vss
  have hb := sumI_bound (b := 1) (by decide) fun v hv => (ha v hv).2
  unfold aggVal
  simp only [show ¬(3 : Int) = 1 by decide, show ¬(4 : Int) = 1 by decide, show ¬(2 : Int) = 1 by decide, show ¬(3 : Int) = 2 by decide, show ¬(4 : Int) = 2 by decide, show ¬(4 : Int) = 3 by decide, if_false, if_true]
  by_cases e : argsC 0 vss = []
  · rw [e]
    simp only [if_true]
    refine ⟨by rw [(ord_val.eq nV nV).2 rfl]; decide, ?_, ?_, ?_⟩
    · simp [sumV, anyI]
    · simp [sumV, anyI, nV]
    · simp [sumV, anyI, nV]
  · simp only [if_neg e]
    have hmin := pickMin_law e
    have hmax := pickMax_mem e
    have hany : anyI (argsC 0 vss) = true := by
      obtain ⟨x, hx⟩ := List.exists_mem_of_ne_nil _ e
      exact List.any_eq_true.2 ⟨x, hx, by simp [(ha x hx).1]⟩
    have hs : sumV (argsC 0 vss) = intVal (sumI (argsC 0 vss)) := if_pos ⟨hany, by omega, by omega⟩
    rw [hs]
    refine ⟨hmin.2 _ hmax, ?_, ?_, ?_⟩
    · rw [(ha _ hmin.1).1]; simp [intVal]
    · show sumI _ ≤ _; omega
    · show _ ≤ sumI _; omega
section
open Classical
variable (proj : List Val → List Val) (aggV : List (List Val) → List Val)
theorem always_len (l : List Tup) (t : Int) : (sliceRows (aggT proj aggV true l) t).length = if 0 ≤ t ∧ t < 1000000 then 1 else 0 := by
  rw [(agg_rows proj aggV true l t).length_eq]
  unfold rowsAt gKeys
  rw [if_pos rfl, List.flatMap_cons, List.flatMap_nil, List.append_nil]
  by_cases c : 0 ≤ t ∧ t < 1000000
  · rw [if_pos (.inl ⟨rfl, c⟩), if_pos c]; rfl
  · rw [if_neg (by rintro (h | h); exact c h.2; exact absurd h.1 (by decide)), if_neg c]; rfl
theorem group_rows {K : Nat} (hp : ∀ vs, (proj vs).length = K) (l : List Tup) (t : Int) : ∀ r ∈ sliceRows (aggT proj aggV false l) t, ∃ (kv : List Val) (vss : List (List Val)), r.vals = kv ++ aggV vss ∧ kv.length = K ∧ 0 < vss.length ∧ vss.length ≤ l.length ∧ ∀ vs ∈ vss, ∃ u ∈ l, vs = u.vals := by
  intro r hr
  have hr := (agg_rows proj aggV false l t).mem_iff.1 hr
  unfold rowsAt at hr
  obtain ⟨kv, hk, hr⟩ := List.mem_flatMap.1 hr
  split at hr
  · rename_i c
    rw [List.mem_singleton] at hr
    subst hr
    have c2 : (gMem proj l kv).any (holdsAt t) = true := by
      rcases c with c | c
      · exact absurd c.1 (by decide)
      · exact c.2
    obtain ⟨x, hx, hh⟩ := List.any_eq_true.1 c2
    refine ⟨kv, ((gMem proj l kv).filter (holdsAt t)).map Tup.vals, rfl, ?_, ?_, ?_, ?_⟩
    · unfold gKeys at hk
      rw [if_neg (by decide), mem_once] at hk
      obtain ⟨u, _, rfl⟩ := List.mem_map.1 hk
      exact hp _
    · rw [List.length_map]
      exact List.length_pos_of_mem (List.mem_filter.2 ⟨hx, hh⟩)
    · rw [List.length_map]
      exact Nat.le_trans (List.length_filter_le _ _) (Nat.le_trans (List.length_filter_le _ _) (clip_len l))
    · intro vs hvs
      obtain ⟨y, hy, rfl⟩ := List.mem_map.1 hvs
      obtain ⟨u, h1, h2, _⟩ := clip_from (List.mem_filter.1 (List.mem_filter.1 hy).1).1
      exact ⟨u, h1, h2⟩
  · cases hr
end
/-- a sum of 128 bits -/
def wideHi (S : Int) : Int := S / 18446744073709551616
def wideLo (S : Int) : Int := S % 18446744073709551616
theorem wide_fits (S : Int) (h : -170141183460469231731687303715884105728 ≤ S ∧ S ≤ 170141183460469231731687303715884105727) : (wideHi S = (if wideLo S ≤ 9223372036854775807 then 0 else -1)) ↔ (-9223372036854775808 ≤ S ∧ S ≤ 9223372036854775807) := by
  unfold wideHi wideLo
  split <;> omega
theorem wide_val (S : Int) (h : -9223372036854775808 ≤ S ∧ S ≤ 9223372036854775807) : (if wideLo S ≤ 9223372036854775807 then wideLo S else wideLo S - 18446744073709551616) = S := by
  unfold wideLo
  split <;> omega

end Go.Proofs.YtdgpbpbjlnlijaaGreatDoor

/- annalistlaw0.Tuples and Rows -/
namespace Go.Proofs.YtdgpbpbjlnlijaaGreatDoor
open Go.RowKit

theorem infoTup : (Tryz.prog.info? 77).map (fun i => (i.zero, i.size, i.bytes)) = some (some (.agg #[.slice none 0 0, .int .i64 0, .int .i64 0, .slice none 0 0]), Rep.tup.size, 64) := by kernel_rfl
theorem num_at {w : View} {b o n cap : Nat} {xs : List Num5} (h : SliceOf Rep.num w (.slice (some ⟨b, o, none⟩) n cap) xs) (i : Nat) (hi : i < xs.length) :
    w ⟨b, o + i * 5, none⟩ = some (.int .u16 xs[i].a) ∧ w ⟨b, o + i * 5 + 1, none⟩ = some (.int .u16 xs[i].b) ∧ w ⟨b, o + i * 5 + 2, none⟩ = some (.int .u16 xs[i].c) ∧ w ⟨b, o + i * 5 + 3, none⟩ = some (.int .u16 xs[i].d) ∧ w ⟨b, o + i * 5 + 4, none⟩ = some (.int .u16 xs[i].e) ∧ okNum xs[i] := by
  obtain ⟨c, ⟨rfl, h1⟩, h2⟩ := h.at i hi
  exact ⟨h2 0 _ rfl, h2 1 _ rfl, h2 2 _ rfl, h2 3 _ rfl, h2 4 _ rfl, h1⟩
def genTups (l : List Num5) (most : Nat) : List Tup := (l.take most).map genTup
theorem genTups_len (l : List Num5) (most : Nat) : (genTups l most).length ≤ most := by simp [genTups]; omega

set_option maxRecDepth 100000 in
set_option maxHeartbeats 4000000 in
theorem tuples_gen (v : Value) (l : List Num5) (most : Nat) (hmost : most ≤ 1000) (w : World) (hv : SliceOf Rep.num w.cell? v l) :
    Calls Tryz.prog 19 #[v, .int .i64 most] w fun e w' => ∃ v', e = .returned v' ∧ SliceOf Rep.tup (on w' (since w)) v' (genTups l most) ∧ Ext w w' := by
  obtain ⟨i0, hi, hz0, hz1, hz2⟩ := info_parts infoTup
  obtain ⟨pa, ca, rfl, ha1, ha2, ha3⟩ := hv.form
  unfold maxLen at ha2
  go_enter Tryz.func19, Tryz.ntmps19
  go_wp2_with fail
  go_loopg [5, 6] l.length (fun gk out i wr => ∃ k : Nat, k ≤ l.length ∧ k ≤ most ∧ gk = l.length - k ∧ i = .int .i64 k ∧ OwnOf Rep.tup wr (since w) w.heap.size 77 out (genTups l k) ∧ Ext w wr)
  case atStart => exact ⟨0, by omega, by omega, rfl, rfl, OwnOf.nil _ _ _ _ _, Ext.refl w⟩
  case round =>
    obtain ⟨k, hk, hkm, rfl, rfl, hown, hx⟩ := hrel
    by_cases hlt : k < l.length ∧ k < most
    · obtain ⟨hlt, hlt2⟩ := hlt
      obtain ⟨ba, oa, rfl⟩ := ha3 (by decide) (by omega)
      obtain ⟨c1, c2, c3, c4, c5, hok⟩ := num_at hv k hlt
      have htk : genTups l (k + 1) = genTups l k ++ [genTup l[k]] := by unfold genTups; rw [List.take_succ_eq_append_getElem hlt, List.map_append]; rfl
      have hlen : (genTups l k).length = k := by simp [genTups]; omega
      replace c1 := hx.at c1
      replace c2 := hx.at c2
      replace c3 := hx.at c3
      replace c4 := hx.at c4
      replace c5 := hx.at c5
      generalize l[k] = x at c1 c2 c3 c4 c5 hok htk
      have HT := Lib.hid htk
      have HO := Lib.hid hown
      have HOK := Lib.hid hok
      have HLEN := Lib.hid hlen
      have hd : decide ((k : Int) < (l.length : Int)) = true := by simp; omega
      have hd2 : decide ((k : Int) < (most : Int)) = true := by simp; omega
      clear htk hown hok hlen hv ha3
      go_wp2_with fail
      refine (tuple_gen x _ HOK.out).mono ?_
      rintro e w2 ⟨a, b, rfl, t1, t2, hx2⟩
      obtain ⟨a2, k2, rfl, _⟩ := t1.form
      obtain ⟨b2, j2, rfl, _⟩ := t2.form
      have T1 := Lib.hid t1
      have T2 := Lib.hid t2
      have hz := hx2.size
      have hw := hx.size
      clear t1 t2 c1 c2 c3 c4 c5
      go_wp2_with (at_builtin; refine wpList_append_one Rep.tup (since w) rfl _ _ 22 rfl w.heap.size 77 i0 _ 64 Tryz.underlying22 hi hz0 hz1 hz2 rfl (by decide) _ (genTups l k) rfl ((HO.out.ext hx2).ext ((Ext.refl _).alloc _)) ⟨w2.heap.size, 0, none⟩ 1 (genTup x) [.slice a2 (genTup x).vals.length k2, .int .i64 (genTup x).from_, .int .i64 (genTup x).to_, .slice b2 (genTup x).lin.length j2] rfl ?c1 ?c2 ?c3 ?c4 ?c5 ?_)
      case c1 =>
        have hlt2 := HO.out.lt
        have hs : ∀ u : Value, (∀ j, u.ownBlock = some j → j < wr.heap.size) → Sub (on w2 (fun j => wr.heap.size ≤ j)) (on (w2.alloc (.cells #[.slice a2 (genTup x).vals.length k2, .int .i64 (genTup x).from_, .int .i64 (genTup x).to_, .slice b2 (genTup x).lin.length j2] 77)) (avoid (since w) u)) := fun u hu => by
          refine (((Ext.refl w2).alloc _).sub _).trans (on_mono _ fun j _ hj => ⟨fun he => ?_, ?_⟩)
          · have := hu j he.symm
            omega
          · simp only [since]
            omega
        have hg := gen_per x.a x.b
        exact ⟨_, _, rfl, T1.out.ext (hs _ fun j hj => (hlt2 j hj).2), T2.out.ext (hs _ fun j hj => (hlt2 j hj).2), by simp only [genTup]; omega, by simp only [genTup]; omega⟩
      case c2 => exact cells_new w2 [.slice a2 (genTup x).vals.length k2, .int .i64 (genTup x).from_, .int .i64 (genTup x).to_, .slice b2 (genTup x).lin.length j2] _
      case c3 => rw [HLEN.out]; unfold maxLen; omega
      case c4 => rw [HLEN.out]; omega
      case c5 => simp; omega
      intro g cap w3 hown3 hgr _
      go_wp2_with fail
      go_roundg (l.length - (k + 1))
      case measure => omega
      case rel =>
        refine ⟨k + 1, by omega, by omega, rfl, by go_num, by rw [HT.out]; exact hown3, ?_⟩
        exact Below.grown ((hx.trans hx2).alloc _) hgr (by simp; omega) (fun j hj => (HO.out.lt j hj).1)
    · have hd : (decide ((k : Int) < (l.length : Int)) && decide ((k : Int) < (most : Int))) = false := by
        rw [Bool.and_eq_false_iff]
        simp only [decide_eq_false_iff_not]
        omega
      have hfull : genTups l k = genTups l most := by
        unfold genTups
        by_cases h : k < l.length
        · rw [show k = most by omega]
        · rw [List.take_of_length_le (by omega), List.take_of_length_le (by omega)]
      have hend : (¬ (k : Int) < (l.length : Int)) ∨ ((k : Int) < (l.length : Int) ∧ ¬ (k : Int) < (most : Int)) := by omega
      rw [hfull] at hown
      have hs := hown.sliceIn (T := since w) (fun _ _ h => h) (fun _ h => h)
      obtain ⟨pf, qf, rfl, _⟩ := hs.form
      have HS := Lib.hid hs
      clear hown hs hfull hd hv ha3
      rcases hend with hend | ⟨hd1, hend⟩
      · have hd1 : decide ((k : Int) < (l.length : Int)) = false := by simpa using hend
        go_wp2_with fail
        go_ret
        exact ⟨_, rfl, HS.out, hx⟩
      · have hd2 : decide ((k : Int) < (most : Int)) = false := by simpa using hend
        go_wp2_with fail
        go_ret
        exact ⟨_, rfl, HS.out, hx⟩

/-- a tuple without its period -/
def rowOf (t : Tup) : Row := ⟨t.vals, t.lin⟩
def genRows (l : List Num5) (most : Nat) : List Row := (genTups l most).map rowOf
theorem genRows_len (l : List Num5) (most : Nat) : (genRows l most).length ≤ most := by simpa [genRows] using genTups_len l most

end Go.Proofs.YtdgpbpbjlnlijaaGreatDoor

/- the arguments of the laws of group: expressions, keys, aggregates -/
namespace Go.Proofs.YtdgpbpbjlnlijaaGreatDoor
open Go.RowKit Go.Maps

theorem cnt_fit (l : List Tup) : ∀ vss : List (List Val), (∀ vs ∈ vss, ∃ u ∈ l, vs = u.vals) → (cntV 1 vss).length ≤ 1000 ∧ ∀ x ∈ cntV 1 vss, x.s.size ≤ 1048576 := fun vss _ => by
  unfold cntV
  refine ⟨by simp, fun x hx => ?_⟩
  rw [List.eq_of_mem_replicate hx]
  simp [intVal]
theorem genTups_fit2 (x : List Num5) (m : Nat) : ∀ t ∈ genTups x m, fitVals t.vals ∧ t.lin.length ≤ 256 := fun t ht => by
  obtain ⟨y, _, rfl⟩ := List.mem_map.1 ht
  refine ⟨⟨by simp [genTup, genVals], fun v hv => ?_⟩, by simp [genTup]⟩
  have hv : v ∈ [genV0 y.c, genV1 y.d] := hv
  have h : ∀ z, (genStr z).size ≤ 2 := fun z => by unfold genStr; split; exact Nat.zero_le _; split <;> decide
  simp only [List.mem_cons, List.not_mem_nil, or_false] at hv
  rcases hv with rfl | rfl
  · unfold genV0; split
    · exact Nat.zero_le _
    · exact Nat.zero_le _
  · unfold genV1; split
    · exact Nat.zero_le _
    · exact Nat.le_trans (h _) (by decide)
def exC : List ExprI := [⟨2, 0, 0, 0, nV⟩, ⟨2, 0, 0, 1, nV⟩]
theorem exC_op : ∀ e ∈ exC, e.op = 2 := by simp [exC]
def keysL (k : Int) : List Int := if k % 4 = 0 then [] else if k % 4 = 1 then [0] else if k % 4 = 2 then [1] else [0, 1]
theorem keysL_in (k : Int) : ∀ z ∈ keysL k, 0 ≤ z ∧ z < exC.length := by
  unfold keysL exC
  intro z hz
  split at hz
  · cases hz
  · split at hz
    · simp at hz; simp; omega
    · split at hz
      · simp at hz; simp; omega
      · simp at hz; simp; omega
theorem keysL_len (k : Int) : (keysL k).length ≤ 2 := by
  unfold keysL
  repeat' split
  all_goals simp
theorem proj_nil (k : Int) : decide ((keysL k).length = 0) = true → ∀ vs, projC exC (keysL k) vs = [] := fun h vs => by
  have : keysL k = [] := List.eq_nil_of_length_eq_zero (of_decide_eq_true h)
  rw [this]; rfl

set_option maxRecDepth 100000 in
set_option maxHeartbeats 4000000 in
theorem exprs_any (w : World) : Calls Tryz.prog 20 #[] w fun e w' => ∃ v, e = .returned v ∧ SliceOf Rep.expr w'.cell? v exC ∧ Ext w w' := by
  go_enter Tryz.func20, Tryz.ntmps20
  go_wp2_with fail
  go_ret
  refine ⟨_, rfl, ?_, (Ext.refl w).alloc _⟩
  exact slice_lit Rep.expr w (exprEnc ⟨2, 0, 0, 0, nV⟩ ++ exprEnc ⟨2, 0, 0, 1, nV⟩) 73 [exprEnc ⟨2, 0, 0, 0, nV⟩, exprEnc ⟨2, 0, 0, 1, nV⟩] exC rfl ⟨⟨rfl, by unfold okI; dsimp only; omega, ok_nV⟩, ⟨rfl, by unfold okI; dsimp only; omega, ok_nV⟩, trivial⟩ (by simp [exC, maxLen])

set_option maxRecDepth 100000 in
set_option maxHeartbeats 4000000 in
theorem keysOf_any (k : Int) (w : World) (h0 : 0 ≤ k) (h1 : k ≤ 255) : Calls Tryz.prog 23 #[.int .u8 k] w fun e w' => ∃ v, e = .returned v ∧ SliceOf Rep.int w'.cell? v (keysL k) ∧ Ext w w' := by
  have hk : k % 4 = 0 ∨ k % 4 = 1 ∨ k % 4 = 2 ∨ k % 4 = 3 := by omega
  rcases hk with h | h | h | h
  · have HK := Lib.hid (show keysL k = [] from if_pos h)
    go_enter Tryz.func23, Tryz.ntmps23
    go_wp2_with fail
    go_ret
    exact ⟨_, rfl, by rw [HK.out]; exact SliceOf.nil _ _, ((((Ext.refl w).alloc _).alloc _).alloc _).alloc _⟩
  · have HK := Lib.hid (show keysL k = [0] from by unfold keysL; rw [if_neg (by omega), if_pos h])
    go_enter Tryz.func23, Tryz.ntmps23
    go_wp2_with fail
    go_ret
    exact ⟨_, rfl, by rw [HK.out]; exact (ints_lit w 3 [0] (by unfold inR; simp) (by simp [maxLen])).ext ((((Ext.refl _).alloc _).alloc _).alloc _).full, ((((Ext.refl w).alloc _).alloc _).alloc _).alloc _⟩
  · have HK := Lib.hid (show keysL k = [1] from by unfold keysL; rw [if_neg (by omega), if_neg (by omega), if_pos h])
    go_enter Tryz.func23, Tryz.ntmps23
    go_wp2_with fail
    go_ret
    have hl := ints_lit (w.alloc (.cells #[.int .i64 0] 3)) 3 [1] (by unfold inR; simp) (by simp [maxLen])
    rw [show (w.alloc (.cells #[.int .i64 0] 3)).heap.size = w.heap.size + 1 by simp] at hl
    exact ⟨_, rfl, by rw [HK.out]; exact hl.ext (((Ext.refl _).alloc _).alloc _).full, ((((Ext.refl w).alloc _).alloc _).alloc _).alloc _⟩
  · have HK := Lib.hid (show keysL k = [0, 1] from by unfold keysL; rw [if_neg (by omega), if_neg (by omega), if_neg (by omega)])
    go_enter Tryz.func23, Tryz.ntmps23
    go_wp2_with fail
    go_ret
    have hl := ints_lit ((w.alloc (.cells #[.int .i64 0] 3)).alloc (.cells #[.int .i64 1] 3)) 3 [0, 1] (by unfold inR; simp) (by simp [maxLen])
    rw [show ((w.alloc (.cells #[.int .i64 0] 3)).alloc (.cells #[.int .i64 1] 3)).heap.size = w.heap.size + 2 by simp] at hl
    exact ⟨_, rfl, by rw [HK.out]; exact hl.ext ((Ext.refl _).alloc _).full, ((((Ext.refl w).alloc _).alloc _).alloc _).alloc _⟩

end Go.Proofs.YtdgpbpbjlnlijaaGreatDoor

/- the contract of a row of counts -/
namespace Go.Proofs.YtdgpbpbjlnlijaaGreatDoor
open Go.RowKit Go.Maps

theorem rowLaw_count {w : World} {ve va : Value} {l : List Tup} {K : Nat} (hve : ShSl ve) (ha : SliceOf Rep.agg w.cell? va [⟨1, 0⟩]) (hK : K ≤ 1000) (hl : l.length ≤ 40) (hf : ∀ t ∈ l, fitVals t.vals ∧ t.lin.length ≤ 256) : RowLaw w ve va l K (cntV 1) := by
  intro G kv key tv ms t w1 hx h0 h1 hk hkl hm hml hmm
  exact row_count G ve va [⟨1, 0⟩] kv key tv ms t w1 h0 hve h1 (ha.ext hx.full) (by simp) (by simp) hk (by omega) hm (by omega) (fun m hm' => by obtain ⟨u, hu, _, e⟩ := hmm m hm'; rw [e]; exact (hf u hu).2)

end Go.Proofs.YtdgpbpbjlnlijaaGreatDoor

/- the laws' sanity check (annalistlaw16.awake) -/
namespace Go.Proofs.YtdgpbpbjlnlijaaGreatDoor
open Go.RowKit Go.Maps

set_option maxRecDepth 100000 in
set_option maxHeartbeats 8000000 in
theorem awake_group (w : World) (ht : TabW w) (hD : DaysW w) : Calls Tryz.prog 15 #[] w fun e w' => e = .returned (.bool true) ∧ Ext w w' := by
  have HT := Lib.hid (And.intro ht hD)
  clear ht hD
  go_enter Tryz.func15, Tryz.ntmps15
  go_wp2_with fail
  have LA := Lib.hid (show SliceOf Rep.agg (w.alloc (.cells #[.int .i64 1, .int .i64 0] 48)).cell? (.slice (some ⟨w.heap.size, 0, none⟩) 1 1) [⟨1, 0⟩] from slice_lit Rep.agg w [.int .i64 1, .int .i64 0] 48 [[.int .i64 1, .int .i64 0]] [⟨1, 0⟩] rfl ⟨⟨rfl, by unfold okI; dsimp only; omega, by unfold okI; dsimp only; omega⟩, trivial⟩ (by simp [maxLen]))
  have X0 := Lib.hid ((Ext.refl w).alloc (.cells #[.int .i64 1, .int .i64 0] 48))
  refine (group_any (.slice none 0 0) [] (.slice none 0 0) [] (.slice none 0 0) [] _ (cntV 1) _ (SliceOf.nil _ _) (by simp) (by simp) (SliceOf.nil _ _) (by simp) (by simp) (SliceOf.nil _ _) (by simp) (by simp) ⟨_, _, _, rfl⟩ (rowLaw_count ⟨_, _, _, rfl⟩ LA.out (by simp) (by simp) (by simp)) (cnt_fit []) (HT.out.1.ext X0.out) (HT.out.2.ext X0.out)).mono ?_
  rintro e w1 ⟨v1, rfl, s1, x1⟩
  have hnone : aggT (projC [] []) (cntV 1) (decide (([] : List Int).length = 0)) [] = [⟨[intVal 0], 0, 1000000, []⟩] := agg_none _
  rw [hnone] at s1
  have S1 := s1.ext (on_sub _ _)
  have X1 := Lib.hid (X0.out.trans x1)
  clear s1 x1 X0 LA hnone
  obtain ⟨p1, c1, rfl, _, _, hp1⟩ := S1.form
  obtain ⟨b, o, rfl⟩ := hp1 (by decide) (by simp)
  obtain ⟨ta, tb, c0, c1', c2, c3, g0, g1, _, _⟩ := tup_at S1 0 (by simp)
  obtain ⟨pa, ka, rfl, _, _, hpa⟩ := g0.form
  obtain ⟨pb, kb, rfl, _⟩ := g1.form
  obtain ⟨b2, o2, rfl⟩ := hpa (by decide) (by simp)
  obtain ⟨k0, k1, k2, _, _⟩ := val_cells g0 0 (by simp)
  simp only [Nat.zero_mul, Nat.add_zero, List.getElem_cons_zero, List.length_singleton, List.length_nil, intVal] at c0 c1' c2 c3 k0 k1 k2
  clear S1 g0 g1 hp1 hpa
  have mkS : ∀ w', Ext w1 w' → Ext w1 w' ∧ w'.cell? ⟨b, o, none⟩ = some (.slice (some ⟨b2, o2, none⟩) 1 ka) ∧ w'.cell? ⟨b, o + 1, none⟩ = some (.int .i64 0) ∧ w'.cell? ⟨b, o + 2, none⟩ = some (.int .i64 1000000) ∧ w'.cell? ⟨b, o + 3, none⟩ = some (.slice pb 0 kb) ∧ w'.cell? ⟨b2, o2, none⟩ = some (.int .i64 1) ∧ w'.cell? ⟨b2, o2 + 1, none⟩ = some (.int .i64 0) ∧ w'.cell? ⟨b2, o2 + 2, none⟩ = some (.string ByteArray.empty) :=
    fun w' h => ⟨h, h.at c0, h.at c1', h.at c2, h.at c3, h.at k0, h.at k1, h.at k2⟩
  have MK := Lib.hid mkS
  have hS0 := mkS _ (Ext.refl w1).drew
  have hv0 : valV (intVal 0) = .agg #[.int .i64 1, .int .i64 0, .string ByteArray.empty] := rfl
  have HV0 := Lib.hid hv0
  have hll : ([⟨[intVal 0], 0, 1000000, []⟩] : List Tup).length = 1 := rfl
  rw [hll]
  clear mkS c0 c1' c2 c3 k0 k1 k2 hv0 hll
  go_wp2_with fail
  go_region_held3 (fun w' => Ext w1 w' ∧ w'.cell? ⟨b, o, none⟩ = some (.slice (some ⟨b2, o2, none⟩) 1 ka) ∧ w'.cell? ⟨b, o + 1, none⟩ = some (.int .i64 0) ∧ w'.cell? ⟨b, o + 2, none⟩ = some (.int .i64 1000000) ∧ w'.cell? ⟨b, o + 3, none⟩ = some (.slice pb 0 kb) ∧ w'.cell? ⟨b2, o2, none⟩ = some (.int .i64 1) ∧ w'.cell? ⟨b2, o2 + 1, none⟩ = some (.int .i64 0) ∧ w'.cell? ⟨b2, o2 + 2, none⟩ = some (.string ByteArray.empty))
    (first | with_reducible assumption | exact MK.out _ hw9)
    (first | (go_at_call 38; refine (int_value 0 _).mono ?_; rintro e w8 ⟨rfl, x8⟩; rw [HV0.out]; have hw9 : Ext w1 w8 := Ext.trans (And.left (by assumption)) x8))
  all_goals go_wp2_with fail
  all_goals go_ret
  all_goals exact ⟨rfl, X1.out.trans hw9⟩

end Go.Proofs.YtdgpbpbjlnlijaaGreatDoor

/- the queue of active tuples: its row of cells; the methods Len, Less, Swap -/
namespace Go.Proofs.YtdgpbpbjlnlijaaGreatDoor
open Go.RowKit Go.Shelf Go.Sort

instance : Inhabited Ev := ⟨⟨false, 0, 0, 0⟩⟩
def actEnc (x : Ev) : List Value := [.int .i64 x.idx, .int .i64 x.to_]
def okE (x : Ev) : Prop := x.idx ≤ 1048576 ∧ -9223372036854775808 ≤ x.to_ ∧ x.to_ ≤ 9223372036854775807
def Rep.act : Rep Ev where
  size := 2
  holds _ cs x := cs = actEnc x ∧ okE x
  len := by rintro w cs x ⟨rfl, _⟩; rfl
  ext := by rintro w w' cs x h _; exact h
  one := by rintro w cs x ⟨rfl, _⟩; simp [actEnc, Value.oneCell']
theorem flat_act : Rep.act.flat := fun _ _ _ _ h => h
theorem act_len (x : Ev) : (actEnc x).length = 2 := rfl
theorem act_one (x : Ev) : ∀ v ∈ actEnc x, v.oneCell' = true := by simp [actEnc, Value.oneCell']

section
variable {α : Type} {R : Rep α} {enc : α → List Value} {ok : α → Prop}
theorem css_enc (hR : ∀ h cs x, R.holds h cs x ↔ cs = enc x ∧ ok x) {h : View} {css : List (List Value)} {xs : List α} (k : RepAll R h css xs) : css = xs.map enc ∧ ∀ x ∈ xs, ok x := by
  induction xs generalizing css with
  | nil =>
    cases css with
    | nil => simp
    | cons c css => exact k.elim
  | cons x xs ih =>
    cases css with
    | nil => exact k.elim
    | cons c css =>
      obtain ⟨h1, h2⟩ := ih k.2
      obtain ⟨h3, h4⟩ := (hR _ _ _).1 k.1
      exact ⟨by rw [h3, h1]; rfl, by simpa using ⟨h4, h2⟩⟩
theorem enc_css (hR : ∀ h cs x, R.holds h cs x ↔ cs = enc x ∧ ok x) {h : View} {xs : List α} (k : ∀ x ∈ xs, ok x) : RepAll R h (xs.map enc) xs := by
  have := repAll_map R h xs enc id (fun x hx => (hR _ _ _).2 ⟨rfl, k x hx⟩)
  simpa using this
variable [Inhabited α]
/-- a row of one's own, as an array that is sorted in place -/
theorem own_split (hR : ∀ h cs x, R.holds h cs x ↔ cs = enc x ∧ ok x) {w : World} {S : Nat → Prop} {base : Nat} {e : TypeId} {v : Value} {xs : List α} (hown : OwnOf R w S base e v xs) (hn : 0 < xs.length) :
    ∃ g cap cur, v = .slice (some ⟨g, 0, none⟩) xs.length cap ∧ base ≤ g ∧ w.heap[g]? = some (.cells cur e (0, 0)) ∧ xs.length ≤ cap ∧ cap ≤ maxLen ∧ cur.size = cap * R.size ∧ HoldsK enc R.size w g 0 xs.toArray ∧ ∀ x ∈ xs, ok x := by
  obtain ⟨css, h1, h2⟩ := hown
  obtain ⟨rfl, hok⟩ := css_enc hR h1
  obtain ⟨h2l, h2⟩ := h2
  rcases h2 with ⟨_, h0⟩ | ⟨gB, cap, cur, rfl, hb, hh, hc1, hc2, hsz, htk⟩
  · omega
  refine ⟨gB, cap, cur, rfl, hb, hh, hc1, hc2, hsz, ?_, hok⟩
  have hel : ∀ x ∈ xs, (enc x).length = R.size := fun x hx => R.len ((hR w.cell? _ _).2 ⟨rfl, hok x hx⟩)
  have hflat : ∀ j, j < xs.length * R.size → ((xs.map enc).flatten)[j]? = some (flatK enc R.size xs.toArray)[j]! := by
    intro j hj
    have hk0 : 0 < R.size := by
      rcases Nat.eq_zero_or_pos R.size with h | h
      · rw [h] at hj; simp at hj
      · exact h
    have hdiv : j / R.size < xs.length := by rw [Nat.div_lt_iff_lt_mul hk0]; exact hj
    have hmod := Nat.mod_lt j hk0
    rw [get_flatK _ _ _ _ (by simpa using hj)]
    rw [getElem!_pos xs.toArray _ (by simpa using hdiv)]
    have key : ∀ (l : List α) (i r : Nat) (x : α), (∀ y ∈ l, (enc y).length = R.size) → l[i]? = some x → r < R.size → (l.map enc).flatten[i * R.size + r]? = some ((enc x)[r]!) := by
      intro l
      induction l with
      | nil => intro i r x _ h; simp at h
      | cons y l ih =>
        intro i r x hl h hr
        have hy := hl y (by simp)
        cases i with
        | zero =>
          simp at h
          subst h
          rw [List.map_cons, List.flatten_cons, Nat.zero_mul, Nat.zero_add, List.getElem?_append_left (by rw [hy]; exact hr)]
          rw [getElem!_pos _ r (by rw [hy]; exact hr), List.getElem?_eq_getElem]
        | succ i =>
          rw [List.map_cons, List.flatten_cons, List.getElem?_append_right (by rw [hy, Nat.succ_mul]; omega), hy]
          rw [show (i + 1) * R.size + r - R.size = i * R.size + r from by rw [Nat.succ_mul]; omega]
          exact ih i r x (fun z hz => hl z (by simp [hz])) (by simpa using h) hr
    have := key xs (j / R.size) (j % R.size) (xs[j / R.size]) hel (List.getElem?_eq_getElem hdiv) hmod
    rw [show j / R.size * R.size + j % R.size = j from by rw [Nat.mul_comm]; exact Nat.div_add_mod j R.size] at this
    rw [this]
    simp
  intro j hj
  have hj' : j < xs.length * R.size := by simpa using hj
  constructor
  · have hu := hflat j hj'
    rw [← htk, List.getElem?_take, if_pos hj'] at hu
    rw [Nat.zero_add, cell_of_row w gB j cur e (0, 0) hh]
    simpa using hu
  · simp [World.frozen?, hh]
theorem own_back (hR : ∀ h cs x, R.holds h cs x ↔ cs = enc x ∧ ok x) (hel : ∀ x, (enc x).length = R.size) {w : World} {S : Nat → Prop} {base : Nat} {e : TypeId} {g cap : Nat} {cur : Array Value} {n m : Nat} {d : Array α} {os : Array Obj} (hb : base ≤ g) (hh : w.heap[g]? = some (.cells cur e (0, 0))) (hc1 : n ≤ cap) (hc2 : cap ≤ maxLen) (hsz : cur.size = cap * R.size)
    (hd : d.size = n) (hok : ∀ x ∈ d.toList, ok x) : OwnOf R (sortWorldK enc R.size w g 0 m d os) S base e (.slice (some ⟨g, 0, none⟩) n cap) d.toList := by
  subst hd
  refine ⟨d.toList.map enc, enc_css hR hok, ?_, .inr ⟨g, cap, putCells id 0 (flatK enc R.size d) cur, by simp, hb, sortWorld_row enc R.size w g 0 m d os cur e (0, 0) hh, by simpa using hc1, hc2, by simp [putCells, hsz], ?_⟩⟩
  · rw [← flatK_toList enc R.size hel]; simp
  · rw [← flatK_toList enc R.size hel]
    apply List.ext_getElem?
    intro j
    rw [List.getElem?_take]
    by_cases hj : j < d.size * R.size
    · have hjc : j < cur.size := by rw [hsz]; exact Nat.lt_of_lt_of_le hj (Nat.mul_le_mul_right _ hc1)
      simp [putCells, hjc, hj]
    · rw [if_neg (by simpa using hj), List.getElem?_eq_none (by simpa using Nat.le_of_not_lt hj)]
end

theorem act_iff : ∀ h cs x, Rep.act.holds h cs x ↔ cs = actEnc x ∧ okE x := fun _ _ _ => Iff.rfl
theorem act_cell {w : World} {g : Nat} {d : Array Ev} (h : HoldsK actEnc 2 w g 0 d) (i : Nat) (hi : i < d.size) :
    w.cell? ⟨g, i * 2, none⟩ = some (.int .i64 d[i]!.idx) ∧ w.cell? ⟨g, i * 2 + 1, none⟩ = some (.int .i64 d[i]!.to_) := by
  have g0 := (h (i * 2) (by simp; omega)).1
  have g1 := (h (i * 2 + 1) (by simp; omega)).1
  rw [Nat.zero_add, get_flatK _ _ _ _ (by omega)] at g0 g1
  rw [show i * 2 / 2 = i by omega, show i * 2 % 2 = 0 by omega] at g0
  rw [show (i * 2 + 1) / 2 = i by omega, show (i * 2 + 1) % 2 = 1 by omega] at g1
  exact ⟨g0, g1⟩
def ltAct (x y : Ev) : Bool := decide (x.to_ < y.to_)
theorem swo_act : SWO ltAct where
  irrefl x := by simp [ltAct]
  trans x y z := by simp only [ltAct, decide_eq_true_eq]; omega
  ntrans x y z := by simp only [ltAct, decide_eq_false_iff_not]; omega

theorem mixedOrd : Tryz.prog.follows Departure.mixedOrders = true := by kernel_rfl
theorem len_act (p : Option Addr) (n cap : Nat) (w : World) : Calls Tryz.prog 225 #[.slice p n cap] w fun e w' => e = .returned (.int .i64 n) ∧ w = w' := by
  go_enter Tryz.func225, Tryz.ntmps225
  go_wp2_with fail
  go_ret
  exact ⟨rfl, rfl⟩

set_option maxHeartbeats 1000000 in
theorem less_act (g n cap : Nat) (d : Array Ev) (i j : Nat) (w : World) (hH : HoldsK actEnc 2 w g 0 d) (hn : d.size = n) (hi : i < d.size) (hj : j < d.size) :
    Calls Tryz.prog 300 #[.slice (some ⟨g, 0, none⟩) n cap, .int .i64 i, .int .i64 j] w fun e w' => e = .returned (.bool (ltAct d[i]! d[j]!)) ∧ Gro w w' := by
  subst hn
  obtain ⟨_, ci⟩ := act_cell hH i hi
  obtain ⟨_, cj⟩ := act_cell hH j hj
  have hiz : (i : Int) < (d.size : Int) := by omega
  have hjz : (j : Int) < (d.size : Int) := by omega
  clear hH
  unfold ltAct
  generalize d[i]!.to_ = ti at ci ⊢
  generalize d[j]!.to_ = tj at cj ⊢
  have mixed := mixedOrd
  go_enter Tryz.func300, Tryz.ntmps300
  go_wp2_with fail
  go_big_region_o
  all_goals go_wp2_with fail
  all_goals go_ret
  all_goals exact ⟨rfl, (Gro.refl w).drew⟩

theorem act_free {w : World} {g : Nat} {d : Array Ev} (h : HoldsK actEnc 2 w g 0 d) (i : Nat) (hi : i < d.size) :
    w.frozen? ⟨g, i * 2, none⟩ = false ∧ w.frozen? ⟨g, i * 2 + 1, none⟩ = false := by
  have g0 := (h (i * 2) (by simp; omega)).2
  have g1 := (h (i * 2 + 1) (by simp; omega)).2
  rw [Nat.zero_add] at g0 g1
  exact ⟨g0, g1⟩
set_option maxHeartbeats 4000000 in
theorem swap_act (g n cap : Nat) (d0 d : Array Ev) (i j : Nat) (w0 w : World) (R : RowK actEnc 2 w0 g 0 d0) (hs : d.size = d0.size) (hn : d.size = n) (S : SWK actEnc 2 w0 g 0 d w) (hi : i < d.size) (hj : j < d.size) :
    Calls Tryz.prog 301 #[.slice (some ⟨g, 0, none⟩) n cap, .int .i64 i, .int .i64 j] w fun e w' => e = .returned (.tuple #[]) ∧ SWK actEnc 2 w0 g 0 (swp d i j) w' := by
  subst hn
  have mixed := mixedOrd
  have hiz : (i : Int) < (d.size : Int) := by omega
  have hjz : (j : Int) < (d.size : Int) := by omega
  have S2 : Aside (SWK actEnc 2 w0 g 0 (swp d i j) ((w.drew.setCells g (0 + i * 2) (actEnc d[j]!)).setCells g (0 + j * 2) (actEnc d[i]!))) := S.swapped R i j hi hj
  have hH := S.holds R.hblk R.hH hs
  obtain ⟨ci0, ci1⟩ := act_cell hH i hi
  obtain ⟨cj0, cj1⟩ := act_cell hH j hj
  obtain ⟨fi0, fi1⟩ := act_free hH i hi
  obtain ⟨fj0, fj1⟩ := act_free hH j hj
  simp only [actEnc, World.setCells, Nat.zero_add] at S2
  clear S hH
  by_cases hij : i = j
  · subst hij
    clear cj0 cj1 fj0 fj1 hjz hj
    generalize d[i]!.to_ = ti at S2 ci1
    generalize d[i]!.idx = ni at S2 ci0
    go_enter Tryz.func301, Tryz.ntmps301
    go_wp2_with fail
    go_big_region_o
    all_goals go_wp2_with fail
    all_goals go_end0
    all_goals exact ⟨rfl, S2.out⟩
  · generalize d[i]!.to_ = ti at S2 ci1
    generalize d[j]!.to_ = tj at S2 cj1
    generalize d[i]!.idx = ni at S2 ci0
    generalize d[j]!.idx = nj at S2 cj0
    have e1 : ¬ i * 2 = j * 2 := by omega
    have e2 : ¬ i * 2 + 1 = j * 2 := by omega
    have e3 : ¬ i * 2 = j * 2 + 1 := by omega
    have e4 : ¬ i * 2 + 1 = j * 2 + 1 := by omega
    go_enter Tryz.func301, Tryz.ntmps301
    go_wp2_with fail
    go_big_region_o
    all_goals go_wp2_with fail
    all_goals go_end0
    all_goals exact ⟨rfl, S2.out⟩

end Go.Proofs.YtdgpbpbjlnlijaaGreatDoor

/-
  DERIVED: THE SHELF's CONTRACTS AT THIS DUMP, IN PLAIN WORDS (tools/lay-plain.mjs out of 'TryzShelfC.lean', which tools/lay-shelf.mjs wrote): THE SAME DECLARATIONS UNDER THE SAME NAMES: 'import', 'namespace', 'open', 'def', 'theorem' AND NOTHING ELSE: no command of the shelf's: FOR A HAND-IN. Each laying: the table of numbers ('.._ren') and one theorem, a field a fact of the dump's own or the kernel's comparison; each contract: ONE APPLICATION.
-/
namespace Go.Proofs
open Go.Shelf
def Tryz.insEv_ren : Go.Shelf.Ren := ⟨fun | 20 => 246 | n => n, fun | 24 => 218 | 22 => 215 | 3 => 3 | 25 => 221 | 4 => 4 | 0 => 0 | n => n, fun | n => n⟩
theorem Tryz.insEv : Go.Proofs.SlLaysF0.n20 Tryz.prog Tryz.insEv_ren := {
  mixed := by kernel_rfl
  f20 := ⟨Tryz.f246.name, by decide, Tryz.func246.trans (congrArg some (by kernel_rfl))⟩
  t0 := Tryz.underlying0
  a0 := Tryz.isAgg0
  z0 := Tryz.sizeOf0
  v0 := Tryz.zeroValue0
  t3 := Tryz.underlying3
  a3 := Tryz.isAgg3
  z3 := Tryz.sizeOf3
  v3 := Tryz.zeroValue3
  t4 := Tryz.underlying4
  a4 := Tryz.isAgg4
  z4 := Tryz.sizeOf4
  v4 := Tryz.zeroValue4
  t22 := Tryz.underlying215
  a22 := Tryz.isAgg215
  z22 := Tryz.sizeOf215
  v22 := Tryz.zeroValue215
  t25 := Tryz.underlying221
  a25 := Tryz.isAgg221
  z25 := Tryz.sizeOf221
  v25 := Tryz.zeroValue221 }
def Tryz.sortPairs_ren : Go.Shelf.Ren := ⟨fun | 6 => 174 | 15 => 105 | 14 => 228 | 28 => 154 | 29 => 155 | 20 => 249 | 21 => 250 | 22 => 251 | 23 => 252 | 24 => 253 | 25 => 254 | 26 => 255 | 27 => 256 | 46 => 273 | 47 => 208 | 48 => 209 | 49 => 274 | 50 => 275 | 57 => 280 | n => n, fun | 22 => 178 | 24 => 181 | 25 => 233 | 3 => 3 | 39 => 159 | 0 => 0 | 53 => 203 | 55 => 205 | 4 => 4 | 46 => 197 | 45 => 196 | 50 => 107 | 5 => 5 | 9 => 9 | 66 => 261 | 70 => 265 | 76 => 294 | 77 => 295 | n => n, fun | n => n⟩
theorem Tryz.sortPairs : Go.Proofs.SlLaysF0.n6 Tryz.prog Tryz.sortPairs_ren := {
  mixed := by kernel_rfl
  f6 := ⟨Tryz.f174.name, by decide, Tryz.func174.trans (congrArg some (by kernel_rfl))⟩
  f14 := ⟨Tryz.f228.name, by decide, Tryz.func228.trans (congrArg some (by kernel_rfl))⟩
  f15 := Tryz.func105.trans (congrArg some (by kernel_rfl))
  f20 := ⟨Tryz.f249.name, by decide, Tryz.func249.trans (congrArg some (by kernel_rfl))⟩
  f21 := ⟨Tryz.f250.name, by decide, Tryz.func250.trans (congrArg some (by kernel_rfl))⟩
  f22 := ⟨Tryz.f251.name, by decide, Tryz.func251.trans (congrArg some (by kernel_rfl))⟩
  f23 := ⟨Tryz.f252.name, by decide, Tryz.func252.trans (congrArg some (by kernel_rfl))⟩
  f24 := ⟨Tryz.f253.name, by decide, Tryz.func253.trans (congrArg some (by kernel_rfl))⟩
  f25 := ⟨Tryz.f254.name, by decide, Tryz.func254.trans (congrArg some (by kernel_rfl))⟩
  f26 := ⟨Tryz.f255.name, by decide, Tryz.func255.trans (congrArg some (by kernel_rfl))⟩
  f27 := ⟨Tryz.f256.name, by decide, Tryz.func256.trans (congrArg some (by kernel_rfl))⟩
  f28 := Tryz.func154.trans (congrArg some (by kernel_rfl))
  f29 := Tryz.func155.trans (congrArg some (by kernel_rfl))
  f46 := ⟨Tryz.f273.name, by decide, Tryz.func273.trans (congrArg some (by kernel_rfl))⟩
  f47 := Tryz.func208.trans (congrArg some (by kernel_rfl))
  f48 := Tryz.func209.trans (congrArg some (by kernel_rfl))
  f49 := ⟨Tryz.f274.name, by decide, Tryz.func274.trans (congrArg some (by kernel_rfl))⟩
  f50 := ⟨Tryz.f275.name, by decide, Tryz.func275.trans (congrArg some (by kernel_rfl))⟩
  f57 := ⟨Tryz.f280.name, by decide, Tryz.func280.trans (congrArg some (by kernel_rfl))⟩
  t0 := Tryz.underlying0
  a0 := Tryz.isAgg0
  z0 := Tryz.sizeOf0
  v0 := Tryz.zeroValue0
  t3 := Tryz.underlying3
  a3 := Tryz.isAgg3
  z3 := Tryz.sizeOf3
  v3 := Tryz.zeroValue3
  t4 := Tryz.underlying4
  a4 := Tryz.isAgg4
  z4 := Tryz.sizeOf4
  v4 := Tryz.zeroValue4
  t5 := Tryz.underlying5
  a5 := Tryz.isAgg5
  z5 := Tryz.sizeOf5
  v5 := Tryz.zeroValue5
  t9 := Tryz.underlying9
  a9 := Tryz.isAgg9
  z9 := Tryz.sizeOf9
  v9 := Tryz.zeroValue9
  t22 := Tryz.underlying178
  a22 := Tryz.isAgg178
  z22 := Tryz.sizeOf178
  v22 := Tryz.zeroValue178
  t25 := Tryz.underlying233
  a25 := Tryz.isAgg233
  z25 := Tryz.sizeOf233
  v25 := Tryz.zeroValue233
  t39 := Tryz.underlying159
  a39 := Tryz.isAgg159
  z39 := Tryz.sizeOf159
  v39 := Tryz.zeroValue159
  t45 := Tryz.underlying196
  a45 := Tryz.isAgg196
  z45 := Tryz.sizeOf196
  v45 := Tryz.zeroValue196
  t46 := Tryz.underlying197
  a46 := Tryz.isAgg197
  z46 := Tryz.sizeOf197
  v46 := Tryz.zeroValue197
  t50 := Tryz.underlying107
  a50 := Tryz.isAgg107
  z50 := Tryz.sizeOf107
  v50 := Tryz.zeroValue107
  t53 := Tryz.underlying203
  a53 := Tryz.isAgg203
  z53 := Tryz.sizeOf203
  v53 := Tryz.zeroValue203
  t55 := Tryz.underlying205
  a55 := Tryz.isAgg205
  z55 := Tryz.sizeOf205
  v55 := Tryz.zeroValue205
  t66 := Tryz.underlying261
  a66 := Tryz.isAgg261
  z66 := Tryz.sizeOf261
  v66 := Tryz.zeroValue261
  t70 := Tryz.underlying265
  a70 := Tryz.isAgg265
  z70 := Tryz.sizeOf265
  v70 := Tryz.zeroValue265
  t76 := Tryz.underlying294
  a76 := Tryz.isAgg294
  z76 := Tryz.sizeOf294
  v76 := Tryz.zeroValue294
  t77 := Tryz.underlying295
  a77 := Tryz.isAgg295
  z77 := Tryz.sizeOf295
  v77 := Tryz.zeroValue295 }
def Tryz.sortPers_ren : Go.Shelf.Ren := ⟨fun | 6 => 176 | 15 => 105 | 14 => 229 | 28 => 154 | 29 => 155 | 20 => 257 | 21 => 258 | 22 => 259 | 23 => 260 | 24 => 261 | 25 => 262 | 26 => 263 | 27 => 264 | 46 => 276 | 47 => 208 | 48 => 209 | 49 => 277 | 50 => 278 | 57 => 281 | n => n, fun | 22 => 112 | 24 => 52 | 25 => 235 | 3 => 3 | 39 => 159 | 0 => 0 | 53 => 203 | 55 => 205 | 4 => 4 | 46 => 197 | 45 => 196 | 50 => 107 | 5 => 5 | 9 => 9 | 66 => 261 | 70 => 265 | 76 => 294 | 77 => 295 | n => n, fun | n => n⟩
theorem Tryz.sortPers : Go.Proofs.SlLaysF0.n6 Tryz.prog Tryz.sortPers_ren := {
  mixed := by kernel_rfl
  f6 := ⟨Tryz.f176.name, by decide, Tryz.func176.trans (congrArg some (by kernel_rfl))⟩
  f14 := ⟨Tryz.f229.name, by decide, Tryz.func229.trans (congrArg some (by kernel_rfl))⟩
  f15 := Tryz.func105.trans (congrArg some (by kernel_rfl))
  f20 := ⟨Tryz.f257.name, by decide, Tryz.func257.trans (congrArg some (by kernel_rfl))⟩
  f21 := ⟨Tryz.f258.name, by decide, Tryz.func258.trans (congrArg some (by kernel_rfl))⟩
  f22 := ⟨Tryz.f259.name, by decide, Tryz.func259.trans (congrArg some (by kernel_rfl))⟩
  f23 := ⟨Tryz.f260.name, by decide, Tryz.func260.trans (congrArg some (by kernel_rfl))⟩
  f24 := ⟨Tryz.f261.name, by decide, Tryz.func261.trans (congrArg some (by kernel_rfl))⟩
  f25 := ⟨Tryz.f262.name, by decide, Tryz.func262.trans (congrArg some (by kernel_rfl))⟩
  f26 := ⟨Tryz.f263.name, by decide, Tryz.func263.trans (congrArg some (by kernel_rfl))⟩
  f27 := ⟨Tryz.f264.name, by decide, Tryz.func264.trans (congrArg some (by kernel_rfl))⟩
  f28 := Tryz.func154.trans (congrArg some (by kernel_rfl))
  f29 := Tryz.func155.trans (congrArg some (by kernel_rfl))
  f46 := ⟨Tryz.f276.name, by decide, Tryz.func276.trans (congrArg some (by kernel_rfl))⟩
  f47 := Tryz.func208.trans (congrArg some (by kernel_rfl))
  f48 := Tryz.func209.trans (congrArg some (by kernel_rfl))
  f49 := ⟨Tryz.f277.name, by decide, Tryz.func277.trans (congrArg some (by kernel_rfl))⟩
  f50 := ⟨Tryz.f278.name, by decide, Tryz.func278.trans (congrArg some (by kernel_rfl))⟩
  f57 := ⟨Tryz.f281.name, by decide, Tryz.func281.trans (congrArg some (by kernel_rfl))⟩
  t0 := Tryz.underlying0
  a0 := Tryz.isAgg0
  z0 := Tryz.sizeOf0
  v0 := Tryz.zeroValue0
  t3 := Tryz.underlying3
  a3 := Tryz.isAgg3
  z3 := Tryz.sizeOf3
  v3 := Tryz.zeroValue3
  t4 := Tryz.underlying4
  a4 := Tryz.isAgg4
  z4 := Tryz.sizeOf4
  v4 := Tryz.zeroValue4
  t5 := Tryz.underlying5
  a5 := Tryz.isAgg5
  z5 := Tryz.sizeOf5
  v5 := Tryz.zeroValue5
  t9 := Tryz.underlying9
  a9 := Tryz.isAgg9
  z9 := Tryz.sizeOf9
  v9 := Tryz.zeroValue9
  t22 := Tryz.underlying112
  a22 := Tryz.isAgg112
  z22 := Tryz.sizeOf112
  v22 := Tryz.zeroValue112
  t25 := Tryz.underlying235
  a25 := Tryz.isAgg235
  z25 := Tryz.sizeOf235
  v25 := Tryz.zeroValue235
  t39 := Tryz.underlying159
  a39 := Tryz.isAgg159
  z39 := Tryz.sizeOf159
  v39 := Tryz.zeroValue159
  t45 := Tryz.underlying196
  a45 := Tryz.isAgg196
  z45 := Tryz.sizeOf196
  v45 := Tryz.zeroValue196
  t46 := Tryz.underlying197
  a46 := Tryz.isAgg197
  z46 := Tryz.sizeOf197
  v46 := Tryz.zeroValue197
  t50 := Tryz.underlying107
  a50 := Tryz.isAgg107
  z50 := Tryz.sizeOf107
  v50 := Tryz.zeroValue107
  t53 := Tryz.underlying203
  a53 := Tryz.isAgg203
  z53 := Tryz.sizeOf203
  v53 := Tryz.zeroValue203
  t55 := Tryz.underlying205
  a55 := Tryz.isAgg205
  z55 := Tryz.sizeOf205
  v55 := Tryz.zeroValue205
  t66 := Tryz.underlying261
  a66 := Tryz.isAgg261
  z66 := Tryz.sizeOf261
  v66 := Tryz.zeroValue261
  t70 := Tryz.underlying265
  a70 := Tryz.isAgg265
  z70 := Tryz.sizeOf265
  v70 := Tryz.zeroValue265
  t76 := Tryz.underlying294
  a76 := Tryz.isAgg294
  z76 := Tryz.sizeOf294
  v76 := Tryz.zeroValue294
  t77 := Tryz.underlying295
  a77 := Tryz.isAgg295
  z77 := Tryz.sizeOf295
  v77 := Tryz.zeroValue295 }
def Tryz.growEv_ren : Go.Shelf.Ren := ⟨fun | 4 => 223 | n => n, fun | 22 => 215 | 25 => 218 | 3 => 3 | 4 => 4 | 9 => 9 | 20 => 20 | 0 => 0 | n => n, fun | n => n⟩
theorem Tryz.growEv : Go.Proofs.Lays8.n4 Tryz.prog Tryz.growEv_ren := {
  mixed := by kernel_rfl
  f4 := ⟨Tryz.f223.name, by decide, Tryz.func223.trans (congrArg some (by kernel_rfl))⟩
  t0 := Tryz.underlying0
  a0 := Tryz.isAgg0
  z0 := Tryz.sizeOf0
  v0 := Tryz.zeroValue0
  t3 := Tryz.underlying3
  a3 := Tryz.isAgg3
  z3 := Tryz.sizeOf3
  v3 := Tryz.zeroValue3
  t4 := Tryz.underlying4
  a4 := Tryz.isAgg4
  z4 := Tryz.sizeOf4
  v4 := Tryz.zeroValue4
  t9 := Tryz.underlying9
  a9 := Tryz.isAgg9
  z9 := Tryz.sizeOf9
  v9 := Tryz.zeroValue9
  t20 := Tryz.underlying20
  a20 := Tryz.isAgg20
  z20 := Tryz.sizeOf20
  v20 := Tryz.zeroValue20
  t22 := Tryz.underlying215
  a22 := Tryz.isAgg215
  z22 := Tryz.sizeOf215
  v22 := Tryz.zeroValue215 }
end Go.Proofs

/- StabA, StabB, joined -/

/- the starts of the tuples as a row of cells; the exchange of blocks, the rotation (slices.SortStableFunc's family) -/
namespace Go.Proofs.YtdgpbpbjlnlijaaGreatDoor
open Go.RowKit Go.Shelf Go.Sort

def sideI (b : Bool) : Int := if b then 1 else 0
theorem sideI_rng (b : Bool) : 0 ≤ sideI b ∧ sideI b ≤ 1 := by cases b <;> simp [sideI]
def evEnc (x : Ev) : List Value := [.int .i64 x.from_, .int .i64 (sideI x.side), .int .i64 x.idx]
def okS (x : Ev) : Prop := x.idx ≤ 1048576 ∧ -9223372036854775808 ≤ x.from_ ∧ x.from_ ≤ 9223372036854775807
def Rep.ev : Rep Ev where
  size := 3
  holds _ cs x := cs = evEnc x ∧ okS x
  len := by rintro w cs x ⟨rfl, _⟩; rfl
  ext := by rintro w w' cs x h _; exact h
  one := by rintro w cs x ⟨rfl, _⟩; simp [evEnc, Value.oneCell']
theorem flat_ev : Rep.ev.flat := fun _ _ _ _ h => h
theorem ev_len (x : Ev) : (evEnc x).length = 3 := rfl
theorem ev_one (x : Ev) : ∀ v ∈ evEnc x, v.oneCell' = true := by simp [evEnc, Value.oneCell']
theorem ev_iff : ∀ h cs x, Rep.ev.holds h cs x ↔ cs = evEnc x ∧ okS x := fun _ _ _ => Iff.rfl
theorem ev_cell {w : World} {g : Nat} {d : Array Ev} (h : HoldsK evEnc 3 w g 0 d) (i : Nat) (hi : i < d.size) :
    w.cell? ⟨g, i * 3, none⟩ = some (.int .i64 d[i]!.from_) ∧ w.cell? ⟨g, i * 3 + 1, none⟩ = some (.int .i64 (sideI d[i]!.side)) ∧ w.cell? ⟨g, i * 3 + 2, none⟩ = some (.int .i64 d[i]!.idx) := by
  have g0 := (h (i * 3) (by simp; omega)).1
  have g1 := (h (i * 3 + 1) (by simp; omega)).1
  have g2 := (h (i * 3 + 2) (by simp; omega)).1
  rw [Nat.zero_add, get_flatK _ _ _ _ (by omega)] at g0 g1 g2
  rw [show i * 3 / 3 = i by omega, show i * 3 % 3 = 0 by omega] at g0
  rw [show (i * 3 + 1) / 3 = i by omega, show (i * 3 + 1) % 3 = 1 by omega] at g1
  rw [show (i * 3 + 2) / 3 = i by omega, show (i * 3 + 2) % 3 = 2 by omega] at g2
  exact ⟨g0, g1, g2⟩
theorem ev_free {w : World} {g : Nat} {d : Array Ev} (h : HoldsK evEnc 3 w g 0 d) (i : Nat) (hi : i < d.size) :
    w.frozen? ⟨g, i * 3, none⟩ = false ∧ w.frozen? ⟨g, i * 3 + 1, none⟩ = false ∧ w.frozen? ⟨g, i * 3 + 2, none⟩ = false := by
  have g0 := (h (i * 3) (by simp; omega)).2
  have g1 := (h (i * 3 + 1) (by simp; omega)).2
  have g2 := (h (i * 3 + 2) (by simp; omega)).2
  rw [Nat.zero_add] at g0 g1 g2
  exact ⟨g0, g1, g2⟩
def cmpEv (x y : Ev) : Int := cmpI x.from_ y.from_
theorem swo_ev : SWO (ltOf cmpEv) := swo_pull ord_int.swo fun x : Ev => x.from_
theorem ev_agg : ∀ w, (isAgg 218).run Tryz.prog w = .ok true w := fun w => by kernel_rfl
theorem ev_size : ∀ w, (Go.sizeOf 218).run Tryz.prog w = .ok 3 w := fun w => by kernel_rfl

theorem drew_set (w : World) (p : Addr) (v : Value) : w.drew.setCell p v = (w.setCell p v).drew := rfl
/-- an exchange of two starts, as a walk meets it -/
theorem swk_exch (blk N : Nat) (d0 dk : Array Ev) (w0 wr : World) (R : RowK evEnc 3 w0 blk 0 d0) (hd0 : d0.size = N) (hdk : dk.size = N) (S : SWK evEnc 3 w0 blk 0 dk wr) (x y : Nat) (hx : x < N) (hy : y < N) :
    ∃ f1 s1 i1 f2 s2 i2 : Int, wr.cell? ⟨blk, x * 3, none⟩ = some (.int .i64 f1) ∧ wr.cell? ⟨blk, x * 3 + 1, none⟩ = some (.int .i64 s1) ∧ wr.cell? ⟨blk, x * 3 + 2, none⟩ = some (.int .i64 i1) ∧
      wr.cell? ⟨blk, y * 3, none⟩ = some (.int .i64 f2) ∧ wr.cell? ⟨blk, y * 3 + 1, none⟩ = some (.int .i64 s2) ∧ wr.cell? ⟨blk, y * 3 + 2, none⟩ = some (.int .i64 i2) ∧
      wr.frozen? ⟨blk, x * 3, none⟩ = false ∧ wr.frozen? ⟨blk, x * 3 + 1, none⟩ = false ∧ wr.frozen? ⟨blk, x * 3 + 2, none⟩ = false ∧ wr.frozen? ⟨blk, y * 3, none⟩ = false ∧ wr.frozen? ⟨blk, y * 3 + 1, none⟩ = false ∧ wr.frozen? ⟨blk, y * 3 + 2, none⟩ = false ∧
      Hid (SWK evEnc 3 w0 blk 0 (swp dk x y) ((((((wr.setCell ⟨blk, x * 3, none⟩ (.int .i64 f2)).setCell ⟨blk, x * 3 + 1, none⟩ (.int .i64 s2)).setCell ⟨blk, x * 3 + 2, none⟩ (.int .i64 i2)).setCell ⟨blk, y * 3, none⟩ (.int .i64 f1)).setCell ⟨blk, y * 3 + 1, none⟩ (.int .i64 s1)).setCell ⟨blk, y * 3 + 2, none⟩ (.int .i64 i1)).drew) := by
  have hH := S.holds R.hblk R.hH (by omega)
  obtain ⟨a1, a2, a3⟩ := ev_cell hH x (by omega)
  obtain ⟨b1, b2, b3⟩ := ev_cell hH y (by omega)
  obtain ⟨p1, p2, p3⟩ := ev_free hH x (by omega)
  obtain ⟨r1, r2, r3⟩ := ev_free hH y (by omega)
  refine ⟨_, _, _, _, _, _, a1, a2, a3, b1, b2, b3, p1, p2, p3, r1, r2, r3, ?_⟩
  have h := S.swapped R x y (by omega) (by omega)
  simp only [evEnc, World.setCells, Nat.zero_add, Nat.add_assoc, Nat.reduceAdd, drew_set] at h
  exact h

set_option maxRecDepth 100000 in
set_option maxHeartbeats 4000000 in
theorem swapRange_ev (gq blk cap a b n N : Nat) (d0 d : Array Ev) (w0 w : World) (R : RowK evEnc 3 w0 blk 0 d0) (hd0 : d0.size = N) (hd : d.size = N) (S : SWK evEnc 3 w0 blk 0 d w) (hab : a + n ≤ b) (hb : b + n ≤ N) (hsz : N ≤ 1048576) :
    Calls Tryz.prog 279 #[.slice (some ⟨blk, 0, none⟩) N cap, .int .i64 a, .int .i64 b, .int .i64 n, .func (.func gq) #[] #[]] w fun e w' => e = .returned (.tuple #[]) ∧ ∃ d', SwapOf d d' a b n ∧ PermIn a (b + n) d d' ∧ SWK evEnc 3 w0 blk 0 d' w' := by
  have mixed := mixedOrd
  have S0 := Lib.hid S
  have W0 := Lib.hid (SwapOf.zero d a b)
  have P0 := Lib.hid (permIn_refl d a (b + n))
  clear S
  go_enter Tryz.func279, Tryz.ntmps279
  go_wp2_with fail
  go_loopg [10] n (fun gk vi wr => ∃ (k : Nat) (dk : Array Ev), gk = n - k ∧ vi = .int .i64 k ∧ k ≤ n ∧ dk.size = N ∧ Hid (SwapOf d dk a b k) ∧ Hid (PermIn a (b + n) d dk) ∧ Hid (SWK evEnc 3 w0 blk 0 dk wr))
  case atStart => exact ⟨0, d, rfl, rfl, by omega, hd, W0, P0, S0⟩
  case round =>
    obtain ⟨k, dk, rfl, rfl, hk, hdk, W1, P1, S1⟩ := hrel
    clear S0 W0 P0
    by_cases hkn : k < n
    · have hkz : (k : Int) < (n : Int) := by omega
      obtain ⟨x, hx⟩ : ∃ x, x = a + k := ⟨_, rfl⟩
      obtain ⟨y, hy⟩ : ∃ y, y = b + k := ⟨_, rfl⟩
      have e1 : (a : Int) + (k : Int) = (x : Int) := by omega
      have e2 : (b : Int) + (k : Int) = (y : Int) := by omega
      have hxN : x < N := by omega
      have hyN : y < N := by omega
      have hxz : (x : Int) < (N : Int) := by omega
      have hyz : (y : Int) < (N : Int) := by omega
      have hne : x ≠ y := by omega
      have hrx : IntKind.i64.wrap (x : Int) = (x : Int) := by rw [IntKind.wrap_i64]; omega
      have hry : IntKind.i64.wrap (y : Int) = (y : Int) := by rw [IntKind.wrap_i64]; omega
      obtain ⟨f1, s1, i1, f2, s2, i2, c1, c2, c3, c4, c5, c6, r1, r2, r3, r4, r5, r6, S2⟩ := swk_exch blk N d0 dk w0 wr R hd0 hdk S1.out x y hxN hyN
      have HX := Lib.hid hx
      have HY := Lib.hid hy
      clear S1 hx hy
      have q1 : ¬ x * 3 = y * 3 := by omega
      have q2 : ¬ x * 3 + 1 = y * 3 + 1 := by omega
      have q3 : ¬ x * 3 + 2 = y * 3 + 2 := by omega
      have q4 : ¬ x * 3 = y * 3 + 1 := by omega
      have q5 : ¬ x * 3 = y * 3 + 2 := by omega
      have q6 : ¬ x * 3 + 1 = y * 3 := by omega
      have q7 : ¬ x * 3 + 1 = y * 3 + 2 := by omega
      have q8 : ¬ x * 3 + 2 = y * 3 := by omega
      have q9 : ¬ x * 3 + 2 = y * 3 + 1 := by omega
      go_wp2_with fail
      go_big_region_o
      all_goals go_wp2_with fail
      all_goals go_roundg (n - (k + 1))
      all_goals first
        | (case measure => omega)
        | (case rel =>
            refine ⟨k + 1, swp dk x y, rfl, by simp, by omega, by rw [size_swp]; exact hdk, ?_, ?_, S2.out⟩
            · have := SwapOf.step W1.out (by omega) (by omega)
              rw [← HX.out, ← HY.out] at this
              exact this
            · exact permIn_trans _ _ _ _ _ P1.out (swp_permIn _ _ _ _ _ (by have := HX.out; omega) (by have := HX.out; omega) (by have := HY.out; omega) (by have := HY.out; omega) (by omega)))
    · have hkz : ¬ (k : Int) < (n : Int) := by omega
      have hke : k = n := by omega
      subst hke
      go_wp2_with fail
      go_end0
      exact ⟨rfl, dk, W1.out, P1.out, S1.out⟩

end Go.Proofs.YtdgpbpbjlnlijaaGreatDoor

/- slices.rotateCmpFunc at the starts -/
namespace Go.Proofs.YtdgpbpbjlnlijaaGreatDoor
open Go.RowKit Go.Shelf Go.Sort

set_option maxRecDepth 100000 in
set_option maxHeartbeats 4000000 in
theorem rotate_ev (gq blk cap a m b N : Nat) (d0 d : Array Ev) (w0 w : World) (R : RowK evEnc 3 w0 blk 0 d0) (hd0 : d0.size = N) (hd : d.size = N) (S : SWK evEnc 3 w0 blk 0 d w) (ham : a < m) (hmb : m < b) (hb : b ≤ N) (hsz : N ≤ 1048576) :
    Calls Tryz.prog 272 #[.slice (some ⟨blk, 0, none⟩) N cap, .int .i64 a, .int .i64 m, .int .i64 b, .func (.func gq) #[] #[]] w fun e w' => e = .returned (.tuple #[]) ∧ ∃ d', RotOf d d' a (m - a) (b - m) ∧ PermIn a b d d' ∧ SWK evEnc 3 w0 blk 0 d' w' := by
  have S0 := Lib.hid S
  have P0 := Lib.hid (permIn_refl d a b)
  obtain ⟨i0, hi0⟩ : ∃ i0, i0 = m - a := ⟨_, rfl⟩
  obtain ⟨j0, hj0⟩ : ∃ j0, j0 = b - m := ⟨_, rfl⟩
  have Z0 := Lib.hid (show ∀ d', RotOf d d' (m - i0) i0 j0 → RotOf d d' a (m - a) (b - m) from fun d' h => by rw [hi0, hj0, show m - (m - a) = a by omega] at h; exact h)
  have e1 : (m : Int) - (a : Int) = (i0 : Int) := by omega
  have e2 : (b : Int) - (m : Int) = (j0 : Int) := by omega
  have hi1 : i0 ≤ m - a ∧ 0 < i0 := by omega
  have hj1 : j0 ≤ b - m ∧ 0 < j0 := by omega
  clear S hi0 hj0
  go_enter Tryz.func272, Tryz.ntmps272
  go_wp2_with fail
  go_loopg [10, 11] (i0 + j0) (fun gk vi vj wr => ∃ (i j : Nat) (dk : Array Ev), gk = i + j ∧ vi = .int .i64 i ∧ vj = .int .i64 j ∧ 0 < i ∧ 0 < j ∧ i ≤ m - a ∧ j ≤ b - m ∧ dk.size = N ∧ Hid (∀ d', RotOf dk d' (m - i) i j → RotOf d d' a (m - a) (b - m)) ∧ Hid (PermIn a b d dk) ∧ Hid (SWK evEnc 3 w0 blk 0 dk wr))
  case atStart => exact ⟨i0, j0, d, rfl, rfl, rfl, hi1.2, hj1.2, hi1.1, hj1.1, hd, Z0, P0, S0⟩
  case round =>
    obtain ⟨i, j, dk, rfl, rfl, rfl, hi, hj, him, hjb, hdk, Z1, P1, S1⟩ := hrel
    clear S0 P0 Z0 e1 e2 hi1 hj1
    obtain ⟨lo, hlo⟩ : ∃ lo, lo = m - i := ⟨_, rfl⟩
    have e1 : (m : Int) - (i : Int) = (lo : Int) := by omega
    have HLO := Lib.hid hlo
    have hlm : lo + i = m := by omega
    have HLM := Lib.hid hlm
    have hal : a ≤ lo := by omega
    clear hlo hlm
    by_cases hij : i = j
    · subst hij
      go_wp2_with fail
      refine (swapRange_ev gq blk cap lo m i N d0 dk w0 _ R hd0 hdk S1.out (by have := HLM.out; omega) (by omega) hsz).mono ?_
      rintro e w1 ⟨rfl, d1, W1, Q1, S2⟩
      go_wp2_with fail
      go_end0
      refine ⟨rfl, d1, Z1.out d1 ?_, permIn_trans _ _ _ _ _ P1.out (permIn_mono _ _ _ _ _ _ hal (by omega) (by omega) Q1), S2⟩
      have := HLM.out
      rw [← HLO.out]
      exact RotOf.last (by rw [this]; exact W1)
    · by_cases hji : j < i
      · have hz : ¬ (i : Int) = (j : Int) := by omega
        have hz2 : (j : Int) < (i : Int) := by omega
        obtain ⟨k, hk⟩ : ∃ k, k = i - j := ⟨_, rfl⟩
        have e3 : (i : Int) - (j : Int) = (k : Int) := by omega
        have HK := Lib.hid hk
        have hk0 : 0 < k := by omega
        clear hk
        go_wp2_with fail
        refine (swapRange_ev gq blk cap lo m j N d0 dk w0 _ R hd0 hdk S1.out (by have := HLM.out; omega) (by omega) hsz).mono ?_
        rintro e w1 ⟨rfl, d1, W1, Q1, S2⟩
        go_wp2_with fail
        go_roundg (k + j)
        case measure => have := HK.out; omega
        case rel =>
          refine ⟨k, j, d1, rfl, rfl, rfl, hk0, hj, by have := HK.out; omega, hjb, by rw [Q1.1]; exact hdk, ?_, permIn_trans _ _ _ _ _ P1.out (permIn_mono _ _ _ _ _ _ hal (by omega) (by omega) Q1), S2⟩
          show ∀ d', _ → _
          intro d' h
          refine Z1.out d' ?_
          have := HLM.out
          have hk := HK.out
          rw [← HLO.out]
          refine RotOf.left (by rw [this]; exact W1) hji ?_
          rw [← hk, show lo + j = m - k by omega]
          exact h
      · have hz : ¬ (i : Int) = (j : Int) := by omega
        have hz2 : ¬ (j : Int) < (i : Int) := by omega
        obtain ⟨k, hk⟩ : ∃ k, k = j - i := ⟨_, rfl⟩
        have e3 : (j : Int) - (i : Int) = (k : Int) := by omega
        obtain ⟨q, hq⟩ : ∃ q, q = m + j - i := ⟨_, rfl⟩
        have e4 : (m : Int) + (j : Int) - (i : Int) = (q : Int) := by omega
        have HK := Lib.hid hk
        have HQ := Lib.hid hq
        have hk0 : 0 < k := by omega
        have hqN : q + i ≤ N := by omega
        clear hk hq
        go_wp2_with fail
        refine (swapRange_ev gq blk cap lo q i N d0 dk w0 _ R hd0 hdk S1.out (by have := HLM.out; have := HQ.out; omega) hqN hsz).mono ?_
        rintro e w1 ⟨rfl, d1, W1, Q1, S2⟩
        go_wp2_with fail
        go_roundg (i + k)
        case measure => have := HK.out; omega
        case rel =>
          refine ⟨i, k, d1, rfl, rfl, rfl, hi, hk0, him, by have := HK.out; omega, by rw [Q1.1]; exact hdk, ?_, permIn_trans _ _ _ _ _ P1.out (permIn_mono _ _ _ _ _ _ hal (by have := HQ.out; omega) (by omega) Q1), S2⟩
          show ∀ d', _ → _
          intro d' h
          refine Z1.out d' ?_
          have hl := HLM.out
          have hq := HQ.out
          have hk := HK.out
          rw [← HLO.out]
          refine RotOf.right (by rw [show lo + j = q by omega]; exact W1) (by omega) ?_
          rw [← hk, HLO.out]
          exact h

end Go.Proofs.YtdgpbpbjlnlijaaGreatDoor

/- the pairs as a row of cells; the comparisons of starts and of pairs -/
namespace Go.Proofs.YtdgpbpbjlnlijaaGreatDoor
open Go.RowKit Go.Shelf Go.Sort

instance : Inhabited Pair := ⟨⟨0, 0, 0, 0⟩⟩
def pairEnc (x : Pair) : List Value := [.int .i64 x.a, .int .i64 x.b, .int .i64 x.from_, .int .i64 x.to_]
def okP (x : Pair) : Prop := (x.a ≤ 1048576 ∧ x.b ≤ 1048576) ∧ (-9223372036854775808 ≤ x.from_ ∧ x.from_ ≤ 9223372036854775807) ∧ (-9223372036854775808 ≤ x.to_ ∧ x.to_ ≤ 9223372036854775807)
def Rep.pair : Rep Pair where
  size := 4
  holds _ cs x := cs = pairEnc x ∧ okP x
  len := by rintro w cs x ⟨rfl, _⟩; rfl
  ext := by rintro w w' cs x h _; exact h
  one := by rintro w cs x ⟨rfl, _⟩; simp [pairEnc, Value.oneCell']
theorem flat_pair : Rep.pair.flat := fun _ _ _ _ h => h

set_option maxHeartbeats 1000000 in
theorem cmpEv_any (x y : Ev) (w : World) : Calls Tryz.prog 171 #[.agg (evEnc x).toArray, .agg (evEnc y).toArray] w fun e w' => e = .returned (.int .i64 (cmpEv x y)) ∧ Gro w w' := by
  unfold evEnc cmpEv
  generalize sideI x.side = s1
  generalize sideI y.side = s2
  obtain ⟨_, i1, f1, _⟩ := x
  obtain ⟨_, i2, f2, _⟩ := y
  dsimp only
  go_enter Tryz.func171, Tryz.ntmps171
  go_wp2_with fail
  refine (compare_int _ _ _).mono ?_
  rintro e w1 ⟨rfl, rfl⟩
  go_wp2_with fail
  go_ret
  exact ⟨rfl, ((Gro.refl w).alloc _).alloc _⟩

set_option maxHeartbeats 4000000 in
theorem comparePairs_any (x y : Pair) (w : World) : Calls Tryz.prog 175 #[.agg (pairEnc x).toArray, .agg (pairEnc y).toArray] w fun e w' => e = .returned (.int .i64 (cmpPair x y)) ∧ Gro w w' := by
  obtain ⟨a1, b1, f1, t1⟩ := x
  obtain ⟨a2, b2, f2, t2⟩ := y
  have hor : cmpPair ⟨a1, b1, f1, t1⟩ ⟨a2, b2, f2, t2⟩ = orI [cmpI f1 f2, cmpI a1 a2, cmpI b1 b2] := by
    simp only [cmpPair, orI]
    (repeat' split) <;> simp_all
  have HO := Lib.hid hor
  clear hor
  unfold pairEnc
  dsimp only
  go_enter Tryz.func175, Tryz.ntmps175
  go_wp2_with fail
  have c1 : ((w.alloc (.cells #[.int .i64 a1, .int .i64 b1, .int .i64 f1, .int .i64 t1] 181)).alloc (.cells #[.int .i64 a2, .int .i64 b2, .int .i64 f2, .int .i64 t2] 181)).cell? ⟨w.heap.size, 0, none⟩ = some (.int .i64 a1) := by go_simp
  have c2 : ((w.alloc (.cells #[.int .i64 a1, .int .i64 b1, .int .i64 f1, .int .i64 t1] 181)).alloc (.cells #[.int .i64 a2, .int .i64 b2, .int .i64 f2, .int .i64 t2] 181)).cell? ⟨w.heap.size, 1, none⟩ = some (.int .i64 b1) := by go_simp
  have c3 : ((w.alloc (.cells #[.int .i64 a1, .int .i64 b1, .int .i64 f1, .int .i64 t1] 181)).alloc (.cells #[.int .i64 a2, .int .i64 b2, .int .i64 f2, .int .i64 t2] 181)).cell? ⟨w.heap.size, 2, none⟩ = some (.int .i64 f1) := by go_simp
  have c4 : ((w.alloc (.cells #[.int .i64 a1, .int .i64 b1, .int .i64 f1, .int .i64 t1] 181)).alloc (.cells #[.int .i64 a2, .int .i64 b2, .int .i64 f2, .int .i64 t2] 181)).cell? ⟨w.heap.size + 1, 0, none⟩ = some (.int .i64 a2) := by go_simp
  have c5 : ((w.alloc (.cells #[.int .i64 a1, .int .i64 b1, .int .i64 f1, .int .i64 t1] 181)).alloc (.cells #[.int .i64 a2, .int .i64 b2, .int .i64 f2, .int .i64 t2] 181)).cell? ⟨w.heap.size + 1, 1, none⟩ = some (.int .i64 b2) := by go_simp
  have c6 : ((w.alloc (.cells #[.int .i64 a1, .int .i64 b1, .int .i64 f1, .int .i64 t1] 181)).alloc (.cells #[.int .i64 a2, .int .i64 b2, .int .i64 f2, .int .i64 t2] 181)).cell? ⟨w.heap.size + 1, 2, none⟩ = some (.int .i64 f2) := by go_simp
  have hxx := ((Gro.refl w).alloc (.cells #[.int .i64 a1, .int .i64 b1, .int .i64 f1, .int .i64 t1] 181)).alloc (.cells #[.int .i64 a2, .int .i64 b2, .int .i64 f2, .int .i64 t2] 181)
  generalize ((w.alloc (.cells #[.int .i64 a1, .int .i64 b1, .int .i64 f1, .int .i64 t1] 181)).alloc (.cells #[.int .i64 a2, .int .i64 b2, .int .i64 f2, .int .i64 t2] 181)) = w1 at c1 c2 c3 c4 c5 c6 hxx ⊢
  go_region_held3 (fun w' => Gro w w' ∧ w'.cell? ⟨w.heap.size, 0, none⟩ = some (.int .i64 a1) ∧ w'.cell? ⟨w.heap.size, 1, none⟩ = some (.int .i64 b1) ∧ w'.cell? ⟨w.heap.size, 2, none⟩ = some (.int .i64 f1) ∧ w'.cell? ⟨w.heap.size + 1, 0, none⟩ = some (.int .i64 a2) ∧ w'.cell? ⟨w.heap.size + 1, 1, none⟩ = some (.int .i64 b2) ∧ w'.cell? ⟨w.heap.size + 1, 2, none⟩ = some (.int .i64 f2))
    (first | exact ⟨hxx.drew, c1, c2, c3, c4, c5, c6⟩ | assumption | exact keepG6 (by assumption) ((Gro.refl _).alloc _))
    (first | (go_at_call 112; refine (compare_int _ _ _).mono ?_; rintro e w2 ⟨rfl, rfl⟩) | (go_at_call 114; refine (or_any w1.heap.size 0 3 [cmpI f1 f2, cmpI a1 a2, cmpI b1 b2] _ (by simp [maxLen]) (by exact fun k hk => or_new w1 [cmpI f1 f2, cmpI a1 a2, cmpI b1 b2] 3 k hk)).mono ?_; rintro e w2 ⟨rfl, rfl⟩))
  all_goals (obtain ⟨hfin, _⟩ := ‹Gro w _ ∧ _›)
  all_goals go_wp2_with fail
  all_goals go_ret
  all_goals rw [HO.out]
  all_goals exact ⟨rfl, hfin⟩

end Go.Proofs.YtdgpbpbjlnlijaaGreatDoor
