/- joined texts of a proof: GrpA, GenB, BagN, GenC, BagO, BagP, GrpE, GrpC -/
import Derived.Test.YtdgpbpbjlnlijaaGreatDoorKD13
import Derived.Test.YtdgpbpbjlnlijaaGreatDoorKD10
import Derived.IntWalk
import Derived.Test.YtdgpbpbjlnlijaaGreatDoorKD11
import Derived.Test.YtdgpbpbjlnlijaaGreatDoorKD05

/- plain: the aggregates, and what holds between them; no program in sight -/
namespace Go.Proofs.YtdgpbpbjlnlijaaGreatDoor
open Go.RowKit

def argsC (col : Int) (vss : List (List Val)) : List Val := (vss.map fun vs => colAt vs col).filter fun v => decide (v.kind ≠ 0)
theorem args_take (col : Int) (vss : List (List Val)) (k : Nat) (h : k < vss.length) : argsC col (vss.take (k + 1)) = argsC col (vss.take k) ++ if (colAt vss[k] col).kind = 0 then [] else [colAt vss[k] col] := by
  unfold argsC
  rw [List.take_succ_eq_append_getElem h, List.map_append, List.filter_append]
  congr 1
  rw [List.map_cons, List.map_nil, List.filter_cons, List.filter_nil]
  by_cases e : (colAt vss[k] col).kind = 0
  · rw [if_pos e, if_neg (by simp [e])]
  · rw [if_neg e, if_pos (by simp [e])]
theorem args_len (col : Int) (vss : List (List Val)) : (argsC col vss).length ≤ vss.length := by
  unfold argsC
  exact Nat.le_trans (List.length_filter_le _ _) (by simp)
theorem args_ok {col : Int} {vss : List (List Val)} (h : ∀ vs ∈ vss, ∀ v ∈ vs, okVal v) : ∀ v ∈ argsC col vss, okVal v := fun v hv => by
  obtain ⟨vs, h1, rfl⟩ := List.mem_map.1 (List.mem_filter.1 hv).1
  exact ok_colAt (h vs h1) col
def sumI (xs : List Val) : Int := ((xs.filter fun v => decide (v.kind = 1)).map Val.n).sum
def anyI (xs : List Val) : Bool := xs.any fun v => decide (v.kind = 1)
def sumV (xs : List Val) : Val := if anyI xs = true ∧ -9223372036854775808 ≤ sumI xs ∧ sumI xs ≤ 9223372036854775807 then intVal (sumI xs) else nV
theorem sumI_take (xs : List Val) (k : Nat) (h : k < xs.length) : sumI (xs.take (k + 1)) = sumI (xs.take k) + if xs[k].kind = 1 then xs[k].n else 0 := by
  unfold sumI
  rw [List.take_succ_eq_append_getElem h, List.filter_append, List.map_append, List.sum_append]
  congr 1
  rw [List.filter_cons, List.filter_nil]
  by_cases e : xs[k].kind = 1
  · rw [if_pos e, if_pos (by simp [e])]; simp
  · rw [if_neg e, if_neg (by simp [e])]; simp
theorem anyI_take (xs : List Val) (k : Nat) (h : k < xs.length) : anyI (xs.take (k + 1)) = (anyI (xs.take k) || decide (xs[k].kind = 1)) := by
  unfold anyI
  rw [List.take_succ_eq_append_getElem h, List.any_append, List.any_cons, List.any_nil, Bool.or_false]
theorem sumI_bound {xs : List Val} {b : Int} (hb : 0 ≤ b) (h : ∀ v ∈ xs, -b ≤ v.n ∧ v.n ≤ b) : -(b * xs.length) ≤ sumI xs ∧ sumI xs ≤ b * xs.length := by
  induction xs with
  | nil => simp [sumI]
  | cons x xs ih =>
    have h1 := ih fun v hv => h v (by simp [hv])
    have h2 := h x (by simp)
    have e : b * ((x :: xs).length : Int) = b * xs.length + b := by rw [List.length_cons]; push_cast; rw [Int.mul_add, Int.mul_one]
    have e2 : sumI (x :: xs) = (if x.kind = 1 then x.n else 0) + sumI xs := by
      unfold sumI
      rw [List.filter_cons]
      by_cases c : x.kind = 1
      · rw [if_pos c, if_pos (by simp [c])]; simp
      · rw [if_neg c, if_neg (by simp [c])]; simp
    rw [e, e2]
    split <;> omega
/-- the first of the least -/
def pickMin : List Val → Val
  | [] => nV
  | x :: xs => xs.foldl (fun m y => if cmpVal y m < 0 then y else m) x
/-- the first of the greatest -/
def pickMax : List Val → Val
  | [] => nV
  | x :: xs => xs.foldl (fun m y => if 0 < cmpVal y m then y else m) x
theorem fold_min (xs : List Val) : ∀ x, (xs.foldl (fun m y => if cmpVal y m < 0 then y else m) x = x ∨ xs.foldl (fun m y => if cmpVal y m < 0 then y else m) x ∈ xs) ∧ cmpVal (xs.foldl (fun m y => if cmpVal y m < 0 then y else m) x) x ≤ 0 ∧ ∀ y ∈ xs, cmpVal (xs.foldl (fun m y => if cmpVal y m < 0 then y else m) x) y ≤ 0 := by
  induction xs with
  | nil => exact fun x => ⟨.inl rfl, by rw [List.foldl_nil, (ord_val.eq x x).2 rfl]; decide, fun y hy => by cases hy⟩
  | cons z xs ih =>
    intro x
    rw [List.foldl_cons]
    by_cases c : cmpVal z x < 0
    · rw [if_pos c]
      obtain ⟨h1, h2, h3⟩ := ih z
      refine ⟨?_, ord_val.le_tr _ _ _ h2 (by omega), fun y hy => ?_⟩
      · rcases h1 with h | h
        · exact .inr (by rw [h]; simp)
        · exact .inr (by simp [h])
      · rcases List.mem_cons.1 hy with rfl | hy
        · exact h2
        · exact h3 y hy
    · rw [if_neg c]
      obtain ⟨h1, h2, h3⟩ := ih x
      refine ⟨?_, h2, fun y hy => ?_⟩
      · rcases h1 with h | h
        · exact .inl h
        · exact .inr (by simp [h])
      · rcases List.mem_cons.1 hy with rfl | hy
        · exact ord_val.le_tr _ _ _ h2 (by have := ord_val.anti x y; omega)
        · exact h3 y hy
theorem fold_max (xs : List Val) : ∀ x, (xs.foldl (fun m y => if 0 < cmpVal y m then y else m) x = x ∨ xs.foldl (fun m y => if 0 < cmpVal y m then y else m) x ∈ xs) := by
  induction xs with
  | nil => exact fun x => .inl rfl
  | cons z xs ih =>
    intro x
    rw [List.foldl_cons]
    split
    · rcases ih z with h | h
      · exact .inr (by rw [h]; simp)
      · exact .inr (by simp [h])
    · rcases ih x with h | h
      · exact .inl h
      · exact .inr (by simp [h])
theorem pickMin_law {xs : List Val} (h : xs ≠ []) : pickMin xs ∈ xs ∧ ∀ y ∈ xs, cmpVal (pickMin xs) y ≤ 0 := by
  cases xs with
  | nil => exact absurd rfl h
  | cons x xs =>
    obtain ⟨h1, h2, h3⟩ := fold_min xs x
    refine ⟨?_, fun y hy => ?_⟩
    · show xs.foldl (fun m y => if cmpVal y m < 0 then y else m) x ∈ x :: xs
      rcases h1 with h | h
      · rw [h]; simp
      · simp [h]
    · rcases List.mem_cons.1 hy with rfl | hy
      · exact h2
      · exact h3 y hy
theorem pickMax_mem {xs : List Val} (h : xs ≠ []) : pickMax xs ∈ xs := by
  cases xs with
  | nil => exact absurd rfl h
  | cons x xs =>
    show xs.foldl (fun m y => if 0 < cmpVal y m then y else m) x ∈ x :: xs
    rcases fold_max xs x with h | h
    · rw [h]; simp
    · simp [h]
def aggVal (kind col : Int) (vss : List (List Val)) : Val :=
  if kind = 1 then intVal vss.length else
  if kind = 2 then sumV (argsC col vss) else
  if argsC col vss = [] then nV else
  if kind = 3 then pickMin (argsC col vss) else
  if kind = 4 then pickMax (argsC col vss) else nV
/-- count, sum, least and greatest of a column of terms between -1 and 1 -/
theorem agg_bounds {vss : List (List Val)} (hl : vss.length ≤ 1000) (h : ∀ vs ∈ vss, colAt vs 0 = nV ∨ ∃ n, -1 ≤ n ∧ n ≤ 1 ∧ colAt vs 0 = intVal n) :
    cmpVal (aggVal 3 0 vss) (aggVal 4 0 vss) ≤ 0 ∧ ((aggVal 3 0 vss).kind = 0 ↔ (aggVal 2 0 vss).kind = 0) ∧ (aggVal 2 0 vss).n ≤ vss.length ∧ -(vss.length : Int) ≤ (aggVal 2 0 vss).n := by
  have ha : ∀ v ∈ argsC 0 vss, v.kind = 1 ∧ -1 ≤ v.n ∧ v.n ≤ 1 := fun v hv => by
    obtain ⟨h1, h2⟩ := List.mem_filter.1 hv
    obtain ⟨vs, h3, rfl⟩ := List.mem_map.1 h1
    rcases h vs h3 with e | ⟨n, a, b, e⟩
    · rw [e] at h2; simp [nV] at h2
    · rw [e]; exact ⟨rfl, a, b⟩
  have hal := args_len 0 vss
  have hb := sumI_bound (b := 1) (by decide) fun v hv => (ha v hv).2
  unfold aggVal
  simp only [show ¬(3 : Int) = 1 by decide, show ¬(4 : Int) = 1 by decide, show ¬(2 : Int) = 1 by decide, show ¬(3 : Int) = 2 by decide, show ¬(4 : Int) = 2 by decide, show ¬(4 : Int) = 3 by decide, if_false, if_true]
  by_cases e : argsC 0 vss = []
  · rw [e]
    simp only [if_true]
    refine ⟨by rw [(ord_val.eq nV nV).2 rfl]; decide, ?_, ?_, ?_⟩
    · simp [sumV, anyI]
    · simp [sumV, anyI, nV]
    · simp [sumV, anyI, nV]
  · simp only [if_neg e]
    have hmin := pickMin_law e
    have hmax := pickMax_mem e
    have hany : anyI (argsC 0 vss) = true := by
      obtain ⟨x, hx⟩ := List.exists_mem_of_ne_nil _ e
      exact List.any_eq_true.2 ⟨x, hx, by simp [(ha x hx).1]⟩
    have hs : sumV (argsC 0 vss) = intVal (sumI (argsC 0 vss)) := if_pos ⟨hany, by omega, by omega⟩
    rw [hs]
    refine ⟨hmin.2 _ hmax, ?_, ?_, ?_⟩
    · rw [(ha _ hmin.1).1]; simp [intVal]
    · show sumI _ ≤ _; omega
    · show _ ≤ sumI _; omega
section
open Classical
variable (proj : List Val → List Val) (aggV : List (List Val) → List Val)
theorem always_len (l : List Tup) (t : Int) : (sliceRows (aggT proj aggV true l) t).length = if 0 ≤ t ∧ t < 1000000 then 1 else 0 := by
  rw [(agg_rows proj aggV true l t).length_eq]
  unfold rowsAt gKeys
  rw [if_pos rfl, List.flatMap_cons, List.flatMap_nil, List.append_nil]
  by_cases c : 0 ≤ t ∧ t < 1000000
  · rw [if_pos (.inl ⟨rfl, c⟩), if_pos c]; rfl
  · rw [if_neg (by rintro (h | h); exact c h.2; exact absurd h.1 (by decide)), if_neg c]; rfl
theorem group_rows {K : Nat} (hp : ∀ vs, (proj vs).length = K) (l : List Tup) (t : Int) : ∀ r ∈ sliceRows (aggT proj aggV false l) t, ∃ (kv : List Val) (vss : List (List Val)), r.vals = kv ++ aggV vss ∧ kv.length = K ∧ 0 < vss.length ∧ vss.length ≤ l.length ∧ ∀ vs ∈ vss, ∃ u ∈ l, vs = u.vals := by
  intro r hr
  have hr := (agg_rows proj aggV false l t).mem_iff.1 hr
  unfold rowsAt at hr
  obtain ⟨kv, hk, hr⟩ := List.mem_flatMap.1 hr
  split at hr
  · rename_i c
    rw [List.mem_singleton] at hr
    subst hr
    have c2 : (gMem proj l kv).any (holdsAt t) = true := by
      rcases c with c | c
      · exact absurd c.1 (by decide)
      · exact c.2
    obtain ⟨x, hx, hh⟩ := List.any_eq_true.1 c2
    refine ⟨kv, ((gMem proj l kv).filter (holdsAt t)).map Tup.vals, rfl, ?_, ?_, ?_, ?_⟩
    · unfold gKeys at hk
      rw [if_neg (by decide), mem_once] at hk
      obtain ⟨u, _, rfl⟩ := List.mem_map.1 hk
      exact hp _
    · rw [List.length_map]
      exact List.length_pos_of_mem (List.mem_filter.2 ⟨hx, hh⟩)
    · rw [List.length_map]
      exact Nat.le_trans (List.length_filter_le _ _) (Nat.le_trans (List.length_filter_le _ _) (clip_len l))
    · intro vs hvs
      obtain ⟨y, hy, rfl⟩ := List.mem_map.1 hvs
      obtain ⟨u, h1, h2, _⟩ := clip_from (List.mem_filter.1 (List.mem_filter.1 hy).1).1
      exact ⟨u, h1, h2⟩
  · cases hr
end
/-- a sum of 128 bits -/
def wideHi (S : Int) : Int := S / 18446744073709551616
def wideLo (S : Int) : Int := S % 18446744073709551616
theorem wide_fits (S : Int) (h : -170141183460469231731687303715884105728 ≤ S ∧ S ≤ 170141183460469231731687303715884105727) : (wideHi S = (if wideLo S ≤ 9223372036854775807 then 0 else -1)) ↔ (-9223372036854775808 ≤ S ∧ S ≤ 9223372036854775807) := by
  unfold wideHi wideLo
  split <;> omega
theorem wide_val (S : Int) (h : -9223372036854775808 ≤ S ∧ S ≤ 9223372036854775807) : (if wideLo S ≤ 9223372036854775807 then wideLo S else wideLo S - 18446744073709551616) = S := by
  unfold wideLo
  split <;> omega

end Go.Proofs.YtdgpbpbjlnlijaaGreatDoor

/- the tuples that the laws build out of numbers (annalistlaw0.Tuple) -/
namespace Go.Proofs.YtdgpbpbjlnlijaaGreatDoor
open Go.RowKit

/-- five numbers of 16 bits -/
structure Num5 where
  a : Int
  b : Int
  c : Int
  d : Int
  e : Int
def okNum (x : Num5) : Prop := (0 ≤ x.a ∧ x.a ≤ 65535) ∧ (0 ≤ x.b ∧ x.b ≤ 65535) ∧ (0 ≤ x.c ∧ x.c ≤ 65535) ∧ (0 ≤ x.d ∧ x.d ≤ 65535) ∧ (0 ≤ x.e ∧ x.e ≤ 65535)
def Rep.num : Rep Num5 where
  size := 5
  holds _ cs x := cs = [.int .u16 x.a, .int .u16 x.b, .int .u16 x.c, .int .u16 x.d, .int .u16 x.e] ∧ okNum x
  len := by rintro w cs x ⟨rfl, _⟩; rfl
  ext := by rintro w w' cs x h _; exact h
  one := by rintro w cs x ⟨rfl, _⟩; simp [Value.oneCell']
def genTup (x : Num5) : Tup := ⟨genVals x.c x.d, genFrom x.a, genTo x.a x.b, [1 + x.e % 5]⟩

/-- five cells of a block, kept by the store of four others -/
theorem keepW4 {W wa : World} {B b : Nat} {u0 u1 u2 u3 v0 v1 v2 v3 v4 : Value}
    (h : Ext W wa ∧ wa.cell? ⟨b, 0, none⟩ = some v0 ∧ wa.cell? ⟨b, 1, none⟩ = some v1 ∧ wa.cell? ⟨b, 2, none⟩ = some v2 ∧ wa.cell? ⟨b, 3, none⟩ = some v3 ∧ wa.cell? ⟨b, 4, none⟩ = some v4) (hB : W.heap.size ≤ B) (hb : B ≠ b) :
    Ext W ((((wa.setCell ⟨B, 0, none⟩ u0).setCell ⟨B, 1, none⟩ u1).setCell ⟨B, 2, none⟩ u2).setCell ⟨B, 3, none⟩ u3) ∧ ((((wa.setCell ⟨B, 0, none⟩ u0).setCell ⟨B, 1, none⟩ u1).setCell ⟨B, 2, none⟩ u2).setCell ⟨B, 3, none⟩ u3).cell? ⟨b, 0, none⟩ = some v0 ∧ ((((wa.setCell ⟨B, 0, none⟩ u0).setCell ⟨B, 1, none⟩ u1).setCell ⟨B, 2, none⟩ u2).setCell ⟨B, 3, none⟩ u3).cell? ⟨b, 1, none⟩ = some v1 ∧ ((((wa.setCell ⟨B, 0, none⟩ u0).setCell ⟨B, 1, none⟩ u1).setCell ⟨B, 2, none⟩ u2).setCell ⟨B, 3, none⟩ u3).cell? ⟨b, 2, none⟩ = some v2 ∧ ((((wa.setCell ⟨B, 0, none⟩ u0).setCell ⟨B, 1, none⟩ u1).setCell ⟨B, 2, none⟩ u2).setCell ⟨B, 3, none⟩ u3).cell? ⟨b, 3, none⟩ = some v3 ∧ ((((wa.setCell ⟨B, 0, none⟩ u0).setCell ⟨B, 1, none⟩ u1).setCell ⟨B, 2, none⟩ u2).setCell ⟨B, 3, none⟩ u3).cell? ⟨b, 4, none⟩ = some v4 :=
  ⟨Below.setCell (Below.setCell (Below.setCell (Below.setCell h.1 hB u0) hB u1) hB u2) hB u3, cell_set (cell_set (cell_set (cell_set h.2.1 hb) hb) hb) hb, cell_set (cell_set (cell_set (cell_set h.2.2.1 hb) hb) hb) hb, cell_set (cell_set (cell_set (cell_set h.2.2.2.1 hb) hb) hb) hb, cell_set (cell_set (cell_set (cell_set h.2.2.2.2.1 hb) hb) hb) hb, cell_set (cell_set (cell_set (cell_set h.2.2.2.2.2 hb) hb) hb) hb⟩
/-- four cells that may be written, as they stand in a later world -/
def Free4 (w : World) (B : Nat) : Prop := (∃ u, w.cell? ⟨B, 0, none⟩ = some u) ∧ (∃ u, w.cell? ⟨B, 1, none⟩ = some u) ∧ (∃ u, w.cell? ⟨B, 2, none⟩ = some u) ∧ (∃ u, w.cell? ⟨B, 3, none⟩ = some u) ∧ w.frozen? ⟨B, 0, none⟩ = false ∧ w.frozen? ⟨B, 1, none⟩ = false ∧ w.frozen? ⟨B, 2, none⟩ = false ∧ w.frozen? ⟨B, 3, none⟩ = false
theorem Free4.ext {w w' : World} {B : Nat} (h : Free4 w B) (hx : Ext w w') : Free4 w' B := by
  obtain ⟨⟨a, ha⟩, ⟨b, hb⟩, ⟨c, hc⟩, ⟨d, hd⟩, fa, fb, fc, fd⟩ := h
  exact ⟨⟨a, hx.at ha⟩, ⟨b, hx.at hb⟩, ⟨c, hx.at hc⟩, ⟨d, hx.at hd⟩, hx.unfrozen ha fa, hx.unfrozen hb fb, hx.unfrozen hc fc, hx.unfrozen hd fd⟩

theorem set4_read {wa : World} {B : Nat} (h : Free4 wa B) (u0 u1 u2 u3 : Value) :
    ((((wa.setCell ⟨B, 0, none⟩ u0).setCell ⟨B, 1, none⟩ u1).setCell ⟨B, 2, none⟩ u2).setCell ⟨B, 3, none⟩ u3).cell? ⟨B, 0, none⟩ = some u0 ∧ ((((wa.setCell ⟨B, 0, none⟩ u0).setCell ⟨B, 1, none⟩ u1).setCell ⟨B, 2, none⟩ u2).setCell ⟨B, 3, none⟩ u3).cell? ⟨B, 1, none⟩ = some u1 ∧ ((((wa.setCell ⟨B, 0, none⟩ u0).setCell ⟨B, 1, none⟩ u1).setCell ⟨B, 2, none⟩ u2).setCell ⟨B, 3, none⟩ u3).cell? ⟨B, 2, none⟩ = some u2 ∧ ((((wa.setCell ⟨B, 0, none⟩ u0).setCell ⟨B, 1, none⟩ u1).setCell ⟨B, 2, none⟩ u2).setCell ⟨B, 3, none⟩ u3).cell? ⟨B, 3, none⟩ = some u3 := by
  obtain ⟨⟨a, ha⟩, ⟨b, hb⟩, ⟨c, hc⟩, ⟨d, hd⟩, _⟩ := h
  refine ⟨?_, ?_, ?_, ?_⟩ <;> go_simp
theorem alloc4_read {w : World} {B : Nat} {u0 u1 u2 u3 : Value} (h : w.cell? ⟨B, 0, none⟩ = some u0 ∧ w.cell? ⟨B, 1, none⟩ = some u1 ∧ w.cell? ⟨B, 2, none⟩ = some u2 ∧ w.cell? ⟨B, 3, none⟩ = some u3) (o : Obj) :
    (w.alloc o).cell? ⟨B, 0, none⟩ = some u0 ∧ (w.alloc o).cell? ⟨B, 1, none⟩ = some u1 ∧ (w.alloc o).cell? ⟨B, 2, none⟩ = some u2 ∧ (w.alloc o).cell? ⟨B, 3, none⟩ = some u3 :=
  ⟨cell_alloc h.1 o, cell_alloc h.2.1 o, cell_alloc h.2.2.1 o, cell_alloc h.2.2.2 o⟩

theorem ret4 {P : Program} {fn : Func} {R : Ending → World → Prop} {a : Act} {wa : World} {B : Nat} {u0 u1 u2 u3 : Value} (h : Free4 wa B)
    (hr : (((((wa.setCell ⟨B, 0, none⟩ u0).setCell ⟨B, 1, none⟩ u1).setCell ⟨B, 2, none⟩ u2).setCell ⟨B, 3, none⟩ u3).cell? ⟨B, 0, none⟩ = some u0 ∧ ((((wa.setCell ⟨B, 0, none⟩ u0).setCell ⟨B, 1, none⟩ u1).setCell ⟨B, 2, none⟩ u2).setCell ⟨B, 3, none⟩ u3).cell? ⟨B, 1, none⟩ = some u1 ∧ ((((wa.setCell ⟨B, 0, none⟩ u0).setCell ⟨B, 1, none⟩ u1).setCell ⟨B, 2, none⟩ u2).setCell ⟨B, 3, none⟩ u3).cell? ⟨B, 2, none⟩ = some u2 ∧ ((((wa.setCell ⟨B, 0, none⟩ u0).setCell ⟨B, 1, none⟩ u1).setCell ⟨B, 2, none⟩ u2).setCell ⟨B, 3, none⟩ u3).cell? ⟨B, 3, none⟩ = some u3) → (results fn a.tmps).run P ((((wa.setCell ⟨B, 0, none⟩ u0).setCell ⟨B, 1, none⟩ u1).setCell ⟨B, 2, none⟩ u2).setCell ⟨B, 3, none⟩ u3) = .ok (.agg #[u0, u1, u2, u3]) ((((wa.setCell ⟨B, 0, none⟩ u0).setCell ⟨B, 1, none⟩ u1).setCell ⟨B, 2, none⟩ u2).setCell ⟨B, 3, none⟩ u3)) (hd : a.defers = [])
    (hR : R (.returned (.agg #[u0, u1, u2, u3])) ((((wa.setCell ⟨B, 0, none⟩ u0).setCell ⟨B, 1, none⟩ u1).setCell ⟨B, 2, none⟩ u2).setCell ⟨B, 3, none⟩ u3)) : bodyPost P fn R .ret a ((((wa.setCell ⟨B, 0, none⟩ u0).setCell ⟨B, 1, none⟩ u1).setCell ⟨B, 2, none⟩ u2).setCell ⟨B, 3, none⟩ u3) := bodyPost_ret (hr (set4_read h u0 u1 u2 u3)) hd hR
theorem ret4a {P : Program} {fn : Func} {R : Ending → World → Prop} {a : Act} {wa : World} {B : Nat} {u0 u1 u2 u3 : Value} {o : Obj} (h : Free4 wa B)
    (hr : ((((((wa.setCell ⟨B, 0, none⟩ u0).setCell ⟨B, 1, none⟩ u1).setCell ⟨B, 2, none⟩ u2).setCell ⟨B, 3, none⟩ u3).alloc o).cell? ⟨B, 0, none⟩ = some u0 ∧ (((((wa.setCell ⟨B, 0, none⟩ u0).setCell ⟨B, 1, none⟩ u1).setCell ⟨B, 2, none⟩ u2).setCell ⟨B, 3, none⟩ u3).alloc o).cell? ⟨B, 1, none⟩ = some u1 ∧ (((((wa.setCell ⟨B, 0, none⟩ u0).setCell ⟨B, 1, none⟩ u1).setCell ⟨B, 2, none⟩ u2).setCell ⟨B, 3, none⟩ u3).alloc o).cell? ⟨B, 2, none⟩ = some u2 ∧ (((((wa.setCell ⟨B, 0, none⟩ u0).setCell ⟨B, 1, none⟩ u1).setCell ⟨B, 2, none⟩ u2).setCell ⟨B, 3, none⟩ u3).alloc o).cell? ⟨B, 3, none⟩ = some u3) → (results fn a.tmps).run P (((((wa.setCell ⟨B, 0, none⟩ u0).setCell ⟨B, 1, none⟩ u1).setCell ⟨B, 2, none⟩ u2).setCell ⟨B, 3, none⟩ u3).alloc o) = .ok (.agg #[u0, u1, u2, u3]) (((((wa.setCell ⟨B, 0, none⟩ u0).setCell ⟨B, 1, none⟩ u1).setCell ⟨B, 2, none⟩ u2).setCell ⟨B, 3, none⟩ u3).alloc o)) (hd : a.defers = [])
    (hR : R (.returned (.agg #[u0, u1, u2, u3])) (((((wa.setCell ⟨B, 0, none⟩ u0).setCell ⟨B, 1, none⟩ u1).setCell ⟨B, 2, none⟩ u2).setCell ⟨B, 3, none⟩ u3).alloc o)) : bodyPost P fn R .ret a (((((wa.setCell ⟨B, 0, none⟩ u0).setCell ⟨B, 1, none⟩ u1).setCell ⟨B, 2, none⟩ u2).setCell ⟨B, 3, none⟩ u3).alloc o) := bodyPost_ret (hr (alloc4_read (set4_read h u0 u1 u2 u3) o)) hd hR

theorem sub4 (wa : World) {B : Nat} (u0 u1 u2 u3 : Value) {S : Nat → Prop} (hB : ¬ S B) : Sub (on wa S) (on ((((wa.setCell ⟨B, 0, none⟩ u0).setCell ⟨B, 1, none⟩ u1).setCell ⟨B, 2, none⟩ u2).setCell ⟨B, 3, none⟩ u3) S) :=
  (((set_sub wa _ u0 hB).trans (set_sub _ _ u1 hB)).trans (set_sub _ _ u2 hB)).trans (set_sub _ _ u3 hB)
theorem vals_end {w w2 w3 : World} {B : Nat} {u0 u1 u2 u3 v : Value} {T : Nat → Prop} {xs : List Val} (s2 : SliceOf Rep.val (on w2 T) v xs) (hT : ∀ k, k < w2.heap.size → T k → B < k) (hB : w.heap.size ≤ B) (hx : Ext w2 w3) :
    SliceOf Rep.val (on ((((w3.setCell ⟨B, 0, none⟩ u0).setCell ⟨B, 1, none⟩ u1).setCell ⟨B, 2, none⟩ u2).setCell ⟨B, 3, none⟩ u3) (fun j => w.heap.size ≤ j)) v xs :=
  s2.ext (((on_mono w2 (T := fun k => B < k) hT).trans (hx.sub _)).trans ((sub4 w3 u0 u1 u2 u3 (Nat.lt_irrefl B)).trans (on_mono _ fun k _ (hk : B < k) => Nat.le_trans hB (Nat.le_of_lt hk))))
theorem vals_enda {w w2 w3 : World} {B : Nat} {u0 u1 u2 u3 v : Value} {T : Nat → Prop} {xs : List Val} {o : Obj} (s2 : SliceOf Rep.val (on w2 T) v xs) (hT : ∀ k, k < w2.heap.size → T k → B < k) (hB : w.heap.size ≤ B) (hx : Ext w2 w3) :
    SliceOf Rep.val (on (((((w3.setCell ⟨B, 0, none⟩ u0).setCell ⟨B, 1, none⟩ u1).setCell ⟨B, 2, none⟩ u2).setCell ⟨B, 3, none⟩ u3).alloc o) (fun j => w.heap.size ≤ j)) v xs :=
  (vals_end (u0 := u0) (u1 := u1) (u2 := u2) (u3 := u3) s2 hT hB hx).ext (((Ext.refl _).alloc o).sub _)
theorem lin_end {w w3 : World} {B b : Nat} {u0 u1 u2 u3 : Value} {x : Int} (hr : -9223372036854775808 ≤ x ∧ x ≤ 9223372036854775807) (hb : w.heap.size ≤ b) (hne : B ≠ b) (hc : w3.cell? ⟨b, 0, none⟩ = some (.int .i64 x)) :
    SliceOf Rep.int (on ((((w3.setCell ⟨B, 0, none⟩ u0).setCell ⟨B, 1, none⟩ u1).setCell ⟨B, 2, none⟩ u2).setCell ⟨B, 3, none⟩ u3) (fun j => w.heap.size ≤ j)) (.slice (some ⟨b, 0, none⟩) 1 1) [x] :=
  int_lone _ _ _ hr (on_some.2 ⟨hb, cell_set (cell_set (cell_set (cell_set hc hne) hne) hne) hne⟩)
theorem lin_enda {w w3 : World} {B : Nat} {u0 u1 u2 u3 : Value} {x : Int} {T : TypeId} (hr : -9223372036854775808 ≤ x ∧ x ≤ 9223372036854775807) (hb : w.heap.size ≤ w3.heap.size) :
    SliceOf Rep.int (on (((((w3.setCell ⟨B, 0, none⟩ u0).setCell ⟨B, 1, none⟩ u1).setCell ⟨B, 2, none⟩ u2).setCell ⟨B, 3, none⟩ u3).alloc (.cells #[.int .i64 x] T)) (fun j => w.heap.size ≤ j)) (.slice (some ⟨w3.heap.size, 0, none⟩) 1 1) [x] := by
  have h := cells_new ((((w3.setCell ⟨B, 0, none⟩ u0).setCell ⟨B, 1, none⟩ u1).setCell ⟨B, 2, none⟩ u2).setCell ⟨B, 3, none⟩ u3) [.int .i64 x] T 0 _ rfl
  rw [show (((((w3.setCell ⟨B, 0, none⟩ u0).setCell ⟨B, 1, none⟩ u1).setCell ⟨B, 2, none⟩ u2).setCell ⟨B, 3, none⟩ u3).heap.size) = w3.heap.size by simp] at h
  exact int_lone _ _ _ hr (on_some.2 ⟨hb, h⟩)

set_option maxRecDepth 100000 in
set_option maxHeartbeats 4000000 in
theorem tuple_gen (x : Num5) (w : World) (h : okNum x) :
    Calls Tryz.prog 53 #[.agg #[.int .u16 x.a, .int .u16 x.b, .int .u16 x.c, .int .u16 x.d, .int .u16 x.e]] w fun e w' => ∃ a b, e = .returned (.agg #[a, .int .i64 (genTup x).from_, .int .i64 (genTup x).to_, b]) ∧ SliceOf Rep.val (on w' (fun j => w.heap.size ≤ j)) a (genTup x).vals ∧ SliceOf Rep.int (on w' (fun j => w.heap.size ≤ j)) b (genTup x).lin ∧ Ext w w' := by
  obtain ⟨⟨a0, a1⟩, ⟨b0, b1⟩, ⟨c0, c1⟩, ⟨d0, d1⟩, e0, e1⟩ := h
  obtain ⟨xa, xb, xc, xd, xe⟩ := x
  dsimp only [genTup] at *
  go_enter Tryz.func53, Tryz.ntmps53
  go_wp2_with fail
  have k0 : ((w.alloc (.cells #[.int .u16 xa, .int .u16 xb, .int .u16 xc, .int .u16 xd, .int .u16 xe] 96)).alloc (.cells #[.slice none 0 0, .int .i64 0, .int .i64 0, .slice none 0 0] 77)).cell? ⟨w.heap.size, 0, none⟩ = some (.int .u16 xa) := by go_simp
  have k1 : ((w.alloc (.cells #[.int .u16 xa, .int .u16 xb, .int .u16 xc, .int .u16 xd, .int .u16 xe] 96)).alloc (.cells #[.slice none 0 0, .int .i64 0, .int .i64 0, .slice none 0 0] 77)).cell? ⟨w.heap.size, 1, none⟩ = some (.int .u16 xb) := by go_simp
  have k2 : ((w.alloc (.cells #[.int .u16 xa, .int .u16 xb, .int .u16 xc, .int .u16 xd, .int .u16 xe] 96)).alloc (.cells #[.slice none 0 0, .int .i64 0, .int .i64 0, .slice none 0 0] 77)).cell? ⟨w.heap.size, 2, none⟩ = some (.int .u16 xc) := by go_simp
  have k3 : ((w.alloc (.cells #[.int .u16 xa, .int .u16 xb, .int .u16 xc, .int .u16 xd, .int .u16 xe] 96)).alloc (.cells #[.slice none 0 0, .int .i64 0, .int .i64 0, .slice none 0 0] 77)).cell? ⟨w.heap.size, 3, none⟩ = some (.int .u16 xd) := by go_simp
  have k4 : ((w.alloc (.cells #[.int .u16 xa, .int .u16 xb, .int .u16 xc, .int .u16 xd, .int .u16 xe] 96)).alloc (.cells #[.slice none 0 0, .int .i64 0, .int .i64 0, .slice none 0 0] 77)).cell? ⟨w.heap.size, 4, none⟩ = some (.int .u16 xe) := by go_simp
  have g0 : ((w.alloc (.cells #[.int .u16 xa, .int .u16 xb, .int .u16 xc, .int .u16 xd, .int .u16 xe] 96)).alloc (.cells #[.slice none 0 0, .int .i64 0, .int .i64 0, .slice none 0 0] 77)).cell? ⟨w.heap.size + 1, 0, none⟩ = some (.slice none 0 0) := by go_simp
  have f0 : ((w.alloc (.cells #[.int .u16 xa, .int .u16 xb, .int .u16 xc, .int .u16 xd, .int .u16 xe] 96)).alloc (.cells #[.slice none 0 0, .int .i64 0, .int .i64 0, .slice none 0 0] 77)).frozen? ⟨w.heap.size + 1, 0, none⟩ = false := by go_simp
  have g1 : ((w.alloc (.cells #[.int .u16 xa, .int .u16 xb, .int .u16 xc, .int .u16 xd, .int .u16 xe] 96)).alloc (.cells #[.slice none 0 0, .int .i64 0, .int .i64 0, .slice none 0 0] 77)).cell? ⟨w.heap.size + 1, 1, none⟩ = some (.int .i64 0) := by go_simp
  have f1 : ((w.alloc (.cells #[.int .u16 xa, .int .u16 xb, .int .u16 xc, .int .u16 xd, .int .u16 xe] 96)).alloc (.cells #[.slice none 0 0, .int .i64 0, .int .i64 0, .slice none 0 0] 77)).frozen? ⟨w.heap.size + 1, 1, none⟩ = false := by go_simp
  have g2 : ((w.alloc (.cells #[.int .u16 xa, .int .u16 xb, .int .u16 xc, .int .u16 xd, .int .u16 xe] 96)).alloc (.cells #[.slice none 0 0, .int .i64 0, .int .i64 0, .slice none 0 0] 77)).cell? ⟨w.heap.size + 1, 2, none⟩ = some (.int .i64 0) := by go_simp
  have f2 : ((w.alloc (.cells #[.int .u16 xa, .int .u16 xb, .int .u16 xc, .int .u16 xd, .int .u16 xe] 96)).alloc (.cells #[.slice none 0 0, .int .i64 0, .int .i64 0, .slice none 0 0] 77)).frozen? ⟨w.heap.size + 1, 2, none⟩ = false := by go_simp
  have g3 : ((w.alloc (.cells #[.int .u16 xa, .int .u16 xb, .int .u16 xc, .int .u16 xd, .int .u16 xe] 96)).alloc (.cells #[.slice none 0 0, .int .i64 0, .int .i64 0, .slice none 0 0] 77)).cell? ⟨w.heap.size + 1, 3, none⟩ = some (.slice none 0 0) := by go_simp
  have f3 : ((w.alloc (.cells #[.int .u16 xa, .int .u16 xb, .int .u16 xc, .int .u16 xd, .int .u16 xe] 96)).alloc (.cells #[.slice none 0 0, .int .i64 0, .int .i64 0, .slice none 0 0] 77)).frozen? ⟨w.heap.size + 1, 3, none⟩ = false := by go_simp
  have hxx : Ext w ((w.alloc (.cells #[.int .u16 xa, .int .u16 xb, .int .u16 xc, .int .u16 xd, .int .u16 xe] 96)).alloc (.cells #[.slice none 0 0, .int .i64 0, .int .i64 0, .slice none 0 0] 77)) := ((Ext.refl w).alloc _).alloc _
  generalize ((w.alloc (.cells #[.int .u16 xa, .int .u16 xb, .int .u16 xc, .int .u16 xd, .int .u16 xe] 96)).alloc (.cells #[.slice none 0 0, .int .i64 0, .int .i64 0, .slice none 0 0] 77)) = W1 at k0 k1 k2 k3 k4 g0 g1 g2 g3 f0 f1 f2 f3 hxx ⊢
  have hF0 : Free4 W1 (w.heap.size + 1) := ⟨⟨_, g0⟩, ⟨_, g1⟩, ⟨_, g2⟩, ⟨_, g3⟩, f0, f1, f2, f3⟩
  have hF1 : Free4 W1.drew (w.heap.size + 1) := Free4.ext hF0 (Ext.refl W1).drew
  have hz1 := cell_lt g0
  clear g0 g1 g2 g3 f0 f1 f2 f3
  have e2 : xe.tmod 5 = xe % 5 := Int.tmod_eq_emod_of_nonneg e0
  have e3 : IntKind.i64.wrap (xe % 5) = xe % 5 := IntWalk.i64_in _ (by omega)
  have e4 : IntKind.i64.wrap (1 + xe % 5) = 1 + xe % 5 := IntWalk.i64_in _ (by omega)
  have hS0 : Ext w W1.drew ∧ W1.drew.cell? ⟨w.heap.size, 0, none⟩ = some (.int .u16 xa) ∧ W1.drew.cell? ⟨w.heap.size, 1, none⟩ = some (.int .u16 xb) ∧ W1.drew.cell? ⟨w.heap.size, 2, none⟩ = some (.int .u16 xc) ∧ W1.drew.cell? ⟨w.heap.size, 3, none⟩ = some (.int .u16 xd) ∧ W1.drew.cell? ⟨w.heap.size, 4, none⟩ = some (.int .u16 xe) := ⟨hxx.drew, k0, k1, k2, k3, k4⟩
  go_region_held3 (fun w' => Ext w w' ∧ w'.cell? ⟨w.heap.size, 0, none⟩ = some (.int .u16 xa) ∧ w'.cell? ⟨w.heap.size, 1, none⟩ = some (.int .u16 xb) ∧ w'.cell? ⟨w.heap.size, 2, none⟩ = some (.int .u16 xc) ∧ w'.cell? ⟨w.heap.size, 3, none⟩ = some (.int .u16 xd) ∧ w'.cell? ⟨w.heap.size, 4, none⟩ = some (.int .u16 xe))
    (first | with_reducible assumption | with_reducible exact keepE5 (by assumption) hx2 | with_reducible exact keepE5 (by assumption) hx3 | with_reducible exact keepE5 (by assumption) ((Ext.refl _).alloc _) | with_reducible exact keepW4 (by assumption) (Nat.le_succ _) (Nat.succ_ne_self _) | with_reducible exact keepE5 (keepW4 (by assumption) (Nat.le_succ _) (Nat.succ_ne_self _)) ((Ext.refl _).alloc _))
    (first | (go_at_call 66; refine (vals_gen xc xd _ c0 c1 d0 d1).mono ?_; rintro e w2 ⟨v2, rfl, s2, hx2⟩; obtain ⟨p2, q2, rfl, _⟩ := s2.form; have hS2 : Ext w w2 ∧ w2.cell? ⟨w.heap.size, 0, none⟩ = some (.int .u16 xa) ∧ w2.cell? ⟨w.heap.size, 1, none⟩ = some (.int .u16 xb) ∧ w2.cell? ⟨w.heap.size, 2, none⟩ = some (.int .u16 xc) ∧ w2.cell? ⟨w.heap.size, 3, none⟩ = some (.int .u16 xd) ∧ w2.cell? ⟨w.heap.size, 4, none⟩ = some (.int .u16 xe) := (by with_reducible exact keepE5 (by assumption) hx2); have hF2 : Free4 w2 (w.heap.size + 1) := (by first | exact Free4.ext (by assumption) hx2 | exact Free4.ext (by assumption) (((Ext.refl _).alloc _).trans hx2) | exact Free4.ext hF0 ((((Ext.refl W1).alloc _).drew).trans hx2)); obtain ⟨⟨m20, y20⟩, ⟨m21, y21⟩, ⟨m22, y22⟩, ⟨m23, y23⟩, y24, y25, y26, y27⟩ := id hF2; have z2 := cell_lt y20) | (go_at_call 101; refine (period_gen xa xb _ a0 a1 b0 b1).mono ?_; rintro e w3 ⟨rfl, hx3⟩; have hS3 : Ext w w3 ∧ w3.cell? ⟨w.heap.size, 0, none⟩ = some (.int .u16 xa) ∧ w3.cell? ⟨w.heap.size, 1, none⟩ = some (.int .u16 xb) ∧ w3.cell? ⟨w.heap.size, 2, none⟩ = some (.int .u16 xc) ∧ w3.cell? ⟨w.heap.size, 3, none⟩ = some (.int .u16 xd) ∧ w3.cell? ⟨w.heap.size, 4, none⟩ = some (.int .u16 xe) := (by with_reducible exact keepE5 (by assumption) hx3); have hF3 : Free4 w3 (w.heap.size + 1) := (by first | exact Free4.ext (by assumption) hx3 | exact Free4.ext (by assumption) (((Ext.refl _).alloc _).trans hx3) | exact Free4.ext hF0 ((((Ext.refl W1).alloc _).drew).trans hx3)); obtain ⟨⟨m30, y30⟩, ⟨m31, y31⟩, ⟨m32, y32⟩, ⟨m33, y33⟩, y34, y35, y36, y37⟩ := id hF3; have z3 := cell_lt y30))
  all_goals
    have hfin := And.left ‹Ext w (_ : World) ∧ _›
    clear hS0
    go_wp2_with fail
    have hr : -9223372036854775808 ≤ 1 + xe % 5 ∧ 1 + xe % 5 ≤ 9223372036854775807 := by omega
  · with_reducible refine ret4a hF3 ?_ ?_ ?_
    · intro j
      simp [results, Tryz.results53, go_sem, j]
    · rfl
    exact ⟨_, _, rfl, vals_enda s2 (fun k _ hk => by simp at hk; omega) (by omega) hx3, lin_enda hr (by omega), hfin⟩
  · with_reducible refine ret4 hF3 ?_ ?_ ?_
    · intro j
      simp [results, Tryz.results53, go_sem, j]
    · rfl
    exact ⟨_, _, rfl, vals_end s2 (fun k _ hk => by simp at hk; omega) (by omega) (((Ext.refl w2).alloc _).trans hx3), lin_end hr (by omega) (by omega) (hx3.at (cells_new w2 [.int .i64 (1 + xe % 5)] 3 0 _ rfl)), hfin⟩
  · with_reducible refine ret4 hF3 ?_ ?_ ?_
    · intro j
      simp [results, Tryz.results53, go_sem, j]
    · rfl
    exact ⟨_, _, rfl, vals_end s2 (fun k _ hk => by simp at hk; omega) (by omega) hx3, lin_end hr (by omega) (by omega) (hx3.at (hx2.at ((Ext.refl _).drew.at (cells_new W1 [.int .i64 (1 + xe % 5)] 3 0 _ rfl)))), hfin⟩

end Go.Proofs.YtdgpbpbjlnlijaaGreatDoor

/- bag.Diff -/
namespace Go.Proofs.YtdgpbpbjlnlijaaGreatDoor
open Go.RowKit Go.Deep

/-- the rows that go beyond b's multiplicity, in their order; pre: those that came before -/
def surpA (b : List Row) : List Row → List Row → List Row
  | _, [] => []
  | pre, r :: rest => if mult r.vals b ≤ mult r.vals pre then r :: surpA b (pre ++ [r]) rest else surpA b (pre ++ [r]) rest
theorem surpA_append (b pre x y : List Row) : surpA b pre (x ++ y) = surpA b pre x ++ surpA b (pre ++ x) y := by
  induction x generalizing pre with
  | nil => simp [surpA]
  | cons r x ih =>
    simp only [List.cons_append, surpA]
    split <;> rw [ih] <;> simp
theorem mult_append (vs : List Val) (x y : List Row) : mult vs (x ++ y) = mult vs x + mult vs y := by simp [mult, List.countP_append]
theorem mult_one {vs : List Val} {r : Row} (h : r.vals = vs) : mult vs [r] = 1 := by
  simp [mult, h, (ord_vals.eq vs vs).2 rfl]
theorem mult_zero {vs : List Val} {l : List Row} (h : ∀ p ∈ l, p.vals ≠ vs) : mult vs l = 0 := by
  unfold mult
  rw [List.countP_eq_zero]
  intro p hp
  simpa [ord_vals.eq] using h p hp
theorem surpA_run (b run pre : List Row) (v : List Val) (h : ∀ r ∈ run, r.vals = v) : surpA b pre run = run.drop (mult v b - mult v pre) := by
  induction run generalizing pre with
  | nil => simp [surpA]
  | cons r run ih =>
    have hr := h r (by simp)
    have h1 : mult v (pre ++ [r]) = mult v pre + 1 := by rw [mult_append, mult_one hr]
    simp only [surpA]
    rw [ih (pre ++ [r]) (fun s hs => h s (by simp [hs])), h1, hr]
    split
    · rw [show mult v b - mult v pre = 0 from by omega, show mult v b - (mult v pre + 1) = 0 from by omega]
      rfl
    · rw [show mult v b - mult v pre = (mult v b - (mult v pre + 1)) + 1 from by omega]
      rfl
theorem surpA_len (b pre l : List Row) : (surpA b pre l).length ≤ l.length := by
  induction l generalizing pre with
  | nil => simp [surpA]
  | cons r l ih =>
    have := ih (pre ++ [r])
    simp only [surpA]
    split <;> simp <;> omega
theorem cmpRow_vals {a b : Row} (h : cmpRow a b ≤ 0) : cmpVals a.vals b.vals ≤ 0 := by
  unfold cmpRow orI at h
  split at h
  · omega
  · exact h
/-- in a sorted list the values of a run have not stood before it -/
theorem fresh_run {l pre run rest : List Row} {v : List Val} (hs : l.Pairwise fun a b => cmpRow a b ≤ 0) (hl : l = pre ++ run ++ rest) (hne : run ≠ []) (hv : ∀ r ∈ run, r.vals = v) (hlast : ∀ p, pre.getLast? = some p → p.vals ≠ v) : mult v pre = 0 := by
  refine mult_zero fun p hp hpv => ?_
  obtain ⟨r, hr⟩ := List.exists_mem_of_ne_nil run hne
  cases hq : pre.getLast? with
  | none => rw [List.getLast?_eq_none_iff.1 hq] at hp; simp at hp
  | some q =>
    have hqm := List.mem_of_getLast? hq
    subst hl
    rw [List.pairwise_append] at hs
    obtain ⟨hs, _, _⟩ := hs
    rw [List.pairwise_append] at hs
    obtain ⟨hs1, _, hs2⟩ := hs
    have h1 := cmpRow_vals (hs2 q hqm r hr)
    have h2 : cmpVals p.vals q.vals ≤ 0 := by
      obtain ⟨pre', rfl⟩ : ∃ pre', pre = pre' ++ [q] := by
        refine ⟨pre.dropLast, ?_⟩
        have hn : pre ≠ [] := fun e => by rw [e] at hp; simp at hp
        have := List.dropLast_concat_getLast hn
        rw [List.getLast?_eq_some_getLast hn] at hq
        injection hq with hq
        rw [hq] at this
        exact this.symm
      rw [List.pairwise_append] at hs1
      rcases List.mem_append.1 hp with hp | hp
      · exact cmpRow_vals (hs1.2.2 p hp q (by simp))
      · rw [List.mem_singleton.1 hp, (ord_vals.eq _ _).2 rfl]; exact Int.le_refl _
    rw [hv r hr] at h1
    rw [hpv] at h2
    exact hlast q hq (ord_vals.le_anti _ _ h1 h2)
theorem surp_step {l b : List Row} (hs : l.Pairwise fun a b => cmpRow a b ≤ 0) {rs : List (List Row)} (hr : Runs rs) (hl : rs.flatten = l) (k : Nat) (hk : k < rs.length) :
    ∃ v, rs[k] ≠ [] ∧ (∀ r ∈ rs[k], r.vals = v) ∧ surpA b [] (rs.take (k + 1)).flatten = surpA b [] (rs.take k).flatten ++ rs[k].drop (mult v b) := by
  obtain ⟨v, h1, h2, h3⟩ := hr.at k hk
  refine ⟨v, h1, h2, ?_⟩
  have h4 : mult v (rs.take k).flatten = 0 := by
    refine fresh_run (rest := (rs.drop (k + 1)).flatten) hs ?_ h1 h2 h3
    rw [← hl, ← flatten_take rs k hk, ← List.flatten_append, List.take_append_drop]
  rw [flatten_take rs k hk, surpA_append, List.nil_append, surpA_run b rs[k] _ v h2, h4, Nat.sub_zero]

end Go.Proofs.YtdgpbpbjlnlijaaGreatDoor

/- annalistlaw0.Tuples and Rows -/
namespace Go.Proofs.YtdgpbpbjlnlijaaGreatDoor
open Go.RowKit

theorem infoTup : (Tryz.prog.info? 77).map (fun i => (i.zero, i.size, i.bytes)) = some (some (.agg #[.slice none 0 0, .int .i64 0, .int .i64 0, .slice none 0 0]), Rep.tup.size, 64) := by kernel_rfl
theorem num_at {w : View} {b o n cap : Nat} {xs : List Num5} (h : SliceOf Rep.num w (.slice (some ⟨b, o, none⟩) n cap) xs) (i : Nat) (hi : i < xs.length) :
    w ⟨b, o + i * 5, none⟩ = some (.int .u16 xs[i].a) ∧ w ⟨b, o + i * 5 + 1, none⟩ = some (.int .u16 xs[i].b) ∧ w ⟨b, o + i * 5 + 2, none⟩ = some (.int .u16 xs[i].c) ∧ w ⟨b, o + i * 5 + 3, none⟩ = some (.int .u16 xs[i].d) ∧ w ⟨b, o + i * 5 + 4, none⟩ = some (.int .u16 xs[i].e) ∧ okNum xs[i] := by
  obtain ⟨c, ⟨rfl, h1⟩, h2⟩ := h.at i hi
  exact ⟨h2 0 _ rfl, h2 1 _ rfl, h2 2 _ rfl, h2 3 _ rfl, h2 4 _ rfl, h1⟩
def genTups (l : List Num5) (most : Nat) : List Tup := (l.take most).map genTup
theorem genTups_len (l : List Num5) (most : Nat) : (genTups l most).length ≤ most := by simp [genTups]; omega

set_option maxRecDepth 100000 in
set_option maxHeartbeats 4000000 in
theorem tuples_gen (v : Value) (l : List Num5) (most : Nat) (hmost : most ≤ 1000) (w : World) (hv : SliceOf Rep.num w.cell? v l) :
    Calls Tryz.prog 19 #[v, .int .i64 most] w fun e w' => ∃ v', e = .returned v' ∧ SliceOf Rep.tup (on w' (since w)) v' (genTups l most) ∧ Ext w w' := by
  obtain ⟨i0, hi, hz0, hz1, hz2⟩ := info_parts infoTup
  obtain ⟨pa, ca, rfl, ha1, ha2, ha3⟩ := hv.form
  unfold maxLen at ha2
  go_enter Tryz.func19, Tryz.ntmps19
  go_wp2_with fail
  go_loopg [5, 6] l.length (fun gk out i wr => ∃ k : Nat, k ≤ l.length ∧ k ≤ most ∧ gk = l.length - k ∧ i = .int .i64 k ∧ OwnOf Rep.tup wr (since w) w.heap.size 77 out (genTups l k) ∧ Ext w wr)
  case atStart => exact ⟨0, by omega, by omega, rfl, rfl, OwnOf.nil _ _ _ _ _, Ext.refl w⟩
  case round =>
    obtain ⟨k, hk, hkm, rfl, rfl, hown, hx⟩ := hrel
    by_cases hlt : k < l.length ∧ k < most
    · obtain ⟨hlt, hlt2⟩ := hlt
      obtain ⟨ba, oa, rfl⟩ := ha3 (by decide) (by omega)
      obtain ⟨c1, c2, c3, c4, c5, hok⟩ := num_at hv k hlt
      have htk : genTups l (k + 1) = genTups l k ++ [genTup l[k]] := by unfold genTups; rw [List.take_succ_eq_append_getElem hlt, List.map_append]; rfl
      have hlen : (genTups l k).length = k := by simp [genTups]; omega
      replace c1 := hx.at c1
      replace c2 := hx.at c2
      replace c3 := hx.at c3
      replace c4 := hx.at c4
      replace c5 := hx.at c5
      generalize l[k] = x at c1 c2 c3 c4 c5 hok htk
      have HT := Lib.hid htk
      have HO := Lib.hid hown
      have HOK := Lib.hid hok
      have HLEN := Lib.hid hlen
      have hd : decide ((k : Int) < (l.length : Int)) = true := by simp; omega
      have hd2 : decide ((k : Int) < (most : Int)) = true := by simp; omega
      clear htk hown hok hlen hv ha3
      go_wp2_with fail
      refine (tuple_gen x _ HOK.out).mono ?_
      rintro e w2 ⟨a, b, rfl, t1, t2, hx2⟩
      obtain ⟨a2, k2, rfl, _⟩ := t1.form
      obtain ⟨b2, j2, rfl, _⟩ := t2.form
      have T1 := Lib.hid t1
      have T2 := Lib.hid t2
      have hz := hx2.size
      have hw := hx.size
      clear t1 t2 c1 c2 c3 c4 c5
      go_wp2_with (at_builtin; refine wpList_append_one Rep.tup (since w) rfl _ _ 22 rfl w.heap.size 77 i0 _ 64 Tryz.underlying22 hi hz0 hz1 hz2 rfl (by decide) _ (genTups l k) rfl ((HO.out.ext hx2).ext ((Ext.refl _).alloc _)) ⟨w2.heap.size, 0, none⟩ 1 (genTup x) [.slice a2 (genTup x).vals.length k2, .int .i64 (genTup x).from_, .int .i64 (genTup x).to_, .slice b2 (genTup x).lin.length j2] rfl ?c1 ?c2 ?c3 ?c4 ?c5 ?_)
      case c1 =>
        have hlt2 := HO.out.lt
        have hs : ∀ u : Value, (∀ j, u.ownBlock = some j → j < wr.heap.size) → Sub (on w2 (fun j => wr.heap.size ≤ j)) (on (w2.alloc (.cells #[.slice a2 (genTup x).vals.length k2, .int .i64 (genTup x).from_, .int .i64 (genTup x).to_, .slice b2 (genTup x).lin.length j2] 77)) (avoid (since w) u)) := fun u hu => by
          refine (((Ext.refl w2).alloc _).sub _).trans (on_mono _ fun j _ hj => ⟨fun he => ?_, ?_⟩)
          · have := hu j he.symm
            omega
          · simp only [since]
            omega
        have hg := gen_per x.a x.b
        exact ⟨_, _, rfl, T1.out.ext (hs _ fun j hj => (hlt2 j hj).2), T2.out.ext (hs _ fun j hj => (hlt2 j hj).2), by simp only [genTup]; omega, by simp only [genTup]; omega⟩
      case c2 => exact cells_new w2 [.slice a2 (genTup x).vals.length k2, .int .i64 (genTup x).from_, .int .i64 (genTup x).to_, .slice b2 (genTup x).lin.length j2] _
      case c3 => rw [HLEN.out]; unfold maxLen; omega
      case c4 => rw [HLEN.out]; omega
      case c5 => simp; omega
      intro g cap w3 hown3 hgr _
      go_wp2_with fail
      go_roundg (l.length - (k + 1))
      case measure => omega
      case rel =>
        refine ⟨k + 1, by omega, by omega, rfl, by go_num, by rw [HT.out]; exact hown3, ?_⟩
        exact Below.grown ((hx.trans hx2).alloc _) hgr (by simp; omega) (fun j hj => (HO.out.lt j hj).1)
    · have hd : (decide ((k : Int) < (l.length : Int)) && decide ((k : Int) < (most : Int))) = false := by
        rw [Bool.and_eq_false_iff]
        simp only [decide_eq_false_iff_not]
        omega
      have hfull : genTups l k = genTups l most := by
        unfold genTups
        by_cases h : k < l.length
        · rw [show k = most by omega]
        · rw [List.take_of_length_le (by omega), List.take_of_length_le (by omega)]
      have hend : (¬ (k : Int) < (l.length : Int)) ∨ ((k : Int) < (l.length : Int) ∧ ¬ (k : Int) < (most : Int)) := by omega
      rw [hfull] at hown
      have hs := hown.sliceIn (T := since w) (fun _ _ h => h) (fun _ h => h)
      obtain ⟨pf, qf, rfl, _⟩ := hs.form
      have HS := Lib.hid hs
      clear hown hs hfull hd hv ha3
      rcases hend with hend | ⟨hd1, hend⟩
      · have hd1 : decide ((k : Int) < (l.length : Int)) = false := by simpa using hend
        go_wp2_with fail
        go_ret
        exact ⟨_, rfl, HS.out, hx⟩
      · have hd2 : decide ((k : Int) < (most : Int)) = false := by simpa using hend
        go_wp2_with fail
        go_ret
        exact ⟨_, rfl, HS.out, hx⟩

/-- a tuple without its period -/
def rowOf (t : Tup) : Row := ⟨t.vals, t.lin⟩
def genRows (l : List Num5) (most : Nat) : List Row := (genTups l most).map rowOf
theorem genRows_len (l : List Num5) (most : Nat) : (genRows l most).length ≤ most := by simpa [genRows] using genTups_len l most

end Go.Proofs.YtdgpbpbjlnlijaaGreatDoor

/- annalistref1.SameInts; the laws' sanity check -/
namespace Go.Proofs.YtdgpbpbjlnlijaaGreatDoor
open Go.RowKit

end Go.Proofs.YtdgpbpbjlnlijaaGreatDoor

/- the laws' sanity check (annalistlaw8.awake) -/
namespace Go.Proofs.YtdgpbpbjlnlijaaGreatDoor
open Go.RowKit

def r1 : Row := ⟨[nV], [1]⟩
def r2 : Row := ⟨[nV], [2]⟩
theorem merge_awake : mergeL [3, 1] [2, 3] = [1, 2, 3] :=
  asc_unique (mergeL_law _ _).1 (by decide) fun x => by rw [(mergeL_law _ _).2]; simp; omega
theorem cmp_awake : cmpRow r1 r2 = -1 := by decide
theorem cmp_awake2 : cmpRow r1 r1 = 0 := (ord_row.eq _ _).2 rfl
theorem sort_awake : sortBy cmpRow [r2, r1] = [r1, r2] :=
  (sortBy_unique ord_row (List.Perm.swap _ _ _) (by simp [cmp_awake])).symm
theorem mult_nV (l : List Row) (h : ∀ r ∈ l, r.vals = [nV]) : mult [nV] l = l.length := by
  unfold mult
  rw [List.countP_eq_length]
  intro r hr
  rw [h r hr, (ord_vals.eq _ _).2 rfl]
  rfl
theorem lost_awake : surpA [r2] [] (sortBy cmpRow [r2, r1]) = [r2] := by
  rw [sort_awake, surpA_run _ _ _ [nV] (by simp [r1, r2]), mult_nV _ (by simp [r2])]
  rfl
theorem gained_awake : surpA [r2, r1] [] (sortBy cmpRow [r2]) = [] := by
  rw [sortBy_short _ _ (by simp), surpA_run _ _ _ [nV] (by simp [r2]), mult_nV _ (by simp [r1, r2])]
  rfl
theorem equal_awake : eqB (sortBy cmpRow [r2, r1]) (sortBy cmpRow (sortBy cmpRow [r2, r1])) = true := by
  rw [eqB_iff]
  exact sortBy_unique ord_row (List.Perm.refl _) (sortBy_pair ord_row _)
theorem fit_awake : fitRows [r2, r1] := ⟨by simp, by simp [fitR, r1, r2]⟩

/-- data that a literal has just laid -/
theorem ints_lit (w : World) (T : TypeId) (xs : List Int) (hr : inR xs) (hl : xs.length ≤ maxLen) :
    SliceOf Rep.int (w.alloc (.cells (xs.map (Value.int .i64)).toArray T)).cell? (.slice (some ⟨w.heap.size, 0, none⟩) xs.length xs.length) xs :=
  slice_lit Rep.int w _ T _ xs (flat_ints xs) (ints_repAll _ _ hr) hl

theorem val_one (h : View) (b : Nat) (x : Val) (hr : (-9223372036854775808 ≤ x.kind ∧ x.kind ≤ 9223372036854775807) ∧ (-9223372036854775808 ≤ x.n ∧ x.n ≤ 9223372036854775807) ∧ x.s.size ≤ maxLen)
    (h0 : h ⟨b, 0, none⟩ = some (.int .i64 x.kind)) (h1 : h ⟨b, 1, none⟩ = some (.int .i64 x.n)) (h2 : h ⟨b, 2, none⟩ = some (.string x.s)) : SliceOf Rep.val h (.slice (some ⟨b, 0, none⟩) 1 1) [x] :=
  ⟨[[.int .i64 x.kind, .int .i64 x.n, .string x.s]], ⟨⟨rfl, hr⟩, trivial⟩, .inr ⟨_, 1, rfl, Nat.le_refl _, by simp [maxLen], .inr ⟨b, 0, rfl, fun j u hj => by
    match j, hj with
    | 0, hj => simp at hj; rw [← hj]; exact h0
    | 1, hj => simp at hj; rw [← hj]; exact h1
    | 2, hj => simp at hj; rw [← hj]; exact h2⟩⟩⟩
theorem int_one (h : View) (b : Nat) (x : Int) (hr : -9223372036854775808 ≤ x ∧ x ≤ 9223372036854775807) (h0 : h ⟨b, 0, none⟩ = some (.int .i64 x)) : SliceOf Rep.int h (.slice (some ⟨b, 0, none⟩) 1 1) [x] :=
  ⟨[[.int .i64 x]], ⟨⟨rfl, hr⟩, trivial⟩, .inr ⟨_, 1, rfl, Nat.le_refl _, by simp [maxLen], .inr ⟨b, 0, rfl, fun j u hj => by
    match j, hj with
    | 0, hj => simp at hj; rw [← hj]; exact h0⟩⟩⟩
theorem row_two (h : View) (b : Nat) (x y : Row) (u1 u2 v1 v2 : Value) (g1 : SliceOf Rep.val h u1 x.vals) (g2 : SliceOf Rep.int h u2 x.lin) (g3 : SliceOf Rep.val h v1 y.vals) (g4 : SliceOf Rep.int h v2 y.lin)
    (h0 : h ⟨b, 0, none⟩ = some u1) (h1 : h ⟨b, 1, none⟩ = some u2) (h2 : h ⟨b, 2, none⟩ = some v1) (h3 : h ⟨b, 3, none⟩ = some v2) : SliceOf Rep.row h (.slice (some ⟨b, 0, none⟩) 2 2) [x, y] :=
  ⟨[[u1, u2], [v1, v2]], ⟨⟨_, _, rfl, g1, g2⟩, ⟨_, _, rfl, g3, g4⟩, trivial⟩, .inr ⟨_, 2, rfl, Nat.le_refl _, by simp [maxLen], .inr ⟨b, 0, rfl, fun j u hj => by
    match j, hj with
    | 0, hj => simp at hj; rw [← hj]; exact h0
    | 1, hj => simp at hj; rw [← hj]; exact h1
    | 2, hj => simp at hj; rw [← hj]; exact h2
    | 3, hj => simp at hj; rw [← hj]; exact h3⟩⟩⟩

end Go.Proofs.YtdgpbpbjlnlijaaGreatDoor

/- the arguments of the laws of group: expressions, keys, aggregates -/
namespace Go.Proofs.YtdgpbpbjlnlijaaGreatDoor
open Go.RowKit Go.Maps

theorem cnt_fit (l : List Tup) : ∀ vss : List (List Val), (∀ vs ∈ vss, ∃ u ∈ l, vs = u.vals) → (cntV 1 vss).length ≤ 1000 ∧ ∀ x ∈ cntV 1 vss, x.s.size ≤ 1048576 := fun vss _ => by
  unfold cntV
  refine ⟨by simp, fun x hx => ?_⟩
  rw [List.eq_of_mem_replicate hx]
  simp [intVal]
theorem genTups_fit2 (x : List Num5) (m : Nat) : ∀ t ∈ genTups x m, fitVals t.vals ∧ t.lin.length ≤ 256 := fun t ht => by
  obtain ⟨y, _, rfl⟩ := List.mem_map.1 ht
  refine ⟨⟨by simp [genTup, genVals], fun v hv => ?_⟩, by simp [genTup]⟩
  have hv : v ∈ [genV0 y.c, genV1 y.d] := hv
  have h : ∀ z, (genStr z).size ≤ 2 := fun z => by unfold genStr; split; exact Nat.zero_le _; split <;> decide
  simp only [List.mem_cons, List.not_mem_nil, or_false] at hv
  rcases hv with rfl | rfl
  · unfold genV0; split
    · exact Nat.zero_le _
    · exact Nat.zero_le _
  · unfold genV1; split
    · exact Nat.zero_le _
    · exact Nat.le_trans (h _) (by decide)
def exC : List ExprI := [⟨2, 0, 0, 0, nV⟩, ⟨2, 0, 0, 1, nV⟩]
theorem exC_op : ∀ e ∈ exC, e.op = 2 := by simp [exC]
def keysL (k : Int) : List Int := if k % 4 = 0 then [] else if k % 4 = 1 then [0] else if k % 4 = 2 then [1] else [0, 1]
theorem keysL_in (k : Int) : ∀ z ∈ keysL k, 0 ≤ z ∧ z < exC.length := by
  unfold keysL exC
  intro z hz
  split at hz
  · cases hz
  · split at hz
    · simp at hz; simp; omega
    · split at hz
      · simp at hz; simp; omega
      · simp at hz; simp; omega
theorem keysL_len (k : Int) : (keysL k).length ≤ 2 := by
  unfold keysL
  repeat' split
  all_goals simp
theorem proj_nil (k : Int) : decide ((keysL k).length = 0) = true → ∀ vs, projC exC (keysL k) vs = [] := fun h vs => by
  have : keysL k = [] := List.eq_nil_of_length_eq_zero (of_decide_eq_true h)
  rw [this]; rfl

set_option maxRecDepth 100000 in
set_option maxHeartbeats 4000000 in
theorem exprs_any (w : World) : Calls Tryz.prog 20 #[] w fun e w' => ∃ v, e = .returned v ∧ SliceOf Rep.expr w'.cell? v exC ∧ Ext w w' := by
  go_enter Tryz.func20, Tryz.ntmps20
  go_wp2_with fail
  go_ret
  refine ⟨_, rfl, ?_, (Ext.refl w).alloc _⟩
  exact slice_lit Rep.expr w (exprEnc ⟨2, 0, 0, 0, nV⟩ ++ exprEnc ⟨2, 0, 0, 1, nV⟩) 73 [exprEnc ⟨2, 0, 0, 0, nV⟩, exprEnc ⟨2, 0, 0, 1, nV⟩] exC rfl ⟨⟨rfl, by unfold okI; dsimp only; omega, ok_nV⟩, ⟨rfl, by unfold okI; dsimp only; omega, ok_nV⟩, trivial⟩ (by simp [exC, maxLen])

set_option maxRecDepth 100000 in
set_option maxHeartbeats 4000000 in
theorem keysOf_any (k : Int) (w : World) (h0 : 0 ≤ k) (h1 : k ≤ 255) : Calls Tryz.prog 23 #[.int .u8 k] w fun e w' => ∃ v, e = .returned v ∧ SliceOf Rep.int w'.cell? v (keysL k) ∧ Ext w w' := by
  have hk : k % 4 = 0 ∨ k % 4 = 1 ∨ k % 4 = 2 ∨ k % 4 = 3 := by omega
  rcases hk with h | h | h | h
  · have HK := Lib.hid (show keysL k = [] from if_pos h)
    go_enter Tryz.func23, Tryz.ntmps23
    go_wp2_with fail
    go_ret
    exact ⟨_, rfl, by rw [HK.out]; exact SliceOf.nil _ _, ((((Ext.refl w).alloc _).alloc _).alloc _).alloc _⟩
  · have HK := Lib.hid (show keysL k = [0] from by unfold keysL; rw [if_neg (by omega), if_pos h])
    go_enter Tryz.func23, Tryz.ntmps23
    go_wp2_with fail
    go_ret
    exact ⟨_, rfl, by rw [HK.out]; exact (ints_lit w 3 [0] (by unfold inR; simp) (by simp [maxLen])).ext ((((Ext.refl _).alloc _).alloc _).alloc _).full, ((((Ext.refl w).alloc _).alloc _).alloc _).alloc _⟩
  · have HK := Lib.hid (show keysL k = [1] from by unfold keysL; rw [if_neg (by omega), if_neg (by omega), if_pos h])
    go_enter Tryz.func23, Tryz.ntmps23
    go_wp2_with fail
    go_ret
    have hl := ints_lit (w.alloc (.cells #[.int .i64 0] 3)) 3 [1] (by unfold inR; simp) (by simp [maxLen])
    rw [show (w.alloc (.cells #[.int .i64 0] 3)).heap.size = w.heap.size + 1 by simp] at hl
    exact ⟨_, rfl, by rw [HK.out]; exact hl.ext (((Ext.refl _).alloc _).alloc _).full, ((((Ext.refl w).alloc _).alloc _).alloc _).alloc _⟩
  · have HK := Lib.hid (show keysL k = [0, 1] from by unfold keysL; rw [if_neg (by omega), if_neg (by omega), if_neg (by omega)])
    go_enter Tryz.func23, Tryz.ntmps23
    go_wp2_with fail
    go_ret
    have hl := ints_lit ((w.alloc (.cells #[.int .i64 0] 3)).alloc (.cells #[.int .i64 1] 3)) 3 [0, 1] (by unfold inR; simp) (by simp [maxLen])
    rw [show ((w.alloc (.cells #[.int .i64 0] 3)).alloc (.cells #[.int .i64 1] 3)).heap.size = w.heap.size + 2 by simp] at hl
    exact ⟨_, rfl, by rw [HK.out]; exact hl.ext ((Ext.refl _).alloc _).full, ((((Ext.refl w).alloc _).alloc _).alloc _).alloc _⟩

end Go.Proofs.YtdgpbpbjlnlijaaGreatDoor

/- the contract of a row of counts -/
namespace Go.Proofs.YtdgpbpbjlnlijaaGreatDoor
open Go.RowKit Go.Maps

theorem rowLaw_count {w : World} {ve va : Value} {l : List Tup} {K : Nat} (hve : ShSl ve) (ha : SliceOf Rep.agg w.cell? va [⟨1, 0⟩]) (hK : K ≤ 1000) (hl : l.length ≤ 400) (hf : ∀ t ∈ l, fitVals t.vals ∧ t.lin.length ≤ 256) : RowLaw w ve va l K (cntV 1) := by
  intro G kv key tv ms t w1 hx h0 h1 hk hkl hm hml hmm
  exact row_count G ve va [⟨1, 0⟩] kv key tv ms t w1 h0 hve h1 (ha.ext hx.full) (by simp) (by simp) hk (by omega) hm (by omega) (fun m hm' => by obtain ⟨u, hu, _, e⟩ := hmm m hm'; rw [e]; exact (hf u hu).2)

end Go.Proofs.YtdgpbpbjlnlijaaGreatDoor
