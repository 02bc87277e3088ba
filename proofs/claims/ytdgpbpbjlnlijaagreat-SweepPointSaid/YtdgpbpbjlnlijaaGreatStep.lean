/- append of a whole slice, as a step of a region that draws its order; no program is named here. -/
import Derived.Test.YtdgpbpbjlnlijaaGreatRep
import Derived.Deep.RegionLaw
namespace Go.Proofs.YtdgpbpbjlnlijaaGreat
open Go.RowKit

section
variable {P : Program} {w : World} {o : Oper} {a : Act} {K : Act → World → Prop} {Q : Exit → Act → World → Prop} {E : Prop}
/-- the arm for the operation of slot n alone: '(with_reducible refine key_op n ?_); ..' fails at once elsewhere -/
theorem key_op {yd : Nat → Option Bool} (n : Nat) {op : Op} {ty : TypeId} {pos : String} {after : Array Edge} {g : Option (Nat × Bool)} (h : if Region.wanted ⟨some n, op, ty, pos, after, g⟩ yd = true then Oper.wp P ⟨some n, op, ty, pos, after, g⟩ a w K Q else E) :
    if Region.wanted ⟨some n, op, ty, pos, after, g⟩ yd = true then Oper.wp P ⟨some n, op, ty, pos, after, g⟩ a w K Q else E := h
theorem step_append_all {α : Type} {yd : Nat → Option Bool} (R : Rep α) (S : Nat → Prop) (hgd : o.guard = none) (s x : Operand) (t : TypeId)
    (ho : o.op = .call { callee := .builtin .append, args := #[s, x], argTypes := #[t, t] })
    (base : Nat) (e : TypeId) (i : TypeInfo) (z : Value) (bytes : Nat) (ht : P.underlying t = some (.slice e)) (hi : P.info? e = some i) (hz : i.zero = some z)
    (hsize : i.size = R.size) (hby : i.bytes = bytes) (hzs : z.cells.size = R.size) (hsz : 0 < R.size)
    (v : Value) (xs : List α) (hs : a.eval s = v) (hown : OwnOf R w S base e v xs)
    (u : Value) (ys : List α) (hx : a.eval x = u) (hy : SliceOf R (on w (avoid S v)) u ys)
    (h63 : xs.length + ys.length ≤ maxLen) (hbytes : (xs.length + ys.length) * bytes ≤ 140737488355328) (hbase : base ≤ w.heap.size)
    (h : ∀ v' w', OwnOf R w' S base e v' (xs ++ ys) → w.grownBy w' v.ownBlock → (v'.ownBlock = v.ownBlock ∨ v'.ownBlock = some w.heap.size) → K (a.put o.dst v') w') :
    if Region.wanted o yd = true then Oper.wp P o a w K Q else E := by
  have hw : Region.wanted o yd = true := by simp [Region.wanted, hgd]
  rw [if_pos hw]
  obtain ⟨css, h1, h2⟩ := hown
  obtain ⟨dss, h3, h4⟩ := hy
  rcases h4.src with ⟨rfl, hn, hd⟩ | ⟨ad, cap, rfl, _, _, hc⟩
  · have hys : ys = [] := List.eq_nil_of_length_eq_zero hn
    subst hys
    have hrun := run_append_owned_none (P := P) (w := w) base t o.type e i R.size ht hi v xs.length css.flatten h2
    unfold Oper.wp
    simp [execOp, ho, resolve, invoke, builtin, hs, hx, hrun, Result.andThen]
    exact h v w (by rw [List.append_nil]; exact ⟨css, h1, h2⟩) ⟨rfl, rfl, rfl, Nat.le_refl _, fun _ _ _ => rfl⟩ (.inl rfl)
  · obtain ⟨v', w', hr, g1, g2, _, g3⟩ := run_append_own_at (P := P) w base t o.type e i z R.size bytes ht hi hz hsize hby hzs hsz v xs.length css.flatten h2 ad ys.length cap dss.flatten h3.flat (fun j u hj => (on_some.1 (hc j u hj)).2) h3.ones h63 hbytes hbase
    unfold Oper.wp execOp
    simp only [ho, resolve, invoke, builtin, Sem.run_bind, Sem.run_pure, Result.andThen_ok, List.map_toArray, List.map_cons, List.map_nil, hs, hx, hr]
    exact h v' w' (OwnOf.pushAll h1 h3 g1 g2 g3) g2 g3
end

theorem Ext.grownNew {a w w' : World} {v : Value} (h : Ext a w) (hg : w.grownBy w' v.ownBlock) (hv : ∀ k, v.ownBlock = some k → a.heap.size ≤ k) : Ext a w' :=
  Below.grown h hg h.size hv
theorem own_nil (B : Nat) : ∀ k, (Value.slice none 0 0).ownBlock = some k → B ≤ k := fun k h => by cases h
theorem OwnOf.base {α : Type} {R : Rep α} {w : World} {S : Nat → Prop} {base : Nat} {e : TypeId} {v : Value} {xs : List α} (h : OwnOf R w S base e v xs) : ∀ k, v.ownBlock = some k → base ≤ k := fun k hk => (h.lt k hk).1
theorem all_nil (w : World) : Sub w.cell? (on w (avoid (fun _ => True) (.slice none 0 0))) := full_on _ _ fun k _ => ⟨by simp [Value.ownBlock], trivial⟩
/-- one int, in a view -/
theorem int_lone (h : View) (b : Nat) (x : Int) (hr : -9223372036854775808 ≤ x ∧ x ≤ 9223372036854775807) (h0 : h ⟨b, 0, none⟩ = some (.int .i64 x)) : SliceOf Rep.int h (.slice (some ⟨b, 0, none⟩) 1 1) [x] :=
  ⟨[[.int .i64 x]], ⟨⟨rfl, hr⟩, trivial⟩, .inr ⟨_, 1, rfl, Nat.le_refl _, by simp [maxLen], .inr ⟨b, 0, rfl, fun j u hj => by
    match j, hj with
    | 0, hj => simp at hj; rw [← hj]; exact h0⟩⟩⟩
/-- a row of its own in a later world, seen away from another of its own -/
theorem SliceOf.away {α : Type} {R : Rep α} (hR : R.flat) {w w' : World} {v u : Value} {xs : List α} (h : SliceOf R w.cell? v xs) (hx : Ext w w') (hv : ∀ k, u.ownBlock = some k → w.heap.size ≤ k) : SliceOf R (on w' (avoid (fun _ => True) u)) v xs := by
  obtain ⟨css, h1, h2⟩ := h
  exact ⟨css, h1.flatView hR, h2.sub fun p x e => on_some.2 ⟨⟨fun e2 => by have := hv _ e2.symm; have := World.block_lt_of_cell? w p e; omega, trivial⟩, hx.at e⟩⟩

theorem lone_new {w : World} {v : Value} {x : Int} {xs : List Int} {S : Nat → Prop} {base : Nat} {e T : TypeId} (hr : -9223372036854775808 ≤ x ∧ x ≤ 9223372036854775807) (own : OwnOf Rep.int w S base e v xs) :
    SliceOf Rep.int (on (w.alloc (.cells #[.int .i64 x] T)) (avoid (fun _ => True) v)) (.slice (some ⟨w.heap.size, 0, none⟩) 1 1) [x] :=
  int_lone _ _ x hr (on_some.2 ⟨⟨fun e => Nat.lt_irrefl _ (own.lt _ e.symm).2, trivial⟩, cells_new w [.int .i64 x] T 0 _ rfl⟩)
theorem lone_old {w w1 : World} {v u : Value} {x : Int} {T : TypeId} (hr : -9223372036854775808 ≤ x ∧ x ≤ 9223372036854775807) (hg : (w.alloc (.cells #[.int .i64 x] T)).drew.grownBy w1 u.ownBlock) (hu : u.ownBlock = none) (hat : v.ownBlock = u.ownBlock ∨ v.ownBlock = some (w.alloc (.cells #[.int .i64 x] T)).drew.heap.size) :
    SliceOf Rep.int (on w1 (avoid (fun _ => True) v)) (.slice (some ⟨w.heap.size, 0, none⟩) 1 1) [x] := by
  refine int_lone _ _ x hr (on_some.2 ⟨⟨fun e => ?_, trivial⟩, hg.cell ?_ (by rw [hu]; simp)⟩)
  · rcases hat with hat | hat
    · rw [hat, hu] at e; simp at e
    · rw [hat] at e; simp at e
  · exact (Ext.refl _).drew.at (cells_new w [.int .i64 x] T 0 _ rfl)
theorem slice_lit {α : Type} (R : Rep α) (w : World) (cells : List Value) (T : TypeId) (css : List (List Value)) (xs : List α) (hc : css.flatten = cells) (h : RepAll R (w.alloc (.cells cells.toArray T)).cell? css xs) (hl : xs.length ≤ maxLen) :
    SliceOf R (w.alloc (.cells cells.toArray T)).cell? (.slice (some ⟨w.heap.size, 0, none⟩) xs.length xs.length) xs := by
  refine ⟨css, h, .inr ⟨_, _, rfl, Nat.le_refl _, hl, .inr ⟨_, 0, rfl, fun j u hj => ?_⟩⟩⟩
  rw [World.cell?_alloc_at _ _ _ _ rfl]
  rw [hc] at hj
  simpa using hj

end Go.Proofs.YtdgpbpbjlnlijaaGreat
