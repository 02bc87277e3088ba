/- joined texts of a proof: GenB, RefC, RefG, PlainQ, PlainO, SortedV, BagN, GenC, HeapA, SplitW, PlainB, Pick, RefX, PlainF, IsTrue, RefA, RefM, RefB, RefE, RefF, RefJ -/
import Derived.Test.YtombmdaohcjokaaGreatDoorKX04
import Derived.IntWalk
import Derived.Test.YtombmdaohcjokaaGreatDoorKX09
import Derived.Test.YtombmdaohcjokaaGreatDoorKX05
import Derived.Test.YtombmdaohcjokaaGreatDoorKX07
import Derived.Test.YtombmdaohcjokaaGreatDoorKX03
import Derived.RangeFuncBox
import Derived.RangeFuncLeaves
import Derived.Shelf.Abstract
import Derived.WalkKit
import Derived.OwnWalkIn
import Derived.TacticsInMore
import Derived.LoopNIn
import Derived.LoopIn
import Derived.Maps.AppendAt
import Derived.Test.YtombmdaohcjokaaGreatDoorKX02
import Derived.Test.YtombmdaohcjokaaGreatDoorKX01
import Derived.Shelf.SlSortCmp.KitK
import Derived.Sort.WalkB2
import Derived.Sort.WalkB12
import Derived.Deep.LoopGhost
import Derived.Deep.DeepCutAuto
import Derived.Laws.OwnMore
namespace Go.Proofs.YtombmdaohcjokaaGreatDoor
open Go.RowKit
structure Num5 where
 a:Int
 b:Int
 c:Int
 d:Int
 e:Int
def okNum (x:Num5):Prop:=(0≤x.a∧x.a≤65535)∧(0≤x.b∧x.b≤65535)∧(0≤x.c∧x.c≤65535)∧(0≤x.d∧x.d≤65535)∧(0≤x.e∧x.e≤65535)
def Rep.num:Rep Num5 where
 size:=5
 holds _ cs x:=cs = [.int .u16 x.a,.int .u16 x.b,.int .u16 x.c,.int .u16 x.d,.int .u16 x.e]∧okNum x
 len:=by rintro w cs x ⟨rfl,_⟩;rfl
 ext:=by rintro w w' cs x h _;exact h
 one:=by rintro w cs x ⟨rfl,_⟩;simp [Value.oneCell']
def genTup (x:Num5):Tup:=⟨genVals x.c x.d,genFrom x.a,genTo x.a x.b,[1+x.e % 5]⟩
theorem keepW4 {W wa:World} {B b:Nat} {u0 u1 u2 u3 v0 v1 v2 v3 v4:Value}
  (h:Ext W wa∧wa.cell? ⟨b,0,none⟩=some v0∧wa.cell? ⟨b,1,none⟩=some v1∧wa.cell? ⟨b,2,none⟩=some v2∧wa.cell? ⟨b,3,none⟩=some v3∧wa.cell? ⟨b,4,none⟩=some v4) (hB:W.heap.size≤B) (hb:B≠b) :
  Ext W ((((wa.setCell ⟨B,0,none⟩ u0).setCell ⟨B,1,none⟩ u1).setCell ⟨B,2,none⟩ u2).setCell ⟨B,3,none⟩ u3)∧((((wa.setCell ⟨B,0,none⟩ u0).setCell ⟨B,1,none⟩ u1).setCell ⟨B,2,none⟩ u2).setCell ⟨B,3,none⟩ u3).cell? ⟨b,0,none⟩=some v0∧((((wa.setCell ⟨B,0,none⟩ u0).setCell ⟨B,1,none⟩ u1).setCell ⟨B,2,none⟩ u2).setCell ⟨B,3,none⟩ u3).cell? ⟨b,1,none⟩=some v1∧((((wa.setCell ⟨B,0,none⟩ u0).setCell ⟨B,1,none⟩ u1).setCell ⟨B,2,none⟩ u2).setCell ⟨B,3,none⟩ u3).cell? ⟨b,2,none⟩=some v2∧((((wa.setCell ⟨B,0,none⟩ u0).setCell ⟨B,1,none⟩ u1).setCell ⟨B,2,none⟩ u2).setCell ⟨B,3,none⟩ u3).cell? ⟨b,3,none⟩=some v3∧((((wa.setCell ⟨B,0,none⟩ u0).setCell ⟨B,1,none⟩ u1).setCell ⟨B,2,none⟩ u2).setCell ⟨B,3,none⟩ u3).cell? ⟨b,4,none⟩=some v4 :=
 ⟨Below.setCell (Below.setCell (Below.setCell (Below.setCell h.1 hB u0) hB u1) hB u2) hB u3,cell_set (cell_set (cell_set (cell_set h.2.1 hb) hb) hb) hb,cell_set (cell_set (cell_set (cell_set h.2.2.1 hb) hb) hb) hb,cell_set (cell_set (cell_set (cell_set h.2.2.2.1 hb) hb) hb) hb,cell_set (cell_set (cell_set (cell_set h.2.2.2.2.1 hb) hb) hb) hb,cell_set (cell_set (cell_set (cell_set h.2.2.2.2.2 hb) hb) hb) hb⟩
def Free4 (w:World) (B:Nat):Prop:=(∃u,w.cell? ⟨B,0,none⟩=some u)∧(∃u,w.cell? ⟨B,1,none⟩=some u)∧(∃u,w.cell? ⟨B,2,none⟩=some u)∧(∃u,w.cell? ⟨B,3,none⟩=some u)∧w.frozen? ⟨B,0,none⟩=false∧w.frozen? ⟨B,1,none⟩=false∧w.frozen? ⟨B,2,none⟩=false∧w.frozen? ⟨B,3,none⟩=false
theorem Free4.ext {w w':World} {B:Nat} (h:Free4 w B) (hx:Ext w w'):Free4 w' B:=by
 obtain⟨⟨a,ha⟩,⟨b,hb⟩,⟨c,hc⟩,⟨d,hd⟩,fa,fb,fc,fd⟩:=h
 exact⟨⟨a,hx.at ha⟩,⟨b,hx.at hb⟩,⟨c,hx.at hc⟩,⟨d,hx.at hd⟩,hx.unfrozen ha fa,hx.unfrozen hb fb,hx.unfrozen hc fc,hx.unfrozen hd fd⟩
theorem set4_read {wa:World} {B:Nat} (h:Free4 wa B) (u0 u1 u2 u3:Value) :
  ((((wa.setCell ⟨B,0,none⟩ u0).setCell ⟨B,1,none⟩ u1).setCell ⟨B,2,none⟩ u2).setCell ⟨B,3,none⟩ u3).cell? ⟨B,0,none⟩=some u0∧((((wa.setCell ⟨B,0,none⟩ u0).setCell ⟨B,1,none⟩ u1).setCell ⟨B,2,none⟩ u2).setCell ⟨B,3,none⟩ u3).cell? ⟨B,1,none⟩=some u1∧((((wa.setCell ⟨B,0,none⟩ u0).setCell ⟨B,1,none⟩ u1).setCell ⟨B,2,none⟩ u2).setCell ⟨B,3,none⟩ u3).cell? ⟨B,2,none⟩=some u2∧((((wa.setCell ⟨B,0,none⟩ u0).setCell ⟨B,1,none⟩ u1).setCell ⟨B,2,none⟩ u2).setCell ⟨B,3,none⟩ u3).cell? ⟨B,3,none⟩=some u3:=by
 obtain⟨⟨a,ha⟩,⟨b,hb⟩,⟨c,hc⟩,⟨d,hd⟩,_⟩:=h
 refine⟨?_,?_,?_,?_⟩ <;> go_simp
theorem alloc4_read {w:World} {B:Nat} {u0 u1 u2 u3:Value} (h:w.cell? ⟨B,0,none⟩=some u0∧w.cell? ⟨B,1,none⟩=some u1∧w.cell? ⟨B,2,none⟩=some u2∧w.cell? ⟨B,3,none⟩=some u3) (o:Obj) :
  (w.alloc o).cell? ⟨B,0,none⟩=some u0∧(w.alloc o).cell? ⟨B,1,none⟩=some u1∧(w.alloc o).cell? ⟨B,2,none⟩=some u2∧(w.alloc o).cell? ⟨B,3,none⟩=some u3 :=
 ⟨cell_alloc h.1 o,cell_alloc h.2.1 o,cell_alloc h.2.2.1 o,cell_alloc h.2.2.2 o⟩
theorem ret4 {P:Program} {fn:Func} {R:Ending→World→Prop} {a:Act} {wa:World} {B:Nat} {u0 u1 u2 u3:Value} (h:Free4 wa B)
 (hr:(((((wa.setCell ⟨B,0,none⟩ u0).setCell ⟨B,1,none⟩ u1).setCell ⟨B,2,none⟩ u2).setCell ⟨B,3,none⟩ u3).cell? ⟨B,0,none⟩=some u0∧((((wa.setCell ⟨B,0,none⟩ u0).setCell ⟨B,1,none⟩ u1).setCell ⟨B,2,none⟩ u2).setCell ⟨B,3,none⟩ u3).cell? ⟨B,1,none⟩=some u1∧((((wa.setCell ⟨B,0,none⟩ u0).setCell ⟨B,1,none⟩ u1).setCell ⟨B,2,none⟩ u2).setCell ⟨B,3,none⟩ u3).cell? ⟨B,2,none⟩=some u2∧((((wa.setCell ⟨B,0,none⟩ u0).setCell ⟨B,1,none⟩ u1).setCell ⟨B,2,none⟩ u2).setCell ⟨B,3,none⟩ u3).cell? ⟨B,3,none⟩=some u3)→(results fn a.tmps).run P ((((wa.setCell ⟨B,0,none⟩ u0).setCell ⟨B,1,none⟩ u1).setCell ⟨B,2,none⟩ u2).setCell ⟨B,3,none⟩ u3) = .ok (.agg #[u0,u1,u2,u3]) ((((wa.setCell ⟨B,0,none⟩ u0).setCell ⟨B,1,none⟩ u1).setCell ⟨B,2,none⟩ u2).setCell ⟨B,3,none⟩ u3)) (hd:a.defers = [])
 (hR:R (.returned (.agg #[u0,u1,u2,u3])) ((((wa.setCell ⟨B,0,none⟩ u0).setCell ⟨B,1,none⟩ u1).setCell ⟨B,2,none⟩ u2).setCell ⟨B,3,none⟩ u3)):bodyPost P fn R .ret a ((((wa.setCell ⟨B,0,none⟩ u0).setCell ⟨B,1,none⟩ u1).setCell ⟨B,2,none⟩ u2).setCell ⟨B,3,none⟩ u3):=bodyPost_ret (hr (set4_read h u0 u1 u2 u3)) hd hR
theorem ret4a {P:Program} {fn:Func} {R:Ending→World→Prop} {a:Act} {wa:World} {B:Nat} {u0 u1 u2 u3:Value} {o:Obj} (h:Free4 wa B)
 (hr:((((((wa.setCell ⟨B,0,none⟩ u0).setCell ⟨B,1,none⟩ u1).setCell ⟨B,2,none⟩ u2).setCell ⟨B,3,none⟩ u3).alloc o).cell? ⟨B,0,none⟩=some u0∧(((((wa.setCell ⟨B,0,none⟩ u0).setCell ⟨B,1,none⟩ u1).setCell ⟨B,2,none⟩ u2).setCell ⟨B,3,none⟩ u3).alloc o).cell? ⟨B,1,none⟩=some u1∧(((((wa.setCell ⟨B,0,none⟩ u0).setCell ⟨B,1,none⟩ u1).setCell ⟨B,2,none⟩ u2).setCell ⟨B,3,none⟩ u3).alloc o).cell? ⟨B,2,none⟩=some u2∧(((((wa.setCell ⟨B,0,none⟩ u0).setCell ⟨B,1,none⟩ u1).setCell ⟨B,2,none⟩ u2).setCell ⟨B,3,none⟩ u3).alloc o).cell? ⟨B,3,none⟩=some u3)→(results fn a.tmps).run P (((((wa.setCell ⟨B,0,none⟩ u0).setCell ⟨B,1,none⟩ u1).setCell ⟨B,2,none⟩ u2).setCell ⟨B,3,none⟩ u3).alloc o) = .ok (.agg #[u0,u1,u2,u3]) (((((wa.setCell ⟨B,0,none⟩ u0).setCell ⟨B,1,none⟩ u1).setCell ⟨B,2,none⟩ u2).setCell ⟨B,3,none⟩ u3).alloc o)) (hd:a.defers = [])
 (hR:R (.returned (.agg #[u0,u1,u2,u3])) (((((wa.setCell ⟨B,0,none⟩ u0).setCell ⟨B,1,none⟩ u1).setCell ⟨B,2,none⟩ u2).setCell ⟨B,3,none⟩ u3).alloc o)):bodyPost P fn R .ret a (((((wa.setCell ⟨B,0,none⟩ u0).setCell ⟨B,1,none⟩ u1).setCell ⟨B,2,none⟩ u2).setCell ⟨B,3,none⟩ u3).alloc o):=bodyPost_ret (hr (alloc4_read (set4_read h u0 u1 u2 u3) o)) hd hR
theorem sub4 (wa:World) {B:Nat} (u0 u1 u2 u3:Value) {S:Nat→Prop} (hB : ¬S B):Sub (on wa S) (on ((((wa.setCell ⟨B,0,none⟩ u0).setCell ⟨B,1,none⟩ u1).setCell ⟨B,2,none⟩ u2).setCell ⟨B,3,none⟩ u3) S) :=
 (((set_sub wa _ u0 hB).trans (set_sub _ _ u1 hB)).trans (set_sub _ _ u2 hB)).trans (set_sub _ _ u3 hB)
theorem vals_end {w w2 w3:World} {B:Nat} {u0 u1 u2 u3 v:Value} {T:Nat→Prop} {xs:List Val} (s2:SliceOf Rep.val (on w2 T) v xs) (hT : ∀k,k<w2.heap.size→T k→B<k) (hB:w.heap.size≤B) (hx:Ext w2 w3) :
  SliceOf Rep.val (on ((((w3.setCell ⟨B,0,none⟩ u0).setCell ⟨B,1,none⟩ u1).setCell ⟨B,2,none⟩ u2).setCell ⟨B,3,none⟩ u3) (fun j=>w.heap.size≤j)) v xs :=
 s2.ext (((on_mono w2 (T:=fun k=>B<k) hT).trans (hx.sub _)).trans ((sub4 w3 u0 u1 u2 u3 (Nat.lt_irrefl B)).trans (on_mono _ fun k _ (hk:B<k)=>Nat.le_trans hB (Nat.le_of_lt hk))))
theorem vals_enda {w w2 w3:World} {B:Nat} {u0 u1 u2 u3 v:Value} {T:Nat→Prop} {xs:List Val} {o:Obj} (s2:SliceOf Rep.val (on w2 T) v xs) (hT : ∀k,k<w2.heap.size→T k→B<k) (hB:w.heap.size≤B) (hx:Ext w2 w3) :
  SliceOf Rep.val (on (((((w3.setCell ⟨B,0,none⟩ u0).setCell ⟨B,1,none⟩ u1).setCell ⟨B,2,none⟩ u2).setCell ⟨B,3,none⟩ u3).alloc o) (fun j=>w.heap.size≤j)) v xs :=
 (vals_end (u0:=u0) (u1:=u1) (u2:=u2) (u3:=u3) s2 hT hB hx).ext (((Ext.refl _).alloc o).sub _)
theorem lin_end {w w3:World} {B b:Nat} {u0 u1 u2 u3:Value} {x:Int} (hr : -9223372036854775808≤x∧x≤9223372036854775807) (hb:w.heap.size≤b) (hne:B≠b) (hc:w3.cell? ⟨b,0,none⟩=some (.int .i64 x)) :
  SliceOf Rep.int (on ((((w3.setCell ⟨B,0,none⟩ u0).setCell ⟨B,1,none⟩ u1).setCell ⟨B,2,none⟩ u2).setCell ⟨B,3,none⟩ u3) (fun j=>w.heap.size≤j)) (.slice (some ⟨b,0,none⟩) 1 1) [x] :=
 int_lone _ _ _ hr (on_some.2 ⟨hb,cell_set (cell_set (cell_set (cell_set hc hne) hne) hne) hne⟩)
theorem lin_enda {w w3:World} {B:Nat} {u0 u1 u2 u3:Value} {x:Int} {T:TypeId} (hr : -9223372036854775808≤x∧x≤9223372036854775807) (hb:w.heap.size≤w3.heap.size) :
  SliceOf Rep.int (on (((((w3.setCell ⟨B,0,none⟩ u0).setCell ⟨B,1,none⟩ u1).setCell ⟨B,2,none⟩ u2).setCell ⟨B,3,none⟩ u3).alloc (.cells #[.int .i64 x] T)) (fun j=>w.heap.size≤j)) (.slice (some ⟨w3.heap.size,0,none⟩) 1 1) [x]:=by
 have h:=cells_new ((((w3.setCell ⟨B,0,none⟩ u0).setCell ⟨B,1,none⟩ u1).setCell ⟨B,2,none⟩ u2).setCell ⟨B,3,none⟩ u3) [.int .i64 x] T 0 _ rfl
 rw [show (((((w3.setCell ⟨B,0,none⟩ u0).setCell ⟨B,1,none⟩ u1).setCell ⟨B,2,none⟩ u2).setCell ⟨B,3,none⟩ u3).heap.size)=w3.heap.size by simp]at h
 exact int_lone _ _ _ hr (on_some.2 ⟨hb,h⟩)
set_option maxRecDepth 100000 in
set_option maxHeartbeats 4000000 in
theorem tuple_gen (x:Num5) (w:World) (h:okNum x) :
  Calls Tryz.prog 76 #[.agg #[.int .u16 x.a,.int .u16 x.b,.int .u16 x.c,.int .u16 x.d,.int .u16 x.e]] w fun e w'=> ∃a b,e = .returned (.agg #[a,.int .i64 (genTup x).from_,.int .i64 (genTup x).to_,b])∧SliceOf Rep.val (on w' (fun j=>w.heap.size≤j)) a (genTup x).vals∧SliceOf Rep.int (on w' (fun j=>w.heap.size≤j)) b (genTup x).lin∧Ext w w':=by
 obtain⟨⟨a0,a1⟩,⟨b0,b1⟩,⟨c0,c1⟩,⟨d0,d1⟩,e0,e1⟩:=h
 obtain⟨xa,xb,xc,xd,xe⟩:=x
 dsimp only [genTup]at *
 go_enter Tryz.func76,Tryz.ntmps76
 go_wp2_with fail
 have k0:((w.alloc (.cells #[.int .u16 xa,.int .u16 xb,.int .u16 xc,.int .u16 xd,.int .u16 xe] 121)).alloc (.cells #[.slice none 0 0,.int .i64 0,.int .i64 0,.slice none 0 0] 125)).cell? ⟨w.heap.size,0,none⟩=some (.int .u16 xa):=by go_simp
 have k1:((w.alloc (.cells #[.int .u16 xa,.int .u16 xb,.int .u16 xc,.int .u16 xd,.int .u16 xe] 121)).alloc (.cells #[.slice none 0 0,.int .i64 0,.int .i64 0,.slice none 0 0] 125)).cell? ⟨w.heap.size,1,none⟩=some (.int .u16 xb):=by go_simp
 have k2:((w.alloc (.cells #[.int .u16 xa,.int .u16 xb,.int .u16 xc,.int .u16 xd,.int .u16 xe] 121)).alloc (.cells #[.slice none 0 0,.int .i64 0,.int .i64 0,.slice none 0 0] 125)).cell? ⟨w.heap.size,2,none⟩=some (.int .u16 xc):=by go_simp
 have k3:((w.alloc (.cells #[.int .u16 xa,.int .u16 xb,.int .u16 xc,.int .u16 xd,.int .u16 xe] 121)).alloc (.cells #[.slice none 0 0,.int .i64 0,.int .i64 0,.slice none 0 0] 125)).cell? ⟨w.heap.size,3,none⟩=some (.int .u16 xd):=by go_simp
 have k4:((w.alloc (.cells #[.int .u16 xa,.int .u16 xb,.int .u16 xc,.int .u16 xd,.int .u16 xe] 121)).alloc (.cells #[.slice none 0 0,.int .i64 0,.int .i64 0,.slice none 0 0] 125)).cell? ⟨w.heap.size,4,none⟩=some (.int .u16 xe):=by go_simp
 have g0:((w.alloc (.cells #[.int .u16 xa,.int .u16 xb,.int .u16 xc,.int .u16 xd,.int .u16 xe] 121)).alloc (.cells #[.slice none 0 0,.int .i64 0,.int .i64 0,.slice none 0 0] 125)).cell? ⟨w.heap.size+1,0,none⟩=some (.slice none 0 0):=by go_simp
 have f0:((w.alloc (.cells #[.int .u16 xa,.int .u16 xb,.int .u16 xc,.int .u16 xd,.int .u16 xe] 121)).alloc (.cells #[.slice none 0 0,.int .i64 0,.int .i64 0,.slice none 0 0] 125)).frozen? ⟨w.heap.size+1,0,none⟩=false:=by go_simp
 have g1:((w.alloc (.cells #[.int .u16 xa,.int .u16 xb,.int .u16 xc,.int .u16 xd,.int .u16 xe] 121)).alloc (.cells #[.slice none 0 0,.int .i64 0,.int .i64 0,.slice none 0 0] 125)).cell? ⟨w.heap.size+1,1,none⟩=some (.int .i64 0):=by go_simp
 have f1:((w.alloc (.cells #[.int .u16 xa,.int .u16 xb,.int .u16 xc,.int .u16 xd,.int .u16 xe] 121)).alloc (.cells #[.slice none 0 0,.int .i64 0,.int .i64 0,.slice none 0 0] 125)).frozen? ⟨w.heap.size+1,1,none⟩=false:=by go_simp
 have g2:((w.alloc (.cells #[.int .u16 xa,.int .u16 xb,.int .u16 xc,.int .u16 xd,.int .u16 xe] 121)).alloc (.cells #[.slice none 0 0,.int .i64 0,.int .i64 0,.slice none 0 0] 125)).cell? ⟨w.heap.size+1,2,none⟩=some (.int .i64 0):=by go_simp
 have f2:((w.alloc (.cells #[.int .u16 xa,.int .u16 xb,.int .u16 xc,.int .u16 xd,.int .u16 xe] 121)).alloc (.cells #[.slice none 0 0,.int .i64 0,.int .i64 0,.slice none 0 0] 125)).frozen? ⟨w.heap.size+1,2,none⟩=false:=by go_simp
 have g3:((w.alloc (.cells #[.int .u16 xa,.int .u16 xb,.int .u16 xc,.int .u16 xd,.int .u16 xe] 121)).alloc (.cells #[.slice none 0 0,.int .i64 0,.int .i64 0,.slice none 0 0] 125)).cell? ⟨w.heap.size+1,3,none⟩=some (.slice none 0 0):=by go_simp
 have f3:((w.alloc (.cells #[.int .u16 xa,.int .u16 xb,.int .u16 xc,.int .u16 xd,.int .u16 xe] 121)).alloc (.cells #[.slice none 0 0,.int .i64 0,.int .i64 0,.slice none 0 0] 125)).frozen? ⟨w.heap.size+1,3,none⟩=false:=by go_simp
 have hxx:Ext w ((w.alloc (.cells #[.int .u16 xa,.int .u16 xb,.int .u16 xc,.int .u16 xd,.int .u16 xe] 121)).alloc (.cells #[.slice none 0 0,.int .i64 0,.int .i64 0,.slice none 0 0] 125)):=((Ext.refl w).alloc _).alloc _
 generalize ((w.alloc (.cells #[.int .u16 xa,.int .u16 xb,.int .u16 xc,.int .u16 xd,.int .u16 xe] 121)).alloc (.cells #[.slice none 0 0,.int .i64 0,.int .i64 0,.slice none 0 0] 125))=W1 at k0 k1 k2 k3 k4 g0 g1 g2 g3 f0 f1 f2 f3 hxx ⊢
 have hF0:Free4 W1 (w.heap.size+1):=⟨⟨_,g0⟩,⟨_,g1⟩,⟨_,g2⟩,⟨_,g3⟩,f0,f1,f2,f3⟩
 have hF1:Free4 W1.drew (w.heap.size+1):=Free4.ext hF0 (Ext.refl W1).drew
 have hz1:=cell_lt g0
 clear g0 g1 g2 g3 f0 f1 f2 f3
 have e2:xe.tmod 5=xe % 5:=Int.tmod_eq_emod_of_nonneg e0
 have e3:IntKind.i64.wrap (xe % 5)=xe % 5:=IntWalk.i64_in _ (by omega)
 have e4:IntKind.i64.wrap (1+xe % 5)=1+xe % 5:=IntWalk.i64_in _ (by omega)
 have hS0:Ext w W1.drew∧W1.drew.cell? ⟨w.heap.size,0,none⟩=some (.int .u16 xa)∧W1.drew.cell? ⟨w.heap.size,1,none⟩=some (.int .u16 xb)∧W1.drew.cell? ⟨w.heap.size,2,none⟩=some (.int .u16 xc)∧W1.drew.cell? ⟨w.heap.size,3,none⟩=some (.int .u16 xd)∧W1.drew.cell? ⟨w.heap.size,4,none⟩=some (.int .u16 xe):=⟨hxx.drew,k0,k1,k2,k3,k4⟩
 go_region_held3 (fun w'=>Ext w w'∧w'.cell? ⟨w.heap.size,0,none⟩=some (.int .u16 xa)∧w'.cell? ⟨w.heap.size,1,none⟩=some (.int .u16 xb)∧w'.cell? ⟨w.heap.size,2,none⟩=some (.int .u16 xc)∧w'.cell? ⟨w.heap.size,3,none⟩=some (.int .u16 xd)∧w'.cell? ⟨w.heap.size,4,none⟩=some (.int .u16 xe))
  (first |with_reducible assumption | with_reducible exact keepE5 (by assumption) hx2 | with_reducible exact keepE5 (by assumption) hx3 | with_reducible exact keepE5 (by assumption) ((Ext.refl _).alloc _) | with_reducible exact keepW4 (by assumption) (Nat.le_succ _) (Nat.succ_ne_self _) | with_reducible exact keepE5 (keepW4 (by assumption) (Nat.le_succ _) (Nat.succ_ne_self _)) ((Ext.refl _).alloc _))
  (first |(go_at_call 49;refine(vals_gen xc xd _ c0 c1 d0 d1).mono ?_;rintro e w2 ⟨v2,rfl,s2,hx2⟩;obtain⟨p2,q2,rfl,_⟩:=s2.form;have hS2:Ext w w2∧w2.cell? ⟨w.heap.size,0,none⟩=some (.int .u16 xa)∧w2.cell? ⟨w.heap.size,1,none⟩=some (.int .u16 xb)∧w2.cell? ⟨w.heap.size,2,none⟩=some (.int .u16 xc)∧w2.cell? ⟨w.heap.size,3,none⟩=some (.int .u16 xd)∧w2.cell? ⟨w.heap.size,4,none⟩=some (.int .u16 xe):=(by with_reducible exact keepE5 (by assumption) hx2);have hF2:Free4 w2 (w.heap.size+1):=(by first | exact Free4.ext (by assumption) hx2 | exact Free4.ext (by assumption) (((Ext.refl _).alloc _).trans hx2) | exact Free4.ext hF0 ((((Ext.refl W1).alloc _).drew).trans hx2));obtain⟨⟨m20,y20⟩,⟨m21,y21⟩,⟨m22,y22⟩,⟨m23,y23⟩,y24,y25,y26,y27⟩:=id hF2;have z2:=cell_lt y20) | (go_at_call 122;refine(period_gen xa xb _ a0 a1 b0 b1).mono ?_;rintro e w3 ⟨rfl,hx3⟩;have hS3:Ext w w3∧w3.cell? ⟨w.heap.size,0,none⟩=some (.int .u16 xa)∧w3.cell? ⟨w.heap.size,1,none⟩=some (.int .u16 xb)∧w3.cell? ⟨w.heap.size,2,none⟩=some (.int .u16 xc)∧w3.cell? ⟨w.heap.size,3,none⟩=some (.int .u16 xd)∧w3.cell? ⟨w.heap.size,4,none⟩=some (.int .u16 xe):=(by with_reducible exact keepE5 (by assumption) hx3);have hF3:Free4 w3 (w.heap.size+1):=(by first | exact Free4.ext (by assumption) hx3 | exact Free4.ext (by assumption) (((Ext.refl _).alloc _).trans hx3) | exact Free4.ext hF0 ((((Ext.refl W1).alloc _).drew).trans hx3));obtain⟨⟨m30,y30⟩,⟨m31,y31⟩,⟨m32,y32⟩,⟨m33,y33⟩,y34,y35,y36,y37⟩:=id hF3;have z3:=cell_lt y30))
 all_goals
  have hfin:=And.left ‹Ext w (_:World)∧_›
  clear hS0
  go_wp2_with fail
  have hr : -9223372036854775808≤1+xe % 5∧1+xe % 5≤9223372036854775807:=by omega
 ·with_reducible refine ret4a hF3 ?_ ?_ ?_
  ·intro j
   simp [results,Tryz.results76,go_sem,j]
  ·rfl
  exact⟨_,_,rfl,vals_enda s2 (fun k _ hk=>by simp at hk;omega) (by omega) hx3,lin_enda hr (by omega),hfin⟩
 ·with_reducible refine ret4 hF3 ?_ ?_ ?_
  ·intro j
   simp [results,Tryz.results76,go_sem,j]
  ·rfl
  exact⟨_,_,rfl,vals_end s2 (fun k _ hk=>by simp at hk;omega) (by omega) (((Ext.refl w2).alloc _).trans hx3),lin_end hr (by omega) (by omega) (hx3.at (cells_new w2 [.int .i64 (1+xe % 5)] 3 0 _ rfl)),hfin⟩
 ·with_reducible refine ret4 hF3 ?_ ?_ ?_
  ·intro j
   simp [results,Tryz.results76,go_sem,j]
  ·rfl
  exact⟨_,_,rfl,vals_end s2 (fun k _ hk=>by simp at hk;omega) (by omega) hx3,lin_end hr (by omega) (by omega) (hx3.at (hx2.at ((Ext.refl _).drew.at (cells_new W1 [.int .i64 (1+xe % 5)] 3 0 _ rfl)))),hfin⟩
end Go.Proofs.YtombmdaohcjokaaGreatDoor
namespace Go.Proofs.YtombmdaohcjokaaGreatDoor
open Go.RowKit
def Free2 (w:World) (B:Nat):Prop:=(∃u,w.cell? ⟨B,0,none⟩=some u)∧(∃u,w.cell? ⟨B,1,none⟩=some u)∧w.frozen? ⟨B,0,none⟩=false∧w.frozen? ⟨B,1,none⟩=false
theorem old_all {w w':World} {v:Value} (hx:Ext w w') (hb : ∀k,v.ownBlock=some k→w.heap.size≤k):Sub w.cell? (on w' (avoid (fun _=>True) v)):=fun p u e =>
 on_some.2 ⟨⟨fun he=>by have h1:=hb _ he.symm;have h2:=World.block_lt_of_cell? w p e;omega,trivial⟩,hx.at e⟩
theorem info_valC:(Tryz.prog.info? 61).map (fun i=>(i.zero,i.size,i.bytes))=some (some (.agg #[.int .i64 0,.int .i64 0,.string ByteArray.empty]),Rep.val.size,32):=by kernel_rfl
end Go.Proofs.YtombmdaohcjokaaGreatDoor
namespace Go.Proofs.YtombmdaohcjokaaGreatDoor
open Go.RowKit Go.Deep
structure GrpAt (w:World) (S:Nat→Prop) (b1 b2:Nat) (e1 e2:TypeId) (v u:Value) (done:List (List Row)) (cur:List Row):Prop where
 us : ∃css,RepAll (Rep.slice Rep.row) (on w (fun k=>some k≠v.ownBlock∧some k≠u.ownBlock)) css done∧w.ownsRow b1 e1 1 v (done.length+1) (css.flatten ++ [u])
 cur:OwnOf Rep.row w S b2 e2 u cur
 ne : ∀k,u.ownBlock=some k→v.ownBlock≠some k
 off : ∀k,v.ownBlock=some k→ ¬S k
 lo : ∀k,S k→k<b2
section
variable {P:Program} {w:World} {ops:Array Oper} {rest:List Oper} {o:Oper} {a:Act} {Q:Exit→Act→World→Prop}
end
def keyR (es:List ExprI) (keys:List Int) (r:Row):Row:=⟨projE es keys r.vals++r.vals,r.lin⟩
def gNew (K:Nat) (cur:List Row) (r:Row):Bool:= !cur.isEmpty&&cmpVals ((cur.headD ⟨[],[]⟩).vals.take K) (r.vals.take K) != 0
def gStep (K:Nat) (st:List (List Row)) (r:Row):List (List Row) :=
 match st.getLast? with
 |none=> [[r]]
 |some cur=>if gNew K cur r=true then st ++ [[r]]else st.dropLast ++ [cur ++ [r]]
def gStart (K:Nat):List (List Row):=if K=0 then [[]]else []
def gRuns (K:Nat) (l:List Row):List (List Row):=l.foldl (gStep K) (gStart K)
theorem gStep_none (K:Nat) (r:Row):gStep K [] r = [[r]]:=rfl
def gLin (g:List Row):List Int:=g.foldl (fun a r=>mergeL a r.lin) []
def gRow1 (es:List ExprI) (K:Nat) (aggs:List AggI) (g:List Row):Row :=
 ⟨(g.headD ⟨[],[]⟩).vals.take K++aggs.map fun a=>aggR a.kind (g.map fun r=>evalE es a.arg (r.vals.drop K)),gLin g⟩
def groupR (es:List ExprI) (keys:List Int) (aggs:List AggI) (rows:List Row):List Row:=(gRuns keys.length (sortBy cmpRow (rows.map (keyR es keys)))).map (gRow1 es keys.length aggs)
end Go.Proofs.YtombmdaohcjokaaGreatDoor
namespace Go.Proofs.YtombmdaohcjokaaGreatDoor
open Go.RowKit
def linS (S:List Row):List Int:=mergeL (S.flatMap Row.lin) []
theorem sumI_cons (x:Val) (xs:List Val):sumI (x::xs)=(if x.kind=1 then x.n else 0)+sumI xs:=sumF_cons (fun n=>n) x xs
theorem sumV_nn (xs:List Val):sumV (nnV xs)=sumV xs:=by
 have h1:sumI (nnV xs)=sumI xs∧anyI (nnV xs)=anyI xs:=by
  induction xs with
  |nil=>exact⟨rfl,rfl⟩
  |cons x xs ih =>
   unfold nnV at ih ⊢
   rw [List.filter_cons]
   have e:anyI (x::xs)=(decide (x.kind=1)||anyI xs):=rfl
   by_cases c:x.kind=0
   ·rw [if_neg (by simp [c]),ih.1,ih.2,sumI_cons,if_neg (by omega),e,decide_eq_false (by omega)]
    exact⟨by omega,rfl⟩
   ·rw [if_pos (by simp [c]),sumI_cons,sumI_cons,ih.1,e]
    exact⟨rfl,by rw [←ih.2];rfl⟩
 unfold sumV
 rw [h1.1,h1.2]
theorem aggE_R (es:List ExprI) (kind arg:Int) (vss:List (List Val)):aggE es kind arg vss=aggR kind (vss.map fun vs=>evalE es arg vs):=by
 have e:argsG es arg vss=nnV (vss.map fun vs=>evalE es arg vs):=rfl
 unfold aggE aggR bestMin bestMax
 rw [e,sumV_nn,List.length_map,ite_self]
section
open Classical
def aggsE (es:List ExprI) (aggs:List AggI) (vss:List (List Val)):List Val:=aggs.map fun a=>aggE es a.kind a.arg vss
end
end Go.Proofs.YtombmdaohcjokaaGreatDoor
namespace Go.Proofs.YtombmdaohcjokaaGreatDoor
open Go.RowKit
def oneStep (c:Bool) (x:Int) (q:Option Int×List Per):Option Int×List Per :=
 match q.1 with
 |none=>if c=true then(some x,q.2)else(none,q.2)
 |some s=>if c=true then(some s,q.2)else(none,q.2 ++ [⟨s,x⟩])
def oneOf (P:List Int) (f:Nat→Nat) (j:Nat):Nat→Option Int×List Per
 |0=>(none,[])
 |m+1=>oneStep (decide (j<f m)) P[m]! (oneOf P f j m)
def closeAt (st:List Int) (d:Nat) (x:Int) (j:Nat):List Per:=if d≤j then((st[j]?).map fun s=>(⟨s,x⟩:Per)).toList else []
def lvlSet (P:List Int) (f:Nat→Nat) (j:Nat):Nat→List Per
 |0=> []
 |i+1=>lvlSet P f j i++if j<f i then [⟨P[i]!,P[i+1]!⟩]else []
def cmpPer2 (x y:Per):Int:=if cmpI x.from_ y.from_=0 then cmpI x.to_ y.to_ else cmpI x.from_ y.from_
def refLev (P:List Int) (f:Nat→Nat):Nat→List Per
 |0=> []
 |k+1=>sortBy cmpPer2 (refLev P f k++refNorm (lvlSet P f k (P.length - 1)))
def refLevels (l:List Tup):List Per:=refLev (pts l) (fun i=>cntAt l (pts l)[i]!) l.length
open Classical in
noncomputable def refNU (R:List Row) (l:List Tup):Nat→List Tup
 |0=> []
 |i+1=>refNU R l i++if 0<i∧R[i - 1]?=R[i]? then []else((R[i]?).map fun r=>(refLevels (l.filter fun t=>decide (tupRow t=r))).map (tupOf r)).getD []
open Classical in
noncomputable def heads (R:List Row):Nat→List Row
 |0=> []
 |i+1=>heads R i++if 0<i∧R[i - 1]?=R[i]? then []else(R[i]?).toList
end Go.Proofs.YtombmdaohcjokaaGreatDoor
namespace Go.Proofs.YtombmdaohcjokaaGreatDoor
open Go.RowKit Go.Shelf
attribute [local go_sem] Oper.semAt_some
def uptoF {α:Type} (f:Nat→α) (k:Nat):List α:=(List.range k).map f
def IntsAt (n₀:Nat) (W:World) (sv:Value) (zs:List Int):Prop :=
 ((∃p c,sv = .slice p 0 c)∧zs = [])∨ ∃b off cap,sv = .slice (some ⟨b,off,none⟩) zs.length cap∧b<n₀∧ ∀j,j<zs.length→W.cell? ⟨b,off+j,none⟩=some (.int .i64 (zs[j]?.getD 0))
def sortI (zs:List Int):List Int:=zs.mergeSort fun x y=>decide (x≤y)
end Go.Proofs.YtombmdaohcjokaaGreatDoor
namespace Go.Proofs.YtombmdaohcjokaaGreatDoor
open Go.RowKit Go.Deep
def surpA (b:List Row):List Row→List Row→List Row
 |_,[]=> []
 |pre,r::rest=>if mult r.vals b≤mult r.vals pre then r::surpA b (pre ++ [r]) rest else surpA b (pre ++ [r]) rest
theorem surpA_append (b pre x y:List Row):surpA b pre (x++y)=surpA b pre x++surpA b (pre++x) y:=by
 induction x generalizing pre with
 |nil=>simp [surpA]
 |cons r x ih =>
  simp only [List.cons_append,surpA]
  split <;> rw [ih] <;> simp
theorem mult_append (vs:List Val) (x y:List Row):mult vs (x++y)=mult vs x+mult vs y:=by simp [mult,List.countP_append]
theorem mult_one {vs:List Val} {r:Row} (h:r.vals=vs):mult vs [r]=1:=by
 simp [mult,h,(ord_vals.eq vs vs).2 rfl]
theorem mult_zero {vs:List Val} {l:List Row} (h : ∀p∈l,p.vals≠vs):mult vs l=0:=by
 unfold mult
 rw [List.countP_eq_zero]
 intro p hp
 simpa [ord_vals.eq] using h p hp
theorem surpA_run (b run pre:List Row) (v:List Val) (h : ∀r∈run,r.vals=v):surpA b pre run=run.drop (mult v b - mult v pre):=by
 induction run generalizing pre with
 |nil=>simp [surpA]
 |cons r run ih =>
  have hr:=h r (by simp)
  have h1:mult v (pre ++ [r])=mult v pre+1:=by rw [mult_append,mult_one hr]
  simp only [surpA]
  rw [ih (pre ++ [r]) (fun s hs=>h s (by simp [hs])),h1,hr]
  split
  ·rw [show mult v b - mult v pre=0 from by omega,show mult v b - (mult v pre+1)=0 from by omega]
   rfl
  ·rw [show mult v b - mult v pre=(mult v b - (mult v pre+1))+1 from by omega]
   rfl
theorem surpA_len (b pre l:List Row):(surpA b pre l).length≤l.length:=by
 induction l generalizing pre with
 |nil=>simp [surpA]
 |cons r l ih =>
  have:=ih (pre ++ [r])
  simp only [surpA]
  split <;> simp <;> omega
theorem cmpRow_vals {a b:Row} (h:cmpRow a b≤0):cmpVals a.vals b.vals≤0:=by
 unfold cmpRow orI at h
 split at h
 ·omega
 ·exact h
theorem fresh_run {l pre run rest:List Row} {v:List Val} (hs:l.Pairwise fun a b=>cmpRow a b≤0) (hl:l=pre++run++rest) (hne:run≠ []) (hv : ∀r∈run,r.vals=v) (hlast : ∀p,pre.getLast?=some p→p.vals≠v):mult v pre=0:=by
 refine mult_zero fun p hp hpv=> ?_
 obtain⟨r,hr⟩:=List.exists_mem_of_ne_nil run hne
 cases hq:pre.getLast? with
 |none=>rw [List.getLast?_eq_none_iff.1 hq]at hp;simp at hp
 |some q =>
  have hqm:=List.mem_of_getLast? hq
  subst hl
  rw [List.pairwise_append]at hs
  obtain⟨hs,_,_⟩:=hs
  rw [List.pairwise_append]at hs
  obtain⟨hs1,_,hs2⟩:=hs
  have h1:=cmpRow_vals (hs2 q hqm r hr)
  have h2:cmpVals p.vals q.vals≤0:=by
   obtain⟨pre',rfl⟩ : ∃pre',pre=pre' ++ [q]:=by
    refine⟨pre.dropLast,?_⟩
    have hn:pre≠ []:=fun e=>by rw [e]at hp;simp at hp
    have:=List.dropLast_concat_getLast hn
    rw [List.getLast?_eq_some_getLast hn]at hq
    injection hq with hq
    rw [hq]at this
    exact this.symm
   rw [List.pairwise_append]at hs1
   rcases List.mem_append.1 hp with hp | hp
   ·exact cmpRow_vals (hs1.2.2 p hp q (by simp))
   ·rw [List.mem_singleton.1 hp,(ord_vals.eq _ _).2 rfl];exact Int.le_refl _
  rw [hv r hr]at h1
  rw [hpv]at h2
  exact hlast q hq (ord_vals.le_anti _ _ h1 h2)
theorem surp_step {l b:List Row} (hs:l.Pairwise fun a b=>cmpRow a b≤0) {rs:List (List Row)} (hr:Runs rs) (hl:rs.flatten=l) (k:Nat) (hk:k<rs.length) :
  ∃v,rs[k]≠ []∧(∀r∈rs[k],r.vals=v)∧surpA b [] (rs.take (k+1)).flatten=surpA b [] (rs.take k).flatten++rs[k].drop (mult v b):=by
 obtain⟨v,h1,h2,h3⟩:=hr.at k hk
 refine⟨v,h1,h2,?_⟩
 have h4:mult v (rs.take k).flatten=0:=by
  refine fresh_run (rest:=(rs.drop (k+1)).flatten) hs ?_ h1 h2 h3
  rw [←hl,←flatten_take rs k hk,←List.flatten_append,List.take_append_drop]
 rw [flatten_take rs k hk,surpA_append,List.nil_append,surpA_run b rs[k] _ v h2,h4,Nat.sub_zero]
set_option maxRecDepth 100000 in
set_option maxHeartbeats 4000000 in
theorem surplus_rows (va vb:Value) (a b:List Row) (w:World) (ha:SliceOf Rep.row w.cell? va a) (hb:SliceOf Rep.row w.cell? vb b) (hf:fitRows a) :
  Calls Tryz.prog 73 #[va,vb] w fun e w'=> ∃v',e = .returned v'∧SliceOf Rep.row w'.cell? v' (surpA b [] (sortBy cmpRow a))∧Ext w w':=by
 obtain⟨i0,hi,hz0,hz1,hz2⟩:=info_parts infoRow
 have HA:=Lib.hid ha
 have HB:=Lib.hid hb
 have HF:=Lib.hid hf
 have hf1:=hf.1
 obtain⟨pa,ca,rfl,_⟩:=ha.form
 obtain⟨pb,cb,rfl,_⟩:=hb.form
 clear ha hb hf
 go_enter Tryz.func73,Tryz.ntmps73
 go_wp2_with fail
 refine(sort_rows _ a _ HA.out HF.out).mono ?_
 rintro e w1 ⟨v1,rfl,s1,hx1⟩
 have hsp0:=sortBy_pair ord_row a
 have hsl:=sortBy_length cmpRow a
 generalize hla:sortBy cmpRow a=l at s1 hsp0 hsl
 have S1:=Lib.hid s1
 have hsp:=Lib.hid hsp0
 have HLA:=Lib.hid hla
 obtain⟨p1,q1,rfl,_⟩:=s1.form
 have hl6:l.length≤1048576:=by omega
 clear s1 hla hsp0 hsl
 go_wp2_with fail
 refine(runs_rows _ l _ (S1.out.ext (on_sub _ _)) hl6).mono ?_
 rintro e w2 ⟨v2,rs,rfl,hr,hrl,s2,hx2⟩
 have hx:=hx1.trans hx2
 have A0:=Lib.hid (s2.ext (full_on w2 (fun k=>k<w2.heap.size) fun k hk=>hk))
 obtain⟨p2,q2,rfl,hr1,hr2,hr3⟩:=s2.form
 have hfew:=hr.few
 rw [hrl]at hfew
 have HR:=Lib.hid hr
 have HL:=Lib.hid hrl
 replace HB:=Lib.hid (HB.out.ext hx.full)
 clear s2 hr hrl hx1 hx2 S1
 unfold maxLen at hr2
 go_wp2_with fail
 go_loopg [5,13] rs.length (fun gk out i wr=> ∃k:Nat,k≤rs.length∧gk=rs.length - k∧i = .int .i64 k∧OwnOf Rep.row wr (fun k=>k<w2.heap.size) w2.heap.size 58 out (surpA b [] (rs.take k).flatten)∧Below w2.heap.size w2 wr)
 case atStart=>exact⟨0,by omega,rfl,rfl,by simpa [surpA] using OwnOf.nil _ _ _ _ _,Below.refl _ _⟩
 case round =>
  obtain⟨k,hk,rfl,rfl,hown,hbw⟩:=hrel
  by_cases hlt:k<rs.length
  ·obtain⟨ba,oa,rfl⟩:=hr3 (by decide) (by omega)
   obtain⟨u,c1,s1⟩:=slice_at A0.out k hlt
   obtain⟨vs,h1,h2,h3⟩:=surp_step (b:=b) hsp.out HR.out HL.out k hlt
   replace c1:=(on_some.1 (below_sub hbw (fun _ h=>h) _ _ c1)).2
   have hle:(rs.take (k+1)).flatten.length≤l.length:=by rw [←HL.out];exact flatten_take_le rs (k+1)
   rw [flatten_take rs k hlt,List.length_append]at hle
   have hsl2:(surpA b [] (rs.take k).flatten).length≤(rs.take k).flatten.length:=surpA_len _ _ _
   generalize rs[k]=run at *
   obtain⟨pu,cu,rfl,hu1,hu2,hu3⟩:=s1.form
   have hpos:=List.length_pos_iff.2 h1
   obtain⟨bu,ou,rfl⟩:=hu3 (by decide) hpos
   obtain⟨x1,x2,d1,_,t1,_⟩:=row_at s1 0 hpos
   rw [h2 _ (List.getElem_mem _)]at t1
   simp only [Nat.zero_mul,Nat.add_zero]at d1
   replace d1:=(on_some.1 (below_sub hbw (fun _ h=>h) _ _ d1)).2
   have hsv:Sub (on w2 (fun k=>k<w2.heap.size)) wr.cell?:=(below_sub hbw (fun _ h=>h)).trans (on_sub _ _)
   obtain⟨px,qx,rfl,_⟩:=t1.form
   have T1:=Lib.hid (t1.ext hsv)
   have S1:=Lib.hid s1
   have H3:=Lib.hid h3
   have HO:=Lib.hid hown
   have hd:decide ((k:Int)<(rs.length:Int))=true:=by simp;omega
   have hd1:(k:Int)<(rs.length:Int):=by omega
   have hd2:(0:Int)<(run.length:Int):=by omega
   unfold maxLen at hu2
   clear t1 s1 h1 h2 h3 hown hsv
   go_wp2_with fail
   refine(multiplicity_rows _ _ b vs _ (HB.out.ext ((full_on w2 (fun k=>k<w2.heap.size) fun k hk=>hk).trans ((below_sub hbw (fun _ h=>h)).trans (on_sub _ _)))) T1.out).mono ?_
   rintro e w3 ⟨rfl,hx3⟩
   have HO3:=Lib.hid (HO.out.ext hx3)
   have hbw3:=Below.trans hbw (hx3.mono hbw.size)
   clear c1 d1 hx3 HO T1 hbw
   generalize mult vs b=m at H3
   by_cases hml:run.length≤m
   ·have hmi:min (m:Int) (run.length:Int)=(run.length:Int):=by omega
    have hdn:run.drop m = []:=List.drop_eq_nil_of_le hml
    have HDN:=Lib.hid hdn
    clear hdn
    by_cases hcu:run.length=cu
    ·subst hcu
     have hb1:(0:Int)≤(run.length:Int):=by omega
     have hb2:(run.length:Int)≤(run.length:Int):=by omega
     have hs3:SliceOf Rep.row (on w2 (fun k=>k<w2.heap.size)) (.slice (some ⟨bu,ou,none⟩) 0 0) (run.drop m):=by
      rw [HDN.out];exact⟨[],trivial,.inr ⟨_,0,rfl,Nat.le_refl _,by simp [maxLen],.inl rfl⟩⟩
     have S3:=Lib.hid (hs3.ext (old_avoid hbw3 HO3.out))
     have hl3:(surpA b [] (rs.take k).flatten).length+(run.drop m).length≤1048576:=by simp;omega
     have HL3:=Lib.hid hl3
     clear hs3 hl3 S1 hsl2 hle
     go_wp2_with (at_builtin;refine wpList_append_all Rep.row (fun k=>k<w2.heap.size) rfl _ _ 40 rfl w2.heap.size 58 i0 _ 48 Tryz.underlying40 hi hz0 hz1 hz2 rfl (by decide) _ (surpA b [] (rs.take k).flatten) rfl HO3.out _ (run.drop m) rfl S3.out ?c1 ?c2 ?c3 ?_)
     case c1=>have:=HL3.out;unfold maxLen;omega
     case c2=>have:=HL3.out;omega
     case c3=>exact hbw3.size
     intro v' w4 hown4 hgr _
     go_wp2_with fail
     go_roundg (rs.length - (k+1))
     case measure=>omega
     case rel=>exact⟨k+1,by omega,rfl,by go_num,by rw [H3.out];exact hown4,Below.grown hbw3 hgr hbw3.size (fun j hj=>(HO3.out.lt j hj).1)⟩
    ·have hcu2 : ¬(run.length:Int)=(cu:Int):=by omega
     have hb1:(0:Int)≤(run.length:Int):=by omega
     have hb2:(run.length:Int)≤(run.length:Int):=by omega
     have hs3:SliceOf Rep.row (on w2 (fun k=>k<w2.heap.size)) (.slice (some ⟨bu,ou+run.length*2,none⟩) 0 (cu - run.length)) (run.drop m):=by
      rw [HDN.out];have:=S1.out.dropV run.length (Nat.le_refl _);rwa [List.drop_length,Nat.sub_self]at this
     have S3:=Lib.hid (hs3.ext (old_avoid hbw3 HO3.out))
     have hl3:(surpA b [] (rs.take k).flatten).length+(run.drop m).length≤1048576:=by simp;omega
     have HL3:=Lib.hid hl3
     clear hs3 hl3 S1 hsl2 hle
     go_wp2_with (at_builtin;refine wpList_append_all Rep.row (fun k=>k<w2.heap.size) rfl _ _ 40 rfl w2.heap.size 58 i0 _ 48 Tryz.underlying40 hi hz0 hz1 hz2 rfl (by decide) _ (surpA b [] (rs.take k).flatten) rfl HO3.out _ (run.drop m) rfl S3.out ?c1 ?c2 ?c3 ?_)
     case c1=>have:=HL3.out;unfold maxLen;omega
     case c2=>have:=HL3.out;omega
     case c3=>exact hbw3.size
     intro v' w4 hown4 hgr _
     go_wp2_with fail
     go_roundg (rs.length - (k+1))
     case measure=>omega
     case rel=>exact⟨k+1,by omega,rfl,by go_num,by rw [H3.out];exact hown4,Below.grown hbw3 hgr hbw3.size (fun j hj=>(HO3.out.lt j hj).1)⟩
   ·have hmi:min (m:Int) (run.length:Int)=(m:Int):=by omega
    have hcu : ¬m=cu:=by omega
    have hcu2 : ¬(m:Int)=(cu:Int):=by omega
    have hb1:(0:Int)≤(m:Int):=by omega
    have hb2:(m:Int)≤(run.length:Int):=by omega
    have hs3:SliceOf Rep.row (on w2 (fun k=>k<w2.heap.size)) (.slice (some ⟨bu,ou+m*2,none⟩) (run.length - m) (cu - m)) (run.drop m):=by
     exact S1.out.dropV m (by omega)
    have S3:=Lib.hid (hs3.ext (old_avoid hbw3 HO3.out))
    have hl3:(surpA b [] (rs.take k).flatten).length+(run.drop m).length≤1048576:=by simp;omega
    have HL3:=Lib.hid hl3
    clear hs3 hl3 S1 hsl2 hle
    go_wp2_with (at_builtin;refine wpList_append_all Rep.row (fun k=>k<w2.heap.size) rfl _ _ 40 rfl w2.heap.size 58 i0 _ 48 Tryz.underlying40 hi hz0 hz1 hz2 rfl (by decide) _ (surpA b [] (rs.take k).flatten) rfl HO3.out _ (run.drop m) rfl S3.out ?c1 ?c2 ?c3 ?_)
    case c1=>have:=HL3.out;unfold maxLen;omega
    case c2=>have:=HL3.out;omega
    case c3=>exact hbw3.size
    intro v' w4 hown4 hgr _
    go_wp2_with fail
    go_roundg (rs.length - (k+1))
    case measure=>omega
    case rel=>exact⟨k+1,by omega,rfl,by go_num,by rw [H3.out];exact hown4,Below.grown hbw3 hgr hbw3.size (fun j hj=>(HO3.out.lt j hj).1)⟩
  ·have:k=rs.length:=by omega
   subst this
   rw [List.take_length,HL.out]at hown
   obtain⟨pf,qf,rfl,_⟩:=hown.slice.form
   have HO:=Lib.hid hown.slice
   clear hown
   go_wp2_with fail
   go_ret
   exact⟨_,rfl,by rw [HLA.out];exact HO.out,Ext.trans hx hbw⟩
theorem diff_rows (va vb:Value) (a b:List Row) (w:World) (ha:SliceOf Rep.row w.cell? va a) (hb:SliceOf Rep.row w.cell? vb b) (hf:fitRows a) (hf':fitRows b) :
  Calls Tryz.prog 33 #[va,vb] w fun e w'=> ∃v' u',e = .returned (.tuple #[v',u'])∧SliceOf Rep.row w'.cell? v' (surpA b [] (sortBy cmpRow a))∧SliceOf Rep.row w'.cell? u' (surpA a [] (sortBy cmpRow b))∧Ext w w':=by
 have HA:=Lib.hid ha
 have HB:=Lib.hid hb
 have HF:=Lib.hid hf
 have HF':=Lib.hid hf'
 obtain⟨pa,ca,rfl,_⟩:=ha.form
 obtain⟨pb,cb,rfl,_⟩:=hb.form
 clear ha hb hf hf'
 go_enter Tryz.func33,Tryz.ntmps33
 go_wp2_with fail
 refine(surplus_rows _ _ a b _ HA.out HB.out HF.out).mono ?_
 rintro e w1 ⟨v1,rfl,s1,hx1⟩
 have S1:=Lib.hid s1
 obtain⟨p1,q1,rfl,_⟩:=s1.form
 clear s1
 go_wp2_with fail
 refine(surplus_rows _ _ b a _ (HB.out.ext hx1.full) (HA.out.ext hx1.full) HF'.out).mono ?_
 rintro e w2 ⟨v2,rfl,s2,hx2⟩
 have S2:=Lib.hid s2
 obtain⟨p2,q2,rfl,_⟩:=s2.form
 clear s2
 go_wp2_with fail
 refine bodyPost_ret (v:= .tuple #[.slice p1 (surpA b [] (sortBy cmpRow a)).length q1,.slice p2 (surpA a [] (sortBy cmpRow b)).length q2]) (by simp [results,Tryz.results33,go_sem]) rfl ⟨_,_,rfl,S1.out.ext hx2.full,S2.out,hx1.trans hx2⟩
end Go.Proofs.YtombmdaohcjokaaGreatDoor
namespace Go.Proofs.YtombmdaohcjokaaGreatDoor
open Go.RowKit
theorem infoTup:(Tryz.prog.info? 125).map (fun i=>(i.zero,i.size,i.bytes))=some (some (.agg #[.slice none 0 0,.int .i64 0,.int .i64 0,.slice none 0 0]),Rep.tup.size,64):=by kernel_rfl
theorem num_at {w:View} {b o n cap:Nat} {xs:List Num5} (h:SliceOf Rep.num w (.slice (some ⟨b,o,none⟩) n cap) xs) (i:Nat) (hi:i<xs.length) :
  w ⟨b,o+i*5,none⟩=some (.int .u16 xs[i].a)∧w ⟨b,o+i*5+1,none⟩=some (.int .u16 xs[i].b)∧w ⟨b,o+i*5+2,none⟩=some (.int .u16 xs[i].c)∧w ⟨b,o+i*5+3,none⟩=some (.int .u16 xs[i].d)∧w ⟨b,o+i*5+4,none⟩=some (.int .u16 xs[i].e)∧okNum xs[i]:=by
 obtain⟨c,⟨rfl,h1⟩,h2⟩:=h.at i hi
 exact⟨h2 0 _ rfl,h2 1 _ rfl,h2 2 _ rfl,h2 3 _ rfl,h2 4 _ rfl,h1⟩
def genTups (l:List Num5) (most:Nat):List Tup:=(l.take most).map genTup
theorem genTups_len (l:List Num5) (most:Nat):(genTups l most).length≤most:=by simp [genTups];omega
set_option maxRecDepth 100000 in
set_option maxHeartbeats 4000000 in
theorem tuples_gen (v:Value) (l:List Num5) (most:Nat) (hmost:most≤1000) (w:World) (hv:SliceOf Rep.num w.cell? v l) :
  Calls Tryz.prog 37 #[v,.int .i64 most] w fun e w'=> ∃v',e = .returned v'∧SliceOf Rep.tup (on w' (since w)) v' (genTups l most)∧Ext w w':=by
 obtain⟨i0,hi,hz0,hz1,hz2⟩:=info_parts infoTup
 obtain⟨pa,ca,rfl,ha1,ha2,ha3⟩:=hv.form
 unfold maxLen at ha2
 go_enter Tryz.func37,Tryz.ntmps37
 go_wp2_with fail
 go_loopg [5,6] l.length (fun gk out i wr=> ∃k:Nat,k≤l.length∧k≤most∧gk=l.length - k∧i = .int .i64 k∧OwnOf Rep.tup wr (since w) w.heap.size 125 out (genTups l k)∧Ext w wr)
 case atStart=>exact⟨0,by omega,by omega,rfl,rfl,OwnOf.nil _ _ _ _ _,Ext.refl w⟩
 case round =>
  obtain⟨k,hk,hkm,rfl,rfl,hown,hx⟩:=hrel
  by_cases hlt:k<l.length∧k<most
  ·obtain⟨hlt,hlt2⟩:=hlt
   obtain⟨ba,oa,rfl⟩:=ha3 (by decide) (by omega)
   obtain⟨c1,c2,c3,c4,c5,hok⟩:=num_at hv k hlt
   have htk:genTups l (k+1)=genTups l k ++ [genTup l[k]]:=by unfold genTups;rw [List.take_succ_eq_append_getElem hlt,List.map_append];rfl
   have hlen:(genTups l k).length=k:=by simp [genTups];omega
   replace c1:=hx.at c1
   replace c2:=hx.at c2
   replace c3:=hx.at c3
   replace c4:=hx.at c4
   replace c5:=hx.at c5
   generalize l[k]=x at c1 c2 c3 c4 c5 hok htk
   have HT:=Lib.hid htk
   have HO:=Lib.hid hown
   have HOK:=Lib.hid hok
   have HLEN:=Lib.hid hlen
   have hd:decide ((k:Int)<(l.length:Int))=true:=by simp;omega
   have hd2:decide ((k:Int)<(most:Int))=true:=by simp;omega
   clear htk hown hok hlen hv ha3
   go_wp2_with fail
   refine(tuple_gen x _ HOK.out).mono ?_
   rintro e w2 ⟨a,b,rfl,t1,t2,hx2⟩
   obtain⟨a2,k2,rfl,_⟩:=t1.form
   obtain⟨b2,j2,rfl,_⟩:=t2.form
   have T1:=Lib.hid t1
   have T2:=Lib.hid t2
   have hz:=hx2.size
   have hw:=hx.size
   clear t1 t2 c1 c2 c3 c4 c5
   go_wp2_with (at_builtin;refine wpList_append_one Rep.tup (since w) rfl _ _ 85 rfl w.heap.size 125 i0 _ 64 Tryz.underlying85 hi hz0 hz1 hz2 rfl (by decide) _ (genTups l k) rfl ((HO.out.ext hx2).ext ((Ext.refl _).alloc _)) ⟨w2.heap.size,0,none⟩ 1 (genTup x) [.slice a2 (genTup x).vals.length k2,.int .i64 (genTup x).from_,.int .i64 (genTup x).to_,.slice b2 (genTup x).lin.length j2] rfl ?c1 ?c2 ?c3 ?c4 ?c5 ?_)
   case c1 =>
    have hlt2:=HO.out.lt
    have hs : ∀u:Value,(∀j,u.ownBlock=some j→j<wr.heap.size)→Sub (on w2 (fun j=>wr.heap.size≤j)) (on (w2.alloc (.cells #[.slice a2 (genTup x).vals.length k2,.int .i64 (genTup x).from_,.int .i64 (genTup x).to_,.slice b2 (genTup x).lin.length j2] 125)) (avoid (since w) u)):=fun u hu=>by
     refine(((Ext.refl w2).alloc _).sub _).trans (on_mono _ fun j _ hj=>⟨fun he=> ?_,?_⟩)
     ·have:=hu j he.symm
      omega
     ·simp only [since]
      omega
    have hg:=gen_per x.a x.b
    exact⟨_,_,rfl,T1.out.ext (hs _ fun j hj=>(hlt2 j hj).2),T2.out.ext (hs _ fun j hj=>(hlt2 j hj).2),by simp only [genTup];omega,by simp only [genTup];omega⟩
   case c2=>exact cells_new w2 [.slice a2 (genTup x).vals.length k2,.int .i64 (genTup x).from_,.int .i64 (genTup x).to_,.slice b2 (genTup x).lin.length j2] _
   case c3=>rw [HLEN.out];unfold maxLen;omega
   case c4=>rw [HLEN.out];omega
   case c5=>simp;omega
   intro g cap w3 hown3 hgr _
   go_wp2_with fail
   go_roundg (l.length - (k+1))
   case measure=>omega
   case rel =>
    refine⟨k+1,by omega,by omega,rfl,by go_num,by rw [HT.out];exact hown3,?_⟩
    exact Below.grown ((hx.trans hx2).alloc _) hgr (by simp;omega) (fun j hj=>(HO.out.lt j hj).1)
  ·have hd:(decide ((k:Int)<(l.length:Int))&&decide ((k:Int)<(most:Int)))=false:=by
    rw [Bool.and_eq_false_iff]
    simp only [decide_eq_false_iff_not]
    omega
   have hfull:genTups l k=genTups l most:=by
    unfold genTups
    by_cases h:k<l.length
    ·rw [show k=most by omega]
    ·rw [List.take_of_length_le (by omega),List.take_of_length_le (by omega)]
   have hend:(¬(k:Int)<(l.length:Int))∨((k:Int)<(l.length:Int)∧ ¬(k:Int)<(most:Int)):=by omega
   rw [hfull]at hown
   have hs:=hown.sliceIn (T:=since w) (fun _ _ h=>h) (fun _ h=>h)
   obtain⟨pf,qf,rfl,_⟩:=hs.form
   have HS:=Lib.hid hs
   clear hown hs hfull hd hv ha3
   rcases hend with hend | ⟨hd1,hend⟩
   ·have hd1:decide ((k:Int)<(l.length:Int))=false:=by simpa using hend
    go_wp2_with fail
    go_ret
    exact⟨_,rfl,HS.out,hx⟩
   ·have hd2:decide ((k:Int)<(most:Int))=false:=by simpa using hend
    go_wp2_with fail
    go_ret
    exact⟨_,rfl,HS.out,hx⟩
def rowOf (t:Tup):Row:=⟨t.vals,t.lin⟩
def genRows (l:List Num5) (most:Nat):List Row:=(genTups l most).map rowOf
theorem genRows_len (l:List Num5) (most:Nat):(genRows l most).length≤most:=by simpa [genRows] using genTups_len l most
set_option maxRecDepth 100000 in
set_option maxHeartbeats 4000000 in
theorem rows_gen (v:Value) (l:List Num5) (most:Nat) (hmost:most≤1000) (w:World) (hv:SliceOf Rep.num w.cell? v l) :
  Calls Tryz.prog 26 #[v,.int .i64 most] w fun e w'=> ∃v',e = .returned v'∧SliceOf Rep.row w'.cell? v' (genRows l most)∧Ext w w':=by
 obtain⟨i0,hi,hz0,hz1,hz2⟩:=info_parts infoRow
 have HV:=Lib.hid hv
 obtain⟨pa,ca,rfl,_⟩:=hv.form
 clear hv
 go_enter Tryz.func26,Tryz.ntmps26
 go_wp2_with fail
 refine(tuples_gen _ l most hmost _ HV.out).mono ?_
 rintro e w1 ⟨v1,rfl,s1,hx1⟩
 have hm:=genTups_len l most
 have hg:genRows l most=(genTups l most).map rowOf:=rfl
 generalize genTups l most=ts at s1 hm hg
 have HG:=Lib.hid hg
 have A0:=Lib.hid ((s1.ext (on_sub _ _)).ext (full_on w1 (fun k=>k<w1.heap.size) fun k hk=>hk))
 obtain⟨p1,q1,rfl,hr1,hr2,hr3⟩:=s1.form
 unfold maxLen at hr2
 clear s1 hg
 go_wp2_with fail
 go_loopg [5,12] ts.length (fun gk out i wr=> ∃k:Nat,k≤ts.length∧gk=ts.length - k∧i = .int .i64 k∧OwnOf Rep.row wr (fun k=>k<w1.heap.size) w1.heap.size 58 out ((ts.take k).map rowOf)∧Below w1.heap.size w1 wr)
 case atStart=>exact⟨0,by omega,rfl,rfl,OwnOf.nil _ _ _ _ _,Below.refl _ _⟩
 case round =>
  obtain⟨k,hk,rfl,rfl,hown,hbw⟩:=hrel
  by_cases hlt:k<ts.length
  ·obtain⟨ba,oa,rfl⟩:=hr3 (by decide) (by omega)
   obtain⟨u,v,c1,c2,c3,c4,s1,s2,_,_⟩:=tup_at A0.out k hlt
   have htk:(ts.take (k+1)).map rowOf=(ts.take k).map rowOf ++ [rowOf ts[k]]:=by rw [List.take_succ_eq_append_getElem hlt,List.map_append];rfl
   have hlen:((ts.take k).map rowOf).length=k:=by simp;omega
   replace c1:=(on_some.1 (below_sub hbw (fun _ h=>h) _ _ c1)).2
   replace c2:=(on_some.1 (below_sub hbw (fun _ h=>h) _ _ c2)).2
   replace c3:=(on_some.1 (below_sub hbw (fun _ h=>h) _ _ c3)).2
   replace c4:=(on_some.1 (below_sub hbw (fun _ h=>h) _ _ c4)).2
   generalize ts[k]=t at c1 c2 c3 c4 s1 s2 htk
   obtain⟨pu,cu,rfl,_⟩:=s1.form
   obtain⟨pv,cv,rfl,_⟩:=s2.form
   have S1:=Lib.hid s1
   have S2:=Lib.hid s2
   have HT:=Lib.hid htk
   have HO:=Lib.hid hown
   have HLEN:=Lib.hid hlen
   have hd:decide ((k:Int)<(ts.length:Int))=true:=by simp;omega
   have hbs:=hbw.size
   clear s1 s2 htk hown hlen hr3
   go_wp2_with (at_builtin;refine wpList_append_one Rep.row (fun k=>k<w1.heap.size) rfl _ _ 40 rfl w1.heap.size 58 i0 _ 48 Tryz.underlying40 hi hz0 hz1 hz2 rfl (by decide) _ ((ts.take k).map rowOf) rfl ((HO.out.ext ((Ext.refl _).alloc _)).ext ((Ext.refl _).alloc _)) ⟨_,0,none⟩ 1 (rowOf t) [.slice pu t.vals.length cu,.slice pv t.lin.length cv] rfl ?c1 ?c2 ?c3 ?c4 ?c5 ?_)
   case c1 =>
    have hs:=old_avoid (Below.trans hbw (((((Ext.refl wr).alloc (.cells #[.slice pu t.vals.length cu,.int .i64 t.from_,.int .i64 t.to_,.slice pv t.lin.length cv] 125)).alloc (.cells #[.slice pu t.vals.length cu,.slice pv t.lin.length cv] 58))).mono hbw.size)) ((HO.out.ext ((Ext.refl _).alloc _)).ext ((Ext.refl _).alloc _))
    exact⟨_,_,rfl,S1.out.ext hs,S2.out.ext hs⟩
   case c2=>first | exact cells_new _ [.slice pu t.vals.length cu,.slice pv t.lin.length cv] _ | simpa using cells_new (wr.alloc (.cells #[.slice pu t.vals.length cu,.int .i64 t.from_,.int .i64 t.to_,.slice pv t.lin.length cv] 125)) [.slice pu t.vals.length cu,.slice pv t.lin.length cv] 58
   case c3=>rw [HLEN.out];unfold maxLen;omega
   case c4=>rw [HLEN.out];omega
   case c5=>simp;omega
   intro g cap w3 hown3 hgr _
   go_wp2_with fail
   go_roundg (ts.length - (k+1))
   case measure=>omega
   case rel =>
    refine⟨k+1,by omega,rfl,by go_num,by rw [HT.out,List.map_take];exact hown3,?_⟩
    exact Below.grown (Below.trans hbw ((((Ext.refl wr).alloc _).alloc _).mono hbw.size)) hgr (by simp;omega) (fun j hj=>(HO.out.lt j hj).1)
  ·have:k=ts.length:=by omega
   subst this
   rw [List.take_of_length_le (Nat.le_refl _),←HG.out]at hown
   have hs:=hown.slice
   obtain⟨pf,qf,rfl,_⟩:=hs.form
   have HS:=Lib.hid hs
   clear hown hs hr3
   go_wp2_with fail
   go_ret
   exact⟨_,rfl,HS.out,Ext.trans hx1 hbw⟩
end Go.Proofs.YtombmdaohcjokaaGreatDoor
namespace Go.Proofs.YtombmdaohcjokaaGreatDoor
open Go.RowKit Go.Shelf Go.Sort
instance:Inhabited Ev:=⟨⟨false,0,0,0⟩⟩
def actEnc (x:Ev):List Value:= [.int .i64 x.idx,.int .i64 x.to_]
def okE (x:Ev):Prop:=x.idx≤1048576∧ -9223372036854775808≤x.to_∧x.to_≤9223372036854775807
def Rep.act:Rep Ev where
 size:=2
 holds _ cs x:=cs=actEnc x∧okE x
 len:=by rintro w cs x ⟨rfl,_⟩;rfl
 ext:=by rintro w w' cs x h _;exact h
 one:=by rintro w cs x ⟨rfl,_⟩;simp [actEnc,Value.oneCell']
theorem act_len (x:Ev):(actEnc x).length=2:=rfl
section
variable {α:Type} {R:Rep α} {enc:α→List Value} {ok:α→Prop}
variable [Inhabited α]
end
def ltAct (x y:Ev):Bool:=decide (x.to_<y.to_)
end Go.Proofs.YtombmdaohcjokaaGreatDoor
namespace Go.Proofs.YtombmdaohcjokaaGreatDoor
open Go.RowKit
end Go.Proofs.YtombmdaohcjokaaGreatDoor
namespace Go.Proofs.YtombmdaohcjokaaGreatDoor
open Go.RowKit
def binUpto (G:Int→List Row) (P:List Int):Nat→List Tup
 |0=> []
 |i+1=>binUpto G P i++(G P[i]!).map fun r=>tupOf r ⟨P[i]!,P[i+1]!⟩
noncomputable def refBin (g:List Row→List Row→List Row) (a b:List Tup):List Tup:=binUpto (fun x=>g (sortBy cmpRow (sliceRows a x)) (sortBy cmpRow (sliceRows b x))) (pts (a++b)) ((pts (a++b)).length - 1)
def GapT (Q:List Int) (y:Tup):Prop:=y.from_∈Q∧y.to_∈Q∧y.from_<y.to_∧ ∀q∈Q,q≤y.from_∨y.to_≤q
open Classical in
noncomputable def alignRow (tr:List Val→Bool) (B:List Tup) (x:Tup):List Tup:=((B.filter fun y=>decide (tupPer y=tupPer x)).map fun y=>tupOf (pairRow (tupRow x) (tupRow y)) (tupPer x)).filter fun z=>tr z.vals
noncomputable def alignRaw (tr:List Val→Bool) (A B:List Tup):List Tup:=A.flatMap (alignRow tr B)
end Go.Proofs.YtombmdaohcjokaaGreatDoor
namespace Go.Proofs.YtombmdaohcjokaaGreatDoor
open Go.RowKit
theorem OwnOf.lit {α:Type} {R:Rep α} (hR:R.flat) (w:World) (S:Nat→Prop) (cells:List Value) (T:TypeId) (css:List (List Value)) (xs:List α) (hc:css.flatten=cells) (h:RepAll R w.cell? css xs) (hl:xs.length≤maxLen) :
  OwnOf R (w.alloc (.cells cells.toArray T)) S w.heap.size T (.slice (some ⟨w.heap.size,0,none⟩) xs.length xs.length) xs:=by
 refine⟨css,h.flatView hR,?_⟩
 have:=World.ownsRow_lit (base:=w.heap.size) (e:=T) (size:=R.size) w cells.toArray xs.length (Nat.le_refl _) hl (by rw [List.size_toArray,←hc,h.flat])
 rw [hc]
 simpa using this
def pickI (k n:Int):Int:=if n≤0 then 0 else(k % n+n) % n
theorem pickI_nat {k n:Int} (hn:0<n):pickI k n=k % n:=by
 unfold pickI
 rw [if_neg (by omega),Int.add_emod_right,Int.emod_emod_of_dvd _ (Int.dvd_refl n)]
theorem pick_rng {k n:Int} (hn:0<n):0≤pickI k n∧pickI k n<n:=by
 rw [pickI_nat hn]
 exact⟨Int.emod_nonneg _ (by omega),Int.emod_lt_of_pos _ hn⟩
theorem pick_any (k n:Int) (w:World) (hk:0≤k) (hk2:k≤4294967295) (hn:0<n) (hn2:n≤1048576) :
  Calls Tryz.prog 68 #[.int .i64 k,.int .i64 n] w fun e w'=>e = .returned (.int .i64 (pickI k n))∧w=w':=by
 have h1:=pickI_nat (k:=k) hn
 have h2:=Int.emod_nonneg k (show n≠0 by omega)
 have h3:=Int.emod_lt_of_pos k hn
 have h4:(k % n+n) % n=k % n:=by rw [Int.add_emod_right,Int.emod_emod_of_dvd _ (Int.dvd_refl n)]
 rw [h1]
 have H4:=Lib.hid h4
 have hn0 : ¬n≤0:=by omega
 have hd:decide (n≤0)=false:=by simp;omega
 clear h1 h4
 go_enter Tryz.func68,Tryz.ntmps68
 go_wp2_with fail
 go_ret
 exact⟨rfl,rfl⟩
theorem kinds_own (S:Nat→Prop) (w:World):Calls Tryz.prog 35 #[] w fun e w'=> ∃g,e = .returned (.slice (some ⟨g,0,none⟩) 2 2)∧OwnOf Rep.int w' S w.heap.size 3 (.slice (some ⟨g,0,none⟩) 2 2) [1,2]∧Ext w w':=by
 go_enter Tryz.func35,Tryz.ntmps35
 go_wp2_with fail
 go_ret
 exact⟨_,rfl,OwnOf.lit flat_int w S [.int .i64 1,.int .i64 2] _ [[.int .i64 1],[.int .i64 2]] [1,2] rfl ⟨⟨rfl,by omega⟩,⟨rfl,by omega⟩,trivial⟩ (by simp [maxLen]),(Ext.refl w).alloc _⟩
end Go.Proofs.YtombmdaohcjokaaGreatDoor
namespace Go.Proofs.YtombmdaohcjokaaGreatDoor
open Go.RowKit
def inL (e:Int) (l:List Int):List Int:=l.filter fun p=>decide (0<p)&&decide (p<e)
def withinL (l:List Int) (e:Int):List Int:=0::inL e l ++ [e]
end Go.Proofs.YtombmdaohcjokaaGreatDoor
namespace Go.Proofs.YtombmdaohcjokaaGreatDoor
open Go.RowKit
noncomputable def refAggRaw (es:List ExprI) (keys:List Int) (aggs:List AggI) (l:List Tup):List Tup:=binUpto (fun x=>groupR es keys aggs (sortBy cmpRow (sliceRows l x))) (withinL (pts l) 1000000) ((withinL (pts l) 1000000).length - 1)
end Go.Proofs.YtombmdaohcjokaaGreatDoor
namespace Go.Proofs.YtombmdaohcjokaaGreatDoor
open Go.RowKit
set_option maxRecDepth 100000 in
set_option maxHeartbeats 4000000 in
theorem eval_any (v:Value) (es:List ExprI) (root:Int) (vv:Value) (vals:List Val) (w:World) (he:SliceOf Rep.expr w.cell? v es) (hl:es.length≤1000) (hv:SliceOf Rep.val w.cell? vv vals) :
  Calls Tryz.prog 125 #[v,.int .i64 root,vv] w fun e w'=>e = .returned (valV (evalE es root vals))∧Ext w w':=by
 by_cases h0:root<0
 ·have hy:evalE es root vals=nV:=by unfold evalE;rw [if_neg (by omega)]
  rw [hy]
  obtain⟨p,cap,rfl,_⟩:=he.form
  have hd0:decide (root<0)=true:=by simp;omega
  clear hy h0 he hv
  go_enter Tryz.func125,Tryz.ntmps125
  go_wp2_with fail
  go_step3
  go_wp2_with fail
  rw [Exit.noGoto_ret]
  exact bodyPost_ret (v:=valV nV) (by simp [results,Tryz.results125,go_sem,valV,nV];rfl) rfl ⟨rfl,(Ext.refl w).alloc _⟩
 ·by_cases h1:root<es.length
  ·obtain⟨r,rfl⟩ : ∃r:Nat,root=r:=⟨root.toNat,by omega⟩
   exact eval_in v es r vv vals w he (by omega) hl hv
  ·have hy:evalE es root vals=nV:=by unfold evalE;rw [if_neg (by omega)]
   rw [hy]
   obtain⟨p,cap,rfl,_⟩:=he.form
   have hd0:decide (root<0)=false:=by simp;omega
   have hd1:decide ((es.length:Int)≤root)=true:=by simp;omega
   clear hy h0 h1 he hv
   go_enter Tryz.func125,Tryz.ntmps125
   go_wp2_with fail
   go_step3
   go_wp2_with fail
   rw [Exit.noGoto_ret]
   exact bodyPost_ret (v:=valV nV) (by simp [results,Tryz.results125,go_sem,valV,nV];rfl) rfl ⟨rfl,(Ext.refl w).alloc _⟩
def trE (es:List ExprI) (pred:Int) (vals:List Val):Bool:=trueV (evalE es pred vals)
set_option maxRecDepth 100000 in
set_option maxHeartbeats 4000000 in
theorem isTrueE_any (v:Value) (es:List ExprI) (root:Int) (vv:Value) (vals:List Val) (w:World) (he:SliceOf Rep.expr w.cell? v es) (hl:es.length≤1000) (hv:SliceOf Rep.val w.cell? vv vals) :
  Calls Tryz.prog 94 #[v,.int .i64 root,vv] w fun e w'=>e = .returned (.bool (trE es root vals))∧Ext w w':=by
 have HE:=Lib.hid he
 have HV:=Lib.hid hv
 have HL:=Lib.hid hl
 unfold trE trueV
 obtain⟨y,hy⟩ : ∃y,y=evalE es root vals:=⟨_,rfl⟩
 rw [←hy]
 have HY:=Lib.hid hy
 obtain⟨yk,yn,ys⟩:=y
 dsimp only
 clear he hv hl hy
 obtain⟨pe,ce,hve,_⟩:=HE.out.form
 obtain⟨pv,cv,hvv,_⟩:=HV.out.form
 by_cases h:yk=3
 ·subst h
  have e:(yn==1)=decide (yn=1):=by rw [Bool.eq_iff_iff];simp
  have HQ:=Lib.hid e
  clear e
  have d:decide ((3:Int)=3)=true:=rfl
  rw [d,Bool.true_and]
  clear d hve hvv
  go_enter Tryz.func94,Tryz.ntmps94
  go_wp2_with fail
  refine(eval_any v es root vv vals _ HE.out HL.out HV.out).mono ?_
  rintro e w1 ⟨rfl,x1⟩
  rw [←HY.out]
  unfold valV
  dsimp only
  go_wp2_with fail
  go_ret
  exact⟨ret_bool HQ.out,x1.alloc _⟩
 ·have b:(yk==3)=false:=by simp [h]
  have d:decide (yk=3)=false:=decide_eq_false h
  rw [d,Bool.false_and]
  clear d h hve hvv
  go_enter Tryz.func94,Tryz.ntmps94
  go_wp2_with fail
  refine(eval_any v es root vv vals _ HE.out HL.out HV.out).mono ?_
  rintro e w1 ⟨rfl,x1⟩
  rw [←HY.out]
  unfold valV
  dsimp only
  go_wp2_with fail
  go_ret
  exact⟨rfl,x1.alloc _⟩
end Go.Proofs.YtombmdaohcjokaaGreatDoor
namespace Go.Proofs.YtombmdaohcjokaaGreatDoor
open Go.RowKit
end Go.Proofs.YtombmdaohcjokaaGreatDoor
namespace Go.Proofs.YtombmdaohcjokaaGreatDoor
open Go.RowKit
end Go.Proofs.YtombmdaohcjokaaGreatDoor
namespace Go.Proofs.YtombmdaohcjokaaGreatDoor
open Go.RowKit
end Go.Proofs.YtombmdaohcjokaaGreatDoor
namespace Go.Proofs.YtombmdaohcjokaaGreatDoor
open Go.RowKit
def V3 (w:World) (g o:Nat) (a:Val):Prop:=w.cell? ⟨g,o,none⟩=some (.int .i64 a.kind)∧w.cell? ⟨g,o+1,none⟩=some (.int .i64 a.n)∧w.cell? ⟨g,o+2,none⟩=some (.string a.s)
def ZR (w:World) (g:Nat):Prop:=w.cell? ⟨g,0,none⟩=some (.int .i64 0)∧w.cell? ⟨g,1,none⟩=some (.int .i64 0)∧w.cell? ⟨g,2,none⟩=some (.string ByteArray.empty)∧w.frozen? ⟨g,0,none⟩=false∧w.frozen? ⟨g,1,none⟩=false∧w.frozen? ⟨g,2,none⟩=false
end Go.Proofs.YtombmdaohcjokaaGreatDoor
namespace Go.Proofs.YtombmdaohcjokaaGreatDoor
open Go.RowKit
def refD (es:List ExprI) (row:List Val) (k M:Nat):List Val:=(List.range M).map fun j=>(evalAll es row k).getD j nV
end Go.Proofs.YtombmdaohcjokaaGreatDoor
namespace Go.Proofs.YtombmdaohcjokaaGreatDoor
open Go.RowKit
def refJ1 (tr:List Val→Bool) (W:Int) (B:List Row) (x:Row):List Row:=joinRow tr B x++if 0≤W then padOf W.toNat (joinRow tr B x) x else []
def refJ (tr:List Val→Bool) (W:Int) (A B:List Row):List Row:=A.flatMap (refJ1 tr W B)
theorem refJ_inner (tr:List Val→Bool) (A B:List Row):refJ tr (-1) A B=snapJoin tr A B:=by
 unfold refJ snapJoin
 refine flat_congr fun x _=> ?_
 unfold refJ1
 rw [if_neg (by decide),List.append_nil]
theorem refJ_left (tr:List Val→Bool) (W:Nat) (A B:List Row):refJ tr W A B=snapLeft tr W A B:=by
 unfold refJ snapLeft
 refine flat_congr fun x _=> ?_
 unfold refJ1
 rw [if_pos (by omega),Int.toNat_natCast]
theorem joinRow_take (tr:List Val→Bool) (B:List Row) (x:Row) (k:Nat) (h:k<B.length):joinRow tr (B.take (k+1)) x=joinRow tr (B.take k) x++if tr (x.vals++B[k].vals)=true then [pairRow x B[k]]else []:=by
 unfold joinRow
 rw [List.take_succ_eq_append_getElem h,List.map_append,List.filter_append,List.map_cons,List.map_nil,List.filter_cons,List.filter_nil]
 rfl
theorem joinRow_len (tr:List Val→Bool) (B:List Row) (x:Row):(joinRow tr B x).length≤B.length:=by
 unfold joinRow
 refine Nat.le_trans (List.length_filter_le _ _) ?_
 rw [List.length_map]
 exact Nat.le_refl _
theorem refJ1_len (tr:List Val→Bool) (W:Int) (B:List Row) (x:Row):(refJ1 tr W B x).length≤B.length+1:=by
 unfold refJ1
 rw [List.length_append]
 have h:=joinRow_len tr B x
 have h2:((if 0≤W then padOf W.toNat (joinRow tr B x) x else []):List Row).length≤1:=by
  split
  ·unfold padOf;split <;> simp
  ·simp
 omega
theorem refJ_take (tr:List Val→Bool) (W:Int) (A B:List Row) (k:Nat) (h:k<A.length):refJ tr W (A.take (k+1)) B=refJ tr W (A.take k) B++refJ1 tr W B A[k]:=by
 unfold refJ
 rw [List.take_succ_eq_append_getElem h,List.flatMap_append,List.flatMap_cons,List.flatMap_nil,List.append_nil]
theorem refJ_len (tr:List Val→Bool) (W:Int) (A B:List Row):(refJ tr W A B).length≤A.length*(B.length+1):=by
 unfold refJ
 induction A with
 |nil=>simp
 |cons x A ih =>
  rw [List.flatMap_cons,List.length_append,List.length_cons,Nat.succ_mul]
  have:=refJ1_len tr W B x
  omega
theorem refJ_split (tr:List Val→Bool) (W:Int) (A B:List Row) (k:Nat) (h:k<A.length) : ∃r,refJ tr W A B=refJ tr W (A.take k) B++refJ1 tr W B A[k]++r:=by
 refine⟨refJ tr W (A.drop (k+1)) B,?_⟩
 rw [←refJ_take tr W A B k h]
 unfold refJ
 rw [←List.flatMap_append,List.take_append_drop]
theorem joinRow_split (tr:List Val→Bool) (B:List Row) (x:Row) (k:Nat) : ∃r,joinRow tr B x=joinRow tr (B.take k) x++r:=by
 refine⟨joinRow tr (B.drop k) x,?_⟩
 unfold joinRow
 rw [←List.filter_append,←List.map_append,List.take_append_drop]
def WholeOr (most:Int) (full l:List Row):Prop:=((full.length:Int)≤most→l=full)∧(most<(full.length:Int)→most<(l.length:Int))
theorem whole_early (tr:List Val→Bool) (W most:Int) (A B:List Row) (k j:Nat) (hk:k<A.length) (hm:most<((refJ tr W (A.take k) B++joinRow tr (B.take j) A[k]).length:Int)):WholeOr most (refJ tr W A B) (refJ tr W (A.take k) B++joinRow tr (B.take j) A[k]):=by
 refine⟨fun h=> ?_,fun _=>hm⟩
 exfalso
 obtain⟨r,hr⟩:=refJ_split tr W A B k hk
 obtain⟨r2,hr2⟩:=joinRow_split tr B A[k] j
 have h2:(refJ tr W (A.take k) B++joinRow tr (B.take j) A[k]).length≤(refJ tr W A B).length:=by
  rw [hr]
  unfold refJ1
  rw [hr2]
  simp only [List.length_append]
  omega
 omega
def fitJ (l:List Row):Prop:= ∀r∈l,r.vals.length≤1000∧r.lin.length≤1000
theorem sub_newT {w1 w2:World} {T:Nat→Prop} {v:Value} (hT : ∀k,w1.heap.size≤k→T k) (hlt : ∀k,v.ownBlock=some k→k<w1.heap.size):Sub (on w2 (since w1)) (on w2 (avoid T v)) :=
 on_mono w2 fun k _ (hk:w1.heap.size≤k)=>⟨fun e=>by have:=hlt k e.symm;omega,hT k hk⟩
theorem old_allT {w w':World} {T:Nat→Prop} {v:Value} (hx:Ext w w') (hb : ∀k,v.ownBlock=some k→w.heap.size≤k):Sub (on w T) (on w' (avoid T v)):=fun p u e=>by
 obtain⟨h1,h2⟩:=on_some.1 e
 exact on_some.2 ⟨⟨fun he=>by have h3:=hb _ he.symm;have h4:=World.block_lt_of_cell? w p h2;omega,h1⟩,hx.at h2⟩
end Go.Proofs.YtombmdaohcjokaaGreatDoor
