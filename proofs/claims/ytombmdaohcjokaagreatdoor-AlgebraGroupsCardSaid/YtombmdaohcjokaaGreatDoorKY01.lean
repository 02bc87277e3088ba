/- joined texts of a proof: Kit, Rep, BagF, BagK, Step, GenA, PlainX, GenB, GenC, Open, PlainU, BagQ, BagR, BagX, GrpsP -/
import Derived.Test.YtombmdaohcjokaaGreatDoorKX01
import Derived.Test.YtombmdaohcjokaaGreatDoorKX02
import Derived.Test.YtombmdaohcjokaaGreatDoorKX03
import Derived.Test.YtombmdaohcjokaaGreatDoorKX04
import Derived.Test.YtombmdaohcjokaaGreatDoorKX05
import Derived.Test.YtombmdaohcjokaaGreatDoorKX06
import Derived.Test.YtombmdaohcjokaaGreatDoorKX07
import Derived.Test.YtombmdaohcjokaaGreatDoorKX08
import Derived.Test.YtombmdaohcjokaaGreatDoorKX09
import Derived.Test.YtombmdaohcjokaaGreatDoorKX10
import Derived.Test.YtombmdaohcjokaaGreatDoorKX11
import Derived.Test.YtombmdaohcjokaaGreatDoorKX12
import Derived.Test.YtombmdaohcjokaaGreatDoorKX13
import Derived.Test.YtombmdaohcjokaaGreatDoorKX14
import Derived.Test.YtombmdaohcjokaaGreatDoorKX15
import Derived.Test.YtombmdaohcjokaaGreatDoorKX16
import Derived.Test.YtombmdaohcjokaaGreatDoorKX17
import Derived.Test.YtombmdaohcjokaaGreatDoorKX18
import Derived.WalkKit
import Derived.WalkSpells
import Derived.WalkLawsBesides
import Derived.Deep.LoopGhost
import Derived.Lib.Hide
import Derived.Deep.Slices
import Derived.Deep.AppendLies
import Derived.Laws.AppendOwnNone
import Derived.Sort.Grow
import Derived.IntWalk
import Derived.Deep.RegionLaw
import Derived.ProofKit
import Derived.OpenShut
import Derived.Deep.Strs
import Derived.Lib.SmallJoins
namespace Go.Proofs.YtombmdaohcjokaaGreatDoor
open Go.RowKit
theorem cell_alloc {w:World} {p:Addr} {v:Value} (h:w.cell? p=some v) (o:Obj):(w.alloc o).cell? p=some v :=
 (Ext.alloc (Ext.refl w) o).at h
end Go.Proofs.YtombmdaohcjokaaGreatDoor
namespace Go.Proofs.YtombmdaohcjokaaGreatDoor
open Go.RowKit Go.Deep
theorem below_sub {w w':World} {B:Nat} (h:Below B w w') {S:Nat→Prop} (hS : ∀k,S k→k<B):Sub (on w S) (on w' S):=fun p v e=>by
 obtain⟨h1,h2⟩:=on_some.1 e
 exact on_some.2 ⟨h1,(h.cell (hS _ h1)).trans h2⟩
theorem full_on (w:World) (S:Nat→Prop) (h : ∀k,k<w.heap.size→S k):Sub w.cell? (on w S):=fun p _ e=>on_some.2 ⟨h _ (World.block_lt_of_cell? w p e),e⟩
section
variable {α:Type} {R:Rep α} {w w':View}
end
section
variable {P:Program} {w:World} {ops:Array Oper} {rest:List Oper} {o:Oper} {a:Act} {Q:Exit→Act→World→Prop}
end
section
variable {P:Program} {w:World} {ops:Array Oper} {rest:List Oper} {o:Oper} {a:Act} {Q:Exit→Act→World→Prop}
end
theorem tup_at {w:View} {b o n cap:Nat} {xs:List Tup} (h:SliceOf Rep.tup w (.slice (some ⟨b,o,none⟩) n cap) xs) (i:Nat) (hi:i<xs.length) :
  ∃u v,w ⟨b,o+i*4,none⟩=some u∧w ⟨b,o+i*4+1,none⟩=some (.int .i64 xs[i].from_)∧w ⟨b,o+i*4+2,none⟩=some (.int .i64 xs[i].to_)∧w ⟨b,o+i*4+3,none⟩=some v ∧
   SliceOf Rep.val w u xs[i].vals∧SliceOf Rep.int w v xs[i].lin∧(-9223372036854775808≤xs[i].from_∧xs[i].from_≤9223372036854775807)∧(-9223372036854775808≤xs[i].to_∧xs[i].to_≤9223372036854775807):=by
 obtain⟨c,⟨u,v,rfl,g1,g2,g3⟩,h2⟩:=h.at i hi
 exact⟨u,v,h2 0 _ rfl,h2 1 _ rfl,h2 2 _ rfl,h2 3 _ rfl,g1,g2,g3⟩
end Go.Proofs.YtombmdaohcjokaaGreatDoor
namespace Go.Proofs.YtombmdaohcjokaaGreatDoor
open Go.RowKit
theorem mult_take (vs:List Val) (l:List Row) (k:Nat) (h:k<l.length):mult vs (l.take (k+1))=mult vs (l.take k)+if cmpVals l[k].vals vs=0 then 1 else 0:=by
 unfold mult
 rw [List.take_succ_eq_append_getElem h,List.countP_append,List.countP_cons,List.countP_nil]
 simp
set_option maxHeartbeats 2000000 in
theorem multiplicity_rows (va vb:Value) (l:List Row) (vs:List Val) (w:World) (ha:SliceOf Rep.row w.cell? va l) (hb:SliceOf Rep.val w.cell? vb vs) :
  Calls Tryz.prog 31 #[va,vb] w fun e w'=>e = .returned (.int .i64 (mult vs l))∧Ext w w':=by
 have HB:=Lib.hid hb
 obtain⟨pa,ca,rfl,ha1,ha2,ha3⟩:=ha.form
 obtain⟨pb,cb,rfl,_⟩:=hb.form
 unfold maxLen at ha2
 clear hb
 go_enter Tryz.func31,Tryz.ntmps31
 go_wp2_with fail
 go_loopg [5,10] l.length (fun gk n i wr=> ∃k m:Nat,k≤l.length∧gk=l.length - k∧i = .int .i64 k∧n = .int .i64 m∧(m≤k∧mult vs (l.take k)=m)∧Ext w wr)
 case atStart=>exact⟨0,0,by omega,rfl,rfl,rfl,⟨by omega,rfl⟩,Ext.refl w⟩
 case round =>
  obtain⟨k,m,hk,rfl,rfl,rfl,⟨hmk,hm⟩,hx⟩:=hrel
  have HM:=Lib.hid hm
  clear hm
  by_cases hlt:k<l.length
  ·obtain⟨ba,oa,rfl⟩:=ha3 (by decide) (by omega)
   obtain⟨u1,u2,c1,c2,s1,s2⟩:=row_at ha k hlt
   have hdr:=mult_take vs l k hlt
   generalize l[k]=x at s1 s2 hdr
   replace c1:=hx.at c1
   replace c2:=hx.at c2
   replace s1:=s1.ext hx.full
   have HD:=Lib.hid hdr
   have S1:=Lib.hid s1
   obtain⟨p1,q1,rfl,_⟩:=s1.form
   obtain⟨p2,q2,rfl,_⟩:=s2.form
   have hd:decide ((k:Int)<(l.length:Int))=true:=by simp;omega
   have e1:=cell_lt c1
   clear s1 s2 hdr ha ha3
   go_wp2_with fail
   have hx0:=(Ext.refl wr).alloc (.cells #[.slice p1 x.vals.length q1,.slice p2 x.lin.length q2] 58)
   refine(compareRows_any _ _ x.vals vs _ (S1.out.ext hx0.full) ((HB.out.ext hx.full).ext hx0.full)).mono ?_
   rintro e w1 ⟨rfl,hx1⟩
   replace hx:=(hx.trans hx0).trans hx1.ext
   clear hx1 hx0 c1 c2 e1
   generalize hq:cmpVals x.vals vs=q
   have HQ:=Lib.hid hq
   clear hq
   by_cases hq0:q=0
   ·subst hq0
    go_wp2_with fail
    go_roundg (l.length - (k+1))
    case measure=>omega
    case rel=>exact⟨k+1,m+1,by omega,rfl,by go_num,by go_num,⟨by omega,by rw [HD.out,HQ.out,HM.out,if_pos rfl]⟩,hx⟩
   ·have hqb:(q==0)=false:=by simp [hq0]
    have HQ0:=Lib.hid hq0
    clear hq0
    go_wp2_with fail
    go_roundg (l.length - (k+1))
    case measure=>omega
    case rel=>exact⟨k+1,m,by omega,rfl,by go_num,rfl,⟨by omega,by rw [HD.out,HQ.out,HM.out,if_neg HQ0.out,Nat.add_zero]⟩,hx⟩
  ·have:k=l.length:=by omega
   subst this
   go_wp2_with fail
   go_ret
   exact⟨ret_int (by rw [←HM.out,List.take_length]),hx⟩
end Go.Proofs.YtombmdaohcjokaaGreatDoor
namespace Go.Proofs.YtombmdaohcjokaaGreatDoor
open Go.RowKit
theorem old_avoid {α:Type} {R:Rep α} {W w':World} {S:Nat→Prop} {e:TypeId} {v:Value} {xs:List α} (hb:Below W.heap.size W w') (hown:OwnOf R w' S W.heap.size e v xs) :
  Sub (on W (fun k=>k<W.heap.size)) (on w' (avoid (fun k=>k<W.heap.size) v)) :=
 (below_sub hb fun _ h=>h).trans (on_mono _ fun k _ hk=>⟨fun he=>by have:=(hown.lt k he.symm).1;omega,hk⟩)
end Go.Proofs.YtombmdaohcjokaaGreatDoor
namespace Go.Proofs.YtombmdaohcjokaaGreatDoor
open Go.RowKit
section
variable {P:Program} {w:World} {o:Oper} {a:Act} {K:Act→World→Prop} {Q:Exit→Act→World→Prop} {E:Prop}
end
theorem int_lone (h:View) (b:Nat) (x:Int) (hr : -9223372036854775808≤x∧x≤9223372036854775807) (h0:h ⟨b,0,none⟩=some (.int .i64 x)):SliceOf Rep.int h (.slice (some ⟨b,0,none⟩) 1 1) [x] :=
 ⟨[[.int .i64 x]],⟨⟨rfl,hr⟩,trivial⟩,.inr ⟨_,1,rfl,Nat.le_refl _,by simp [maxLen],.inr ⟨b,0,rfl,fun j u hj=>by
  match j,hj with
  |0,hj=>simp at hj;rw [←hj];exact h0⟩⟩⟩
end Go.Proofs.YtombmdaohcjokaaGreatDoor
namespace Go.Proofs.YtombmdaohcjokaaGreatDoor
open Go.RowKit
theorem gen_per (x y:Int):0≤genFrom x∧genFrom x<40∧genFrom x<genTo x y∧genTo x y≤1000000:=by
 unfold genFrom genTo
 split <;> omega
theorem period_gen (x y:Int) (w:World) (h0:0≤x) (h1:x≤65535) (h2:0≤y) (h3:y≤65535) :
  Calls Tryz.prog 122 #[.int .u16 x,.int .u16 y] w fun e w'=>e = .returned (.agg #[.int .i64 (genFrom x),.int .i64 (genTo x y)])∧Ext w w':=by
 by_cases h7:y % 11=0
 ·have hb:(y % 11==0)=true:=by simp [h7]
  have hv:genTo x y=1000000:=if_pos h7
  have HV:=Lib.hid hv
  clear h7 hv
  go_enter Tryz.func122,Tryz.ntmps122
  go_wp2_with fail
  exact bodyPost_ret (v:= .agg #[.int .i64 (genFrom x),.int .i64 (genTo x y)]) (by rw [HV.out];simp [results,Tryz.results122,go_sem,genFrom]) rfl ⟨rfl,((Ext.refl w).alloc _).alloc _⟩
 ·have hb:(y % 11==0)=false:=by simp [h7]
  have hv:genTo x y=x % 40+1+y % 15:=if_neg h7
  have HV:=Lib.hid hv
  clear h7 hv
  go_enter Tryz.func122,Tryz.ntmps122
  go_wp2_with fail
  exact bodyPost_ret (v:= .agg #[.int .i64 (genFrom x),.int .i64 (genTo x y)]) (by rw [HV.out];simp [results,Tryz.results122,go_sem,genFrom]) rfl ⟨rfl,((Ext.refl w).alloc _).alloc _⟩
end Go.Proofs.YtombmdaohcjokaaGreatDoor
namespace Go.Proofs.YtombmdaohcjokaaGreatDoor
open Go.RowKit
theorem evalE_col {es:List ExprI} {r:Nat} (h:r<es.length) (hop:es[r].op=2) (row:List Val):evalE es r row=colAt row es[r].col:=by
 rw [evalE_step es row r h]
 have ho:opsE es[r] = []:=by unfold opsE arityE;rw [hop];rfl
 unfold stepE legalE applyV
 rw [ho,hop]
 rfl
end Go.Proofs.YtombmdaohcjokaaGreatDoor
namespace Go.Proofs.YtombmdaohcjokaaGreatDoor
open Go.RowKit
theorem keepW4 {W wa:World} {B b:Nat} {u0 u1 u2 u3 v0 v1 v2 v3 v4:Value}
  (h:Ext W wa∧wa.cell? ⟨b,0,none⟩=some v0∧wa.cell? ⟨b,1,none⟩=some v1∧wa.cell? ⟨b,2,none⟩=some v2∧wa.cell? ⟨b,3,none⟩=some v3∧wa.cell? ⟨b,4,none⟩=some v4) (hB:W.heap.size≤B) (hb:B≠b) :
  Ext W ((((wa.setCell ⟨B,0,none⟩ u0).setCell ⟨B,1,none⟩ u1).setCell ⟨B,2,none⟩ u2).setCell ⟨B,3,none⟩ u3)∧((((wa.setCell ⟨B,0,none⟩ u0).setCell ⟨B,1,none⟩ u1).setCell ⟨B,2,none⟩ u2).setCell ⟨B,3,none⟩ u3).cell? ⟨b,0,none⟩=some v0∧((((wa.setCell ⟨B,0,none⟩ u0).setCell ⟨B,1,none⟩ u1).setCell ⟨B,2,none⟩ u2).setCell ⟨B,3,none⟩ u3).cell? ⟨b,1,none⟩=some v1∧((((wa.setCell ⟨B,0,none⟩ u0).setCell ⟨B,1,none⟩ u1).setCell ⟨B,2,none⟩ u2).setCell ⟨B,3,none⟩ u3).cell? ⟨b,2,none⟩=some v2∧((((wa.setCell ⟨B,0,none⟩ u0).setCell ⟨B,1,none⟩ u1).setCell ⟨B,2,none⟩ u2).setCell ⟨B,3,none⟩ u3).cell? ⟨b,3,none⟩=some v3∧((((wa.setCell ⟨B,0,none⟩ u0).setCell ⟨B,1,none⟩ u1).setCell ⟨B,2,none⟩ u2).setCell ⟨B,3,none⟩ u3).cell? ⟨b,4,none⟩=some v4 :=
 ⟨Below.setCell (Below.setCell (Below.setCell (Below.setCell h.1 hB u0) hB u1) hB u2) hB u3,cell_set (cell_set (cell_set (cell_set h.2.1 hb) hb) hb) hb,cell_set (cell_set (cell_set (cell_set h.2.2.1 hb) hb) hb) hb,cell_set (cell_set (cell_set (cell_set h.2.2.2.1 hb) hb) hb) hb,cell_set (cell_set (cell_set (cell_set h.2.2.2.2.1 hb) hb) hb) hb,cell_set (cell_set (cell_set (cell_set h.2.2.2.2.2 hb) hb) hb) hb⟩
theorem Free4.ext {w w':World} {B:Nat} (h:Free4 w B) (hx:Ext w w'):Free4 w' B:=by
 obtain⟨⟨a,ha⟩,⟨b,hb⟩,⟨c,hc⟩,⟨d,hd⟩,fa,fb,fc,fd⟩:=h
 exact⟨⟨a,hx.at ha⟩,⟨b,hx.at hb⟩,⟨c,hx.at hc⟩,⟨d,hx.at hd⟩,hx.unfrozen ha fa,hx.unfrozen hb fb,hx.unfrozen hc fc,hx.unfrozen hd fd⟩
theorem set4_read {wa:World} {B:Nat} (h:Free4 wa B) (u0 u1 u2 u3:Value) :
  ((((wa.setCell ⟨B,0,none⟩ u0).setCell ⟨B,1,none⟩ u1).setCell ⟨B,2,none⟩ u2).setCell ⟨B,3,none⟩ u3).cell? ⟨B,0,none⟩=some u0∧((((wa.setCell ⟨B,0,none⟩ u0).setCell ⟨B,1,none⟩ u1).setCell ⟨B,2,none⟩ u2).setCell ⟨B,3,none⟩ u3).cell? ⟨B,1,none⟩=some u1∧((((wa.setCell ⟨B,0,none⟩ u0).setCell ⟨B,1,none⟩ u1).setCell ⟨B,2,none⟩ u2).setCell ⟨B,3,none⟩ u3).cell? ⟨B,2,none⟩=some u2∧((((wa.setCell ⟨B,0,none⟩ u0).setCell ⟨B,1,none⟩ u1).setCell ⟨B,2,none⟩ u2).setCell ⟨B,3,none⟩ u3).cell? ⟨B,3,none⟩=some u3:=by
 obtain⟨⟨a,ha⟩,⟨b,hb⟩,⟨c,hc⟩,⟨d,hd⟩,_⟩:=h
 refine⟨?_,?_,?_,?_⟩ <;> go_simp
theorem alloc4_read {w:World} {B:Nat} {u0 u1 u2 u3:Value} (h:w.cell? ⟨B,0,none⟩=some u0∧w.cell? ⟨B,1,none⟩=some u1∧w.cell? ⟨B,2,none⟩=some u2∧w.cell? ⟨B,3,none⟩=some u3) (o:Obj) :
  (w.alloc o).cell? ⟨B,0,none⟩=some u0∧(w.alloc o).cell? ⟨B,1,none⟩=some u1∧(w.alloc o).cell? ⟨B,2,none⟩=some u2∧(w.alloc o).cell? ⟨B,3,none⟩=some u3 :=
 ⟨cell_alloc h.1 o,cell_alloc h.2.1 o,cell_alloc h.2.2.1 o,cell_alloc h.2.2.2 o⟩
theorem ret4 {P:Program} {fn:Func} {R:Ending→World→Prop} {a:Act} {wa:World} {B:Nat} {u0 u1 u2 u3:Value} (h:Free4 wa B)
 (hr:(((((wa.setCell ⟨B,0,none⟩ u0).setCell ⟨B,1,none⟩ u1).setCell ⟨B,2,none⟩ u2).setCell ⟨B,3,none⟩ u3).cell? ⟨B,0,none⟩=some u0∧((((wa.setCell ⟨B,0,none⟩ u0).setCell ⟨B,1,none⟩ u1).setCell ⟨B,2,none⟩ u2).setCell ⟨B,3,none⟩ u3).cell? ⟨B,1,none⟩=some u1∧((((wa.setCell ⟨B,0,none⟩ u0).setCell ⟨B,1,none⟩ u1).setCell ⟨B,2,none⟩ u2).setCell ⟨B,3,none⟩ u3).cell? ⟨B,2,none⟩=some u2∧((((wa.setCell ⟨B,0,none⟩ u0).setCell ⟨B,1,none⟩ u1).setCell ⟨B,2,none⟩ u2).setCell ⟨B,3,none⟩ u3).cell? ⟨B,3,none⟩=some u3)→(results fn a.tmps).run P ((((wa.setCell ⟨B,0,none⟩ u0).setCell ⟨B,1,none⟩ u1).setCell ⟨B,2,none⟩ u2).setCell ⟨B,3,none⟩ u3) = .ok (.agg #[u0,u1,u2,u3]) ((((wa.setCell ⟨B,0,none⟩ u0).setCell ⟨B,1,none⟩ u1).setCell ⟨B,2,none⟩ u2).setCell ⟨B,3,none⟩ u3)) (hd:a.defers = [])
 (hR:R (.returned (.agg #[u0,u1,u2,u3])) ((((wa.setCell ⟨B,0,none⟩ u0).setCell ⟨B,1,none⟩ u1).setCell ⟨B,2,none⟩ u2).setCell ⟨B,3,none⟩ u3)):bodyPost P fn R .ret a ((((wa.setCell ⟨B,0,none⟩ u0).setCell ⟨B,1,none⟩ u1).setCell ⟨B,2,none⟩ u2).setCell ⟨B,3,none⟩ u3):=bodyPost_ret (hr (set4_read h u0 u1 u2 u3)) hd hR
theorem ret4a {P:Program} {fn:Func} {R:Ending→World→Prop} {a:Act} {wa:World} {B:Nat} {u0 u1 u2 u3:Value} {o:Obj} (h:Free4 wa B)
 (hr:((((((wa.setCell ⟨B,0,none⟩ u0).setCell ⟨B,1,none⟩ u1).setCell ⟨B,2,none⟩ u2).setCell ⟨B,3,none⟩ u3).alloc o).cell? ⟨B,0,none⟩=some u0∧(((((wa.setCell ⟨B,0,none⟩ u0).setCell ⟨B,1,none⟩ u1).setCell ⟨B,2,none⟩ u2).setCell ⟨B,3,none⟩ u3).alloc o).cell? ⟨B,1,none⟩=some u1∧(((((wa.setCell ⟨B,0,none⟩ u0).setCell ⟨B,1,none⟩ u1).setCell ⟨B,2,none⟩ u2).setCell ⟨B,3,none⟩ u3).alloc o).cell? ⟨B,2,none⟩=some u2∧(((((wa.setCell ⟨B,0,none⟩ u0).setCell ⟨B,1,none⟩ u1).setCell ⟨B,2,none⟩ u2).setCell ⟨B,3,none⟩ u3).alloc o).cell? ⟨B,3,none⟩=some u3)→(results fn a.tmps).run P (((((wa.setCell ⟨B,0,none⟩ u0).setCell ⟨B,1,none⟩ u1).setCell ⟨B,2,none⟩ u2).setCell ⟨B,3,none⟩ u3).alloc o) = .ok (.agg #[u0,u1,u2,u3]) (((((wa.setCell ⟨B,0,none⟩ u0).setCell ⟨B,1,none⟩ u1).setCell ⟨B,2,none⟩ u2).setCell ⟨B,3,none⟩ u3).alloc o)) (hd:a.defers = [])
 (hR:R (.returned (.agg #[u0,u1,u2,u3])) (((((wa.setCell ⟨B,0,none⟩ u0).setCell ⟨B,1,none⟩ u1).setCell ⟨B,2,none⟩ u2).setCell ⟨B,3,none⟩ u3).alloc o)):bodyPost P fn R .ret a (((((wa.setCell ⟨B,0,none⟩ u0).setCell ⟨B,1,none⟩ u1).setCell ⟨B,2,none⟩ u2).setCell ⟨B,3,none⟩ u3).alloc o):=bodyPost_ret (hr (alloc4_read (set4_read h u0 u1 u2 u3) o)) hd hR
theorem sub4 (wa:World) {B:Nat} (u0 u1 u2 u3:Value) {S:Nat→Prop} (hB : ¬S B):Sub (on wa S) (on ((((wa.setCell ⟨B,0,none⟩ u0).setCell ⟨B,1,none⟩ u1).setCell ⟨B,2,none⟩ u2).setCell ⟨B,3,none⟩ u3) S) :=
 (((set_sub wa _ u0 hB).trans (set_sub _ _ u1 hB)).trans (set_sub _ _ u2 hB)).trans (set_sub _ _ u3 hB)
theorem vals_end {w w2 w3:World} {B:Nat} {u0 u1 u2 u3 v:Value} {T:Nat→Prop} {xs:List Val} (s2:SliceOf Rep.val (on w2 T) v xs) (hT : ∀k,k<w2.heap.size→T k→B<k) (hB:w.heap.size≤B) (hx:Ext w2 w3) :
  SliceOf Rep.val (on ((((w3.setCell ⟨B,0,none⟩ u0).setCell ⟨B,1,none⟩ u1).setCell ⟨B,2,none⟩ u2).setCell ⟨B,3,none⟩ u3) (fun j=>w.heap.size≤j)) v xs :=
 s2.ext (((on_mono w2 (T:=fun k=>B<k) hT).trans (hx.sub _)).trans ((sub4 w3 u0 u1 u2 u3 (Nat.lt_irrefl B)).trans (on_mono _ fun k _ (hk:B<k)=>Nat.le_trans hB (Nat.le_of_lt hk))))
theorem vals_enda {w w2 w3:World} {B:Nat} {u0 u1 u2 u3 v:Value} {T:Nat→Prop} {xs:List Val} {o:Obj} (s2:SliceOf Rep.val (on w2 T) v xs) (hT : ∀k,k<w2.heap.size→T k→B<k) (hB:w.heap.size≤B) (hx:Ext w2 w3) :
  SliceOf Rep.val (on (((((w3.setCell ⟨B,0,none⟩ u0).setCell ⟨B,1,none⟩ u1).setCell ⟨B,2,none⟩ u2).setCell ⟨B,3,none⟩ u3).alloc o) (fun j=>w.heap.size≤j)) v xs :=
 (vals_end (u0:=u0) (u1:=u1) (u2:=u2) (u3:=u3) s2 hT hB hx).ext (((Ext.refl _).alloc o).sub _)
theorem lin_end {w w3:World} {B b:Nat} {u0 u1 u2 u3:Value} {x:Int} (hr : -9223372036854775808≤x∧x≤9223372036854775807) (hb:w.heap.size≤b) (hne:B≠b) (hc:w3.cell? ⟨b,0,none⟩=some (.int .i64 x)) :
  SliceOf Rep.int (on ((((w3.setCell ⟨B,0,none⟩ u0).setCell ⟨B,1,none⟩ u1).setCell ⟨B,2,none⟩ u2).setCell ⟨B,3,none⟩ u3) (fun j=>w.heap.size≤j)) (.slice (some ⟨b,0,none⟩) 1 1) [x] :=
 int_lone _ _ _ hr (on_some.2 ⟨hb,cell_set (cell_set (cell_set (cell_set hc hne) hne) hne) hne⟩)
theorem lin_enda {w w3:World} {B:Nat} {u0 u1 u2 u3:Value} {x:Int} {T:TypeId} (hr : -9223372036854775808≤x∧x≤9223372036854775807) (hb:w.heap.size≤w3.heap.size) :
  SliceOf Rep.int (on (((((w3.setCell ⟨B,0,none⟩ u0).setCell ⟨B,1,none⟩ u1).setCell ⟨B,2,none⟩ u2).setCell ⟨B,3,none⟩ u3).alloc (.cells #[.int .i64 x] T)) (fun j=>w.heap.size≤j)) (.slice (some ⟨w3.heap.size,0,none⟩) 1 1) [x]:=by
 have h:=cells_new ((((w3.setCell ⟨B,0,none⟩ u0).setCell ⟨B,1,none⟩ u1).setCell ⟨B,2,none⟩ u2).setCell ⟨B,3,none⟩ u3) [.int .i64 x] T 0 _ rfl
 rw [show (((((w3.setCell ⟨B,0,none⟩ u0).setCell ⟨B,1,none⟩ u1).setCell ⟨B,2,none⟩ u2).setCell ⟨B,3,none⟩ u3).heap.size)=w3.heap.size by simp]at h
 exact int_lone _ _ _ hr (on_some.2 ⟨hb,h⟩)
set_option maxRecDepth 100000 in
set_option maxHeartbeats 4000000 in
theorem tuple_gen (x:Num5) (w:World) (h:okNum x) :
  Calls Tryz.prog 76 #[.agg #[.int .u16 x.a,.int .u16 x.b,.int .u16 x.c,.int .u16 x.d,.int .u16 x.e]] w fun e w'=> ∃a b,e = .returned (.agg #[a,.int .i64 (genTup x).from_,.int .i64 (genTup x).to_,b])∧SliceOf Rep.val (on w' (fun j=>w.heap.size≤j)) a (genTup x).vals∧SliceOf Rep.int (on w' (fun j=>w.heap.size≤j)) b (genTup x).lin∧Ext w w':=by
 obtain⟨⟨a0,a1⟩,⟨b0,b1⟩,⟨c0,c1⟩,⟨d0,d1⟩,e0,e1⟩:=h
 obtain⟨xa,xb,xc,xd,xe⟩:=x
 dsimp only [genTup]at *
 go_enter Tryz.func76,Tryz.ntmps76
 go_wp2_with fail
 have k0:((w.alloc (.cells #[.int .u16 xa,.int .u16 xb,.int .u16 xc,.int .u16 xd,.int .u16 xe] 121)).alloc (.cells #[.slice none 0 0,.int .i64 0,.int .i64 0,.slice none 0 0] 125)).cell? ⟨w.heap.size,0,none⟩=some (.int .u16 xa):=by go_simp
 have k1:((w.alloc (.cells #[.int .u16 xa,.int .u16 xb,.int .u16 xc,.int .u16 xd,.int .u16 xe] 121)).alloc (.cells #[.slice none 0 0,.int .i64 0,.int .i64 0,.slice none 0 0] 125)).cell? ⟨w.heap.size,1,none⟩=some (.int .u16 xb):=by go_simp
 have k2:((w.alloc (.cells #[.int .u16 xa,.int .u16 xb,.int .u16 xc,.int .u16 xd,.int .u16 xe] 121)).alloc (.cells #[.slice none 0 0,.int .i64 0,.int .i64 0,.slice none 0 0] 125)).cell? ⟨w.heap.size,2,none⟩=some (.int .u16 xc):=by go_simp
 have k3:((w.alloc (.cells #[.int .u16 xa,.int .u16 xb,.int .u16 xc,.int .u16 xd,.int .u16 xe] 121)).alloc (.cells #[.slice none 0 0,.int .i64 0,.int .i64 0,.slice none 0 0] 125)).cell? ⟨w.heap.size,3,none⟩=some (.int .u16 xd):=by go_simp
 have k4:((w.alloc (.cells #[.int .u16 xa,.int .u16 xb,.int .u16 xc,.int .u16 xd,.int .u16 xe] 121)).alloc (.cells #[.slice none 0 0,.int .i64 0,.int .i64 0,.slice none 0 0] 125)).cell? ⟨w.heap.size,4,none⟩=some (.int .u16 xe):=by go_simp
 have g0:((w.alloc (.cells #[.int .u16 xa,.int .u16 xb,.int .u16 xc,.int .u16 xd,.int .u16 xe] 121)).alloc (.cells #[.slice none 0 0,.int .i64 0,.int .i64 0,.slice none 0 0] 125)).cell? ⟨w.heap.size+1,0,none⟩=some (.slice none 0 0):=by go_simp
 have f0:((w.alloc (.cells #[.int .u16 xa,.int .u16 xb,.int .u16 xc,.int .u16 xd,.int .u16 xe] 121)).alloc (.cells #[.slice none 0 0,.int .i64 0,.int .i64 0,.slice none 0 0] 125)).frozen? ⟨w.heap.size+1,0,none⟩=false:=by go_simp
 have g1:((w.alloc (.cells #[.int .u16 xa,.int .u16 xb,.int .u16 xc,.int .u16 xd,.int .u16 xe] 121)).alloc (.cells #[.slice none 0 0,.int .i64 0,.int .i64 0,.slice none 0 0] 125)).cell? ⟨w.heap.size+1,1,none⟩=some (.int .i64 0):=by go_simp
 have f1:((w.alloc (.cells #[.int .u16 xa,.int .u16 xb,.int .u16 xc,.int .u16 xd,.int .u16 xe] 121)).alloc (.cells #[.slice none 0 0,.int .i64 0,.int .i64 0,.slice none 0 0] 125)).frozen? ⟨w.heap.size+1,1,none⟩=false:=by go_simp
 have g2:((w.alloc (.cells #[.int .u16 xa,.int .u16 xb,.int .u16 xc,.int .u16 xd,.int .u16 xe] 121)).alloc (.cells #[.slice none 0 0,.int .i64 0,.int .i64 0,.slice none 0 0] 125)).cell? ⟨w.heap.size+1,2,none⟩=some (.int .i64 0):=by go_simp
 have f2:((w.alloc (.cells #[.int .u16 xa,.int .u16 xb,.int .u16 xc,.int .u16 xd,.int .u16 xe] 121)).alloc (.cells #[.slice none 0 0,.int .i64 0,.int .i64 0,.slice none 0 0] 125)).frozen? ⟨w.heap.size+1,2,none⟩=false:=by go_simp
 have g3:((w.alloc (.cells #[.int .u16 xa,.int .u16 xb,.int .u16 xc,.int .u16 xd,.int .u16 xe] 121)).alloc (.cells #[.slice none 0 0,.int .i64 0,.int .i64 0,.slice none 0 0] 125)).cell? ⟨w.heap.size+1,3,none⟩=some (.slice none 0 0):=by go_simp
 have f3:((w.alloc (.cells #[.int .u16 xa,.int .u16 xb,.int .u16 xc,.int .u16 xd,.int .u16 xe] 121)).alloc (.cells #[.slice none 0 0,.int .i64 0,.int .i64 0,.slice none 0 0] 125)).frozen? ⟨w.heap.size+1,3,none⟩=false:=by go_simp
 have hxx:Ext w ((w.alloc (.cells #[.int .u16 xa,.int .u16 xb,.int .u16 xc,.int .u16 xd,.int .u16 xe] 121)).alloc (.cells #[.slice none 0 0,.int .i64 0,.int .i64 0,.slice none 0 0] 125)):=((Ext.refl w).alloc _).alloc _
 generalize ((w.alloc (.cells #[.int .u16 xa,.int .u16 xb,.int .u16 xc,.int .u16 xd,.int .u16 xe] 121)).alloc (.cells #[.slice none 0 0,.int .i64 0,.int .i64 0,.slice none 0 0] 125))=W1 at k0 k1 k2 k3 k4 g0 g1 g2 g3 f0 f1 f2 f3 hxx ⊢
 have hF0:Free4 W1 (w.heap.size+1):=⟨⟨_,g0⟩,⟨_,g1⟩,⟨_,g2⟩,⟨_,g3⟩,f0,f1,f2,f3⟩
 have hF1:Free4 W1.drew (w.heap.size+1):=Free4.ext hF0 (Ext.refl W1).drew
 have hz1:=cell_lt g0
 clear g0 g1 g2 g3 f0 f1 f2 f3
 have e2:xe.tmod 5=xe % 5:=Int.tmod_eq_emod_of_nonneg e0
 have e3:IntKind.i64.wrap (xe % 5)=xe % 5:=IntWalk.i64_in _ (by omega)
 have e4:IntKind.i64.wrap (1+xe % 5)=1+xe % 5:=IntWalk.i64_in _ (by omega)
 have hS0:Ext w W1.drew∧W1.drew.cell? ⟨w.heap.size,0,none⟩=some (.int .u16 xa)∧W1.drew.cell? ⟨w.heap.size,1,none⟩=some (.int .u16 xb)∧W1.drew.cell? ⟨w.heap.size,2,none⟩=some (.int .u16 xc)∧W1.drew.cell? ⟨w.heap.size,3,none⟩=some (.int .u16 xd)∧W1.drew.cell? ⟨w.heap.size,4,none⟩=some (.int .u16 xe):=⟨hxx.drew,k0,k1,k2,k3,k4⟩
 go_region_held3 (fun w'=>Ext w w'∧w'.cell? ⟨w.heap.size,0,none⟩=some (.int .u16 xa)∧w'.cell? ⟨w.heap.size,1,none⟩=some (.int .u16 xb)∧w'.cell? ⟨w.heap.size,2,none⟩=some (.int .u16 xc)∧w'.cell? ⟨w.heap.size,3,none⟩=some (.int .u16 xd)∧w'.cell? ⟨w.heap.size,4,none⟩=some (.int .u16 xe))
  (first |with_reducible assumption | with_reducible exact keepE5 (by assumption) hx2 | with_reducible exact keepE5 (by assumption) hx3 | with_reducible exact keepE5 (by assumption) ((Ext.refl _).alloc _) | with_reducible exact keepW4 (by assumption) (Nat.le_succ _) (Nat.succ_ne_self _) | with_reducible exact keepE5 (keepW4 (by assumption) (Nat.le_succ _) (Nat.succ_ne_self _)) ((Ext.refl _).alloc _))
  (first |(go_at_call 49;refine(vals_gen xc xd _ c0 c1 d0 d1).mono ?_;rintro e w2 ⟨v2,rfl,s2,hx2⟩;obtain⟨p2,q2,rfl,_⟩:=s2.form;have hS2:Ext w w2∧w2.cell? ⟨w.heap.size,0,none⟩=some (.int .u16 xa)∧w2.cell? ⟨w.heap.size,1,none⟩=some (.int .u16 xb)∧w2.cell? ⟨w.heap.size,2,none⟩=some (.int .u16 xc)∧w2.cell? ⟨w.heap.size,3,none⟩=some (.int .u16 xd)∧w2.cell? ⟨w.heap.size,4,none⟩=some (.int .u16 xe):=(by with_reducible exact keepE5 (by assumption) hx2);have hF2:Free4 w2 (w.heap.size+1):=(by first | exact Free4.ext (by assumption) hx2 | exact Free4.ext (by assumption) (((Ext.refl _).alloc _).trans hx2) | exact Free4.ext hF0 ((((Ext.refl W1).alloc _).drew).trans hx2));obtain⟨⟨m20,y20⟩,⟨m21,y21⟩,⟨m22,y22⟩,⟨m23,y23⟩,y24,y25,y26,y27⟩:=id hF2;have z2:=cell_lt y20) | (go_at_call 122;refine(period_gen xa xb _ a0 a1 b0 b1).mono ?_;rintro e w3 ⟨rfl,hx3⟩;have hS3:Ext w w3∧w3.cell? ⟨w.heap.size,0,none⟩=some (.int .u16 xa)∧w3.cell? ⟨w.heap.size,1,none⟩=some (.int .u16 xb)∧w3.cell? ⟨w.heap.size,2,none⟩=some (.int .u16 xc)∧w3.cell? ⟨w.heap.size,3,none⟩=some (.int .u16 xd)∧w3.cell? ⟨w.heap.size,4,none⟩=some (.int .u16 xe):=(by with_reducible exact keepE5 (by assumption) hx3);have hF3:Free4 w3 (w.heap.size+1):=(by first | exact Free4.ext (by assumption) hx3 | exact Free4.ext (by assumption) (((Ext.refl _).alloc _).trans hx3) | exact Free4.ext hF0 ((((Ext.refl W1).alloc _).drew).trans hx3));obtain⟨⟨m30,y30⟩,⟨m31,y31⟩,⟨m32,y32⟩,⟨m33,y33⟩,y34,y35,y36,y37⟩:=id hF3;have z3:=cell_lt y30))
 all_goals
  have hfin:=And.left ‹Ext w (_:World)∧_›
  clear hS0
  go_wp2_with fail
  have hr : -9223372036854775808≤1+xe % 5∧1+xe % 5≤9223372036854775807:=by omega
 ·with_reducible refine ret4a hF3 ?_ ?_ ?_
  ·intro j
   simp [results,Tryz.results76,go_sem,j]
  ·rfl
  exact⟨_,_,rfl,vals_enda s2 (fun k _ hk=>by simp at hk;omega) (by omega) hx3,lin_enda hr (by omega),hfin⟩
 ·with_reducible refine ret4 hF3 ?_ ?_ ?_
  ·intro j
   simp [results,Tryz.results76,go_sem,j]
  ·rfl
  exact⟨_,_,rfl,vals_end s2 (fun k _ hk=>by simp at hk;omega) (by omega) (((Ext.refl w2).alloc _).trans hx3),lin_end hr (by omega) (by omega) (hx3.at (cells_new w2 [.int .i64 (1+xe % 5)] 3 0 _ rfl)),hfin⟩
 ·with_reducible refine ret4 hF3 ?_ ?_ ?_
  ·intro j
   simp [results,Tryz.results76,go_sem,j]
  ·rfl
  exact⟨_,_,rfl,vals_end s2 (fun k _ hk=>by simp at hk;omega) (by omega) hx3,lin_end hr (by omega) (by omega) (hx3.at (hx2.at ((Ext.refl _).drew.at (cells_new W1 [.int .i64 (1+xe % 5)] 3 0 _ rfl)))),hfin⟩
end Go.Proofs.YtombmdaohcjokaaGreatDoor
namespace Go.Proofs.YtombmdaohcjokaaGreatDoor
open Go.RowKit
theorem infoTup:(Tryz.prog.info? 125).map (fun i=>(i.zero,i.size,i.bytes))=some (some (.agg #[.slice none 0 0,.int .i64 0,.int .i64 0,.slice none 0 0]),Rep.tup.size,64):=by kernel_rfl
theorem num_at {w:View} {b o n cap:Nat} {xs:List Num5} (h:SliceOf Rep.num w (.slice (some ⟨b,o,none⟩) n cap) xs) (i:Nat) (hi:i<xs.length) :
  w ⟨b,o+i*5,none⟩=some (.int .u16 xs[i].a)∧w ⟨b,o+i*5+1,none⟩=some (.int .u16 xs[i].b)∧w ⟨b,o+i*5+2,none⟩=some (.int .u16 xs[i].c)∧w ⟨b,o+i*5+3,none⟩=some (.int .u16 xs[i].d)∧w ⟨b,o+i*5+4,none⟩=some (.int .u16 xs[i].e)∧okNum xs[i]:=by
 obtain⟨c,⟨rfl,h1⟩,h2⟩:=h.at i hi
 exact⟨h2 0 _ rfl,h2 1 _ rfl,h2 2 _ rfl,h2 3 _ rfl,h2 4 _ rfl,h1⟩
theorem genTups_len (l:List Num5) (most:Nat):(genTups l most).length≤most:=by simp [genTups];omega
set_option maxRecDepth 100000 in
set_option maxHeartbeats 4000000 in
theorem tuples_gen (v:Value) (l:List Num5) (most:Nat) (hmost:most≤1000) (w:World) (hv:SliceOf Rep.num w.cell? v l) :
  Calls Tryz.prog 37 #[v,.int .i64 most] w fun e w'=> ∃v',e = .returned v'∧SliceOf Rep.tup (on w' (since w)) v' (genTups l most)∧Ext w w':=by
 obtain⟨i0,hi,hz0,hz1,hz2⟩:=info_parts infoTup
 obtain⟨pa,ca,rfl,ha1,ha2,ha3⟩:=hv.form
 unfold maxLen at ha2
 go_enter Tryz.func37,Tryz.ntmps37
 go_wp2_with fail
 go_loopg [5,6] l.length (fun gk out i wr=> ∃k:Nat,k≤l.length∧k≤most∧gk=l.length - k∧i = .int .i64 k∧OwnOf Rep.tup wr (since w) w.heap.size 125 out (genTups l k)∧Ext w wr)
 case atStart=>exact⟨0,by omega,by omega,rfl,rfl,OwnOf.nil _ _ _ _ _,Ext.refl w⟩
 case round =>
  obtain⟨k,hk,hkm,rfl,rfl,hown,hx⟩:=hrel
  by_cases hlt:k<l.length∧k<most
  ·obtain⟨hlt,hlt2⟩:=hlt
   obtain⟨ba,oa,rfl⟩:=ha3 (by decide) (by omega)
   obtain⟨c1,c2,c3,c4,c5,hok⟩:=num_at hv k hlt
   have htk:genTups l (k+1)=genTups l k ++ [genTup l[k]]:=by unfold genTups;rw [List.take_succ_eq_append_getElem hlt,List.map_append];rfl
   have hlen:(genTups l k).length=k:=by simp [genTups];omega
   replace c1:=hx.at c1
   replace c2:=hx.at c2
   replace c3:=hx.at c3
   replace c4:=hx.at c4
   replace c5:=hx.at c5
   generalize l[k]=x at c1 c2 c3 c4 c5 hok htk
   have HT:=Lib.hid htk
   have HO:=Lib.hid hown
   have HOK:=Lib.hid hok
   have HLEN:=Lib.hid hlen
   have hd:decide ((k:Int)<(l.length:Int))=true:=by simp;omega
   have hd2:decide ((k:Int)<(most:Int))=true:=by simp;omega
   clear htk hown hok hlen hv ha3
   go_wp2_with fail
   refine(tuple_gen x _ HOK.out).mono ?_
   rintro e w2 ⟨a,b,rfl,t1,t2,hx2⟩
   obtain⟨a2,k2,rfl,_⟩:=t1.form
   obtain⟨b2,j2,rfl,_⟩:=t2.form
   have T1:=Lib.hid t1
   have T2:=Lib.hid t2
   have hz:=hx2.size
   have hw:=hx.size
   clear t1 t2 c1 c2 c3 c4 c5
   go_wp2_with (at_builtin;refine wpList_append_one Rep.tup (since w) rfl _ _ 85 rfl w.heap.size 125 i0 _ 64 Tryz.underlying85 hi hz0 hz1 hz2 rfl (by decide) _ (genTups l k) rfl ((HO.out.ext hx2).ext ((Ext.refl _).alloc _)) ⟨w2.heap.size,0,none⟩ 1 (genTup x) [.slice a2 (genTup x).vals.length k2,.int .i64 (genTup x).from_,.int .i64 (genTup x).to_,.slice b2 (genTup x).lin.length j2] rfl ?c1 ?c2 ?c3 ?c4 ?c5 ?_)
   case c1 =>
    have hlt2:=HO.out.lt
    have hs : ∀u:Value,(∀j,u.ownBlock=some j→j<wr.heap.size)→Sub (on w2 (fun j=>wr.heap.size≤j)) (on (w2.alloc (.cells #[.slice a2 (genTup x).vals.length k2,.int .i64 (genTup x).from_,.int .i64 (genTup x).to_,.slice b2 (genTup x).lin.length j2] 125)) (avoid (since w) u)):=fun u hu=>by
     refine(((Ext.refl w2).alloc _).sub _).trans (on_mono _ fun j _ hj=>⟨fun he=> ?_,?_⟩)
     ·have:=hu j he.symm
      omega
     ·simp only [since]
      omega
    have hg:=gen_per x.a x.b
    exact⟨_,_,rfl,T1.out.ext (hs _ fun j hj=>(hlt2 j hj).2),T2.out.ext (hs _ fun j hj=>(hlt2 j hj).2),by simp only [genTup];omega,by simp only [genTup];omega⟩
   case c2=>exact cells_new w2 [.slice a2 (genTup x).vals.length k2,.int .i64 (genTup x).from_,.int .i64 (genTup x).to_,.slice b2 (genTup x).lin.length j2] _
   case c3=>rw [HLEN.out];unfold maxLen;omega
   case c4=>rw [HLEN.out];omega
   case c5=>simp;omega
   intro g cap w3 hown3 hgr _
   go_wp2_with fail
   go_roundg (l.length - (k+1))
   case measure=>omega
   case rel =>
    refine⟨k+1,by omega,by omega,rfl,by go_num,by rw [HT.out];exact hown3,?_⟩
    exact Below.grown ((hx.trans hx2).alloc _) hgr (by simp;omega) (fun j hj=>(HO.out.lt j hj).1)
  ·have hd:(decide ((k:Int)<(l.length:Int))&&decide ((k:Int)<(most:Int)))=false:=by
    rw [Bool.and_eq_false_iff]
    simp only [decide_eq_false_iff_not]
    omega
   have hfull:genTups l k=genTups l most:=by
    unfold genTups
    by_cases h:k<l.length
    ·rw [show k=most by omega]
    ·rw [List.take_of_length_le (by omega),List.take_of_length_le (by omega)]
   have hend:(¬(k:Int)<(l.length:Int))∨((k:Int)<(l.length:Int)∧ ¬(k:Int)<(most:Int)):=by omega
   rw [hfull]at hown
   have hs:=hown.sliceIn (T:=since w) (fun _ _ h=>h) (fun _ h=>h)
   obtain⟨pf,qf,rfl,_⟩:=hs.form
   have HS:=Lib.hid hs
   clear hown hs hfull hd hv ha3
   rcases hend with hend | ⟨hd1,hend⟩
   ·have hd1:decide ((k:Int)<(l.length:Int))=false:=by simpa using hend
    go_wp2_with fail
    go_ret
    exact⟨_,rfl,HS.out,hx⟩
   ·have hd2:decide ((k:Int)<(most:Int))=false:=by simpa using hend
    go_wp2_with fail
    go_ret
    exact⟨_,rfl,HS.out,hx⟩
theorem genRows_len (l:List Num5) (most:Nat):(genRows l most).length≤most:=by simpa [genRows] using genTups_len l most
set_option maxRecDepth 100000 in
set_option maxHeartbeats 4000000 in
theorem rows_gen (v:Value) (l:List Num5) (most:Nat) (hmost:most≤1000) (w:World) (hv:SliceOf Rep.num w.cell? v l) :
  Calls Tryz.prog 26 #[v,.int .i64 most] w fun e w'=> ∃v',e = .returned v'∧SliceOf Rep.row w'.cell? v' (genRows l most)∧Ext w w':=by
 obtain⟨i0,hi,hz0,hz1,hz2⟩:=info_parts infoRow
 have HV:=Lib.hid hv
 obtain⟨pa,ca,rfl,_⟩:=hv.form
 clear hv
 go_enter Tryz.func26,Tryz.ntmps26
 go_wp2_with fail
 refine(tuples_gen _ l most hmost _ HV.out).mono ?_
 rintro e w1 ⟨v1,rfl,s1,hx1⟩
 have hm:=genTups_len l most
 have hg:genRows l most=(genTups l most).map rowOf:=rfl
 generalize genTups l most=ts at s1 hm hg
 have HG:=Lib.hid hg
 have A0:=Lib.hid ((s1.ext (on_sub _ _)).ext (full_on w1 (fun k=>k<w1.heap.size) fun k hk=>hk))
 obtain⟨p1,q1,rfl,hr1,hr2,hr3⟩:=s1.form
 unfold maxLen at hr2
 clear s1 hg
 go_wp2_with fail
 go_loopg [5,12] ts.length (fun gk out i wr=> ∃k:Nat,k≤ts.length∧gk=ts.length - k∧i = .int .i64 k∧OwnOf Rep.row wr (fun k=>k<w1.heap.size) w1.heap.size 58 out ((ts.take k).map rowOf)∧Below w1.heap.size w1 wr)
 case atStart=>exact⟨0,by omega,rfl,rfl,OwnOf.nil _ _ _ _ _,Below.refl _ _⟩
 case round =>
  obtain⟨k,hk,rfl,rfl,hown,hbw⟩:=hrel
  by_cases hlt:k<ts.length
  ·obtain⟨ba,oa,rfl⟩:=hr3 (by decide) (by omega)
   obtain⟨u,v,c1,c2,c3,c4,s1,s2,_,_⟩:=tup_at A0.out k hlt
   have htk:(ts.take (k+1)).map rowOf=(ts.take k).map rowOf ++ [rowOf ts[k]]:=by rw [List.take_succ_eq_append_getElem hlt,List.map_append];rfl
   have hlen:((ts.take k).map rowOf).length=k:=by simp;omega
   replace c1:=(on_some.1 (below_sub hbw (fun _ h=>h) _ _ c1)).2
   replace c2:=(on_some.1 (below_sub hbw (fun _ h=>h) _ _ c2)).2
   replace c3:=(on_some.1 (below_sub hbw (fun _ h=>h) _ _ c3)).2
   replace c4:=(on_some.1 (below_sub hbw (fun _ h=>h) _ _ c4)).2
   generalize ts[k]=t at c1 c2 c3 c4 s1 s2 htk
   obtain⟨pu,cu,rfl,_⟩:=s1.form
   obtain⟨pv,cv,rfl,_⟩:=s2.form
   have S1:=Lib.hid s1
   have S2:=Lib.hid s2
   have HT:=Lib.hid htk
   have HO:=Lib.hid hown
   have HLEN:=Lib.hid hlen
   have hd:decide ((k:Int)<(ts.length:Int))=true:=by simp;omega
   have hbs:=hbw.size
   clear s1 s2 htk hown hlen hr3
   go_wp2_with (at_builtin;refine wpList_append_one Rep.row (fun k=>k<w1.heap.size) rfl _ _ 40 rfl w1.heap.size 58 i0 _ 48 Tryz.underlying40 hi hz0 hz1 hz2 rfl (by decide) _ ((ts.take k).map rowOf) rfl ((HO.out.ext ((Ext.refl _).alloc _)).ext ((Ext.refl _).alloc _)) ⟨_,0,none⟩ 1 (rowOf t) [.slice pu t.vals.length cu,.slice pv t.lin.length cv] rfl ?c1 ?c2 ?c3 ?c4 ?c5 ?_)
   case c1 =>
    have hs:=old_avoid (Below.trans hbw (((((Ext.refl wr).alloc (.cells #[.slice pu t.vals.length cu,.int .i64 t.from_,.int .i64 t.to_,.slice pv t.lin.length cv] 125)).alloc (.cells #[.slice pu t.vals.length cu,.slice pv t.lin.length cv] 58))).mono hbw.size)) ((HO.out.ext ((Ext.refl _).alloc _)).ext ((Ext.refl _).alloc _))
    exact⟨_,_,rfl,S1.out.ext hs,S2.out.ext hs⟩
   case c2=>first | exact cells_new _ [.slice pu t.vals.length cu,.slice pv t.lin.length cv] _ | simpa using cells_new (wr.alloc (.cells #[.slice pu t.vals.length cu,.int .i64 t.from_,.int .i64 t.to_,.slice pv t.lin.length cv] 125)) [.slice pu t.vals.length cu,.slice pv t.lin.length cv] 58
   case c3=>rw [HLEN.out];unfold maxLen;omega
   case c4=>rw [HLEN.out];omega
   case c5=>simp;omega
   intro g cap w3 hown3 hgr _
   go_wp2_with fail
   go_roundg (ts.length - (k+1))
   case measure=>omega
   case rel =>
    refine⟨k+1,by omega,rfl,by go_num,by rw [HT.out,List.map_take];exact hown3,?_⟩
    exact Below.grown (Below.trans hbw ((((Ext.refl wr).alloc _).alloc _).mono hbw.size)) hgr (by simp;omega) (fun j hj=>(HO.out.lt j hj).1)
  ·have:k=ts.length:=by omega
   subst this
   rw [List.take_of_length_le (Nat.le_refl _),←HG.out]at hown
   have hs:=hown.slice
   obtain⟨pf,qf,rfl,_⟩:=hs.form
   have HS:=Lib.hid hs
   clear hown hs hr3
   go_wp2_with fail
   go_ret
   exact⟨_,rfl,HS.out,Ext.trans hx1 hbw⟩
end Go.Proofs.YtombmdaohcjokaaGreatDoor
namespace Go.Proofs.YtombmdaohcjokaaGreatDoor
open Go.RowKit Go.Deep Go.ChangeShapes Go.WideShapes Go.ChangeAt
theorem repAll_of {α:Type} (R:Rep α) (h:View) (p:Nat→List Value→Prop) (n:Nat) (hp : ∀i,i<n→ ∃cs y,R.holds h cs y∧p i cs) :
  ∃css ys,css.length=n∧RepAll R h css ys∧ ∀i c,css[i]?=some c→p i c:=by
 induction n with
 |zero=>exact⟨[],[],rfl,trivial,fun i c hc=>by simp at hc⟩
 |succ n ih =>
  obtain⟨css,ys,h1,h2,h3⟩:=ih fun i hi=>hp i (by omega)
  obtain⟨c,y,h4,h5⟩:=hp n (by omega)
  refine⟨css ++ [c],ys ++ [y],by simp [h1],h2.append (RepAll.one h4),fun i d hd=> ?_⟩
  by_cases hi:i<css.length
  ·rw [List.getElem?_append_left hi]at hd
   exact h3 i d hd
  ·rw [List.getElem?_append_right (by omega)]at hd
   have:i=n:=by
    have:=(List.getElem?_eq_some_iff.1 hd).1
    simp at this
    omega
   subst this
   rw [h1,Nat.sub_self]at hd
   simp at hd
   subst hd
   exact h5
theorem flat_at {css:List (List Value)} {k:Nat} (hk : ∀c∈css,c.length=k) (j:Nat) (u:Value) (h:css.flatten[j]?=some u) : ∃i r c,css[i]?=some c∧c[r]?=some u∧j=i*k+r:=by
 induction css generalizing j with
 |nil=>simp at h
 |cons c css ih =>
  by_cases hj:j<c.length
  ·rw [List.flatten_cons,List.getElem?_append_left hj]at h
   exact⟨0,j,c,rfl,h,by simp⟩
  ·rw [List.flatten_cons,List.getElem?_append_right (by omega)]at h
   obtain⟨i,r,d,h1,h2,h3⟩:=ih (fun d hd=>hk d (by simp [hd])) _ h
   have:=hk c (by simp)
   exact⟨i+1,r,d,by simpa using h1,h2,by rw [Nat.succ_mul];omega⟩
theorem repAll_len {α:Type} {R:Rep α} {h:View} {css:List (List Value)} {ys:List α} (k:RepAll R h css ys) : ∀c∈css,c.length=R.size:=by
 induction css generalizing ys with
 |nil=>simp
 |cons c css ih =>
  cases ys with
  |nil=>exact k.elim
  |cons y ys =>
   intro d hd
   rcases List.mem_cons.1 hd with rfl | hd
   ·exact R.len k.1
   ·exact ih k.2 d hd
theorem opens_slice {α:Type} {P:Program} {t e:TypeId} {R:Rep α} (ht:P.underlying t=some (.slice e)) (hc:P.cellsOf e=R.size) (hR:Opens P e R):Opens P t R.slice:=by
 intro H enc w base spare held fuel cs x h
 rcases open_slice ht h with ⟨rfl,_⟩ | ⟨a,len,cap,m,n,D,Pl,rfl,hb,hl,hm,hmm,_,hx⟩
 ·exact⟨[],_,rfl,SliceOf.nil R _⟩
 ·have hlm:len≤m:=by rw [hmm];split <;> omega
  obtain⟨css,ys,h1,h2,h3⟩:=repAll_of R w.cell? (fun i cs'=>w.cells? base (a.add (i*P.cellsOf e)) (P.cellsOf e)=some cs') len fun i hi=>by
   obtain⟨cs',g1,g2⟩:=hx i (by omega)
   obtain⟨y,hy⟩:=hR H enc w base spare held n cs' _ g2
   exact⟨cs',y,hy,g1⟩
  have hlen:ys.length=len:=by rw [←h2.length,h1]
  refine⟨ys,_,rfl,css,h2,?_⟩
  rw [hlen]
  refine .inr ⟨a,cap,rfl,hl,hm,?_⟩
  have hcell : ∀j u,css.flatten[j]?=some u→w.cell? (a.add j)=some u:=by
   intro j u hj
   obtain⟨i,r,c,g1,g2,g3⟩:=flat_at (repAll_len h2) j u hj
   obtain⟨_,g5,g6⟩:=World.cells?_some (h3 i c g1)
   have hr:r<P.cellsOf e:=by rw [←g5];exact(List.getElem?_eq_some_iff.1 g2).1
   have:=g6 r hr
   rw [g2,Addr.add_add,hc,←g3]at this
   exact this
  by_cases hne:css.flatten = []
  ·exact .inl hne
  ·right
   obtain⟨u,us,hu⟩:=List.exists_cons_of_ne_nil hne
   have h0:=hcell 0 u (by rw [hu];rfl)
   obtain⟨b,o,sp⟩:=a
   have hsp:sp=none:=by
    cases sp with
    |none=>rfl
    |some s=>simp [World.cell?,Addr.add]at h0;split at h0 <;> simp at h0
   subst hsp
   exact⟨b,o,rfl,fun j u hj=>by have:=hcell j u hj;rwa [add_lit]at this⟩
end Go.Proofs.YtombmdaohcjokaaGreatDoor
namespace Go.Proofs.YtombmdaohcjokaaGreatDoor
open Go.RowKit
theorem mult_nil (v:List Val):mult v []=0:=rfl
theorem mult_perm (v:List Val) {l l':List Row} (h:l.Perm l'):mult v l=mult v l':=h.countP_eq _
def plainRow (r:Row):Row:=⟨r.vals,[]⟩
end Go.Proofs.YtombmdaohcjokaaGreatDoor
namespace Go.Proofs.YtombmdaohcjokaaGreatDoor
open Go.RowKit Go.Deep Go.ChangeShapes Go.WideShapes Go.ChangeAt
theorem open_arg {α:Type} {P:Program} {t e:TypeId} {R:Rep α} (ht:P.underlying t=some (.slice e)) (hR:Opens P t (Rep.slice R)) {H:Type} {enc:TypeId×Value→H} {w:World} {base:Nat} {spare:Nat→Bool} {held:Bool} {v:Value} {d:DataW H} {ps:List MemPlace} {r:Reach} {b0:Nat}
  (hv:Value.okWide P w r b0 t v) (h:DataW.Trod enc P w base spare held t v d ps) : ∃xs,SliceOf R w.cell? v xs:=by
 obtain⟨a,n,c,rfl⟩:=okWide_slice ht hv
 obtain⟨m,hm⟩:=h
 obtain⟨xs,v',e,hs⟩:=hR H enc w base spare held m _ _ hm
 simp [Value.cells]at e
 subst e
 exact⟨xs,hs⟩
end Go.Proofs.YtombmdaohcjokaaGreatDoor
namespace Go.Proofs.YtombmdaohcjokaaGreatDoor
open Go.RowKit
end Go.Proofs.YtombmdaohcjokaaGreatDoor
namespace Go.Proofs.YtombmdaohcjokaaGreatDoor
open Go.RowKit
end Go.Proofs.YtombmdaohcjokaaGreatDoor
namespace Go.Proofs.YtombmdaohcjokaaGreatDoor
open Go.RowKit
def grpE (c:Int):List ExprI:= [⟨2,0,0,c,⟨0,0,⟨#[]⟩⟩⟩,⟨2,0,0,0,⟨0,0,⟨#[]⟩⟩⟩]
def scanR:NodeI:=⟨1,0,0,0,⟨#[114]⟩,[],[]⟩
def grpN0:NodeI:=⟨10,0,0,0,⟨#[]⟩,[0],[⟨1,0⟩]⟩
def grpN1:NodeI:=⟨10,1,0,0,⟨#[]⟩,[1],[⟨1,0⟩]⟩
def grpOne (c:Int):QueryI:=⟨[scanR,grpN0],grpE c⟩
def grpTwo (c:Int):QueryI:=⟨[scanR,grpN0,grpN1],grpE c⟩
def grpDis:QueryI:=⟨[scanR,⟨9,0,0,0,⟨#[]⟩,[],[]⟩],[]⟩
theorem grp_cols1 (c:Nat) (hc:c<2) : ∃cols,columnsQ (grpOne c) typesA=(cols,0):=by
 match c,hc with
 |0,_=>exact⟨[[1,2],[1,1]],by kernel_rfl⟩
 |1,_=>exact⟨[[1,2],[2,1]],by kernel_rfl⟩
theorem grp_cols2 (c:Nat) (hc:c<2) : ∃cols,columnsQ (grpTwo c) typesA=(cols,0):=by
 match c,hc with
 |0,_=>exact⟨[[1,2],[1,1],[1,1]],by kernel_rfl⟩
 |1,_=>exact⟨[[1,2],[2,1],[2,1]],by kernel_rfl⟩
theorem grp_cols3:columnsQ grpDis typesA=([[1,2],[1,2]],0):=by kernel_rfl
theorem grp_agg (c:Int) (vss:List (List Val)):aggsE (grpE c) [⟨1,0⟩] vss = [intVal vss.length]:=by
 unfold aggsE aggE
 simp
theorem grp_key0 (c:Int) (r:List Val):projE (grpE c) [0] r = [colAt r c]:=by
 unfold projE
 rw [List.map_cons,List.map_nil]
 have:=evalE_col (es:=grpE c) (r:=0) (by simp [grpE]) rfl r
 simpa [grpE] using this
theorem grp_key1 (c:Int) (r:List Val):projE (grpE c) [1] r = [colAt r 0]:=by
 unfold projE
 rw [List.map_cons,List.map_nil]
 have:=evalE_col (es:=grpE c) (r:=1) (by simp [grpE]) rfl r
 simpa [grpE] using this
theorem grp_rows (c:Int) (i:Int) (A:List Row):groupP (grpE c) [i] [⟨1,0⟩] A=(firsts (A.map fun r=>projE (grpE c) [i] r.vals)).map fun kv=>⟨kv ++ [intVal (selS (projE (grpE c) [i]) A kv).length],linS (selS (projE (grpE c) [i]) A kv)⟩:=by
 unfold groupP
 rw [if_neg (by simp)]
 refine List.map_congr_left fun kv _=> ?_
 unfold gRowS linS
 rw [grp_agg,List.length_map]
theorem part_sum (pj:List Val→List Val) : ∀(A:List Row) (ks:List (List Val)),ks.Nodup→(∀r∈A,pj r.vals∈ks)→(ks.map fun k=>(selS pj A k).length).sum=A.length:=by
 classical
 intro A
 induction A with
 |nil =>
  intro ks _ _
  have:(ks.map fun k=>(selS pj [] k).length)=ks.map fun _=>0:=List.map_congr_left fun k _=>rfl
  rw [this]
  clear this
  induction ks with
  |nil=>rfl
  |cons k ks ih=>simp_all
 |cons r A ih =>
  intro ks hn hk
  have h1:=ih ks hn fun x hx=>hk x (List.mem_cons_of_mem _ hx)
  have h2 : ∀ks:List (List Val),ks.Nodup→(ks.map fun k=>(selS pj (r::A) k).length).sum=(ks.map fun k=>(selS pj A k).length).sum+if pj r.vals∈ks then 1 else 0:=by
   intro ks
   induction ks with
   |nil=>intro _;simp
   |cons k ks ihk =>
    intro hn
    obtain⟨h3,h4⟩:=List.nodup_cons.1 hn
    rw [List.map_cons,List.sum_cons,List.map_cons,List.sum_cons,ihk h4]
    unfold selS
    rw [List.filter_cons]
    by_cases hkr:pj r.vals=k
    ·subst hkr
     rw [if_pos (by simp),if_neg h3,if_pos (List.mem_cons_self ..),List.length_cons]
     omega
    ·rw [if_neg (by simpa using hkr)]
     by_cases hm:pj r.vals∈ks
     ·rw [if_pos hm,if_pos (List.mem_cons_of_mem _ hm)]
      omega
     ·rw [if_neg hm,if_neg (by rw [List.mem_cons];exact fun h=>h.elim hkr hm)]
      omega
  rw [h2 ks hn,h1,if_pos (hk r (List.mem_cons_self ..)),List.length_cons]
theorem sel_one (pj:List Val→List Val) : ∀(A:List Row),(A.map fun r=>pj r.vals).Nodup→ ∀r∈A,(selS pj A (pj r.vals)).length=1:=by
 classical
 intro A
 induction A with
 |nil=>intro _ r hr;cases hr
 |cons x A ih =>
  intro hn r hr
  rw [List.map_cons,List.nodup_cons]at hn
  unfold selS
  rw [List.filter_cons]
  rcases List.mem_cons.1 hr with rfl | hr
  ·rw [if_pos (by simp),List.length_cons]
   have:(A.filter fun y=>decide (pj y.vals=pj r.vals)) = []:=by
    rw [List.filter_eq_nil_iff]
    intro y hy h
    exact hn.1 (List.mem_map.2 ⟨y,hy,by simpa using h⟩)
   rw [this]
   rfl
  ·rw [if_neg (by simp only [decide_eq_true_eq];exact fun h=>hn.1 (List.mem_map.2 ⟨r,hr,h.symm⟩))]
   exact ih hn.2 r hr
theorem firsts_nodup_len {κ:Type} {l:List κ} (h:l.Nodup):(firsts l).length=l.length :=
 Nat.le_antisymm (firsts_len l) (nodup_len h fun x hx=>((firsts_law l).2 x).2 hx)
def cntOf (r:Row):Int:=(r.vals.getD 1 nV).n
theorem grp_first (c:Int) (x:List Row):(∀r∈groupP (grpE c) [0] [⟨1,0⟩] x,∃v,∃n:Nat,r.vals = [v,intVal n]∧n≤x.length∧ ∃y∈x,v=colAt y.vals c)∧((groupP (grpE c) [0] [⟨1,0⟩] x).map cntOf).sum=(x.length:Int)∧((groupP (grpE c) [0] [⟨1,0⟩] x).map fun r=>projE (grpE c) [1] r.vals).Nodup:=by
 rw [grp_rows]
 refine⟨fun r hr=> ?_,?_,?_⟩
 ·obtain⟨kv,hk,rfl⟩:=List.mem_map.1 hr
  rw [(firsts_law _).2]at hk
  obtain⟨y,hy,rfl⟩:=List.mem_map.1 hk
  exact⟨colAt y.vals c,_,by rw [grp_key0];rfl,List.length_filter_le _ _,y,hy,rfl⟩
 ·have h:=part_sum (projE (grpE c) [0]) x (firsts (x.map fun r=>projE (grpE c) [0] r.vals)) (firsts_law _).1 fun r hr=>((firsts_law _).2 _).2 (List.mem_map.2 ⟨r,hr,rfl⟩)
  rw [List.map_map,←h]
  have hk : ∀kv∈firsts (x.map fun r=>projE (grpE c) [0] r.vals),(cntOf∘fun kv=>(⟨kv ++ [intVal (selS (projE (grpE c) [0]) x kv).length],linS (selS (projE (grpE c) [0]) x kv)⟩:Row)) kv=((selS (projE (grpE c) [0]) x kv).length:Int):=fun kv hk=>by
   rw [(firsts_law _).2]at hk
   obtain⟨y,hy,rfl⟩:=List.mem_map.1 hk
   rw [Function.comp_apply,grp_key0]
   rfl
  rw [List.map_congr_left hk]
  generalize firsts (x.map fun r=>projE (grpE c) [0] r.vals)=ks
  clear h hk
  induction ks with
  |nil=>rfl
  |cons k ks ih=>rw [List.map_cons,List.sum_cons,List.map_cons,List.sum_cons,ih,Int.natCast_add]
 ·rw [List.map_map]
  have hk : ∀kv∈firsts (x.map fun r=>projE (grpE c) [0] r.vals),((fun r=>projE (grpE c) [1] r.vals)∘fun kv=>(⟨kv ++ [intVal (selS (projE (grpE c) [0]) x kv).length],linS (selS (projE (grpE c) [0]) x kv)⟩:Row)) kv=kv:=fun kv hk=>by
   rw [(firsts_law _).2]at hk
   obtain⟨y,hy,rfl⟩:=List.mem_map.1 hk
   rw [Function.comp_apply,grp_key1,grp_key0]
   rfl
  rw [List.map_congr_left hk,List.map_id']
  exact(firsts_law _).1
theorem grp_second (c:Int) (A:List Row) (h:(A.map fun r=>projE (grpE c) [1] r.vals).Nodup):(groupP (grpE c) [1] [⟨1,0⟩] A).length=A.length∧ ∀r∈groupP (grpE c) [1] [⟨1,0⟩] A,∃v,r.vals = [v,intVal 1]∧ ∃y∈A,v=colAt y.vals 0:=by
 rw [grp_rows]
 refine⟨by rw [List.length_map,firsts_nodup_len h,List.length_map],fun r hr=> ?_⟩
 obtain⟨kv,hk,rfl⟩:=List.mem_map.1 hr
 rw [(firsts_law _).2]at hk
 obtain⟨y,hy,rfl⟩:=List.mem_map.1 hk
 rw [sel_one _ A h y hy,grp_key1]
 exact⟨_,rfl,y,hy,rfl⟩
theorem dis_mult (x:List Row) : ∀r∈distP x,mult r.vals (distP x)=1∧0<mult r.vals x:=by
 have hm : ∀(v:List Val) (l:List Row),mult v l=(selV l v).length:=fun v l=>by
  unfold mult selV
  rw [List.countP_eq_length_filter]
  congr 1
  refine List.filter_congr fun r _=> ?_
  rw [Bool.eq_iff_iff]
  simp [ord_vals.eq]
 intro r hr
 have hv:(distP x).map Row.vals=firsts (x.map Row.vals):=by
  unfold distP
  rw [List.map_map]
  exact(List.map_congr_left fun kv _=>rfl).trans (List.map_id' _)
 have hn:((distP x).map fun r=>id r.vals).Nodup:=by
  show ((distP x).map Row.vals).Nodup
  rw [hv]
  exact(firsts_law _).1
 rw [hm,hm]
 refine⟨sel_one id (distP x) hn r hr,?_⟩
 have h1:r.vals∈firsts (x.map Row.vals):=by rw [←hv];exact List.mem_map.2 ⟨r,hr,rfl⟩
 rw [(firsts_law _).2]at h1
 obtain⟨y,hy,h2⟩:=List.mem_map.1 h1
 exact List.length_pos_of_mem (List.mem_filter.2 ⟨hy,by simpa using h2⟩)
theorem node_scanR (es:List ExprI) (A B:List Row) (cols:List (List Int)) (done:List (List Row)):nodeP es (dbA A B) cols done scanR=A:=scan_r A B
theorem node_grp0 (es:List ExprI) (db:List TabI) (cols:List (List Int)) (A:List Row):nodeP es db cols [A] grpN0=groupP es [0] [⟨1,0⟩] A:=rfl
theorem node_grp1 (es:List ExprI) (db:List TabI) (cols:List (List Int)) (A B:List Row):nodeP es db cols [A,B] grpN1=groupP es [1] [⟨1,0⟩] B:=rfl
theorem node_dis (es:List ExprI) (db:List TabI) (cols:List (List Int)) (A:List Row):nodeP es db cols [A] ⟨9,0,0,0,⟨#[]⟩,[],[]⟩=distP A:=rfl
theorem groupP_len (es:List ExprI) (k:Int) (aggs:List AggI) (A:List Row):(groupP es [k] aggs A).length≤A.length:=by
 unfold groupP
 rw [if_neg (by simp),List.length_map]
 exact Nat.le_trans (firsts_len _) (by simp)
theorem distP_len (A:List Row):(distP A).length≤A.length:=by
 unfold distP
 rw [List.length_map]
 exact Nat.le_trans (firsts_len _) (by simp)
theorem flat_len (m:Nat) : ∀S:List Row,(∀r∈S,r.lin.length≤m)→(S.flatMap Row.lin).length≤S.length*m:=by
 intro S
 induction S with
 |nil=>intro _;simp
 |cons r S ih =>
  intro h
  rw [List.flatMap_cons,List.length_append,List.length_cons,Nat.succ_mul]
  have h1:=h r (List.mem_cons_self ..)
  have h2:=ih fun x hx=>h x (List.mem_cons_of_mem _ hx)
  omega
theorem mergeG_len (l l':List Int):(mergeL l l').length≤l.length+l'.length:=by
 have h:=Lib.compact_length_le ((l++l').mergeSort fun x y=>decide (x≤y))
 rw [(List.mergeSort_perm _ _).length_eq,List.length_append]at h
 exact h
theorem linS_len (S:List Row) (m:Nat) (h : ∀r∈S,r.lin.length≤m):(linS S).length≤S.length*m:=by
 have h1:=mergeG_len (S.flatMap Row.lin) []
 have h2:=flat_len m S h
 rw [List.length_nil,Nat.add_zero]at h1
 exact Nat.le_trans h1 h2
theorem colAt_fit {vals:List Val} (h : ∀x∈vals,x.s.size≤1048576) (c:Int):(colAt vals c).s.size≤1048576:=by
 unfold colAt
 split
 ·rename_i hc
  rw [List.getD_eq_getElem?_getD,List.getElem?_eq_getElem (by omega)]
  exact h _ (List.getElem_mem _)
 ·exact Nat.zero_le _
def smallR (x:List Row):Prop:=x.length≤12∧ ∀r∈x,r.vals.length≤1000∧(∀v∈r.vals,v.s.size≤1048576)∧r.lin.length≤1
theorem grp_fit (c k:Int) (A:List Row) (m:Nat) (hA:A.length≤12) (h : ∀r∈A,(∀v∈r.vals,v.s.size≤1048576)∧r.lin.length≤m) (hk:k=0∨k=1) : ∀r∈groupP (grpE c) [k] [⟨1,0⟩] A,(r.vals.length≤1000∧(∀x∈r.vals,x.s.size≤1048576))∧r.lin.length≤12*m:=by
 rw [grp_rows]
 intro r hr
 obtain⟨kv,hkv,rfl⟩:=List.mem_map.1 hr
 rw [(firsts_law _).2]at hkv
 obtain⟨y,hy,rfl⟩:=List.mem_map.1 hkv
 have hp : ∃d,projE (grpE c) [k] y.vals = [colAt y.vals d]:=by
  rcases hk with rfl | rfl
  ·exact⟨_,grp_key0 c _⟩
  ·exact⟨_,grp_key1 c _⟩
 obtain⟨d,hd⟩:=hp
 refine⟨⟨by rw [hd];simp,fun x hx=> ?_⟩,?_⟩
 ·rw [hd]at hx
  simp only [List.cons_append,List.nil_append,List.mem_cons,List.not_mem_nil,or_false]at hx
  rcases hx with rfl | rfl
  ·exact colAt_fit (h y hy).1 d
  ·exact Nat.zero_le _
 ·refine Nat.le_trans (linS_len _ m fun x hx=>(h x ((List.mem_filter.1 hx).1)).2) (Nat.mul_le_mul_right m ?_)
  exact Nat.le_trans (List.length_filter_le _ _) hA
theorem run_one (c:Nat) (hc:c<2) (x:List Row) (hx:smallR x):(evalQ (grpOne c) (dbA x []))=(sortBy cmpRow (groupP (grpE c) [0] [⟨1,0⟩] x),0)∧FitRun (grpOne c) (dbA x []):=by
 obtain⟨cols,hcols⟩:=grp_cols1 c hc
 have h1:=eval_step (grpOne c) (dbA x []) cols 0 (ls:= []) (l:=x) rfl (node_scanR _ x [] cols []) (by have:=hx.1;omega)
 have h2:=eval_step (grpOne c) (dbA x []) cols 1 (l:=groupP (grpE c) [0] [⟨1,0⟩] x) h1 (node_grp0 _ _ _ x) (by have:=groupP_len (grpE c) 0 [⟨1,0⟩] x;have:=hx.1;omega)
 refine⟨evalQ_ok _ _ hcols h2,fitRun_ok _ _ ?_ ?_⟩
 ·rw [dbA_typ,hcols]
  exact congrArg Prod.snd h2
 ·rw [dbA_typ,hcols]
  show ∀l∈(evalUpto (grpOne c) (dbA x []) cols 2).1,_
  rw [h2]
  intro l hl r hr
  simp only [List.nil_append,List.cons_append,List.mem_cons,List.not_mem_nil,or_false]at hl
  rcases hl with rfl | rfl
  ·have h:=hx.2 r hr
   exact⟨h.1,h.2.1,by omega⟩
  ·have h:=grp_fit c 0 x 1 hx.1 (fun y hy=>⟨(hx.2 y hy).2.1,(hx.2 y hy).2.2⟩) (.inl rfl) r hr
   exact⟨h.1.1,h.1.2,by omega⟩
set_option maxHeartbeats 4000000 in
theorem run_two (c:Nat) (hc:c<2) (x:List Row) (hx:smallR x):(evalQ (grpTwo c) (dbA x []))=(sortBy cmpRow (groupP (grpE c) [1] [⟨1,0⟩] (groupP (grpE c) [0] [⟨1,0⟩] x)),0)∧FitRun (grpTwo c) (dbA x []):=by
 obtain⟨cols,hcols⟩:=grp_cols2 c hc
 have hl1:=groupP_len (grpE c) 0 [⟨1,0⟩] x
 have hl2:=groupP_len (grpE c) 1 [⟨1,0⟩] (groupP (grpE c) [0] [⟨1,0⟩] x)
 have h1:=eval_step (grpTwo c) (dbA x []) cols 0 (ls:= []) (l:=x) rfl (node_scanR _ x [] cols []) (by have:=hx.1;omega)
 have h2:=eval_step (grpTwo c) (dbA x []) cols 1 (l:=groupP (grpE c) [0] [⟨1,0⟩] x) h1 (node_grp0 _ _ _ x) (by have:=hx.1;omega)
 obtain⟨g1,hg1⟩ : ∃z,z=groupP (grpE c) [0] [⟨1,0⟩] x:=⟨_,rfl⟩
 have hg:=grp_fit c 0 x 1 hx.1 (fun y hy=>⟨(hx.2 y hy).2.1,(hx.2 y hy).2.2⟩) (.inl rfl)
 rw [←hg1]at h2 hl1 hl2 hg ⊢
 clear hg1
 have h3:=eval_step (grpTwo c) (dbA x []) cols 2 (l:=groupP (grpE c) [1] [⟨1,0⟩] g1) h2 (show nodeP (grpTwo c).exprs (dbA x []) cols [x,g1] grpN1=_ from node_grp1 _ _ _ x g1) (by have:=hx.1;omega)
 obtain⟨g2,hg2⟩ : ∃z,z=groupP (grpE c) [1] [⟨1,0⟩] g1:=⟨_,rfl⟩
 have hf2:=grp_fit c 1 g1 12 (by have:=hx.1;omega) (fun y hy=>⟨(hg y hy).1.2,by have:=(hg y hy).2;omega⟩) (.inr rfl)
 rw [←hg2]at h3 hf2 ⊢
 clear hg2
 have h4:evalUpto (grpTwo c) (dbA x []) cols (grpTwo c).nodes.length=([x,g1,g2],0):=by
  rw [show (grpTwo c).nodes.length=2+1 from rfl]
  exact h3
 refine⟨evalQ_ok _ _ hcols h4,fitRun_ok _ _ ?_ ?_⟩
 ·rw [dbA_typ,hcols]
  dsimp only
  rw [h4]
 ·rw [dbA_typ,hcols]
  dsimp only
  rw [h4]
  intro l hl r hr
  simp only [List.mem_cons,List.not_mem_nil,or_false]at hl
  rcases hl with rfl | rfl | rfl
  ·have h:=hx.2 r hr
   exact⟨h.1,h.2.1,by omega⟩
  ·have h:=hg r hr
   exact⟨h.1.1,h.1.2,by omega⟩
  ·have h:=hf2 r hr
   exact⟨h.1.1,h.1.2,by omega⟩
theorem run_dis (x:List Row) (hx:smallR x):(evalQ grpDis (dbA x []))=(sortBy cmpRow (distP x),0)∧FitRun grpDis (dbA x []):=by
 have h1:=eval_step grpDis (dbA x []) [[1,2],[1,2]] 0 (ls:= []) (l:=x) rfl (node_scanR _ x [] _ []) (by have:=hx.1;omega)
 have h2:=eval_step grpDis (dbA x []) [[1,2],[1,2]] 1 (l:=distP x) h1 (node_dis _ _ _ x) (by have:=distP_len x;have:=hx.1;omega)
 refine⟨evalQ_ok _ _ grp_cols3 h2,fitRun_ok _ _ ?_ ?_⟩
 ·rw [dbA_typ,grp_cols3]
  exact congrArg Prod.snd h2
 ·rw [dbA_typ,grp_cols3]
  show ∀l∈(evalUpto grpDis (dbA x []) [[1,2],[1,2]] 2).1,_
  rw [h2]
  intro l hl r hr
  simp only [List.nil_append,List.cons_append,List.mem_cons,List.not_mem_nil,or_false]at hl
  rcases hl with rfl | rfl
  ·have h:=hx.2 r hr
   exact⟨h.1,h.2.1,by omega⟩
  ·obtain⟨kv,hk,rfl⟩:=List.mem_map.1 hr
   rw [(firsts_law _).2]at hk
   obtain⟨y,hy,rfl⟩:=List.mem_map.1 hk
   have h:=hx.2 y hy
   refine⟨h.1,h.2.1,?_⟩
   have h2:=linS_len (selV x y.vals) 1 fun z hz=>(hx.2 z ((List.mem_filter.1 hz).1)).2.2
   have h3:(selV x y.vals).length≤x.length:=List.length_filter_le _ _
   have h4:=hx.1
   dsimp only
   omega
theorem small_gen (l:List Num5):smallR (genRows l 12):=by
 refine⟨genRows_len l 12,fun r hr=> ?_⟩
 obtain⟨t,ht,rfl⟩:=List.mem_map.1 hr
 obtain⟨y,_,rfl⟩:=List.mem_map.1 ht
 have h:=genV_few y.c y.d
 exact⟨Nat.le_trans h.1 (by decide),h.2,by simp [rowOf,genTup]⟩
theorem grp_fitQ1 (c:Int):FitQ (grpOne c):=by
 refine⟨fun e he=> ?_,fun x hx=> ?_⟩
 ·simp only [grpOne,grpE,List.mem_cons,List.not_mem_nil,or_false]at he
  rcases he with rfl | rfl <;> exact Nat.zero_le _
 ·simp only [grpOne,List.mem_cons,List.not_mem_nil,or_false]at hx
  rcases hx with rfl | rfl <;> simp [scanR,grpN0]
theorem grp_fitQ2 (c:Int):FitQ (grpTwo c):=by
 refine⟨(grp_fitQ1 c).1,fun x hx=> ?_⟩
 simp only [grpTwo,List.mem_cons,List.not_mem_nil,or_false]at hx
 rcases hx with rfl | rfl | rfl <;> simp [scanR,grpN0,grpN1]
theorem grp_fitQ3:FitQ grpDis:=by
 refine⟨fun e he=>(List.not_mem_nil he).elim,fun x hx=> ?_⟩
 simp only [grpDis,List.mem_cons,List.not_mem_nil,or_false]at hx
 rcases hx with rfl | rfl <;> simp [scanR]
end Go.Proofs.YtombmdaohcjokaaGreatDoor
