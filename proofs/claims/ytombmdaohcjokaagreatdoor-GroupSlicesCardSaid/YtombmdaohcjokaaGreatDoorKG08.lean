/- joined texts of a proof: EvalC, AggW, BndW, ClipW, BagM, RowW, GrpF -/
import Derived.Test.YtombmdaohcjokaaGreatDoorKG07
import Derived.WalkMore
import Derived.Test.YtombmdaohcjokaaGreatDoorKG05
import Derived.Test.YtombmdaohcjokaaGreatDoorKG03
import Derived.Test.YtombmdaohcjokaaGreatDoorKG06
import Derived.Deep.RegionLaw
import Derived.Laws.OwnMore
import Derived.OneCell
namespace Go.Proofs.YtombmdaohcjokaaGreatDoor
open Go.RowKit
structure ExprI where
 op:Int
 a:Int
 b:Int
 col:Int
 c:Val
def exprEnc (x:ExprI):List Value:= [.int .i64 x.op,.int .i64 x.a,.int .i64 x.b,.int .i64 x.col,.int .i64 x.c.kind,.int .i64 x.c.n,.string x.c.s]
def Rep.expr:Rep ExprI where
 size:=7
 holds _ cs x:=cs=exprEnc x∧(okI x.op∧okI x.a∧okI x.b∧okI x.col)∧okVal x.c
 len:=by rintro w cs x ⟨rfl,_⟩;rfl
 ext:=by rintro w w' cs x h _;exact h
 one:=by rintro w cs x ⟨rfl,_⟩;simp [exprEnc,Value.oneCell']
def colAt (vals:List Val) (c:Int):Val:=if 0≤c∧c<vals.length then vals.getD c.toNat nV else nV
theorem colAt_in {vals:List Val} {c:Nat} (h:c<vals.length):colAt vals c=vals[c]:=by
 unfold colAt
 rw [if_pos (by omega)]
 simp [h]
theorem colAt_out {vals:List Val} {c:Int} (h : ¬(0≤c∧c<vals.length)):colAt vals c=nV:=if_neg h
set_option maxRecDepth 100000 in
set_option maxHeartbeats 4000000 in
theorem apply_col (x:ExprI) (hop:x.op=2) (pa:Option Addr) (na ka:Nat) (v:Value) (vals:List Val) (w:World) (hv:SliceOf Rep.val w.cell? v vals) :
  Calls Tryz.prog 179 #[.agg (exprEnc x).toArray,.slice pa na ka,v] w fun e w'=>e = .returned (valV (colAt vals x.col))∧Ext w w':=by
 obtain⟨p,cap,rfl,_,_,hp⟩:=hv.form
 obtain⟨op,a,b,col,⟨ck,cn,cs⟩⟩:=x
 dsimp only at hop
 subst hop
 unfold exprEnc
 dsimp only
 have HV:=Lib.hid hv
 have HP:=Lib.hid hp
 clear hv hp
 by_cases h0:col<0
 ·have hd:decide (col<0)=true:=by simp [h0]
  have HC:=Lib.hid (colAt_out (vals:=vals) (c:=col) (by omega))
  go_enter Tryz.func179,Tryz.ntmps179
  go_wp2_with fail
  refine bodyPost_ret (v:=valV (colAt vals col)) (by rw [HC.out];simp [results,Tryz.results179,go_sem,valV,nV];rfl) rfl ⟨rfl,?_⟩
  exact((Ext.refl w).alloc _).alloc _
 ·have hd:decide (col<0)=false:=by simp [h0]
  by_cases h1:col<vals.length
  ·obtain⟨c,hc⟩ : ∃c:Nat,col=c:=⟨col.toNat,by omega⟩
   subst hc
   have hcl:c<vals.length:=by omega
   have hd2:decide ((vals.length:Int)≤(c:Int))=false:=by simp;omega
   have hb1:(c:Int)<(vals.length:Int):=by omega
   obtain⟨bb,o,rfl⟩:=HP.out (by decide) (by omega)
   obtain⟨c0,c1,c2,_⟩:=val_cells HV.out c hcl
   have HC:=Lib.hid (colAt_in hcl)
   generalize vals[c]=y at c0 c1 c2 HC
   obtain⟨yk,yn,ys⟩:=y
   dsimp only at c0 c1 c2
   have e0:=cell_lt c0
   clear h0 h1
   go_enter Tryz.func179,Tryz.ntmps179
   go_wp2_with fail
   refine bodyPost_ret (v:=valV (colAt vals c)) (by rw [HC.out];simp [results,Tryz.results179,go_sem,valV]) rfl ⟨rfl,?_⟩
   exact((Ext.refl w).alloc _).alloc _
  ·have hd2:decide ((vals.length:Int)≤col)=true:=by simp;omega
   have hb1 : ¬col<(vals.length:Int):=h1
   have HC:=Lib.hid (colAt_out (vals:=vals) (c:=col) (by omega))
   clear h0 h1
   go_enter Tryz.func179,Tryz.ntmps179
   go_wp2_with fail
   refine bodyPost_ret (v:=valV (colAt vals col)) (by rw [HC.out];simp [results,Tryz.results179,go_sem,valV,nV];rfl) rfl ⟨rfl,?_⟩
   exact((Ext.refl w).alloc _).alloc _
theorem arity_col (w:World):Calls Tryz.prog 223 #[.int .i64 2] w fun e w'=>e = .returned (.int .i64 0)∧Ext w w':=by
 go_enter Tryz.func223,Tryz.ntmps223
 go_wp2_with fail
 go_ret
 exact⟨rfl,Ext.refl w⟩
set_option maxRecDepth 100000 in
set_option maxHeartbeats 4000000 in
theorem operands_col (x:ExprI) (hop:x.op=2) (w:World) :
  Calls Tryz.prog 177 #[.agg (exprEnc x).toArray] w fun e w'=> ∃p c,e = .returned (.slice p 0 c)∧Ext w w':=by
 obtain⟨op,a,b,col,⟨ck,cn,cs⟩⟩:=x
 dsimp only at hop
 subst hop
 unfold exprEnc
 dsimp only
 go_enter Tryz.func177,Tryz.ntmps177
 go_wp2_with fail
 have k0:(w.alloc (.cells #[.int .i64 2,.int .i64 a,.int .i64 b,.int .i64 col,.int .i64 ck,.int .i64 cn,.string cs] 66)).cell? ⟨w.heap.size,0,none⟩=some (.int .i64 2):=by go_simp
 have k1:(w.alloc (.cells #[.int .i64 2,.int .i64 a,.int .i64 b,.int .i64 col,.int .i64 ck,.int .i64 cn,.string cs] 66)).cell? ⟨w.heap.size,1,none⟩=some (.int .i64 a):=by go_simp
 have k2:(w.alloc (.cells #[.int .i64 2,.int .i64 a,.int .i64 b,.int .i64 col,.int .i64 ck,.int .i64 cn,.string cs] 66)).cell? ⟨w.heap.size,2,none⟩=some (.int .i64 b):=by go_simp
 have x0:Ext w (w.alloc (.cells #[.int .i64 2,.int .i64 a,.int .i64 b,.int .i64 col,.int .i64 ck,.int .i64 cn,.string cs] 66)):=(Ext.refl w).alloc _
 generalize w.alloc (.cells #[.int .i64 2,.int .i64 a,.int .i64 b,.int .i64 col,.int .i64 ck,.int .i64 cn,.string cs] 66)=W at k0 k1 k2 x0 ⊢
 have hS0:Ext w W.drew∧W.drew.cell? ⟨w.heap.size,0,none⟩=some (.int .i64 2)∧W.drew.cell? ⟨w.heap.size,1,none⟩=some (.int .i64 a)∧W.drew.cell? ⟨w.heap.size,2,none⟩=some (.int .i64 b):=⟨x0.drew,k0,k1,k2⟩
 clear k0 k1 k2
 go_region_held3 (fun w'=>Ext w w'∧w'.cell? ⟨w.heap.size,0,none⟩=some (.int .i64 2)∧w'.cell? ⟨w.heap.size,1,none⟩=some (.int .i64 a)∧w'.cell? ⟨w.heap.size,2,none⟩=some (.int .i64 b))
  (first |with_reducible assumption | with_reducible exact keepE3 (by assumption) hx2 | with_reducible exact keepE3 (by assumption) ((Ext.refl _).alloc _))
  (first |(go_at_call 223;refine(arity_col _).mono ?_;rintro e w2 ⟨rfl,hx2⟩))
 all_goals (obtain⟨hfin,_⟩:= ‹Ext w _∧_›)
 all_goals go_wp2_with fail
 all_goals go_ret
 all_goals exact⟨_,_,rfl,hfin⟩
def FreeN (w:World) (g n:Nat):Prop:= ∀j,j<n→(∃u,w.cell? ⟨g,j,none⟩=some u)∧w.frozen? ⟨g,j,none⟩=false
theorem FreeN.set {w:World} {g n:Nat} (h:FreeN w g n) (i:Nat) (u:Value):FreeN (w.setCell ⟨g,i,none⟩ u) g n:=fun j hj=>by
 obtain⟨⟨z,h1⟩,h2⟩:=h j hj
 by_cases e:j=i
 ·subst e
  exact⟨⟨u,by go_simp⟩,by go_simp⟩
 ·exact⟨⟨z,by rw [World.cell?_setCell_other _ _ _ _ (by simp only [ne_eq,Addr.mk.injEq,true_and,and_true];omega)];exact h1⟩,by go_simp⟩
theorem FreeN.ext {w w':World} {g n:Nat} (h:FreeN w g n) (hx:Ext w w'):FreeN w' g n:=fun j hj=>by
 obtain⟨⟨z,h1⟩,h2⟩:=h j hj
 exact⟨⟨z,hx.at h1⟩,hx.unfrozen h1 h2⟩
theorem FreeN.made {w:World} {base g n c k:Nat} {e:TypeId} {xs:List Value} (h:w.ownsRow base e k (.slice (some ⟨g,0,none⟩) n c) n xs):FreeN w g (c*k):=fun j hj=>by
 rcases h.2 with ⟨h1,_⟩ | ⟨g',cap,cur,he,_,hg,_,_,hsz,_⟩
 ·cases h1
 ·injection he with e1 e2 e3
  injection e1 with e1
  injection e1 with e1
  subst e1 e3
  refine⟨⟨cur[j]'(by omega),?_⟩,Lib.frozen_of_heap hg j⟩
  rw [Lib.cell_of_heap hg]
  exact Array.getElem?_eq_getElem _
theorem info_val3:(Tryz.prog.info? 61).map (fun i=>(i.zero,i.size,i.bytes))=some (some (.agg #[.int .i64 0,.int .i64 0,.string ByteArray.empty]),3,32):=by kernel_rfl
theorem expr_at {h:View} {b o n cap:Nat} {xs:List ExprI} (k:SliceOf Rep.expr h (.slice (some ⟨b,o,none⟩) n cap) xs) (i:Nat) (hi:i<xs.length) :
  h ⟨b,o+i*7,none⟩=some (.int .i64 xs[i].op)∧h ⟨b,o+i*7+1,none⟩=some (.int .i64 xs[i].a)∧h ⟨b,o+i*7+2,none⟩=some (.int .i64 xs[i].b)∧h ⟨b,o+i*7+3,none⟩=some (.int .i64 xs[i].col)∧h ⟨b,o+i*7+4,none⟩=some (.int .i64 xs[i].c.kind)∧h ⟨b,o+i*7+5,none⟩=some (.int .i64 xs[i].c.n)∧h ⟨b,o+i*7+6,none⟩=some (.string xs[i].c.s):=by
 obtain⟨c,⟨rfl,_⟩,h2⟩:=k.at i hi
 exact⟨h2 0 _ rfl,h2 1 _ rfl,h2 2 _ rfl,h2 3 _ rfl,h2 4 _ rfl,h2 5 _ rfl,h2 6 _ rfl⟩
set_option maxRecDepth 100000 in
set_option maxHeartbeats 8000000 in
theorem eval_col (v:Value) (es:List ExprI) (root:Nat) (vv:Value) (vals:List Val) (w:World) (he:SliceOf Rep.expr w.cell? v es) (hcol : ∀e∈es,e.op=2) (hr:root<es.length) (hl:es.length≤1000) (hv:SliceOf Rep.val w.cell? vv vals) :
  Calls Tryz.prog 125 #[v,.int .i64 root,vv] w fun e w'=>e = .returned (valV (colAt vals (es[root].col)))∧Ext w w':=by
 obtain⟨i3,hi3,hz30,hz31,hz32⟩:=info_parts info_val3
 obtain⟨p,cap,rfl,hc1,hc2,hp⟩:=he.form
 obtain⟨q,qc,rfl,_⟩:=hv.form
 obtain⟨bb,ob,rfl⟩:=hp (by decide) (by omega)
 obtain⟨y,hy⟩ : ∃y,y=colAt vals (es[root].col):=⟨_,rfl⟩
 rw [←hy]
 have HY:=Lib.hid hy
 obtain⟨N,hN⟩ : ∃N,N=es.length:=⟨_,rfl⟩
 have HE:=Lib.hid he
 rw [←hN]at HE hc1 ⊢
 have HV:=Lib.hid hv
 have HCOL:=Lib.hid hcol
 have HN:=Lib.hid hN
 obtain⟨M,hM⟩ : ∃M,M=root+1:=⟨_,rfl⟩
 have HM:=Lib.hid hM
 have hMN:M≤N:=by omega
 have hM1:M≤1000:=by omega
 have em:(root:Int)+1=(M:Int):=by omega
 have hw1:IntKind.i64.wrap (M:Int)=(M:Int):=by rw [IntKind.wrap_i64];omega
 have hd0:decide ((root:Int)<0)=false:=by simp
 have hd1:decide ((N:Int)≤(root:Int))=false:=by simp;omega
 have hrM:(root:Int)<(M:Int):=by omega
 have hMc:M≤cap:=by omega
 have hMc':(M:Int)≤(cap:Int):=by omega
 clear he hv hcol hN hl hy hM hc2 hp
 go_enter Tryz.func125,Tryz.ntmps125
 go_wp2_with fail
 go_step3
 go_wp2_with (at_make;go_loud (refine wpList_make_full _ rfl _ _ 56 rfl w.heap.size 61 i3 _ 3 Tryz.underlying56 hi3 hz30 hz31 .i64 .i64 (M:Int) (M:Int) M rfl rfl rfl rfl (by rw [hz32];omega) (by unfold maxLen;omega) (by simp) ?_))
 intro w1 own1 gr1
 have hF1:=FreeN.made own1
 have X1:=Lib.hid (ext_grown ((Ext.refl w).alloc _) gr1 (fun k hk=>by cases hk))
 have xz:=ext_grown (Ext.refl _) gr1 (fun k hk=>by cases hk)
 have HX0:=Lib.hid (show (w1.cell? ⟨w.heap.size,0,none⟩=some (.int .i64 0)∧w1.cell? ⟨w.heap.size,1,none⟩=some (.int .i64 0)∧w1.cell? ⟨w.heap.size,2,none⟩=some (.string ⟨#[]⟩))∧w1.frozen? ⟨w.heap.size,0,none⟩=false∧w1.frozen? ⟨w.heap.size,1,none⟩=false∧w1.frozen? ⟨w.heap.size,2,none⟩=false from
  ⟨⟨xz.at (by go_simp),xz.at (by go_simp),xz.at (by go_simp)⟩,xz.unfrozen (p:=⟨w.heap.size,0,none⟩) (v:= .int .i64 0) (by go_simp) (by go_simp),xz.unfrozen (p:=⟨w.heap.size,1,none⟩) (v:= .int .i64 0) (by go_simp) (by go_simp),xz.unfrozen (p:=⟨w.heap.size,2,none⟩) (v:= .string ⟨#[]⟩) (by go_simp) (by go_simp)⟩)
 clear xz
 obtain⟨g,hg⟩ : ∃g,g=w.heap.size+1:=⟨_,rfl⟩
 have hF2:FreeN w1 g (M*3):=by
  rw [hg]
  exact hF1
 have HG:=Lib.hid hg
 have HF2:=Lib.hid hF2
 have HX1:=Lib.hid (show Ext w w1 from X1.out)
 have hgl : ∀z:Nat,z=w.heap.size+1→(⟨z,0,none⟩:Addr)=⟨g,0,none⟩:=fun z hz=>by rw [hz,hg]
 try rw [←hg]
 clear hF1 hF2 own1 gr1 X1 hg hgl
 go_wp2_with fail
 refine wp_label ?_
 go_wp2_with fail
 go_loopg [30] M (fun gk vi wr=> ∃(k:Nat),k≤M∧gk=M - k∧vi = .int .i64 k∧Hid (FreeN wr g (M*3))∧Hid (k=M→wr.cell? ⟨g,root*3,none⟩=some (.int .i64 y.kind)∧wr.cell? ⟨g,root*3+1,none⟩=some (.int .i64 y.n)∧wr.cell? ⟨g,root*3+2,none⟩=some (.string y.s))∧Hid (FreeN wr w.heap.size 3)∧Ext w wr)
 case atStart=>exact⟨0,by omega,rfl,rfl,HF2.out,fun h=>by omega,(fun j hj=>by
  obtain⟨⟨a0,a1,a2⟩,b0,b1,b2⟩:=HX0.out
  rcases(by omega:j=0∨j=1∨j=2)with rfl | rfl | rfl
  ·exact⟨⟨_,a0⟩,b0⟩
  ·exact⟨⟨_,a1⟩,b1⟩
  ·exact⟨⟨_,a2⟩,b2⟩),HX1.out⟩
 case round =>
  clear HF2 HX1 HX0
  obtain⟨k,hk,rfl,rfl,HFR,HLS,HRS,hx⟩:=hrel
  by_cases hlt:k<M
  ·have hd:decide ((k:Int)<(M:Int))=true:=by simp;omega
   have hkM:(k:Int)<(M:Int):=by omega
   have hkn:k<es.length:=by have:=HN.out;omega
   obtain⟨c0,c1,c2,c3,c4,c5,c6⟩:=expr_at HE.out k hkn
   have hop:=HCOL.out es[k] (List.getElem_mem hkn)
   have hyk:k+1=M→colAt vals es[k].col=y:=fun e=>by
    have h1:=HM.out
    have h2:k=root:=by omega
    subst h2
    exact HY.out.symm
   generalize es[k]=x at c0 c1 c2 c3 c4 c5 c6 hop hyk
   obtain⟨xo,xa,xb,xc,⟨xk,xn,xs⟩⟩:=x
   dsimp only at c0 c1 c2 c3 c4 c5 c6 hop hyk
   replace c0:=hx.at c0
   replace c1:=hx.at c1
   replace c2:=hx.at c2
   replace c3:=hx.at c3
   replace c4:=hx.at c4
   replace c5:=hx.at c5
   replace c6:=hx.at c6
   have HOP:=Lib.hid hop
   have HYK:=Lib.hid hyk
   have e0:=cell_lt c0
   clear hop hyk
   go_wp2_with fail
   refine(operands_col ⟨xo,xa,xb,xc,⟨xk,xn,xs⟩⟩ HOP.out _).mono ?_
   rintro e w2 ⟨p2,d2,rfl,x2⟩
   have a0:w2.cell? ⟨wr.heap.size,0,none⟩=some (.int .i64 xo):=x2.at (by go_simp)
   have a1:w2.cell? ⟨wr.heap.size,1,none⟩=some (.int .i64 xa):=x2.at (by go_simp)
   have a2:w2.cell? ⟨wr.heap.size,2,none⟩=some (.int .i64 xb):=x2.at (by go_simp)
   have a3:w2.cell? ⟨wr.heap.size,3,none⟩=some (.int .i64 xc):=x2.at (by go_simp)
   have a4:w2.cell? ⟨wr.heap.size,4,none⟩=some (.int .i64 xk):=x2.at (by go_simp)
   have a5:w2.cell? ⟨wr.heap.size,5,none⟩=some (.int .i64 xn):=x2.at (by go_simp)
   have a6:w2.cell? ⟨wr.heap.size,6,none⟩=some (.string xs):=x2.at (by go_simp)
   have X2:=Lib.hid (show Ext wr w2 from ((Ext.refl wr).alloc _).trans x2)
   have e2:=cell_lt a0
   clear x2 c0 c1 c2 c3 c4 c5 c6 e0
   go_wp2_with fail
   have HFR2:=Lib.hid (HFR.out.ext X2.out)
   have HRS2:=Lib.hid (HRS.out.ext X2.out)
   have HX2:=Lib.hid (hx.trans X2.out)
   clear HFR HRS HLS hx X2
   go_loopg [10,38] 0 (fun gk va vi wq=>gk=0∧va = .slice none 0 0∧vi = .int .i64 0∧wq=w2)
   case atStart=>exact⟨rfl,rfl,rfl,rfl⟩
   case round =>
    obtain⟨rfl,rfl,rfl,rfl⟩:=hrel
    go_wp2_with fail
    refine(apply_col ⟨xo,xa,xb,xc,⟨xk,xn,xs⟩⟩ HOP.out none 0 0 _ vals _ (HV.out.ext HX2.out.full)).mono ?_
    rintro e w3 ⟨rfl,x3⟩
    dsimp only
    obtain⟨yy,hyy⟩ : ∃z,z=colAt vals xc:=⟨_,rfl⟩
    rw [←hyy]
    have HYY:=Lib.hid (show k+1=M→yy=y from fun e=>by rw [hyy];exact HYK.out e)
    obtain⟨zk,zn,zs⟩:=yy
    have HFR3:=Lib.hid (HFR2.out.ext x3)
    have HRS3:=Lib.hid (HRS2.out.ext x3)
    have HX3:=Lib.hid (HX2.out.trans x3)
    obtain⟨⟨o0,p0⟩,f0⟩:=HFR3.out (k*3) (by omega)
    obtain⟨⟨o1,p1⟩,f1⟩:=HFR3.out (k*3+1) (by omega)
    obtain⟨⟨o2,p2'⟩,f2⟩:=HFR3.out (k*3+2) (by omega)
    have e3:=cell_lt p0
    have HGB:=Lib.hid (show w.heap.size≤g∧g≠w.heap.size from by have:=HG.out;omega)
    clear hyy HYK HFR2 HRS2 HX2 x3 a0 a1 a2 a3 a4 a5 a6 e2
    go_wp2_with fail
    go_roundg (M - (k+1))
    case measure=>omega
    case rel =>
     refine⟨k+1,by omega,rfl,by go_num,((HFR3.out.set _ _).set _ _).set _ _,fun e=> ?_,fun j hj=> ?_,Below.setCell (Below.setCell (Below.setCell HX3.out HGB.out.1 _) HGB.out.1 _) HGB.out.1 _⟩
     ·have h1:=HYY.out e
      have h2:k=root:=by have:=HM.out;omega
      subst h2
      rw [←h1]
      refine⟨?_,?_,?_⟩ <;> go_simp
     ·obtain⟨⟨u,hu⟩,hf⟩:=HRS3.out j hj
      exact⟨⟨u,cell_set (cell_set (cell_set hu HGB.out.2) HGB.out.2) HGB.out.2⟩,by go_simp⟩
  ·have hkM:k=M:=by omega
   have hd : ¬(k:Int)<(M:Int):=by omega
   obtain⟨s0,s1,s2⟩:=HLS.out hkM
   obtain⟨⟨o0,p0⟩,f0⟩:=HRS.out 0 (by omega)
   obtain⟨⟨o1,p1⟩,f1⟩:=HRS.out 1 (by omega)
   obtain⟨⟨o2,p2⟩,f2⟩:=HRS.out 2 (by omega)
   have e3:=cell_lt s0
   have e4:=cell_lt p0
   have HXF:=Lib.hid hx
   clear hkM HLS HRS HFR hx
   go_wp2_with fail
   exact bodyPost_ret (v:=valV y) (by simp [results,Tryz.results125,go_sem,p0,p1,p2]) rfl ⟨rfl,Below.setCell (Below.setCell (Below.setCell HXF.out (Nat.le_refl _) _) (Nat.le_refl _) _) (Nat.le_refl _) _⟩
end Go.Proofs.YtombmdaohcjokaaGreatDoor
namespace Go.Proofs.YtombmdaohcjokaaGreatDoor
open Go.RowKit
def projC (es:List ExprI) (keys:List Int) (vals:List Val):List Val:=keys.map fun k=>colAt vals ((es.map ExprI.col).getD k.toNat 0)
theorem proj_take (es:List ExprI) (keys:List Int) (vals:List Val) (k:Nat) (h:k<keys.length):projC es (keys.take (k+1)) vals=projC es (keys.take k) vals ++ [colAt vals ((es.map ExprI.col).getD keys[k].toNat 0)]:=by
 rw [List.take_succ_eq_append_getElem h]
 unfold projC
 rw [List.map_append]
 rfl
theorem ok_colAt {vals:List Val} (h : ∀x∈vals,okVal x) (c:Int):okVal (colAt vals c):=by
 unfold colAt
 split
 ·rename_i hc
  have hlt:c.toNat<vals.length:=by omega
  rw [List.getD_eq_getElem?_getD,List.getElem?_eq_getElem hlt]
  exact h _ (List.getElem_mem hlt)
 ·exact ok_nV
theorem vals_ok {h:View} {v:Value} {vs:List Val} (k:SliceOf Rep.val h v vs) : ∀x∈vs,okVal x:=by
 intro x hx
 obtain⟨i,hi,rfl⟩:=List.getElem_of_mem hx
 obtain⟨p,cap,rfl,_,_,hp⟩:=k.form
 obtain⟨b,o,rfl⟩:=hp (by decide) (by omega)
 obtain⟨c,⟨_,h3⟩,_⟩:=k.at i hi
 exact h3
set_option maxRecDepth 100000 in
set_option maxHeartbeats 4000000 in
theorem project_col (v:Value) (es:List ExprI) (kv:Value) (keys:List Int) (vv:Value) (vals:List Val) (w:World) (he:SliceOf Rep.expr w.cell? v es) (hcol : ∀e∈es,e.op=2) (hl:es.length≤1000) (hk:SliceOf Rep.int w.cell? kv keys) (hkr : ∀k∈keys,0≤k∧k<es.length) (hkl:keys.length≤1000) (hv:SliceOf Rep.val w.cell? vv vals) :
  Calls Tryz.prog 80 #[v,kv,vv] w fun e w'=> ∃v',e = .returned v'∧OwnOf Rep.val w' (fun _=>True) w.heap.size 61 v' (projC es keys vals)∧Ext w w':=by
 obtain⟨i3,hi3,hz30,hz31,hz32⟩:=info_parts info_val3
 obtain⟨pe,ce,rfl,_⟩:=he.form
 obtain⟨pv,cv,rfl,_⟩:=hv.form
 obtain⟨p,cap,rfl,hc1,hc2,hp⟩:=hk.form
 obtain⟨N,hN⟩ : ∃N,N=keys.length:=⟨_,rfl⟩
 have HK:=Lib.hid hk
 rw [←hN]
 have HN:=Lib.hid hN
 have HP:=Lib.hid hp
 have HE:=Lib.hid he
 have HV:=Lib.hid hv
 have HCOL:=Lib.hid hcol
 have HKR:=Lib.hid hkr
 have HL:=Lib.hid hl
 have hNl:N≤1000:=by omega
 clear he hcol hl hk hkr hkl hv hp hc1 hc2 hN
 go_enter Tryz.func80,Tryz.ntmps80
 go_wp2_with fail
 go_loopg [7,12] N (fun gk vo vi wr=> ∃(k:Nat) (u:Value) (o:List Val),k≤N∧gk=N - k∧vi = .int .i64 k∧u=vo∧Hid (OwnOf Rep.val wr (fun _=>True) w.heap.size 61 u o)∧Hid (o=projC es (keys.take k) vals)∧Ext w wr)
 case atStart=>exact⟨0,_,[],by omega,rfl,rfl,rfl,OwnOf.nil _ _ _ _ _,rfl,Ext.refl w⟩
 case round =>
  obtain⟨k,u,o,hk,rfl,rfl,rfl,OW,AS,hx⟩:=hrel
  by_cases hlt:k<N
  ·have hkl:k<keys.length:=by have:=HN.out;omega
   have hd:decide ((k:Int)<(N:Int))=true:=by simp;omega
   obtain⟨b,o',rfl⟩:=HP.out (by decide) (by omega)
   have hv:=HK.out
   rw [←HN.out]at hv
   obtain⟨c0,_⟩:=int_at hv k hkl
   replace c0:=hx.at c0
   have hst:=proj_take es keys vals k hkl
   have hkr:=HKR.out keys[k] (List.getElem_mem hkl)
   have hol:o.length≤1000:=by rw [AS.out];unfold projC;rw [List.length_map,List.length_take];omega
   rw [←AS.out]at hst
   generalize keys[k]=x at c0 hst hkr
   obtain⟨root,rfl⟩ : ∃r:Nat,x=r:=⟨x.toNat,by omega⟩
   have hrl:root<es.length:=by omega
   have hcx:(es.map ExprI.col).getD (Int.toNat (root:Int)) 0=es[root].col:=by
    rw [Int.toNat_natCast,List.getD_eq_getElem?_getD,List.getElem?_map,List.getElem?_eq_getElem hrl]
    rfl
   rw [hcx]at hst
   obtain⟨y,hy⟩ : ∃y,y=colAt vals es[root].col:=⟨_,rfl⟩
   have hoy:okVal y:=by rw [hy];exact ok_colAt (vals_ok HV.out) _
   have e0:=cell_lt c0
   have HST:=Lib.hid hst
   have HHY:=Lib.hid hy
   have HOY:=Lib.hid hoy
   have B1:o.length+1≤maxLen:=by unfold maxLen;omega
   have B2:(o.length+1)*32≤140737488355328:=by omega
   clear hst hkr hv hol hcx hy hoy
   go_wp2_with fail
   refine(eval_col _ es root _ vals _ (HE.out.ext hx.full) HCOL.out hrl HL.out (HV.out.ext hx.full)).mono ?_
   rintro e w1 ⟨rfl,x1⟩
   rw [←HHY.out]
   have HX1:=Lib.hid x1
   obtain⟨yk,yn,ys⟩:=y
   clear x1
   dsimp only
   go_wp2_with (at_builtin;go_loud (refine wpList_append_one Rep.val (fun _=>True) rfl _ _ 56 rfl w.heap.size 61 i3 _ 32 Tryz.underlying56 hi3 hz30 hz31 hz32 rfl (by decide) u o rfl (OW.out.ext (HX1.out.alloc _)) ⟨w1.heap.size,0,none⟩ 1 ⟨yk,yn,ys⟩ [.int .i64 yk,.int .i64 yn,.string ys] rfl ⟨rfl,HOY.out⟩ (by exact cells_new w1 [.int .i64 yk,.int .i64 yn,.string ys] _) B1 B2 (by exact(hx.trans (HX1.out.alloc _)).size) ?_))
   intro g cap3 w3 own gr _
   have hxx:Ext w w3:=Ext.grownNew (hx.trans (HX1.out.alloc _)) gr OW.out.base
   have OW2:=Lib.hid own
   clear own gr
   go_wp2_with fail
   go_roundg (N - (k+1))
   case measure=>omega
   case rel=>exact⟨k+1,_,_,by omega,rfl,by go_num,rfl,OW2.out,by show _=_;rw [HST.out,←HHY.out],hxx⟩
  ·have hkN:k=N:=by omega
   have hd : ¬(k:Int)<(N:Int):=by omega
   have HF:=Lib.hid (show o=projC es keys vals from by
    have h:=AS.out
    rw [hkN,HN.out,List.take_length]at h
    exact h)
   clear hkN
   go_wp2_with fail
   go_ret
   exact⟨u,rfl,by rw [←HF.out];exact OW.out,hx⟩
set_option maxRecDepth 100000 in
set_option maxHeartbeats 4000000 in
theorem aggregate_count (v:Value) (pg:Option Addr) (ng cg:Nat) (arg:Int) (w:World) :
  Calls Tryz.prog 130 #[v,.agg #[.int .i64 1,.int .i64 arg],.slice pg ng cg] w fun e w'=>e = .returned (valV (intVal ng))∧Ext w w':=by
 go_enter Tryz.func130,Tryz.ntmps130
 go_wp2_with fail
 exact bodyPost_ret (v:=valV (intVal ng)) (by simp [results,Tryz.results130,go_sem,valV,intVal];rfl) rfl ⟨rfl,((Ext.refl w).alloc _).alloc _⟩
end Go.Proofs.YtombmdaohcjokaaGreatDoor
namespace Go.Proofs.YtombmdaohcjokaaGreatDoor
open Go.RowKit
theorem bnd_take (l:List Tup) (k:Nat) (h:k<l.length):bnd (l.take (k+1))=bnd (l.take k)++if validB l[k].from_ l[k].to_=true then [l[k].from_,l[k].to_]else []:=by
 rw [List.take_succ_eq_append_getElem h,bnd_append]
 simp only [bnd,List.flatMap_cons,List.flatMap_nil,List.append_nil]
 rfl
set_option maxRecDepth 100000 in
set_option maxHeartbeats 4000000 in
theorem bounds_any (v:Value) (l:List Tup) (w:World) (hv:SliceOf Rep.tup w.cell? v l) (hl:l.length≤1048576) :
  Calls Tryz.prog 82 #[v] w fun e w'=> ∃v',e = .returned v'∧OwnOf Rep.int w' (fun _=>True) w.heap.size 3 v' (pts l)∧Ext w w':=by
 obtain⟨i2,hi2,hz20,hz21,hz22⟩:=info_parts info_ints
 obtain⟨p,cap,rfl,hc1,hc2,hp⟩:=hv.form
 obtain⟨N,hN⟩ : ∃N,N=l.length:=⟨_,rfl⟩
 have HV:=Lib.hid hv
 rw [←hN]
 have HN:=Lib.hid hN
 have HP:=Lib.hid hp
 have hNl:N≤1048576:=by omega
 clear hv hN hp hc1 hc2 hl
 go_enter Tryz.func82,Tryz.ntmps82
 go_wp2_with fail
 go_loopg [3,8] N (fun gk vo vi wr=> ∃(k:Nat) (u:Value) (o:List Int),k≤N∧gk=N - k∧vi = .int .i64 k∧u=vo∧Hid (OwnOf Rep.int wr (fun _=>True) w.heap.size 3 u o)∧Hid (o=bnd (l.take k))∧Ext w wr)
 case atStart=>exact⟨0,_,[],by omega,rfl,rfl,rfl,OwnOf.nil _ _ _ _ _,rfl,Ext.refl w⟩
 case round =>
  obtain⟨k,u,o,hk,rfl,rfl,rfl,OW,AS,hx⟩:=hrel
  by_cases hlt:k<N
  ·have hkl:k<l.length:=by have:=HN.out;omega
   obtain⟨b,o',rfl⟩:=HP.out (by decide) (by omega)
   have hv:=HV.out
   rw [←HN.out]at hv
   obtain⟨ta,tb,c0,c1,c2,c3,g0,g1,r1,r2⟩:=tup_at hv k hkl
   obtain⟨pa,ka,ta',_⟩:=g0.form
   obtain⟨pb,kb,tb',_⟩:=g1.form
   subst ta' tb'
   replace c0:=hx.at c0
   replace c1:=hx.at c1
   replace c2:=hx.at c2
   replace c3:=hx.at c3
   have hst:=bnd_take l k hkl
   have hol:o.length≤2097152:=by
    have h2:=bnd_len (l.take k)
    have h3:=List.length_take_le k l
    rw [AS.out]
    omega
   rw [←AS.out]at hst
   generalize l[k].from_=f at c1 hst r1
   generalize l[k].to_=t at c2 hst r2
   generalize l[k].vals.length=na at c0
   generalize l[k].lin.length=nb at c3
   have HST:=Lib.hid hst
   have HR:=Lib.hid (show okI f∧okI t from ⟨r1,r2⟩)
   have B1:o.length+2≤maxLen:=by unfold maxLen;omega
   have B2:(o.length+2)*8≤140737488355328:=by omega
   have hd:decide ((k:Int)<(N:Int))=true:=by simp;omega
   have e0:=cell_lt c0
   clear hst g0 g1 r1 r2 hv hol
   go_wp2_with fail
   refine(valid_any f t _).mono ?_
   rintro e w1 ⟨rfl,x1⟩
   have d1:w1.cell? ⟨wr.heap.size,1,none⟩=some (.int .i64 f):=x1.at (by go_simp)
   have d2:w1.cell? ⟨wr.heap.size,2,none⟩=some (.int .i64 t):=x1.at (by go_simp)
   have X1:=Lib.hid (show Ext wr w1 from ((Ext.refl wr).alloc _).trans x1)
   have e1:=cell_lt d1
   clear x1 c0 c1 c2 c3 e0
   cases hvb:validB f t with
   |true =>
    have HVB:=Lib.hid hvb
    clear hvb
    go_wp2_with (at_builtin;refine wpList_append_all Rep.int (fun _=>True) rfl _ _ 29 rfl w.heap.size 3 i2 _ 8 Tryz.underlying29 hi2 hz20 hz21 hz22 rfl (by decide) u o rfl (OW.out.ext (X1.out.alloc _)) _ [f,t] rfl (lit_new (R:=Rep.int) w1 [.int .i64 f,.int .i64 t] 3 [[.int .i64 f],[.int .i64 t]] [f,t] rfl (fun _=>⟨⟨rfl,HR.out.1⟩,⟨rfl,HR.out.2⟩,trivial⟩) (by simp [maxLen]) (fun x hx=>Nat.lt_of_lt_of_le (OW.out.lt x hx).2 X1.out.size)) B1 B2 (by exact(hx.trans (X1.out.alloc _)).size) ?_)
    intro v3 w3 own gr _
    have hxx:Ext w w3:=Ext.grownNew (hx.trans (X1.out.alloc _)) gr OW.out.base
    have OW2:=Lib.hid own
    clear own gr d1 d2 e1
    go_wp2_with fail
    go_roundg (N - (k+1))
    case measure=>omega
    case rel=>exact⟨k+1,v3,_,by omega,rfl,by go_num,rfl,OW2.out,by show _=_;rw [HST.out,if_pos HVB.out],hxx⟩
   |false =>
    have HVB:=Lib.hid hvb
    clear hvb
    go_wp2_with fail
    go_roundg (N - (k+1))
    case measure=>omega
    case rel=>exact⟨k+1,u,o,by omega,rfl,by go_num,rfl,OW.out.ext X1.out,by show _=_;rw [HST.out,HVB.out,if_neg (by decide),List.append_nil],hx.trans X1.out⟩
  ·have hkN:k=N:=by omega
   have hd : ¬(k:Int)<(N:Int):=by omega
   have HF:=Lib.hid (show o=bnd l from by
    have h:=AS.out
    rw [hkN,HN.out,List.take_length]at h
    exact h)
   have hol:o.length≤2097152:=by
    have h2:=bnd_len l
    have:=HN.out
    rw [HF.out]
    omega
   have HOL:=Lib.hid hol
   clear hkN hol
   go_wp2_with fail
   refine(sort_ints (fun _=>True) _ _ _ _ _ OW.out (by have:=HOL.out;omega)).mono ?_
   rintro e w4 ⟨rfl,own4,gr4⟩
   have X4:=Lib.hid (Ext.grownNew hx gr4 OW.out.base)
   have OW4:=Lib.hid own4
   clear own4 gr4
   go_wp2_with fail
   refine(compact_ints (fun _=>True) _ _ _ _ _ OW4.out).mono ?_
   rintro e w5 ⟨v5,rfl,own5,gr5⟩
   have X5:=Lib.hid (Ext.grownNew X4.out gr5 OW4.out.base)
   have OW5:=Lib.hid (show OwnOf Rep.int w5 (fun _=>True) w.heap.size 3 v5 (pts l)from by
    have h:pts l=Lib.compact (o.mergeSort fun x y=>decide (x≤y)):=by unfold pts mergeL;rw [List.append_nil,HF.out]
    rw [h]
    exact own5)
   clear own5 gr5
   go_wp2_with fail
   go_ret
   exact⟨v5,rfl,OW5.out,X5.out⟩
end Go.Proofs.YtombmdaohcjokaaGreatDoor
namespace Go.Proofs.YtombmdaohcjokaaGreatDoor
open Go.RowKit
theorem clip_take (l:List Tup) (k:Nat) (h:k<l.length):clipT (l.take (k+1))=clipT (l.take k)++if interB l[k].from_ l[k].to_ 0 1000000=true then [⟨l[k].vals,max l[k].from_ 0,min l[k].to_ 1000000,l[k].lin⟩]else []:=by
 rw [List.take_succ_eq_append_getElem h]
 unfold clipT
 rw [List.filterMap_append,List.filterMap_cons,List.filterMap_nil]
 congr 1
 have e:interB l[k].from_ l[k].to_ 0 1000000=(validB l[k].from_ l[k].to_&&decide (max l[k].from_ 0<min l[k].to_ 1000000)):=by
  unfold interB
  rw [show validB 0 1000000=true by decide,Bool.and_true]
 unfold clip1 validT
 rw [e]
 by_cases c:validB l[k].from_ l[k].to_=true∧max l[k].from_ 0<min l[k].to_ 1000000
 ·rw [if_pos c,if_pos (by rw [Bool.and_eq_true,decide_eq_true_eq];exact c)]
 ·rw [if_neg c,if_neg (by rw [Bool.and_eq_true,decide_eq_true_eq];exact c)]
theorem clip_len (l:List Tup):(clipT l).length≤l.length:=List.length_filterMap_le _ _
theorem old_avoidS {w w':World} {S:Nat→Prop} {u:Value} {α:Type} {R:Rep α} {e:TypeId} {xs:List α} (hS : ∀x,S x→x<w.heap.size) (hx:Ext w w') (own:OwnOf R w' S w.heap.size e u xs):Sub (on w S) (on w' (avoid S u)):=fun p v h=>by
 obtain⟨h1,h2⟩:=on_some.1 h
 exact on_some.2 ⟨⟨fun e=>by have:=(own.lt _ e.symm).1;have:=hS _ h1;omega,h1⟩,hx.at h2⟩
set_option maxRecDepth 100000 in
set_option maxHeartbeats 4000000 in
theorem clip_any (v:Value) (l:List Tup) (w:World) (S:Nat→Prop) (hS : ∀x,S x→x<w.heap.size) (hv:SliceOf Rep.tup (on w S) v l) (hl:l.length≤1048576) (hD:DaysW w) :
  Calls Tryz.prog 79 #[v] w fun e w'=> ∃v',e = .returned v'∧OwnOf Rep.tup w' S w.heap.size 125 v' (clipT l)∧Ext w w':=by
 obtain⟨i2,hi2,hz20,hz21,hz22⟩:=info_parts info_tupN
 obtain⟨p,cap,rfl,hc1,hc2,hp⟩:=hv.form
 obtain⟨N,hN⟩ : ∃N,N=l.length:=⟨_,rfl⟩
 have HV:=Lib.hid hv
 rw [←hN]
 have HN:=Lib.hid hN
 have HP:=Lib.hid hp
 have HD:=Lib.hid hD
 have HSS:=Lib.hid hS
 have hNl:N≤1048576:=by omega
 clear hv hN hp hc1 hc2 hl hD hS
 go_enter Tryz.func79,Tryz.ntmps79
 go_wp2_with fail
 go_loopg [3,10] N (fun gk vo vi wr=> ∃(k:Nat) (u:Value) (o:List Tup),k≤N∧gk=N - k∧vi = .int .i64 k∧u=vo∧Hid (OwnOf Rep.tup wr S w.heap.size 125 u o)∧Hid (o=clipT (l.take k))∧Ext w wr)
 case atStart=>exact⟨0,_,[],by omega,rfl,rfl,rfl,OwnOf.nil _ _ _ _ _,rfl,Ext.refl w⟩
 case round =>
  obtain⟨k,u,o,hk,rfl,rfl,rfl,OW,AS,hx⟩:=hrel
  by_cases hlt:k<N
  ·have hkl:k<l.length:=by have:=HN.out;omega
   have hd:decide ((k:Int)<(N:Int))=true:=by simp;omega
   obtain⟨b,o',rfl⟩:=HP.out (by decide) (by omega)
   have hv:=HV.out
   rw [←HN.out]at hv
   obtain⟨ta,tb,c0,c1,c2,c3,g0,g1,r1,r2⟩:=tup_at hv k hkl
   obtain⟨pa,ka,ta',_⟩:=g0.form
   obtain⟨pb,kb,tb',_⟩:=g1.form
   subst ta' tb'
   replace c0:=hx.at (on_some.1 c0).2
   replace c1:=hx.at (on_some.1 c1).2
   replace c2:=hx.at (on_some.1 c2).2
   replace c3:=hx.at (on_some.1 c3).2
   have hst:=clip_take l k hkl
   have hol:o.length≤1048576:=by
    rw [AS.out]
    exact Nat.le_trans (clip_len _) (Nat.le_trans (List.length_take_le _ _) (by omega))
   rw [←AS.out]at hst
   generalize l[k]=y at c0 c1 c2 c3 g0 g1 r1 r2 hst
   obtain⟨vs,f,t,ln⟩:=y
   dsimp only at c0 c1 c2 c3 g0 g1 r1 r2 hst
   have HST:=Lib.hid hst
   have G0:=Lib.hid g0
   have G1:=Lib.hid g1
   have HR:=Lib.hid (show okI f∧okI t from ⟨r1,r2⟩)
   have e0:=cell_lt c0
   obtain⟨y0,y1⟩:=days_cells (HD.out.ext hx)
   have e9:=cell_lt y0
   clear hst g0 g1 r1 r2 hv
   go_wp2_with fail
   refine(intersect_any f t 0 1000000 _).mono ?_
   rintro e w1 ⟨rfl,x1⟩
   have d0:w1.cell? ⟨wr.heap.size,0,none⟩=some (.slice pa vs.length ka):=x1.at (by go_simp)
   have d1:w1.cell? ⟨wr.heap.size,1,none⟩=some (.int .i64 f):=x1.at (by go_simp)
   have d2:w1.cell? ⟨wr.heap.size,2,none⟩=some (.int .i64 t):=x1.at (by go_simp)
   have d3:w1.cell? ⟨wr.heap.size,3,none⟩=some (.slice pb ln.length kb):=x1.at (by go_simp)
   have u1:w1.frozen? ⟨wr.heap.size,1,none⟩=false:=x1.unfrozen (p:=⟨wr.heap.size,1,none⟩) (v:= .int .i64 f) (by go_simp) (by go_simp)
   have u2:w1.frozen? ⟨wr.heap.size,2,none⟩=false:=x1.unfrozen (p:=⟨wr.heap.size,2,none⟩) (v:= .int .i64 t) (by go_simp) (by go_simp)
   have X1:=Lib.hid (show Ext wr w1 from ((Ext.refl wr).alloc _).trans x1)
   have e1:=cell_lt d0
   clear x1 c0 c1 c2 c3 e0 y0 y1 e9
   obtain⟨f',hf'⟩ : ∃x,x=max f 0:=⟨_,rfl⟩
   obtain⟨t',ht'⟩ : ∃x,x=min t 1000000:=⟨_,rfl⟩
   have HFT:=Lib.hid (And.intro hf' ht')
   cases hib:interB f t 0 1000000 with
   |true =>
    have HIB:=Lib.hid hib
    have hok:okI f'∧okI t':=by have:=HR.out;unfold okI at *;omega
    have HOK:=Lib.hid hok
    rw [interV_yes hib hf' ht']
    unfold perV
    have B1:o.length+1≤maxLen:=by unfold maxLen;omega
    have B2:(o.length+1)*64≤140737488355328:=by omega
    clear hib hok hf' ht'
    have XW0:Ext wr (((w1.setCell ⟨wr.heap.size,1,none⟩ (.int .i64 f')).setCell ⟨wr.heap.size,2,none⟩ (.int .i64 t')).alloc (.cells #[.int .i64 f',.int .i64 t'] 123)):=Ext.alloc (Below.setCell (Below.setCell X1.out (Nat.le_refl _) _) (Nat.le_refl _) _) _
    have hsz:(((w1.setCell ⟨wr.heap.size,1,none⟩ (.int .i64 f')).setCell ⟨wr.heap.size,2,none⟩ (.int .i64 t')).alloc (.cells #[.int .i64 f',.int .i64 t'] 123)).heap.size=w1.heap.size+1:=by simp
    have HXW:=Lib.hid (And.intro XW0 hsz)
    clear XW0 hsz
    have HC:=Lib.hid (show ∀(j:Nat) (z:Value),[.slice pa vs.length ka,.int .i64 f',.int .i64 t',.slice pb ln.length kb][j]?=some z→((((w1.setCell ⟨wr.heap.size,1,none⟩ (.int .i64 f')).setCell ⟨wr.heap.size,2,none⟩ (.int .i64 t')).alloc (.cells #[.int .i64 f',.int .i64 t'] 123)).alloc (.cells #[.slice pa vs.length ka,.int .i64 f',.int .i64 t',.slice pb ln.length kb] 125)).cell? ((⟨w1.heap.size+1,0,none⟩:Addr).add j)=some z from by
     have h:=cells_new (((w1.setCell ⟨wr.heap.size,1,none⟩ (.int .i64 f')).setCell ⟨wr.heap.size,2,none⟩ (.int .i64 t')).alloc (.cells #[.int .i64 f',.int .i64 t'] 123)) [.slice pa vs.length ka,.int .i64 f',.int .i64 t',.slice pb ln.length kb] 125
     rw [HXW.out.2]at h
     exact h)
    have HH:=Lib.hid (show Rep.tup.holds (on ((((w1.setCell ⟨wr.heap.size,1,none⟩ (.int .i64 f')).setCell ⟨wr.heap.size,2,none⟩ (.int .i64 t')).alloc (.cells #[.int .i64 f',.int .i64 t'] 123)).alloc (.cells #[.slice pa vs.length ka,.int .i64 f',.int .i64 t',.slice pb ln.length kb] 125)) (avoid S u)) [.slice pa vs.length ka,.int .i64 f',.int .i64 t',.slice pb ln.length kb] ⟨vs,f',t',ln⟩from by
     have hs:Sub (on w S) (on ((((w1.setCell ⟨wr.heap.size,1,none⟩ (.int .i64 f')).setCell ⟨wr.heap.size,2,none⟩ (.int .i64 t')).alloc (.cells #[.int .i64 f',.int .i64 t'] 123)).alloc (.cells #[.slice pa vs.length ka,.int .i64 f',.int .i64 t',.slice pb ln.length kb] 125)) (avoid S u)):=old_avoidS HSS.out (hx.trans (HXW.out.1.alloc _)) (OW.out.ext (HXW.out.1.alloc _))
     exact⟨_,_,rfl,G0.out.ext hs,G1.out.ext hs,HOK.out.1,HOK.out.2⟩)
    go_wp2_with (at_builtin;refine wpList_append_one Rep.tup S rfl _ _ 85 rfl w.heap.size 125 i2 _ 64 Tryz.underlying85 hi2 hz20 hz21 hz22 rfl (by decide) u o rfl (OW.out.ext (HXW.out.1.alloc _)) ⟨w1.heap.size+1,0,none⟩ 1 ⟨vs,f',t',ln⟩ [.slice pa vs.length ka,.int .i64 f',.int .i64 t',.slice pb ln.length kb] rfl HH.out HC.out B1 B2 (by exact(hx.trans (HXW.out.1.alloc _)).size) ?_)
    intro g cap3 w3 own gr _
    have hxx:Ext w w3:=Ext.grownNew (hx.trans (HXW.out.1.alloc _)) gr OW.out.base
    have OW2:=Lib.hid own
    clear own gr d0 d1 d2 d3 e1 HC HH
    go_wp2_with fail
    go_roundg (N - (k+1))
    case measure=>omega
    case rel=>exact⟨k+1,_,o ++ [(⟨vs,f',t',ln⟩:Tup)],by omega,rfl,by go_num,rfl,OW2.out,by show _=_;rw [HST.out,if_pos HIB.out,HFT.out.1,HFT.out.2],hxx⟩
   |false =>
    have HIB:=Lib.hid hib
    rw [interV_no hib]
    unfold perV
    clear hib hf' ht'
    go_wp2_with fail
    go_roundg (N - (k+1))
    case measure=>omega
    case rel=>exact⟨k+1,u,o,by omega,rfl,by go_num,rfl,OW.out.ext (X1.out.alloc _),by show _=_;rw [HST.out,HIB.out,if_neg (by decide),List.append_nil],hx.trans (X1.out.alloc _)⟩
  ·have hkN:k=N:=by omega
   have hd : ¬(k:Int)<(N:Int):=by omega
   have HF:=Lib.hid (show o=clipT l from by
    have h:=AS.out
    rw [hkN,HN.out,List.take_length]at h
    exact h)
   clear hkN
   go_wp2_with fail
   go_ret
   exact⟨u,rfl,by rw [←HF.out];exact OW.out,hx⟩
end Go.Proofs.YtombmdaohcjokaaGreatDoor
namespace Go.Proofs.YtombmdaohcjokaaGreatDoor
open Go.RowKit Go.Deep
inductive Runs:List (List Row)→Prop
 |nil:Runs []
 |snoc (rs:List (List Row)) (run:List Row) (v:List Val):Runs rs→run≠ []→(∀r∈run,r.vals=v)→(∀p,rs.flatten.getLast?=some p→p.vals≠v)→Runs (rs ++ [run])
def RunsTo (l:List Row) (k:Nat) (done:List (List Row)) (cur:List Row):Prop :=
 ∃v,Runs done∧cur≠ []∧(∀r∈cur,r.vals=v)∧(∀p,done.flatten.getLast?=some p→p.vals≠v)∧done.flatten++cur=l.take k
structure RunsAt (w:World) (base:Nat) (e1 e2:TypeId) (v u:Value) (done:List (List Row)) (cur:List Row):Prop where
 us : ∃css,RepAll (Rep.slice Rep.row) (on w (fun k=>some k≠v.ownBlock∧some k≠u.ownBlock)) css done∧w.ownsRow base e1 1 v (done.length+1) (css.flatten ++ [u])
 cur:OwnOf Rep.row w (fun k=>k<base) base e2 u cur
 ne : ∀k,u.ownBlock=some k→v.ownBlock≠some k
section
variable {P:Program} {w:World} {ops:Array Oper} {rest:List Oper} {o:Oper} {a:Act} {Q:Exit→Act→World→Prop}
theorem step_append_one {α:Type} {K:Act→World→Prop} {E:Prop} (R:Rep α) (S:Nat→Prop) (hgd:o.guard=none) (s x:Operand) (t:TypeId)
  (ho:o.op = .call { callee:= .builtin .append,args:= #[s,x],argTypes:= #[t,t] })
  (base:Nat) (e:TypeId) (i:TypeInfo) (z:Value) (bytes:Nat) (ht:P.underlying t=some (.slice e)) (hi:P.info? e=some i) (hz:i.zero=some z)
  (hsize:i.size=R.size) (hby:i.bytes=bytes) (hzs:z.cells.size=R.size) (hsz:0<R.size)
  (v:Value) (xs:List α) (hs:a.eval s=v) (hown:OwnOf R w S base e v xs)
  (ad:Addr) (c:Nat) (y:α) (news:List Value) (hx:a.eval x = .slice (some ad) 1 c) (hy:R.holds (on w (avoid S v)) news y) (hnews : ∀j u,news[j]?=some u→w.cell? (ad.add j)=some u)
  (h63:xs.length+1≤maxLen) (hbytes:(xs.length+1)*bytes≤140737488355328) (hbase:base≤w.heap.size)
  (h : ∀g cap w',OwnOf R w' S base e (.slice (some ⟨g,0,none⟩) (xs.length+1) cap) (xs ++ [y])→w.grownBy w' v.ownBlock→(v.ownBlock=some g∨g=w.heap.size)→K (a.put o.dst (.slice (some ⟨g,0,none⟩) (xs.length+1) cap)) w') :
  if Region.wanted o (yielded ops a.tmps)=true then Oper.wp P o a w K Q else E:=by
 obtain⟨css,h1,h2⟩:=hown
 exact step_append_lies w hgd s x t ho base e i z R.size bytes ht hi hz hsize hby hzs hsz v xs.length css.flatten hs h2 ad 1 c news hx (by rw [R.len hy,Nat.one_mul]) hnews (R.one hy) (by omega) h63 hbytes hbase w.heap.size rfl
  fun g cap w' g1 g2 g3 _=>h g cap w' (OwnOf.push h1 hy g1 g2 g3) g2 g3
end
end Go.Proofs.YtombmdaohcjokaaGreatDoor
namespace Go.Proofs.YtombmdaohcjokaaGreatDoor
open Go.RowKit
structure AggI where
 kind:Int
 arg:Int
def Rep.agg:Rep AggI where
 size:=2
 holds _ cs x:=cs = [.int .i64 x.kind,.int .i64 x.arg]∧okI x.kind∧okI x.arg
 len:=by rintro w cs x ⟨rfl,_⟩;rfl
 ext:=by rintro w w' cs x h _;exact h
 one:=by rintro w cs x ⟨rfl,_⟩;simp [Value.oneCell']
theorem agg_at {h:View} {b o n cap:Nat} {xs:List AggI} (k:SliceOf Rep.agg h (.slice (some ⟨b,o,none⟩) n cap) xs) (i:Nat) (hi:i<xs.length) :
  h ⟨b,o+i*2,none⟩=some (.int .i64 xs[i].kind)∧h ⟨b,o+i*2+1,none⟩=some (.int .i64 xs[i].arg):=by
 obtain⟨c,⟨rfl,_⟩,h2⟩:=k.at i hi
 exact⟨h2 0 _ rfl,h2 1 _ rfl⟩
theorem info_vals:(Tryz.prog.info? 56).map (fun i=>(i.zero,i.size,i.bytes))=some (some (.slice none 0 0),(Rep.slice Rep.val).size,24):=by kernel_rfl
theorem FreeN.grown {w w':World} {g n:Nat} {row:Option Nat} (h:FreeN w g n) (gr:w.grownBy w' row) (hne:row≠some g):FreeN w' g n:=fun j hj=>by
 obtain⟨⟨z,h1⟩,h2⟩:=h j hj
 have hb:=gr.block g (cell_lt h1) (fun e=>hne e.symm)
 exact⟨⟨z,(World.cell?_of_block (w:=w) hb).trans h1⟩,(World.frozen?_of_block (w:=w) hb).trans h2⟩
def cntV (n:Nat) (vs:List (List Val)):List Val:=List.replicate n (intVal vs.length)
def memV (ms:List Tup) (t:Int):List (List Val):=(ms.filter (holdsAt t)).map Tup.vals
def memL (ms:List Tup) (t:Int):List Int:=(ms.filter (holdsAt t)).flatMap Tup.lin
theorem mem_take (l:List Tup) (x:Int) (k:Nat) (h:k<l.length):memV (l.take (k+1)) x=memV (l.take k) x++(if (validB l[k].from_ l[k].to_&&decide (l[k].from_≤x)&&decide (x<l[k].to_))=true then [l[k].vals]else [])∧memL (l.take (k+1)) x=memL (l.take k) x++(if (validB l[k].from_ l[k].to_&&decide (l[k].from_≤x)&&decide (x<l[k].to_))=true then l[k].lin else []):=by
 rw [List.take_succ_eq_append_getElem h]
 unfold memV memL
 rw [List.filter_append,List.map_append,List.flatMap_append,List.filter_cons,List.filter_nil]
 rw [show holdsAt x l[k]=(validB l[k].from_ l[k].to_&&decide (l[k].from_≤x)&&decide (x<l[k].to_))from rfl]
 split <;> simp
theorem memL_len {l:List Tup} {n:Nat} (h : ∀t∈l,t.lin.length≤n) (x:Int):(memL l x).length≤n*l.length:=by
 induction l with
 |nil=>exact Nat.zero_le _
 |cons t l ih =>
  have h1:=ih fun u hu=>h u (by simp [hu])
  have h2:=h t (by simp)
  unfold memL at *
  rw [List.filter_cons,List.length_cons,Nat.mul_succ]
  split
  ·rw [List.flatMap_cons,List.length_append];omega
  ·omega
theorem FreeN.chg {C:Nat→Prop} {w w':World} {g n:Nat} (h:FreeN w g n) (hx:Chg C w w') (hn : ¬C g):FreeN w' g n:=fun j hj=>by
 obtain⟨⟨z,h1⟩,h2⟩:=h j hj
 exact⟨⟨z,hx.at h1 hn⟩,hx.free h1 h2 hn⟩
set_option maxRecDepth 100000 in
set_option maxHeartbeats 8000000 in
theorem row_count (G:Nat) (ve:Value) (va:Value) (aggs:List AggI) (kv:Value) (key:List Val) (tv:Value) (ms:List Tup) (t:Int) (w:World) (hg0:w.cell? ⟨G,0,none⟩=some ve) (hve:ShSl ve) (hg1:w.cell? ⟨G,1,none⟩=some va) (ha:SliceOf Rep.agg w.cell? va aggs) (hak : ∀a∈aggs,a.kind=1) (hal:aggs.length≤1000)
  (hk:SliceOf Rep.val w.cell? kv key) (hkl:key.length≤1000) (hm:SliceOf Rep.tup w.cell? tv ms) (hml:ms.length≤4096) (hmf : ∀m∈ms,m.lin.length≤256) :
  Calls Tryz.prog 83 #[.pointer (some ⟨G,0,none⟩),kv,tv,.int .i64 t] w fun e w'=> ∃a b,e = .returned (.tuple #[.agg #[a,b],.bool (decide (0<(memV ms t).length))])∧SliceOf Rep.val (on w' (since w)) a (gRow (cntV aggs.length) key ms t).vals∧SliceOf Rep.int (on w' (since w)) b (gRow (cntV aggs.length) key ms t).lin∧Ext w w':=by
 obtain⟨i2,hi2,hz20,hz21,hz22⟩:=info_parts info_ints
 obtain⟨i3,hi3,hz30,hz31,hz32⟩:=info_parts info_val3
 obtain⟨i4,hi4,hz40,hz41,hz42⟩:=info_parts info_vals
 obtain⟨pe,ne,ce,rfl⟩:=hve
 obtain⟨pa,ca,rfl,_,_,hpa⟩:=ha.form
 obtain⟨pk,ck,rfl,_⟩:=hk.form
 obtain⟨p,cap,rfl,hc1,hc2,hp⟩:=hm.form
 obtain⟨N,hN⟩ : ∃N,N=ms.length:=⟨_,rfl⟩
 have HV:=Lib.hid hm
 rw [←hN]
 have HN:=Lib.hid hN
 have HP:=Lib.hid hp
 have HA:=Lib.hid ha
 have HAK:=Lib.hid hak
 have HPA:=Lib.hid hpa
 have HK:=Lib.hid hk
 have HMF:=Lib.hid hmf
 have HAL:=Lib.hid hal
 have HKL:=Lib.hid hkl
 have HG:=Lib.hid (And.intro hg0 hg1)
 have hNl:N≤4096:=by omega
 clear hm hN hp hc1 hc2 ha hak hpa hk hmf hg0 hg1 hml hal hkl
 go_enter Tryz.func83,Tryz.ntmps83
 go_wp2_with fail
 go_loopg [10,11,19] N (fun gk vm vl vi wr=> ∃(k:Nat) (um ul:Value),k≤N∧gk=N - k∧vi = .int .i64 k∧um=vm∧ul=vl∧Hid (OwnOf (Rep.slice Rep.val) wr (fun x=>x<w.heap.size) (w.heap.size+1) 56 um (memV (ms.take k) t))∧Hid (OwnOf Rep.int wr (fun _=>True) (w.heap.size+1) 3 ul (memL (ms.take k) t))∧Hid (Apart um ul)∧Hid (FreeN wr w.heap.size 2)∧Hid (w.heap.size+1≤wr.heap.size)∧Ext w wr)
 case atStart=>exact⟨0,_,_,by omega,rfl,rfl,rfl,rfl,OwnOf.nil _ _ _ _ _,OwnOf.nil _ _ _ _ _,fun k hk=>(by cases hk),(fun j hj=>by
  rcases(by omega:j=0∨j=1)with rfl | rfl
  ·exact⟨⟨_,by go_simp;rfl⟩,by go_simp⟩
  ·exact⟨⟨_,by go_simp;rfl⟩,by go_simp⟩),by show w.heap.size+1≤_;simp,(Ext.refl w).alloc _⟩
 case round =>
  obtain⟨k,um,ul,hk,rfl,rfl,rfl,rfl,OM,OL,AP,FR,HSZ,hx⟩:=hrel
  by_cases hlt:k<N
  ·have hkl:k<ms.length:=by have:=HN.out;omega
   have hd:decide ((k:Int)<(N:Int))=true:=by simp;omega
   obtain⟨b,o',rfl⟩:=HP.out (by decide) (by omega)
   have hv:=HV.out
   rw [←HN.out]at hv
   obtain⟨ta,tb,c0,c1,c2,c3,g0,g1,r1,r2⟩:=tup_at hv k hkl
   obtain⟨pv,kv',ta',_⟩:=g0.form
   obtain⟨pl,kl,tb',_⟩:=g1.form
   subst ta' tb'
   replace c0:=hx.at c0
   replace c1:=hx.at c1
   replace c2:=hx.at c2
   replace c3:=hx.at c3
   obtain⟨hst1,hst2⟩:=mem_take ms t k hkl
   have hml:(memV (ms.take k) t).length≤4096:=by unfold memV;rw [List.length_map];exact Nat.le_trans (List.length_filter_le _ _) (Nat.le_trans (List.length_take_le _ _) (by omega))
   have hll:(memL (ms.take k) t).length≤1048576:=by
    have h1:=memL_len (l:=ms.take k) (n:=256) (fun u hu=>HMF.out u (List.mem_of_mem_take hu)) t
    have h2:=List.length_take_le k ms
    omega
   have hlk:=HMF.out ms[k] (List.getElem_mem hkl)
   generalize ms[k]=y at c0 c1 c2 c3 g0 g1 r1 r2 hst1 hst2 hlk
   obtain⟨vs,f,tt,ln⟩:=y
   dsimp only at c0 c1 c2 c3 g0 g1 r1 r2 hst1 hst2 hlk
   have HST1:=Lib.hid hst1
   have HST2:=Lib.hid hst2
   have G0:=Lib.hid g0
   have G1:=Lib.hid g1
   have e0:=cell_lt c0
   obtain⟨mv,hmv⟩ : ∃x,x=memV (ms.take k) t:=⟨_,rfl⟩
   obtain⟨ml,hml2⟩ : ∃x,x=memL (ms.take k) t:=⟨_,rfl⟩
   rw [←hmv]at OM hml hst1
   rw [←hml2]at OL hll hst2
   have HST1:=Lib.hid hst1
   have HST2:=Lib.hid hst2
   have HLK:=Lib.hid hlk
   clear hst1 hst2 g0 g1 r1 r2 hv hmv hml2 hlk
   go_wp2_with fail
   refine(includes_day f tt t _).mono ?_
   rintro e w1 ⟨rfl,x1⟩
   have d0:w1.cell? ⟨wr.heap.size,0,none⟩=some (.slice pv vs.length kv'):=x1.at (by go_simp)
   have d3:w1.cell? ⟨wr.heap.size,3,none⟩=some (.slice pl ln.length kl):=x1.at (by go_simp)
   have X1:=Lib.hid (show Ext wr w1 from ((Ext.refl wr).alloc _).trans x1)
   have e1:=cell_lt d0
   clear x1 c0 c1 c2 c3 e0
   cases hvb:(validB f tt&&decide (f≤t)&&decide (t<tt))with
   |true =>
    have HVB:=Lib.hid hvb
    clear hvb
    have B1:mv.length+1≤maxLen:=by unfold maxLen;omega
    have B2:(mv.length+1)*24≤140737488355328:=by omega
    go_wp2_with (at_builtin;go_loud (refine wpList_append_one (Rep.slice Rep.val) (fun x=>x<w.heap.size) rfl _ _ 163 rfl (w.heap.size+1) 56 i4 _ 24 Tryz.underlying163 hi4 hz40 hz41 hz42 rfl (by decide) um mv rfl (OM.out.ext (X1.out.alloc _)) ⟨w1.heap.size,0,none⟩ 1 vs [.slice pv vs.length kv'] rfl ?c1 (by exact cells_new w1 [.slice pv vs.length kv'] _) B1 B2 (Nat.le_trans HSZ.out (X1.out.alloc _).size) ?_))
    case c1 =>
     have hs:Sub w.cell? (on (w1.alloc (.cells #[.slice pv vs.length kv'] 56)) (avoid (fun x=>x<w.heap.size) um)):=(full_on w _ fun _ h=>h).trans (old_avoid (hx.trans (X1.out.alloc _)) ((OM.out.ext (X1.out.alloc _)).weak (fun _ _ h=>h) (Nat.le_succ _)))
     exact⟨_,rfl,G0.out.ext hs⟩
    intro g2 cap2 w2 own2 gr2 hg2
    have X1a:=X1.out.alloc (.cells #[.slice pv vs.length kv'] 56)
    have hub : ∀x,um.ownBlock=some x→w.heap.size+1≤x∧x<wr.heap.size:=fun x hx=>OM.out.lt x hx
    have hlb : ∀x,ul.ownBlock=some x→w.heap.size+1≤x∧x<wr.heap.size:=fun x hx=>OL.out.lt x hx
    have D3:=cell_grown gr2 (((Ext.refl w1).alloc (.cells #[.slice pv vs.length kv'] 56)).at d3) (fun x hx=>by have:=(hub x hx).2;omega)
    have hg2':um.ownBlock=some g2∨g2=(w1.alloc (.cells #[.slice pv vs.length kv'] 56)).heap.size:=by rcases hg2 with h | h;exact .inl h;exact .inr (by rw [h];simp)
    have OL2:=Lib.hid (own_apart flat_int' (OL.out.ext X1a) gr2 AP.out.symm)
    have OM2:=Lib.hid own2
    have AP2:=Lib.hid (show Apart ul (.slice (some ⟨g2,0,none⟩) (mv.length+1) cap2)from AP.out.symm.grow (fun x hx=>((OL.out.ext X1a).lt x hx).2) hg2')
    have FR2:=Lib.hid ((FR.out.ext X1a).grown gr2 (fun e=>by have:=(hub _ e).1;omega))
    have HX2:=Lib.hid (ext_grown (hx.trans X1a) gr2 (fun x hx=>by have:=(hub x hx).1;omega))
    have HS2:=Lib.hid (show w.heap.size+1≤w2.heap.size from Nat.le_trans HSZ.out (Nat.le_trans X1a.size gr2.size))
    have HLB:=Lib.hid hlb
    have B3:ml.length+ln.length≤maxLen:=by have:=HLK.out;unfold maxLen;omega
    have B4:(ml.length+ln.length)*8≤140737488355328:=by have:=HLK.out;omega
    have e2:=cell_lt D3
    clear own2 gr2 hg2 hg2' X1a hub hlb d0 d3 e1 OM OL AP FR hx HSZ
    go_wp2_with (at_builtin;go_loud (refine wpList_append_all Rep.int (fun _=>True) rfl _ _ 29 rfl (w.heap.size+1) 3 i2 _ 8 Tryz.underlying29 hi2 hz20 hz21 hz22 rfl (by decide) ul ml rfl OL2.out (.slice pl ln.length kl) ln rfl (G1.out.away flat_int' HX2.out (fun x hx=>by have:=(HLB.out x hx).1;omega)) B3 B4 HS2.out ?_))
    intro v3 w3 own3 gr3 hg3
    have hlb2 : ∀x,ul.ownBlock=some x→w.heap.size+1≤x:=fun x hx=>(HLB.out x hx).1
    have OM3:=Lib.hid (own_grown OM2.out gr3 (fun x hx e=>by have:=hlb2 x e;omega) (fun x hx e=>AP2.out x e hx))
    have AP3:=Lib.hid (show Apart (.slice (some ⟨g2,0,none⟩) (mv.length+1) cap2) v3 from fun x hx e=>by
     rcases hg3 with h | h
     ·rw [h]at e;exact AP2.out x e hx
     ·rw [h]at e
      have:=(OM2.out.lt x hx).2
      have:=Option.some.inj e
      omega)
    have FR3:=Lib.hid (FR2.out.grown gr3 (fun e=>by have:=hlb2 _ e;omega))
    have HX3:=Lib.hid (ext_grown HX2.out gr3 (fun x hx=>by have:=hlb2 x hx;omega))
    have HS3:=Lib.hid (Nat.le_trans HS2.out gr3.size)
    have OL3:=Lib.hid own3
    clear own3 gr3 hg3 hlb2 OM2 OL2 AP2 FR2 HX2 HS2 HLB D3 e2
    go_wp2_with fail
    go_roundg (N - (k+1))
    case measure=>omega
    case rel=>exact⟨k+1,_,v3,by omega,rfl,by go_num,rfl,rfl,by rw [HST1.out,if_pos HVB.out];exact OM3.out,by rw [HST2.out,if_pos HVB.out];exact OL3.out,AP3.out,FR3.out,HS3.out,HX3.out⟩
   |false =>
    have HVB:=Lib.hid hvb
    clear hvb d0 d3 e1
    go_wp2_with fail
    go_roundg (N - (k+1))
    case measure=>omega
    case rel=>exact⟨k+1,um,ul,by omega,rfl,by go_num,rfl,rfl,by rw [HST1.out,HVB.out,if_neg (by decide),List.append_nil];exact OM.out.ext X1.out,by rw [HST2.out,HVB.out,if_neg (by decide),List.append_nil];exact OL.out.ext X1.out,AP.out,FR.out.ext X1.out,Nat.le_trans HSZ.out X1.out.size,hx.trans X1.out⟩
  ·have hkN:k=N:=by omega
   have hd : ¬(k:Int)<(N:Int):=by omega
   obtain⟨mv,hmv⟩ : ∃x,x=memV ms t:=⟨_,rfl⟩
   obtain⟨ml,hml⟩ : ∃x,x=memL ms t:=⟨_,rfl⟩
   have hte:ms.take k=ms:=by rw [hkN,HN.out,List.take_length]
   rw [hte]at OM OL
   rw [←hmv]at OM
   rw [←hml]at OL
   have hmvl:mv.length≤4096:=by rw [hmv];unfold memV;rw [List.length_map];exact Nat.le_trans (List.length_filter_le _ _) (by have:=HN.out;omega)
   have hmll:ml.length≤1048576:=by rw [hml];have h1:=memL_len (l:=ms) (n:=256) HMF.out t;have:=HN.out;omega
   have HMV:=Lib.hid hmv
   have HML:=Lib.hid hml
   obtain⟨pm,cm,rfl,_⟩:=OM.out.shapeL
   have B5:([]:List Val).length+key.length≤maxLen:=by have:=HKL.out;simp [maxLen];omega
   have B6:(([]:List Val).length+key.length)*32≤140737488355328:=by have:=HKL.out;simp;omega
   clear hkN hte hmv hml
   go_wp2_with (at_builtin;go_loud (refine wpList_append_all Rep.val (fun _=>True) rfl _ _ 56 rfl (w.heap.size+1) 61 i3 _ 32 Tryz.underlying56 hi3 hz30 hz31 hz32 rfl (by decide) (.slice none 0 0) ([]:List Val) rfl (OwnOf.nil _ _ _ _ _) (.slice pk key.length ck) key rfl (HK.out.away (fun _ _ _ _ h=>h) hx (fun x e=>by cases e)) B5 B6 HSZ.out ?_))
   intro v4 w4 own4 gr4 _
   obtain⟨p4,c4,rfl,_⟩:=own4.shapeL
   have X4:Ext wr w4:=ext_grown (Ext.refl wr) gr4 (fun x e=>by cases e)
   have SL4:=Lib.hid ((OL.out.ext X4).slice)
   obtain⟨pl4,cl4,rfl,_⟩:=OL.out.shapeL
   have OV4:=Lib.hid own4
   have HX4:=Lib.hid (hx.trans X4)
   have FR4:=Lib.hid (FR.out.ext X4)
   have HS4:=Lib.hid (show w.heap.size+1≤wr.heap.size∧wr.heap.size≤w4.heap.size from ⟨HSZ.out,X4.size⟩)
   have HML5:=Lib.hid hmll
   clear own4 gr4 X4 OL OM AP FR HSZ hx hmll
   go_wp2_with fail
   refine(merge_lineage _ _ ml [] _ SL4.out (SliceOf.nil _ _) HML5.out (by simp)).mono ?_
   rintro e w5 ⟨v5,rfl,s5,x5⟩
   obtain⟨p5,c5,rfl,_⟩:=s5.form
   obtain⟨lg,hlg⟩ : ∃x,x=mergeL ml []:=⟨_,rfl⟩
   rw [←hlg]at s5 ⊢
   have HLG:=Lib.hid hlg
   have OV5:=Lib.hid (OV4.out.ext x5)
   have HUV5:=Lib.hid (show ∀x,(Value.slice p4 key.length c4).ownBlock=some x→x<w4.heap.size from fun x hx=>(OV4.out.lt x hx).2)
   have FR5:=Lib.hid (FR4.out.ext x5)
   have HX5:=Lib.hid (HX4.out.trans x5)
   have HW45:=Lib.hid (show w.heap.size+1≤w4.heap.size∧w4.heap.size≤w5.heap.size from ⟨by have:=HS4.out;omega,x5.size⟩)
   obtain⟨Q4,hQ4⟩ : ∃q,q=w4.heap.size:=⟨_,rfl⟩
   have S5:=Lib.hid (show SliceOf Rep.int (on w5 (fun x=>Q4≤x∧x<w5.heap.size)) (.slice p5 lg.length c5) lg from s5.ext (on_mono w5 fun x h1 h2=>⟨by rw [hQ4];exact h2,h1⟩))
   rw [←hQ4]at HUV5 HW45
   clear s5 x5 hlg hQ4 OV4 FR4 HX4 HS4 SL4
   obtain⟨K,hK⟩ : ∃K,K=aggs.length:=⟨_,rfl⟩
   have HKK:=Lib.hid hK
   have hK1:K≤1000:=by rw [hK];exact HAL.out
   have HKL2:=Lib.hid HKL.out
   obtain⟨ng,hng⟩ : ∃n,n=mv.length:=⟨_,rfl⟩
   have HNG:=Lib.hid hng
   have hngl:ng≤4096:=by omega
   rw [←hng]
   try rw [←hK]
   have g1':=HX5.out.at HG.out.2
   try rw [←hK]at g1'
   have e5:=cell_lt g1'
   clear hK hng hmvl
   go_wp2_with fail
   go_loopg [47] K (fun gk vi wr=> ∃(j:Nat) (pu:Option Addr) (nu cu:Nat),j≤K∧gk=K - j∧vi = .int .i64 j∧Hid (wr.cell? ⟨w5.heap.size,0,none⟩=some (.slice pu nu cu)∧wr.cell? ⟨w5.heap.size,1,none⟩=some (.slice p5 lg.length c5)∧wr.frozen? ⟨w5.heap.size,0,none⟩=false)∧Hid (OwnOf Rep.val wr (fun _=>True) (w.heap.size+1) 61 (.slice pu nu cu) (key++List.replicate j (intVal ng)))∧Hid (∀x,(Value.slice pu nu cu).ownBlock=some x→x<Q4∨w5.heap.size<x)∧Hid (SliceOf Rep.int (on wr (fun x=>Q4≤x∧x<w5.heap.size)) (.slice p5 lg.length c5) lg)∧Hid (FreeN wr w.heap.size 2)∧Hid (Ext w wr))
   case atStart =>
    refine⟨0,p4,key.length,c4,by omega,rfl,rfl,⟨by exact cells_new w5 [_,_] 58 0 _ rfl,by exact cells_new w5 [_,_] 58 1 _ rfl,by go_simp⟩,by show OwnOf Rep.val _ _ _ _ _ (key ++ []);rw [List.append_nil];exact OV5.out.ext ((Ext.refl w5).alloc _),fun x hx=> .inl (HUV5.out x hx),S5.out.ext (((Ext.refl w5).alloc _).sub _),FR5.out.ext ((Ext.refl w5).alloc _),HX5.out.alloc _⟩
   case round =>
    clear OV5 S5 FR5 HX5 HUV5
    obtain⟨j,pu,nu,cu,hj,rfl,rfl,HC,OU,HU,SL,FR,HX⟩:=hrel
    by_cases hlt2:j<K
    ·have hjl:j<aggs.length:=by have:=HKK.out;omega
     have hdj:decide ((j:Int)<(K:Int))=true:=by simp;omega
     obtain⟨ba,oa,rfl⟩:=HPA.out (by decide) (by omega)
     obtain⟨b0,b1⟩:=agg_at HA.out j hjl
     rw [HAK.out _ (List.getElem_mem hjl)]at b0
     replace b0:=HX.out.at b0
     replace b1:=HX.out.at b1
     have g0:=HX.out.at HG.out.1
     have g1:=HX.out.at HG.out.2
     generalize aggs[j].arg=ar at b1
     obtain⟨q0,q1,q2⟩:=HC.out
     obtain⟨xs,hxs⟩ : ∃x,x=key++List.replicate j (intVal ng):=⟨_,rfl⟩
     rw [←hxs]at OU
     have hxl:xs.length≤2000:=by rw [hxs,List.length_append,List.length_replicate];have:=HKL2.out;omega
     have HXS:=Lib.hid hxs
     have B1:xs.length + [intVal (ng:Int)].length≤maxLen:=by simp [maxLen];omega
     have B2:(xs.length + [intVal (ng:Int)].length)*32≤140737488355328:=by simp;omega
     have e0:=cell_lt b0
     have e1:=cell_lt q0
     have e2:=cell_lt g0
     have HUL:=Lib.hid (show ∀x,(Value.slice pu nu cu).ownBlock=some x→x<wr.heap.size from fun x hx=>(OU.out.lt x hx).2)
     have HOKN:=Lib.hid (show okVal (intVal (ng:Int))from ⟨⟨by simp [intVal],by simp [intVal]⟩,⟨by simp [intVal] <;> omega,by simp [intVal];omega⟩,by simp [intVal,maxLen]⟩)
     clear hxs hxl hjl
     go_wp2_with fail
     have k0:(wr.alloc (.cells #[.int .i64 1,.int .i64 ar] 74)).cell? ⟨wr.heap.size,0,none⟩=some (.int .i64 1):=by go_simp
     have k1:(wr.alloc (.cells #[.int .i64 1,.int .i64 ar] 74)).cell? ⟨wr.heap.size,1,none⟩=some (.int .i64 ar):=by go_simp
     have x0:Ext wr (wr.alloc (.cells #[.int .i64 1,.int .i64 ar] 74)):=(Ext.refl wr).alloc _
     generalize (wr.alloc (.cells #[.int .i64 1,.int .i64 ar] 74))=W at k0 k1 x0 ⊢
     have HR4:=Lib.hid (show ∀k,(Value.slice pu nu cu).ownBlock=some k→w.heap.size≤k∧k≠w5.heap.size from fun k e=>by
      have h1:=HU.out k e
      have h3:=(OU.out.lt k e).1
      have h4:=HW45.out
      omega)
     have m0:=x0.at q0
     have m1:=x0.at g0
     have X0:=Lib.hid x0.drew
     have HQ:=Lib.hid (And.intro q0 q2)
     clear b0 b1 g1 q0 q2 g0 x0
     go_region_law (first
      |((with_reducible refine key_op 59 ?_);go_simp;refine(aggregate_count _ _ _ _ _ _).mono ?_;rintro e w2 ⟨rfl,hx2⟩;have hy2:=Lib.hid (X0.out.trans hx2);have m2:=hy2.out.at HQ.out.1;have e9:=cell_lt m2)
      |((with_reducible refine key_op 61 ?_);(try simp only [Act.put,List.setIfInBounds_toArray,List.set_cons_zero,List.set_cons_succ]);refine step_append_all Rep.val (fun _=>True) rfl _ _ 56 rfl (w.heap.size+1) 61 i3 _ 32 Tryz.underlying56 hi3 hz30 hz31 hz32 rfl (by decide) (.slice pu nu cu) xs rfl (OU.out.ext (hy2.out.alloc _)) _ [intVal ng] rfl (lit_new (R:=Rep.val) w2 [.int .i64 1,.int .i64 ng,.string ByteArray.empty] 61 [[.int .i64 1,.int .i64 ng,.string ByteArray.empty]] [intVal ng] rfl (fun _=>⟨⟨rfl,HOKN.out⟩,trivial⟩) (by simp [maxLen]) (fun x hx=>Nat.lt_of_lt_of_le (HUL.out x hx) hy2.out.size)) B1 B2 (Nat.le_trans (by have:=(HX.out).size;have:=HW45.out;omega) (hy2.out.alloc _).size) ?_;intro v8 w8 own8 gr8 hg8;obtain⟨p8,n8,c8,rfl⟩ : ∃p n c,v8 = .slice p n c:=(by obtain⟨pz,cz,hz,_⟩:=own8.shapeL;exact⟨_,_,_,hz⟩);have m8:=cell_grown gr8 (((Ext.refl w2).alloc _).at m2) (fun k e=>(HR4.out k e).2);have f8:w8.frozen? ⟨w5.heap.size,0,none⟩=false:=(World.frozen?_of_block (w:=w2.alloc _) (gr8.block _ (cell_lt (((Ext.refl w2).alloc (.cells #[.int .i64 1,.int .i64 ng,.string ByteArray.empty] 61)).at m2)) (fun e=>(HR4.out _ e.symm).2 rfl))).trans ((hy2.out.alloc _).unfrozen HQ.out.1 HQ.out.2)))
     all_goals
      have CH:Chg (fun k=>k=w5.heap.size∨(Value.slice pu nu cu).ownBlock=some k) wr (w8.setCell ⟨w5.heap.size,0,none⟩ (.slice p8 n8 c8)):=(((hy2.out.alloc (.cells #[.int .i64 1,.int .i64 ng,.string ByteArray.empty] 61)).chg _).grown gr8 (fun k e=> .inl (.inr e))).setCell (.inl (.inl rfl)) _
      have HU8 : ∀x,(Value.slice p8 n8 c8).ownBlock=some x→x<Q4∨w5.heap.size<x:=fun x hx=>by
       rcases hg8 with h | h
       · exact HU.out x (h▸hx)
       · have h2:wr.heap.size≤x:=by
          have h1:=Option.some.inj (h.symm.trans hx)
          rw [←h1]
          exact(hy2.out.alloc _).size
         have h3:=cell_lt HQ.out.1
         omega
      have OU8:OwnOf Rep.val (w8.setCell ⟨w5.heap.size,0,none⟩ (.slice p8 n8 c8)) (fun _=>True) (w.heap.size+1) 61 (.slice p8 n8 c8) (key++List.replicate (j+1) (intVal ng)):=by
       rw [List.replicate_succ',←List.append_assoc,←HXS.out]
       exact own8.chg (fun _ _ _ _ h=>h) (chg_set w8 ⟨w5.heap.size,0,none⟩ _) (fun k h e=>by have:=HU8 k h;have:=HW45.out;simp only at e;omega)
      have Q8:(w8.setCell ⟨w5.heap.size,0,none⟩ (.slice p8 n8 c8)).cell? ⟨w5.heap.size,0,none⟩=some (.slice p8 n8 c8)∧(w8.setCell ⟨w5.heap.size,0,none⟩ (.slice p8 n8 c8)).cell? ⟨w5.heap.size,1,none⟩=some (.slice p5 lg.length c5)∧(w8.setCell ⟨w5.heap.size,0,none⟩ (.slice p8 n8 c8)).frozen? ⟨w5.heap.size,0,none⟩=false:=by
       have h1:=cell_grown gr8 ((hy2.out.alloc (.cells #[.int .i64 1,.int .i64 ng,.string ByteArray.empty] 61)).at q1) (fun k e=>(HR4.out k e).2)
       exact⟨by go_simp,by rw [World.cell?_setCell_other _ _ _ _ (by simp)];exact h1,by go_simp⟩
      have hnC : ∀x,(Q4≤x∧x<w5.heap.size)→ ¬(x=w5.heap.size∨(Value.slice pu nu cu).ownBlock=some x):=fun x hx e=>by
       rcases e with e | e
       · omega
       · have:=HU.out x e;omega
      have hgC : ¬(w.heap.size=w5.heap.size∨(Value.slice pu nu cu).ownBlock=some w.heap.size):=fun e=>by
       rcases e with e | e
       · have:=HW45.out;omega
       · have:=(OU.out.lt _ e).1;omega
      have SL8:=Lib.hid (SL.out.chg CH hnC)
      have FR8:=Lib.hid (FR.out.chg CH hgC)
      have HX8:=Lib.hid (show Ext w (w8.setCell ⟨w5.heap.size,0,none⟩ (.slice p8 n8 c8))from CH.below HX.out (fun k e=>by
       rcases e with e | e
       · have:=HW45.out;omega
       · exact Nat.le_of_succ_le (OU.out.lt k e).1))
      have HU9:=Lib.hid HU8
      have OU9:=Lib.hid OU8
      have Q9:=Lib.hid Q8
      clear CH HU8 OU8 Q8 hnC hgC own8 gr8 hg8 m8 f8 hy2 m2 q1
      go_wp2_with fail
      go_roundg (K - (j+1))
      case measure=>omega
      case rel=>exact⟨j+1,p8,n8,c8,by omega,rfl,by go_num,Q9.out,OU9.out,HU9.out,SL8.out,FR8.out,HX8.out⟩
    ·have hjK:j=K:=by omega
     have hdj:decide ((j:Int)<(K:Int))=false:=by simp;omega
     subst hjK
     obtain⟨q0,q1,q2⟩:=HC.out
     obtain⟨⟨z0,f0⟩,g0⟩:=FR.out 0 (by omega)
     obtain⟨⟨z1,f1⟩,g1⟩:=FR.out 1 (by omega)
     have e0:=cell_lt f0
     have e1:=cell_lt q0
     clear hlt2
     go_wp2_with fail
     have CH:Chg (fun k=>k=w.heap.size) wr ((wr.setCell ⟨w.heap.size,0,none⟩ (.slice pu nu cu)).setCell ⟨w.heap.size,1,none⟩ (.slice p5 lg.length c5)):=(chg_set wr ⟨w.heap.size,0,none⟩ _).setCell (p:=⟨w.heap.size,1,none⟩) (.inl rfl) _
     refine bodyPost_ret (v:= .tuple #[.agg #[.slice pu nu cu,.slice p5 lg.length c5],.bool (decide (0<ng))]) (by simp [results,Tryz.results83,go_sem,f0,f1]) rfl ⟨_,_,by rw [←HMV.out,←HNG.out],?_,?_,CH.below HX.out fun k e=>Nat.le_of_eq e.symm⟩
     ·have h1:=((OU.out.chg (fun _ _ _ _ h=>h) CH (fun k h e=>by have:=(OU.out.lt k h).1;omega)).fresh (fun _ _ _ _ h=>h)).ext (on_mono _ (T:=since w) fun k _ hk=>Nat.le_of_succ_le hk)
      show SliceOf Rep.val _ _ (key++List.replicate aggs.length (intVal (memV ms t).length))
      rw [←HMV.out,←HNG.out,←HKK.out]
      exact h1
     ·have h1:=(SL.out.chg CH (fun k hk e=>by have:=HW45.out;omega)).ext (on_mono _ (T:=since w) fun k _ hk=>Nat.le_trans (Nat.le_of_succ_le HW45.out.1) hk.1)
      show SliceOf Rep.int _ _ (mergeL (memL ms t) [])
      rw [←HML.out,←HLG.out]
      exact h1
end Go.Proofs.YtombmdaohcjokaaGreatDoor
namespace Go.Proofs.YtombmdaohcjokaaGreatDoor
open Go.RowKit
theorem clip_from {l:List Tup} {t:Tup} (h:t∈clipT l) : ∃u∈l,t.vals=u.vals∧t.lin=u.lin:=by
 obtain⟨u,h1,h2⟩:=List.mem_filterMap.1 h
 unfold clip1 at h2
 split at h2
 ·cases h2;exact⟨u,h1,rfl,rfl⟩
 ·cases h2
theorem gUpto_mem {aggV:List (List Val)→List Val} {always:Bool} {P:List Int} {kv:List Val} {ms:List Tup} {k:Nat} {t:Tup} (h:t∈gUpto aggV always P kv ms k) : ∃i j:Int,t=tupOf (gRow aggV kv ms i) ⟨i,j⟩:=by
 induction k with
 |zero=>cases h
 |succ k ih =>
  unfold gUpto at h
  rcases List.mem_append.1 h with h | h
  ·exact ih h
  ·split at h
   ·rw [List.mem_singleton]at h
    exact⟨_,_,h⟩
   ·cases h
theorem rawG_fit {proj:List Val→List Val} {aggV:List (List Val)→List Val} {always:Bool} {l L:List Tup} {done:List (List Val)} (hL : ∀y∈L,∃u∈l,y.vals=u.vals∧y.lin=u.lin) (hn:L.length≤400) (hdl:done.length≤401) (hnd:done.Nodup) (hf : ∀t∈l,fitVals t.vals∧t.lin.length≤256)
  (hfit : ∀vss,(∀vs∈vss,∃u∈l,vs=u.vals)→(aggV vss).length≤1000∧ ∀x∈aggV vss,x.s.size≤1048576) (hkv : ∀kv∈done,kv.length≤1000∧ ∀x∈kv,x.s.size≤1048576):fitN (rawG proj aggV always L done):=by
 refine⟨?_,fun t ht=> ?_⟩
 ·have h1:=rawG_len2 proj aggV always L done hnd
  omega
 ·unfold rawG at ht
  obtain⟨kv,h1,h2⟩:=List.mem_flatMap.1 ht
  obtain⟨i,j,rfl⟩:=gUpto_mem h2
  have h3:=hkv kv h1
  have hm : ∀y∈memOf proj kv L,∃u∈l,y.vals=u.vals∧y.lin=u.lin:=fun y hy=>hL y (List.mem_filter.1 hy).1
  have h4:=hfit (((memOf proj kv L).filter (holdsAt i)).map Tup.vals) fun vs hvs=>by
   obtain⟨y,hy,rfl⟩:=List.mem_map.1 hvs
   obtain⟨u,a,b,_⟩:=hm y (List.mem_filter.1 hy).1
   exact⟨u,a,b⟩
  refine⟨⟨?_,fun v hv=> ?_⟩,?_⟩
  ·show (kv++aggV _).length≤_
   rw [List.length_append]
   omega
  ·have hv:v∈kv++aggV (((memOf proj kv L).filter (holdsAt i)).map Tup.vals):=hv
   rcases List.mem_append.1 hv with hv | hv
   ·exact h3.2 v hv
   ·exact h4.2 v hv
  ·show (mergeL (memL (memOf proj kv L) i) []).length≤_
   obtain⟨a1,a2⟩:=mergeL_law (memL (memOf proj kv L) i) []
   have h5:=asc_len a1 (xs:=memL (memOf proj kv L) i) fun x hx=>by
    rcases(a2 x).1 hx with h | h
    ·exact h
    ·cases h
   have h6:=memL_len (l:=memOf proj kv L) (n:=256) (fun y hy=>by
    obtain⟨u,a,_,b⟩:=hm y hy
    rw [b]
    exact(hf u a).2) i
   have h7:=memOf_len proj kv L
   omega
theorem gRow_fit {proj:List Val→List Val} {aggV:List (List Val)→List Val} {l L:List Tup} {kv:List Val} (hL : ∀y∈L,∃u∈l,y.vals=u.vals∧y.lin=u.lin) (hn:L.length≤400) (hf : ∀t∈l,fitVals t.vals∧t.lin.length≤256)
  (hfit : ∀vss,(∀vs∈vss,∃u∈l,vs=u.vals)→(aggV vss).length≤1000∧ ∀x∈aggV vss,x.s.size≤1048576) (hkv:kv.length≤1000) (t:Int):(gRow aggV kv (memOf proj kv L) t).vals.length≤1048576∧(gRow aggV kv (memOf proj kv L) t).lin.length≤1048576:=by
 have hm : ∀y∈memOf proj kv L,∃u∈l,y.vals=u.vals∧y.lin=u.lin:=fun y hy=>hL y (List.mem_filter.1 hy).1
 have h4:=hfit (((memOf proj kv L).filter (holdsAt t)).map Tup.vals) fun vs hvs=>by
  obtain⟨y,hy,rfl⟩:=List.mem_map.1 hvs
  obtain⟨u,a,b,_⟩:=hm y (List.mem_filter.1 hy).1
  exact⟨u,a,b⟩
 refine⟨?_,?_⟩
 ·show (kv++aggV _).length≤_
  rw [List.length_append]
  omega
 ·show (mergeL (memL (memOf proj kv L) t) []).length≤_
  obtain⟨a1,a2⟩:=mergeL_law (memL (memOf proj kv L) t) []
  have h5:=asc_len a1 (xs:=memL (memOf proj kv L) t) fun x hx=>by
   rcases(a2 x).1 hx with h | h
   ·exact h
   ·cases h
  have h6:=memL_len (l:=memOf proj kv L) (n:=256) (fun y hy=>by
   obtain⟨u,a,_,b⟩:=hm y hy
   rw [b]
   exact(hf u a).2) t
  have h7:=memOf_len proj kv L
  omega
theorem gHas_eq (always:Bool) (ms:List Tup) (t:Int):gHas always ms t=(always||decide (0<(memV ms t).length)):=by
 unfold gHas memV
 congr 1
 rw [List.length_map,Bool.eq_iff_iff,decide_eq_true_eq,List.any_eq_true,List.length_pos_iff_exists_mem]
 constructor
 ·rintro⟨x,h1,h2⟩;exact⟨x,List.mem_filter.2 ⟨h1,h2⟩⟩
 ·rintro⟨x,hx⟩;exact⟨x,List.mem_filter.1 hx⟩
end Go.Proofs.YtombmdaohcjokaaGreatDoor
