/- joined texts of a proof: EvalE, PlainV, PlainT, AlgR, ChkA, ChkB -/
import Derived.Test.YtombmdaohcjokaaGreatDoorKX06
import Derived.Test.YtombmdaohcjokaaGreatDoorKX05
import Derived.Deep.QuietTactic
import Derived.BigQuiet
namespace Go.Proofs.YtombmdaohcjokaaGreatDoor
open Go.RowKit
def VC (w:World) (g j:Nat) (y:Val):Prop:=w.cell? ⟨g,j*3,none⟩=some (.int .i64 y.kind)∧w.cell? ⟨g,j*3+1,none⟩=some (.int .i64 y.n)∧w.cell? ⟨g,j*3+2,none⟩=some (.string y.s)
theorem VC.ext {w w':World} {g j:Nat} {y:Val} (h:VC w g j y) (hx:Ext w w'):VC w' g j y:=⟨hx.at h.1,hx.at h.2.1,hx.at h.2.2⟩
theorem VC.far {w:World} {g j k r:Nat} {y:Val} {u:Value} (h:VC w g j y) (hr:r<3) (hne:j≠k):VC (w.setCell ⟨g,k*3+r,none⟩ u) g j y:=by
 have h1 : ∀s,s<3→(⟨g,k*3+r,none⟩:Addr)≠⟨g,j*3+s,none⟩:=fun s hs e=>by
  injection e with _ e _
  omega
 refine⟨?_,?_,?_⟩
 ·rw [World.cell?_setCell_other _ _ _ _ (by exact h1 0 (by omega))];exact h.1
 ·rw [World.cell?_setCell_other _ _ _ _ (by exact h1 1 (by omega))];exact h.2.1
 ·rw [World.cell?_setCell_other _ _ _ _ (by exact h1 2 (by omega))];exact h.2.2
theorem VC.put {w:World} {g M k:Nat} {f:Nat→Val} (F:FreeN w g (M*3)) (h : ∀j,j<M→VC w g j (f j)) (hk:k<M) (y:Val) :
  ∀j,j<M→VC (((w.setCell ⟨g,k*3,none⟩ (.int .i64 y.kind)).setCell ⟨g,k*3+1,none⟩ (.int .i64 y.n)).setCell ⟨g,k*3+2,none⟩ (.string y.s)) g j (if j=k then y else f j):=by
 intro j hj
 by_cases e:j=k
 ·subst e
  rw [if_pos rfl]
  obtain⟨⟨o0,p0⟩,f0⟩:=F (j*3) (by omega)
  obtain⟨⟨o1,p1⟩,f1⟩:=F (j*3+1) (by omega)
  obtain⟨⟨o2,p2⟩,f2⟩:=F (j*3+2) (by omega)
  refine⟨?_,?_,?_⟩ <;> go_simp
 ·rw [if_neg e]
  exact((((h j hj).far (r:=0) (by omega) e).far (r:=1) (by omega) e).far (r:=2) (by omega) e)
theorem made3 (a b c:Value) (n j r:Nat) (h:j<n) (hr:r<3):(madeCells #[a,b,c] (n*3)).toList[j*3+r]?=some (#[a,b,c][r]!):=by
 unfold madeCells
 rw [Array.toList_map,List.getElem?_map,Array.toList_range,List.getElem?_range (by omega)]
 have e:(j*3+r) % (#[a,b,c]:Array Value).size=r:=by
  show (j*3+r) % 3=r
  omega
 show some ((#[a,b,c])[(j*3+r) % (#[a,b,c]:Array Value).size]!)=_
 rw [e]
theorem evalAll_put (es:List ExprI) (row:List Val) (k j:Nat):(evalAll es row (k+1)).getD j nV=if j=k then stepE row (evalAll es row k) es[k]! else(evalAll es row k).getD j nV:=by
 by_cases e:j=k
 ·subst e;rw [if_pos rfl,evalAll_get es row (j+1) j (by omega)]
 ·rw [if_neg e,evalAll,List.getD_eq_getElem?_getD,List.getD_eq_getElem?_getD]
  by_cases c:j<k
  ·rw [List.getElem?_append_left (by rw [evalAll_len];exact c)]
  ·rw [List.getElem?_eq_none (by rw [List.length_append,evalAll_len];simp;omega),List.getElem?_eq_none (by rw [evalAll_len];omega)]
theorem expr_ok {h:View} {v:Value} {xs:List ExprI} (k:SliceOf Rep.expr h v xs) : ∀x∈xs,(okI x.a∧okI x.b)∧okVal x.c:=by
 intro x hx
 obtain⟨i,hi,rfl⟩:=List.getElem_of_mem hx
 obtain⟨p,cap,rfl,_,_,hp⟩:=k.form
 obtain⟨b,o,rfl⟩:=hp (by decide) (by omega)
 obtain⟨c,⟨rfl,h1,h2⟩,_⟩:=k.at i hi
 exact⟨⟨h1.2.1,h1.2.2.1⟩,h2⟩
theorem legalE_iff (i:Nat) (x:ExprI):legalE i x=true↔ ∀o∈opsE x,0≤o∧o<i:=by
 unfold legalE
 rw [List.all_eq_true]
 constructor
 ·intro h o ho;have:=h o ho;simp only [Bool.and_eq_true,decide_eq_true_eq]at this;exact this
 ·intro h o ho;simp only [Bool.and_eq_true,decide_eq_true_eq];exact h o ho
theorem opsE_ok {x:ExprI} (h:okI x.a∧okI x.b) : ∀o∈opsE x,okI o:=by
 intro o ho
 have:=List.mem_of_mem_take ho
 simp only [List.mem_cons,List.not_mem_nil,or_false]at this
 rcases this with rfl | rfl
 ·exact h.1
 ·exact h.2
set_option maxRecDepth 100000 in
set_option maxHeartbeats 8000000 in
theorem eval_in (v:Value) (es:List ExprI) (root:Nat) (vv:Value) (vals:List Val) (w:World) (he:SliceOf Rep.expr w.cell? v es) (hr:root<es.length) (hl:es.length≤1000) (hv:SliceOf Rep.val w.cell? vv vals) :
  Calls Tryz.prog 125 #[v,.int .i64 root,vv] w fun e w'=>e = .returned (valV (evalE es root vals))∧Ext w w':=by
 obtain⟨i3,hi3,hz30,hz31,hz32⟩:=info_parts info_val3
 have HXO:=Lib.hid (expr_ok he)
 have HVO:=Lib.hid (vals_ok hv)
 obtain⟨p,cap,rfl,hc1,hc2,hp⟩:=he.form
 obtain⟨q,qc,rfl,_⟩:=hv.form
 obtain⟨bb,ob,rfl⟩:=hp (by decide) (by omega)
 obtain⟨y,hy⟩ : ∃y,y=evalE es root vals:=⟨_,rfl⟩
 rw [←hy]
 have HY:=Lib.hid hy
 obtain⟨N,hN⟩ : ∃N,N=es.length:=⟨_,rfl⟩
 have HE:=Lib.hid he
 rw [←hN]at HE hc1 ⊢
 have HV:=Lib.hid hv
 have HN:=Lib.hid hN
 obtain⟨M,hM⟩ : ∃M,M=root+1:=⟨_,rfl⟩
 have HM:=Lib.hid hM
 have hMN:M≤N:=by omega
 have hM1:M≤1000:=by omega
 have em:(root:Int)+1=(M:Int):=by omega
 have hw1:IntKind.i64.wrap (M:Int)=(M:Int):=by rw [IntKind.wrap_i64];omega
 have hd0:decide ((root:Int)<0)=false:=by simp
 have hd1:decide ((N:Int)≤(root:Int))=false:=by simp;omega
 have hrM:(root:Int)<(M:Int):=by omega
 have hMc:M≤cap:=by omega
 have hMc':(M:Int)≤(cap:Int):=by omega
 have hM0:0<M:=by omega
 clear he hv hN hl hy hM hc2 hp
 go_enter Tryz.func125,Tryz.ntmps125
 go_wp2_with fail
 go_step3
 go_wp2_with (at_make;go_loud (refine wpList_make_full _ rfl _ _ 56 rfl w.heap.size 61 i3 _ 3 Tryz.underlying56 hi3 hz30 hz31 .i64 .i64 (M:Int) (M:Int) M rfl rfl rfl rfl (by rw [hz32];omega) (by unfold maxLen;omega) (by simp) ?_))
 intro w1 own1 gr1
 have hF1:=FreeN.made own1
 have hC1 : ∀j,j<M→VC w1 (w.heap.size+1) j nV:=fun j hj=>by
  obtain⟨g',cap',e1,_,_,_,_,hc⟩:=own_cells own1 hM0
  injection e1 with e1
  injection e1 with e1
  injection e1 with e1
  subst e1
  exact⟨hc (j*3) _ (made3 _ _ _ M j 0 hj (by omega)),hc (j*3+1) _ (made3 _ _ _ M j 1 hj (by omega)),hc (j*3+2) _ (made3 _ _ _ M j 2 hj (by omega))⟩
 have X1:=Lib.hid (ext_grown ((Ext.refl w).alloc _) gr1 (fun k hk=>by cases hk))
 have xz:=ext_grown (Ext.refl _) gr1 (fun k hk=>by cases hk)
 have HX0:=Lib.hid (show (w1.cell? ⟨w.heap.size,0,none⟩=some (.int .i64 0)∧w1.cell? ⟨w.heap.size,1,none⟩=some (.int .i64 0)∧w1.cell? ⟨w.heap.size,2,none⟩=some (.string ⟨#[]⟩))∧w1.frozen? ⟨w.heap.size,0,none⟩=false∧w1.frozen? ⟨w.heap.size,1,none⟩=false∧w1.frozen? ⟨w.heap.size,2,none⟩=false from
  ⟨⟨xz.at (by go_simp),xz.at (by go_simp),xz.at (by go_simp)⟩,xz.unfrozen (p:=⟨w.heap.size,0,none⟩) (v:= .int .i64 0) (by go_simp) (by go_simp),xz.unfrozen (p:=⟨w.heap.size,1,none⟩) (v:= .int .i64 0) (by go_simp) (by go_simp),xz.unfrozen (p:=⟨w.heap.size,2,none⟩) (v:= .string ⟨#[]⟩) (by go_simp) (by go_simp)⟩)
 clear xz
 obtain⟨g,hg⟩ : ∃g,g=w.heap.size+1:=⟨_,rfl⟩
 have hF2:FreeN w1 g (M*3):=by
  rw [hg]
  exact hF1
 rw [←hg]at hC1
 have HG:=Lib.hid hg
 have HF2:=Lib.hid hF2
 have HC2:=Lib.hid hC1
 have HX1:=Lib.hid (show Ext w w1 from X1.out)
 try rw [←hg]
 clear hF1 hF2 own1 gr1 X1 hg hC1
 go_wp2_with fail
 refine wp_label ?_
 go_wp2_with fail
 go_loopg [30] M (fun gk vi wr=> ∃(k:Nat),k≤M∧gk=M - k∧vi = .int .i64 k∧Hid (FreeN wr g (M*3))∧Hid (∀j,j<M→VC wr g j ((evalAll es vals k).getD j nV))∧Hid (FreeN wr w.heap.size 3)∧Ext w wr)
 case atStart=>exact⟨0,by omega,rfl,rfl,HF2.out,HC2.out,(fun j hj=>by
  obtain⟨⟨a0,a1,a2⟩,b0,b1,b2⟩:=HX0.out
  rcases(by omega:j=0∨j=1∨j=2)with rfl | rfl | rfl
  ·exact⟨⟨_,a0⟩,b0⟩
  ·exact⟨⟨_,a1⟩,b1⟩
  ·exact⟨⟨_,a2⟩,b2⟩),HX1.out⟩
 case round =>
  clear HF2 HX1 HX0 HC2
  obtain⟨k,hk,rfl,rfl,HFR,HCC,HRS,hx⟩:=hrel
  by_cases hlt:k<M
  ·have hd:decide ((k:Int)<(M:Int))=true:=by simp;omega
   have hkM:(k:Int)<(M:Int):=by omega
   have hkn:k<es.length:=by have:=HN.out;omega
   obtain⟨c0,c1,c2,c3,c4,c5,c6⟩:=expr_at HE.out k hkn
   have hok:=HXO.out es[k] (List.getElem_mem hkn)
   have hput : ∀j,(evalAll es vals (k+1)).getD j nV=if j=k then stepE vals (evalAll es vals k) es[k]else(evalAll es vals k).getD j nV:=fun j=>by
    rw [evalAll_put,getElem!_pos es k hkn]
   have hDO : ∀v∈evalAll es vals k,okVal v:=ok_evalAll (fun z hz=>(HXO.out z hz).2) HVO.out k (by omega)
   generalize es[k]=x at c0 c1 c2 c3 c4 c5 c6 hok hput
   obtain⟨xo,xa,xb,xc,⟨xk,xn,xs⟩⟩:=x
   dsimp only at c0 c1 c2 c3 c4 c5 c6 hok
   have hdl:(evalAll es vals k).length=k:=evalAll_len es vals k
   have HDO:=Lib.hid hDO
   have HPUT:=Lib.hid hput
   clear hput hDO
   generalize hD:evalAll es vals k=D at HCC HPUT HDO hdl
   have HD:=Lib.hid hdl
   replace c0:=hx.at c0
   replace c1:=hx.at c1
   replace c2:=hx.at c2
   replace c3:=hx.at c3
   replace c4:=hx.at c4
   replace c5:=hx.at c5
   replace c6:=hx.at c6
   have HOK:=Lib.hid hok
   have e0:=cell_lt c0
   clear hok hdl hD
   go_wp2_with fail
   refine(operands_any ⟨xo,xa,xb,xc,⟨xk,xn,xs⟩⟩ HOK.out.1.1 HOK.out.1.2 _).mono ?_
   rintro e w2 ⟨v2,rfl,s2,x2⟩
   have a0:w2.cell? ⟨wr.heap.size,0,none⟩=some (.int .i64 xo):=x2.at (by go_simp)
   have a1:w2.cell? ⟨wr.heap.size,1,none⟩=some (.int .i64 xa):=x2.at (by go_simp)
   have a2:w2.cell? ⟨wr.heap.size,2,none⟩=some (.int .i64 xb):=x2.at (by go_simp)
   have a3:w2.cell? ⟨wr.heap.size,3,none⟩=some (.int .i64 xc):=x2.at (by go_simp)
   have a4:w2.cell? ⟨wr.heap.size,4,none⟩=some (.int .i64 xk):=x2.at (by go_simp)
   have a5:w2.cell? ⟨wr.heap.size,5,none⟩=some (.int .i64 xn):=x2.at (by go_simp)
   have a6:w2.cell? ⟨wr.heap.size,6,none⟩=some (.string xs):=x2.at (by go_simp)
   have X2:=Lib.hid (show Ext wr w2 from ((Ext.refl wr).alloc _).trans x2)
   have e2:=cell_lt a0
   obtain⟨p2,d2,rfl,hpc1,hpc2,hp2⟩:=s2.form
   have hleg:=legalE_iff k ⟨xo,xa,xb,xc,⟨xk,xn,xs⟩⟩
   have hoks:=opsE_ok (x:=⟨xo,xa,xb,xc,⟨xk,xn,xs⟩⟩) HOK.out.1
   have hol:=opsE_len ⟨xo,xa,xb,xc,⟨xk,xn,xs⟩⟩
   obtain⟨O,hO⟩ : ∃O,O=opsE ⟨xo,xa,xb,xc,⟨xk,xn,xs⟩⟩:=⟨_,rfl⟩
   rw [←hO]at hleg hoks hol s2 hpc1 hp2 ⊢
   obtain⟨n,hn⟩ : ∃n,n=O.length:=⟨_,rfl⟩
   rw [←hn]at hol s2 hpc1 hp2 ⊢
   dsimp only at hol
   have hn2:n≤2:=by have:=arityE_le xo;omega
   have HLEG:=Lib.hid hleg
   have HOKS:=Lib.hid hoks
   have HOL:=Lib.hid hol
   have HO:=Lib.hid hO
   have HNO:=Lib.hid hn
   have S2:=Lib.hid s2
   have HP2:=Lib.hid hp2
   clear x2 c0 c1 c2 c3 c4 c5 c6 e0 hleg hoks hol hO hn s2 hp2 hpc1 hpc2
   go_wp2_with fail
   have HFR2:=Lib.hid (HFR.out.ext X2.out)
   have HRS2:=Lib.hid (HRS.out.ext X2.out)
   have HCC2:=Lib.hid (show ∀j,j<M→VC w2 g j (D.getD j nV)from fun j hj=>(HCC.out j hj).ext X2.out)
   have HX2:=Lib.hid (hx.trans X2.out)
   clear HFR HRS HCC hx X2
   go_loopg [10,12,38] n (fun gj va vo vi wq=> ∃(j:Nat) (u:Value),j≤n∧gj=n - j∧vi = .int .i64 j∧u=va∧Hid (OwnOf Rep.val wq (fun _=>True) w2.heap.size 61 u ((O.take j).map (argE D)))∧Hid (∀o∈O.take j,0≤o∧o<k)∧Ext w2 wq)
   case atStart=>exact⟨0,_,by omega,rfl,rfl,rfl,OwnOf.nil _ _ _ _ _,(fun o ho=>by simp at ho),Ext.refl w2⟩
   case round =>
    obtain⟨j,u,hj,rfl,rfl,rfl,OW,HLJ,hq⟩:=hrel
    by_cases hjn:j<n
    ·obtain⟨b2,o2,rfl⟩:=HP2.out (by decide) (by omega)
     have hjl:j<O.length:=by have:=HNO.out;omega
     have sv:=S2.out
     rw [HNO.out]at sv
     obtain⟨d0,_⟩:=int_at sv j hjl
     replace d0:=hq.at d0
     have hdj:decide ((j:Int)<(n:Int))=true:=by simp;omega
     have hmem:O[j]∈O:=List.getElem_mem hjl
     have htk:O.take (j+1)=O.take j ++ [O[j]]:=List.take_succ_eq_append_getElem hjl
     have hoo:=HOKS.out O[j] hmem
     generalize O[j]=z at d0 htk hoo hmem
     have HMEM:=Lib.hid hmem
     have HTK:=Lib.hid htk
     have HOO:=Lib.hid hoo
     have e1:=cell_lt d0
     have ol1:((O.take j).map (argE D)).length≤2:=by rw [List.length_map,List.length_take];omega
     obtain⟨o',ho'⟩ : ∃o',o'=(O.take j).map (argE D):=⟨_,rfl⟩
     rw [←ho']at OW ol1
     have HO1:=Lib.hid ho'
     have B1:o'.length+1≤maxLen:=by unfold maxLen;omega
     have B2:(o'.length+1)*32≤140737488355328:=by omega
     clear hmem htk hoo sv ho'
     go_wp2_with fail
     refine(legal_any k z _).mono ?_
     rintro e w3 ⟨rfl,rfl⟩
     by_cases hlz:0≤z∧z<k
     ·have hb:(decide (0≤z)&&decide (z<(k:Int)))=true:=by simp;exact hlz
      rw [hb]
      obtain⟨m,rfl⟩ : ∃m:Nat,z=m:=⟨z.toNat,by omega⟩
      have hmk:m<k:=by omega
      have hmM:(m:Int)<(M:Int):=by omega
      obtain⟨q0,q1,q2⟩:=(HCC2.out m (by omega)).ext hq
      have hoy:=ok_getD HDO.out m
      have hyz:argE D (m:Int)=D.getD m nV:=rfl
      generalize D.getD m nV=yy at q0 q1 q2 hoy hyz
      have HYZ:=Lib.hid hyz
      have HOY:=Lib.hid hoy
      obtain⟨yk,yn,ys⟩:=yy
      dsimp only at q0 q1 q2
      have e5:=cell_lt q0
      clear hb hlz hyz hoy
      go_wp2_with (at_builtin;go_loud (refine wpList_append_one Rep.val (fun _=>True) rfl _ _ 56 rfl w2.heap.size 61 i3 _ 32 Tryz.underlying56 hi3 hz30 hz31 hz32 rfl (by decide) u o' rfl (OW.out.ext ((Ext.refl wr).alloc _)) ⟨wr.heap.size,0,none⟩ 1 ⟨yk,yn,ys⟩ [.int .i64 yk,.int .i64 yn,.string ys] rfl ⟨rfl,HOY.out⟩ (by exact cells_new wr [.int .i64 yk,.int .i64 yn,.string ys] _) B1 B2 (by exact(hq.trans ((Ext.refl wr).alloc _)).size) ?_))
      intro g3 cap3 w3 own gr _
      have hxx:Ext w2 w3:=Ext.grownNew (hq.trans ((Ext.refl wr).alloc _)) gr OW.out.base
      have OW2:=Lib.hid own
      clear own gr
      go_wp2_with fail
      go_roundg (n - (j+1))
      case measure=>omega
      case rel =>
       refine⟨j+1,_,by omega,rfl,by go_num,rfl,?_,?_,hxx⟩
       ·show OwnOf _ _ _ _ _ _ _
        have e9:(O.take (j+1)).map (argE D)=o' ++ [⟨yk,yn,ys⟩]:=by rw [HTK.out,List.map_append,←HO1.out,List.map_cons,HYZ.out];rfl
        rw [e9]
        exact OW2.out
       ·show ∀o∈O.take (j+1),_
        rw [HTK.out]
        intro o ho
        rcases List.mem_append.1 ho with ho | ho
        ·exact HLJ.out o ho
        ·rw [List.mem_singleton]at ho
         subst ho
         omega
     ·have hb:(decide (0≤z)&&decide (z<(k:Int)))=false:=by
       rw [Bool.eq_false_iff]
       intro hh
       simp only [Bool.and_eq_true,decide_eq_true_eq]at hh
       exact hlz hh
      rw [hb]
      have hnl:legalE k ⟨xo,xa,xb,xc,⟨xk,xn,xs⟩⟩=false:=by
       rw [Bool.eq_false_iff]
       intro hh
       exact hlz (HLEG.out.1 hh z HMEM.out)
      have HSAME:=Lib.hid (show ∀i,(evalAll es vals (k+1)).getD i nV=D.getD i nV from fun i=>by
       rw [HPUT.out]
       split
       ·rename_i e
        subst e
        unfold stepE
        rw [HD.out,hnl,if_neg (by decide),List.getD_eq_getElem?_getD,List.getElem?_eq_none (by have:=HD.out;omega)]
        rfl
       ·rfl)
      clear hb hlz hnl
      go_wp2_with fail
      go_roundg (M - (k+1))
      case measure=>omega
      case rel=>exact⟨k+1,by omega,rfl,by go_num,HFR2.out.ext hq,(fun i hi=>by rw [HSAME.out];exact(HCC2.out i hi).ext hq),HRS2.out.ext hq,HX2.out.trans hq⟩
    ·have hjn2:j=n:=by omega
     have hdj : ¬(j:Int)<(n:Int):=by omega
     have hall:O.take j=O:=by rw [hjn2,HNO.out,List.take_length]
     have HLA:=Lib.hid HLJ.out
     rw [hall]at OW HLA
     have hag:O.map (argE D)=argsE ⟨xo,xa,xb,xc,⟨xk,xn,xs⟩⟩ D:=by unfold argsE;rw [←HO.out]
     have hlen:(argsE ⟨xo,xa,xb,xc,⟨xk,xn,xs⟩⟩ D).length=(arityE xo).toNat:=by rw [←hag,List.length_map,←HNO.out,HOL.out]
     have hst:stepE vals D ⟨xo,xa,xb,xc,⟨xk,xn,xs⟩⟩=applyV ⟨xo,xa,xb,xc,⟨xk,xn,xs⟩⟩ ((argsE ⟨xo,xa,xb,xc,⟨xk,xn,xs⟩⟩ D).getD 0 nV) ((argsE ⟨xo,xa,xb,xc,⟨xk,xn,xs⟩⟩ D).getD 1 nV) vals:=by
      unfold stepE
      rw [HD.out,if_pos (HLEG.out.2 HLA.out)]
     rw [hag]at OW
     have HST:=Lib.hid hst
     have HLEN:=Lib.hid hlen
     replace a0:=hq.at a0
     replace a1:=hq.at a1
     replace a2:=hq.at a2
     replace a3:=hq.at a3
     replace a4:=hq.at a4
     replace a5:=hq.at a5
     replace a6:=hq.at a6
     replace e2:=cell_lt a0
     clear hall hag hlen hst hjn2 hjn
     go_wp2_with fail
     refine(apply_any ⟨xo,xa,xb,xc,⟨xk,xn,xs⟩⟩ _ (argsE ⟨xo,xa,xb,xc,⟨xk,xn,xs⟩⟩ D) HLEN.out _ vals _ OW.out.slice (HV.out.ext (HX2.out.trans hq).full)).mono ?_
     rintro e w3 ⟨rfl,x3⟩
     obtain⟨yy,hyy⟩ : ∃z,z=applyV ⟨xo,xa,xb,xc,⟨xk,xn,xs⟩⟩ ((argsE ⟨xo,xa,xb,xc,⟨xk,xn,xs⟩⟩ D).getD 0 nV) ((argsE ⟨xo,xa,xb,xc,⟨xk,xn,xs⟩⟩ D).getD 1 nV) vals:=⟨_,rfl⟩
     rw [←hyy]
     have HYY:=Lib.hid (show stepE vals D ⟨xo,xa,xb,xc,⟨xk,xn,xs⟩⟩=yy from by rw [HST.out,hyy])
     have HQ3:=Lib.hid (hq.trans x3)
     have HFR3:=Lib.hid (HFR2.out.ext HQ3.out)
     have HRS3:=Lib.hid (HRS2.out.ext HQ3.out)
     have HCC3:=Lib.hid (show ∀i,i<M→VC w3 g i (D.getD i nV)from fun i hi=>(HCC2.out i hi).ext HQ3.out)
     have HX3:=Lib.hid (HX2.out.trans HQ3.out)
     obtain⟨yk,yn,ys⟩:=yy
     obtain⟨⟨o0,p0⟩,f0⟩:=HFR3.out (k*3) (by omega)
     obtain⟨⟨o1,p1⟩,f1⟩:=HFR3.out (k*3+1) (by omega)
     obtain⟨⟨o2,p2'⟩,f2⟩:=HFR3.out (k*3+2) (by omega)
     have e3:=cell_lt p0
     have HGB:=Lib.hid (show w.heap.size≤g∧g≠w.heap.size from by have:=HG.out;omega)
     clear hyy HFR2 HRS2 HCC2 HX2 x3 a0 a1 a2 a3 a4 a5 a6 e2 HST hq OW
     unfold valV
     dsimp only
     go_wp2_with fail
     go_roundg (M - (k+1))
     case measure=>omega
     case rel =>
      refine⟨k+1,by omega,rfl,by go_num,((HFR3.out.set _ _).set _ _).set _ _,(fun i hi=> ?_),fun j hj=> ?_,Below.setCell (Below.setCell (Below.setCell HX3.out HGB.out.1 _) HGB.out.1 _) HGB.out.1 _⟩
      ·rw [HPUT.out,HYY.out]
       exact VC.put HFR3.out HCC3.out hlt ⟨yk,yn,ys⟩ i hi
      ·obtain⟨⟨u,hu⟩,hf⟩:=HRS3.out j hj
       exact⟨⟨u,cell_set (cell_set (cell_set hu HGB.out.2) HGB.out.2) HGB.out.2⟩,by go_simp⟩
  ·have hkM:k=M:=by omega
   have hd : ¬(k:Int)<(M:Int):=by omega
   obtain⟨s0,s1,s2⟩:=HCC.out root (by have:=HM.out;omega)
   have hyy:(evalAll es vals k).getD root nV=y:=by
    have h1:=HY.out
    have h2:=HN.out
    have h3:=HM.out
    rw [h1]
    unfold evalE
    rw [if_pos (by omega),Int.toNat_natCast,show k=root+1 by omega]
   rw [hyy]at s0 s1 s2
   obtain⟨⟨o0,p0⟩,f0⟩:=HRS.out 0 (by omega)
   obtain⟨⟨o1,p1⟩,f1⟩:=HRS.out 1 (by omega)
   obtain⟨⟨o2,p2⟩,f2⟩:=HRS.out 2 (by omega)
   have e3:=cell_lt s0
   have e4:=cell_lt p0
   have HXF:=Lib.hid hx
   clear hkM HCC HRS HFR hx hyy
   go_wp2_with fail
   exact bodyPost_ret (v:=valV y) (by simp [results,Tryz.results125,go_sem,p0,p1,p2]) rfl ⟨rfl,Below.setCell (Below.setCell (Below.setCell HXF.out (Nat.le_refl _) _) (Nat.le_refl _) _) (Nat.le_refl _) _⟩
end Go.Proofs.YtombmdaohcjokaaGreatDoor
namespace Go.Proofs.YtombmdaohcjokaaGreatDoor
open Go.RowKit
def projE (es:List ExprI) (keys:List Int) (vals:List Val):List Val:=keys.map fun k=>evalE es k vals
theorem projE_len (es:List ExprI) (keys:List Int) (vals:List Val):(projE es keys vals).length=keys.length:=List.length_map _
theorem projE_take (es:List ExprI) (keys:List Int) (vals:List Val) (k:Nat) (h:k<keys.length):projE es (keys.take (k+1)) vals=projE es (keys.take k) vals ++ [evalE es keys[k] vals]:=by
 rw [List.take_succ_eq_append_getElem h]
 unfold projE
 rw [List.map_append]
 rfl
theorem expr_oks {h:View} {v:Value} {xs:List ExprI} (k:SliceOf Rep.expr h v xs) : ∀x∈xs,okVal x.c:=fun x hx=>(expr_ok k x hx).2
def argsG (es:List ExprI) (arg:Int) (vss:List (List Val)):List Val:=(vss.map fun vs=>evalE es arg vs).filter fun v=>decide (v.kind≠0)
theorem argsG_take (es:List ExprI) (arg:Int) (vss:List (List Val)) (k:Nat) (h:k<vss.length):argsG es arg (vss.take (k+1))=argsG es arg (vss.take k)++if (evalE es arg vss[k]).kind=0 then []else [evalE es arg vss[k]]:=by
 unfold argsG
 rw [List.take_succ_eq_append_getElem h,List.map_append,List.filter_append]
 congr 1
 rw [List.map_cons,List.map_nil,List.filter_cons,List.filter_nil]
 by_cases e:(evalE es arg vss[k]).kind=0
 ·rw [if_pos e,if_neg (by simp [e])]
 ·rw [if_neg e,if_pos (by simp [e])]
theorem argsG_len (es:List ExprI) (arg:Int) (vss:List (List Val)):(argsG es arg vss).length≤vss.length:=by
 unfold argsG
 exact Nat.le_trans (List.length_filter_le _ _) (by simp)
def aggE (es:List ExprI) (kind arg:Int) (vss:List (List Val)):Val :=
 if kind=1 then intVal vss.length else
 if kind=2 then sumV (argsG es arg vss)else
 if kind=3 then(if argsG es arg vss = []then nV else pickMin (argsG es arg vss))else
 if kind=4 then(if argsG es arg vss = []then nV else pickMax (argsG es arg vss))else
 if argsG es arg vss = []then nV else nV
end Go.Proofs.YtombmdaohcjokaaGreatDoor
namespace Go.Proofs.YtombmdaohcjokaaGreatDoor
open Go.RowKit
structure NodeI where
 kind:Int
 a:Int
 b:Int
 pred:Int
 table:ByteArray
 exprs:List Int
 aggs:List AggI
instance:Inhabited NodeI:=⟨⟨0,0,0,0,ByteArray.empty,[],[]⟩⟩
structure QueryI where
 nodes:List NodeI
 exprs:List ExprI
structure TypI where
 name:ByteArray
 kinds:List Int
structure TabI where
 typ:TypI
 rows:List Row
def accE (k r:Int):Bool:=decide (k=0)||decide (k=r)
def validV (v:Val):Bool :=
 if v.kind=0 then decide (v.n=0)&&v.s.toList.isEmpty
 else if v.kind=1 then v.s.toList.isEmpty
 else if v.kind=2 then decide (v.n=0)&&decide (v.s.size≤200)
 else if v.kind=3 then(decide (v.n=0)||decide (v.n=1))&&v.s.toList.isEmpty
 else false
def combineE (x:ExprI) (ks cols:List Int):Int×Int :=
 if x.op=1 then(x.c.kind,0)
 else if x.op=2 then(cols.getD x.col.toNat 0,0)
 else if x.op=11 then(3,0)
 else if x.op=6∨x.op=7 then(if accE (ks.getD 0 0) (ks.getD 1 0)=false∧accE (ks.getD 1 0) (ks.getD 0 0)=false then(0,7)else(3,0))
 else if 3≤x.op∧x.op≤5 then(if ks.all (accE · 1)=true then(1,0)else(0,7))
 else if ks.all (accE · 3)=true then(3,0)else(0,7)
def kindsE (done:List (Int×Int)):List Int→List Int→List Int×Int
 |[],acc=>(acc,0)
 |o::os,acc=>if (done.getD o.toNat (0,0)).2≠0 then([],(done.getD o.toNat (0,0)).2)else kindsE done os (acc ++ [(done.getD o.toNat (0,0)).1])
def chkStep (cols:List Int) (done:List (Int×Int)) (x:ExprI):Int×Int :=
 if arityE x.op<0∨(x.op=1∧validV x.c=false)then(0,5)
 else if legalE done.length x=false then(0,10)
 else if x.op=2∧(x.col<0∨(cols.length:Int)≤x.col)then(0,10)
 else if (kindsE done (opsE x) []).2≠0 then(0,(kindsE done (opsE x) []).2)
 else combineE x (kindsE done (opsE x) []).1 cols
def chkAll (es:List ExprI) (cols:List Int):Nat→List (Int×Int)
 |0=> []
 |k+1=>chkAll es cols k ++ [chkStep cols (chkAll es cols k) es[k]!]
def checkE (es:List ExprI) (cols:List Int) (root:Int):Int×Int :=
 if 200<es.length then(0,4)else if root<0∨(es.length:Int)≤root then(0,10)else(chkAll es cols (root.toNat+1)).getD root.toNat (0,0)
theorem chkAll_len (es:List ExprI) (cols:List Int) (k:Nat):(chkAll es cols k).length=k:=by
 induction k with
 |zero=>rfl
 |succ k ih=>rw [chkAll,List.length_append,ih];rfl
theorem chkAll_get (es:List ExprI) (cols:List Int) (k j:Nat) (h:j<k):(chkAll es cols k).getD j (0,0)=chkStep cols (chkAll es cols j) es[j]! := by
 induction k with
 |zero=>omega
 |succ k ih =>
  rw [chkAll,List.getD_eq_getElem?_getD]
  by_cases c:j<k
  ·rw [List.getElem?_append_left (by rw [chkAll_len];exact c),←List.getD_eq_getElem?_getD,ih c]
  ·have e:j=k:=by omega
   subst e
   rw [List.getElem?_append_right (by rw [chkAll_len];exact Nat.le_refl _),chkAll_len,Nat.sub_self]
   rfl
def binK (k:Int):Bool:=decide (4≤k)&&decide (k≤8)
def scanC (types:List TypI) (name:ByteArray):List Int×Int:=match types.find? (fun t=>decide (t.name=name))with
 |some t=>(t.kinds,0)
 |none=>([],8)
def meetC (x y:Int):Int:=if x=0 then y else x
def badC (x y:Int):Bool:=decide (x≠0)&&(decide (x≠y)&&decide (y≠0))
def compatC:List Int→List Int→List Int×Int
 |[],[]=>([],0)
 |x::a,y::b=>if badC x y=true then([],7)else if (compatC a b).2≠0 then([],7)else(meetC x y::(compatC a b).1,0)
 |_,_=>([],7)
def exprsC (es:List ExprI) (cols:List Int):List Int→List Int→List Int×Int
 |[],acc=>(acc,0)
 |x::xs,acc=>if (checkE es cols x).2≠0 then([],(checkE es cols x).2)else exprsC es cols xs (acc ++ [(checkE es cols x).1])
def aggsC (es:List ExprI) (cols:List Int):List AggI→List Int→Bool→List Int×Int
 |[],acc,mis=>if mis=true then([],7)else(acc,0)
 |g::gs,acc,mis =>
  if g.kind=1 then aggsC es cols gs (acc ++ [1]) mis
  else if g.kind<1∨4<g.kind then([],5)
  else if (checkE es cols g.arg).2≠0 then([],(checkE es cols g.arg).2)
  else if g.kind=2 then aggsC es cols gs (acc ++ [1]) (mis||(decide ((checkE es cols g.arg).1≠1)&&decide ((checkE es cols g.arg).1≠0)))
  else aggsC es cols gs (acc ++ [(checkE es cols g.arg).1]) mis
def groupC (es:List ExprI) (cols:List Int) (n:NodeI):List Int×Int :=
 if (exprsC es cols n.exprs []).2≠0 then([],(exprsC es cols n.exprs []).2)else aggsC es cols n.aggs (exprsC es cols n.exprs []).1 false
def predC (es:List ExprI) (cols:List Int) (pred:Int):Int:=if (checkE es cols pred).2=0∧(checkE es cols pred).1≠3∧(checkE es cols pred).1≠0 then 7 else(checkE es cols pred).2
def legN (n:Nat) (i:Int):Bool:=decide (0≤i)&&decide (i<n)
def inputC (done:List (List Int)) (n:NodeI):List Int:=if binK n.kind=true then done.getD n.a.toNat []++done.getD n.b.toNat []else done.getD n.a.toNat []
def colsN (es:List ExprI) (types:List TypI) (done:List (List Int)) (n:NodeI):List Int×Int :=
 if n.kind<1∨10<n.kind then([],5)
 else if n.kind=1 then scanC types n.table
 else if legN done.length n.a=false∨(binK n.kind=true∧legN done.length n.b=false)then([],10)
 else if n.kind=2 then(done.getD n.a.toNat [],predC es (inputC done n) n.pred)
 else if n.kind=4∨n.kind=5 then(inputC done n,predC es (inputC done n) n.pred)
 else if n.kind=3 then exprsC es (inputC done n) n.exprs []
 else if 6≤n.kind∧n.kind≤8 then compatC (done.getD n.a.toNat []) (done.getD n.b.toNat [])
 else if n.kind=10 then groupC es (inputC done n) n
 else(done.getD n.a.toNat [],0)
def colsUpto (q:QueryI) (types:List TypI):Nat→List (List Int)×Int
 |0=>([],0)
 |i+1 =>
  if (colsUpto q types i).2≠0 then([],(colsUpto q types i).2)
  else if (colsN q.exprs types (colsUpto q types i).1 q.nodes[i]!).2≠0 then([],(colsN q.exprs types (colsUpto q types i).1 q.nodes[i]!).2)
  else if (colsN q.exprs types (colsUpto q types i).1 q.nodes[i]!).1.length=0∨64<(colsN q.exprs types (colsUpto q types i).1 q.nodes[i]!).1.length then([],4)
  else((colsUpto q types i).1 ++ [(colsN q.exprs types (colsUpto q types i).1 q.nodes[i]!).1],0)
def columnsQ (q:QueryI) (types:List TypI):List (List Int)×Int :=
 if q.nodes.length=0∨40<q.nodes.length∨200<q.exprs.length then([],4)else colsUpto q types q.nodes.length
def checkQ (q:QueryI) (types:List TypI):List Int×Int :=
 if (columnsQ q types).2≠0 then([],(columnsQ q types).2)else((columnsQ q types).1.getLastD [],0)
end Go.Proofs.YtombmdaohcjokaaGreatDoor
namespace Go.Proofs.YtombmdaohcjokaaGreatDoor
open Go.RowKit
def Rep.node:Rep NodeI where
 size:=7
 holds w cs x:= ∃ve va,cs = [.int .i64 x.kind,.int .i64 x.a,.int .i64 x.b,.int .i64 x.pred,.string x.table,ve,va]∧SliceOf Rep.int w ve x.exprs∧SliceOf Rep.agg w va x.aggs∧(okI x.kind∧okI x.a∧okI x.b∧okI x.pred)∧x.table.size≤maxLen
 len:=by rintro w cs x ⟨ve,va,rfl,_⟩;rfl
 ext:=by rintro w w' cs x ⟨ve,va,rfl,h1,h2,h3⟩ hx;exact⟨ve,va,rfl,h1.ext hx,h2.ext hx,h3⟩
 one:=by
  rintro w cs x ⟨ve,va,rfl,h1,h2,_⟩
  obtain⟨a',cap,rfl,_⟩:=h1.form
  obtain⟨b',cap',rfl,_⟩:=h2.form
  simp [Value.oneCell']
def Rep.typ:Rep TypI where
 size:=2
 holds w cs x:= ∃vk,cs = [.string x.name,vk]∧SliceOf Rep.int w vk x.kinds∧x.name.size≤maxLen
 len:=by rintro w cs x ⟨vk,rfl,_⟩;rfl
 ext:=by rintro w w' cs x ⟨vk,rfl,h1,h2⟩ hx;exact⟨vk,rfl,h1.ext hx,h2⟩
 one:=by
  rintro w cs x ⟨vk,rfl,h1,_⟩
  obtain⟨a',cap,rfl,_⟩:=h1.form
  simp [Value.oneCell']
def Rep.tab:Rep TabI where
 size:=3
 holds w cs x:= ∃vk vr,cs = [.string x.typ.name,vk,vr]∧SliceOf Rep.int w vk x.typ.kinds∧SliceOf Rep.row w vr x.rows∧x.typ.name.size≤maxLen
 len:=by rintro w cs x ⟨vk,vr,rfl,_⟩;rfl
 ext:=by rintro w w' cs x ⟨vk,vr,rfl,h1,h2,h3⟩ hx;exact⟨vk,vr,rfl,h1.ext hx,h2.ext hx,h3⟩
 one:=by
  rintro w cs x ⟨vk,vr,rfl,h1,h2,_⟩
  obtain⟨a',cap,rfl,_⟩:=h1.form
  obtain⟨b',cap',rfl,_⟩:=h2.form
  simp [Value.oneCell']
theorem node_at {h:View} {b o n cap:Nat} {xs:List NodeI} (k:SliceOf Rep.node h (.slice (some ⟨b,o,none⟩) n cap) xs) (i:Nat) (hi:i<xs.length) :
  ∃ve va,h ⟨b,o+i*7,none⟩=some (.int .i64 xs[i].kind)∧h ⟨b,o+i*7+1,none⟩=some (.int .i64 xs[i].a)∧h ⟨b,o+i*7+2,none⟩=some (.int .i64 xs[i].b)∧h ⟨b,o+i*7+3,none⟩=some (.int .i64 xs[i].pred)∧h ⟨b,o+i*7+4,none⟩=some (.string xs[i].table)∧h ⟨b,o+i*7+5,none⟩=some ve∧h ⟨b,o+i*7+6,none⟩=some va ∧
   SliceOf Rep.int h ve xs[i].exprs∧SliceOf Rep.agg h va xs[i].aggs∧(okI xs[i].kind∧okI xs[i].a∧okI xs[i].b∧okI xs[i].pred)∧xs[i].table.size≤maxLen:=by
 obtain⟨c,⟨ve,va,rfl,h1,h2,h3⟩,hc⟩:=k.at i hi
 exact⟨ve,va,hc 0 _ rfl,hc 1 _ rfl,hc 2 _ rfl,hc 3 _ rfl,hc 4 _ rfl,hc 5 _ rfl,hc 6 _ rfl,h1,h2,h3⟩
theorem typ_at {h:View} {b o n cap:Nat} {xs:List TypI} (k:SliceOf Rep.typ h (.slice (some ⟨b,o,none⟩) n cap) xs) (i:Nat) (hi:i<xs.length) :
  ∃vk,h ⟨b,o+i*2,none⟩=some (.string xs[i].name)∧h ⟨b,o+i*2+1,none⟩=some vk∧SliceOf Rep.int h vk xs[i].kinds∧xs[i].name.size≤maxLen:=by
 obtain⟨c,⟨vk,rfl,h1,h2⟩,hc⟩:=k.at i hi
 exact⟨vk,hc 0 _ rfl,hc 1 _ rfl,h1,h2⟩
theorem tab_at {h:View} {b o n cap:Nat} {xs:List TabI} (k:SliceOf Rep.tab h (.slice (some ⟨b,o,none⟩) n cap) xs) (i:Nat) (hi:i<xs.length) :
  ∃vk vr,h ⟨b,o+i*3,none⟩=some (.string xs[i].typ.name)∧h ⟨b,o+i*3+1,none⟩=some vk∧h ⟨b,o+i*3+2,none⟩=some vr∧SliceOf Rep.int h vk xs[i].typ.kinds∧SliceOf Rep.row h vr xs[i].rows∧xs[i].typ.name.size≤maxLen:=by
 obtain⟨c,⟨vk,vr,rfl,h1,h2,h3⟩,hc⟩:=k.at i hi
 exact⟨vk,vr,hc 0 _ rfl,hc 1 _ rfl,hc 2 _ rfl,h1,h2,h3⟩
theorem rows_at {α:Type} {R:Rep α} {h:View} {b o n cap:Nat} {gs:List (List α)} (k:SliceOf (Rep.slice R) h (.slice (some ⟨b,o,none⟩) n cap) gs) (i:Nat) (hi:i<gs.length) : ∃v,h ⟨b,o+i,none⟩=some v∧SliceOf R h v gs[i]:=by
 obtain⟨c,⟨v,rfl,g⟩,h2⟩:=k.at i hi
 have:=h2 0 _ rfl
 rw [show (Rep.slice R).size=1 from rfl,Nat.mul_one,Nat.add_zero]at this
 exact⟨v,this,g⟩
@[reducible] def nodeV (x:NodeI) (ve va:Value):Value:= .agg #[.int .i64 x.kind,.int .i64 x.a,.int .i64 x.b,.int .i64 x.pred,.string x.table,ve,va]
theorem mixedA:Tryz.prog.follows Departure.mixedOrders=true:=by kernel_rfl
structure Bx2 (w:World) (E:Nat) (u0 u1:Value):Prop where
 c0:w.cell? ⟨E,0,none⟩=some u0
 c1:w.cell? ⟨E,1,none⟩=some u1
 f0:w.frozen? ⟨E,0,none⟩=false
 f1:w.frozen? ⟨E,1,none⟩=false
end Go.Proofs.YtombmdaohcjokaaGreatDoor
namespace Go.Proofs.YtombmdaohcjokaaGreatDoor
open Go.RowKit
theorem accepts_any (k r:Int) (w:World):Calls Tryz.prog 325 #[.int .i64 k,.int .i64 r] w fun e w'=>e = .returned (.bool (accE k r))∧w=w':=by
 unfold accE
 by_cases h0:k=0
 ·have b0:(k==0)=true:=by simp [h0]
  rw [decide_eq_true h0,Bool.true_or]
  clear h0
  go_enter Tryz.func325,Tryz.ntmps325
  go_wp2_with fail
  go_ret
  exact⟨rfl,rfl⟩
 ·have b0:(k==0)=false:=by simp [h0]
  rw [decide_eq_false h0,Bool.false_or]
  clear h0
  by_cases h1:k=r
  ·have b1:(k==r)=true:=by simp [h1]
   rw [decide_eq_true h1]
   clear h1
   go_enter Tryz.func325,Tryz.ntmps325
   go_wp2_with fail
   go_ret
   exact⟨rfl,rfl⟩
  ·have b1:(k==r)=false:=by simp [h1]
   rw [decide_eq_false h1]
   clear h1
   go_enter Tryz.func325,Tryz.ntmps325
   go_wp2_with fail
   go_ret
   exact⟨rfl,rfl⟩
set_option maxHeartbeats 2000000 in
theorem valid_val (v:Val) (w:World):Calls Tryz.prog 319 #[valV v] w fun e w'=>e = .returned (.bool (validV v))∧Ext w w':=by
 obtain⟨k,n,s⟩:=v
 have hn0:(n==0)=decide (n=0):=by rw [Bool.eq_iff_iff];simp
 have hn1:(n==1)=decide (n=1):=by rw [Bool.eq_iff_iff];simp
 have hl:decide ((s.size:Int)≤200)=decide (s.size≤200):=by rw [Bool.eq_iff_iff];simp;omega
 unfold validV
 dsimp only
 obtain⟨bs,hs⟩ : ∃bs,s.toList.isEmpty=bs:=⟨_,rfl⟩
 rw [hs]
 generalize decide (n=0)=b0 at hn0 ⊢
 generalize decide (n=1)=b1 at hn1 ⊢
 generalize decide (s.size≤200)=bl at hl ⊢
 by_cases h0:k=0
 ·subst h0
  rw [if_pos rfl]
  cases b0 <;> cases bs <;> (go_enter Tryz.func319,Tryz.ntmps319;go_wp2_with fail;go_ret;exact⟨by first | rfl | simp_all,(Ext.refl w).alloc _⟩)
 ·have c0:(k==0)=false:=by simp [h0]
  rw [if_neg h0]
  by_cases h1:k=1
  ·subst h1
   rw [if_pos rfl]
   clear h0
   cases bs <;> (go_enter Tryz.func319,Tryz.ntmps319;go_wp2_with fail;go_ret;exact⟨by first | rfl | simp_all,(Ext.refl w).alloc _⟩)
  ·have c1:(k==1)=false:=by simp [h1]
   rw [if_neg h1]
   by_cases h2:k=2
   ·subst h2
    rw [if_pos rfl]
    clear h0 h1
    cases b0 <;> cases bl <;> (go_enter Tryz.func319,Tryz.ntmps319;go_wp2_with fail;go_ret;exact⟨by first | rfl | simp_all,(Ext.refl w).alloc _⟩)
   ·have c2:(k==2)=false:=by simp [h2]
    rw [if_neg h2]
    by_cases h3:k=3
    ·subst h3
     rw [if_pos rfl]
     clear h0 h1 h2
     cases b0 <;> cases b1 <;> cases bs <;> (go_enter Tryz.func319,Tryz.ntmps319;go_wp2_with fail;go_ret;exact⟨by first | rfl | simp_all,(Ext.refl w).alloc _⟩)
    ·have c3:(k==3)=false:=by simp [h3]
     rw [if_neg h3]
     clear h0 h1 h2 h3
     go_enter Tryz.func319,Tryz.ntmps319
     go_wp2_with fail
     go_ret
     exact⟨rfl,(Ext.refl w).alloc _⟩
end Go.Proofs.YtombmdaohcjokaaGreatDoor
namespace Go.Proofs.YtombmdaohcjokaaGreatDoor
open Go.RowKit
theorem accepts_eq (k r:Int) (w:World):Calls Tryz.prog 325 #[.int .i64 k,.int .i64 r] w fun e w'=>e = .returned (.bool (accE k r))∧w'=w :=
 (accepts_any k r w).mono fun _ _ ⟨h1,h2⟩=>⟨h1,h2.symm⟩
set_option maxRecDepth 100000 in
set_option maxHeartbeats 4000000 in
theorem combine_const (C:Nat) (x:ExprI) (hop:x.op=1) (kv:Value) (w:World) :
  Calls Tryz.prog 320 #[.pointer (some ⟨C,0,none⟩),.agg (exprEnc x).toArray,kv] w fun e w'=>e = .returned (.tuple #[.int .i64 x.c.kind,.int .i64 0])∧Ext w w':=by
 obtain⟨op,xa,xb,col,⟨ck,cn,cs⟩⟩:=x
 dsimp only at hop
 subst hop
 unfold exprEnc
 dsimp only
 go_enter Tryz.func320,Tryz.ntmps320
 go_wp2_with fail
 exact bodyPost_ret (v:= .tuple #[.int .i64 ck,.int .i64 0]) (by simp [results,Tryz.results320,go_sem]) rfl ⟨rfl,(Ext.refl w).alloc _⟩
set_option maxRecDepth 100000 in
set_option maxHeartbeats 4000000 in
theorem combine_isnull (C:Nat) (x:ExprI) (hop:x.op=11) (kv:Value) (w:World) :
  Calls Tryz.prog 320 #[.pointer (some ⟨C,0,none⟩),.agg (exprEnc x).toArray,kv] w fun e w'=>e = .returned (.tuple #[.int .i64 3,.int .i64 0])∧Ext w w':=by
 obtain⟨op,xa,xb,col,⟨ck,cn,cs⟩⟩:=x
 dsimp only at hop
 subst hop
 unfold exprEnc
 dsimp only
 go_enter Tryz.func320,Tryz.ntmps320
 go_wp2_with fail
 exact bodyPost_ret (v:= .tuple #[.int .i64 3,.int .i64 0]) (by simp [results,Tryz.results320,go_sem]) rfl ⟨rfl,(Ext.refl w).alloc _⟩
set_option maxRecDepth 100000 in
set_option maxHeartbeats 4000000 in
theorem combine_col (C:Nat) (x:ExprI) (hop:x.op=2) (kv vc:Value) (cols:List Int) (w:World) (hC:w.cell? ⟨C,1,none⟩=some vc) (hc:SliceOf Rep.int w.cell? vc cols) (hcol:0≤x.col∧x.col<cols.length) :
  Calls Tryz.prog 320 #[.pointer (some ⟨C,0,none⟩),.agg (exprEnc x).toArray,kv] w fun e w'=>e = .returned (.tuple #[.int .i64 (cols.getD x.col.toNat 0),.int .i64 0])∧Ext w w':=by
 obtain⟨op,xa,xb,col,⟨ck,cn,cs⟩⟩:=x
 dsimp only at hop
 dsimp only at hcol ⊢
 subst hop
 unfold exprEnc
 dsimp only
 have mixed:=mixedA
 obtain⟨pc,cc,rfl,_,_,hpc⟩:=hc.form
 obtain⟨c,rfl⟩ : ∃c:Nat,col=c:=⟨col.toNat,by omega⟩
 have hcl:c<cols.length:=by omega
 obtain⟨bc,oc,rfl⟩:=hpc (by decide) (by omega)
 obtain⟨c0,-⟩:=int_at hc c hcl
 have hb1:(c:Int)<(cols.length:Int):=by omega
 have HR:=Lib.hid (show cols.getD (c:Int).toNat 0=cols[c]from by rw [Int.toNat_natCast,List.getD_eq_getElem?_getD,List.getElem?_eq_getElem hcl];rfl)
 rw [HR.out]
 generalize cols[c]=k at c0 ⊢
 obtain⟨n,hn⟩ : ∃n,n=cols.length:=⟨_,rfl⟩
 rw [←hn]at hC hb1
 have e0:=cell_lt c0
 have e1:=cell_lt hC
 clear hc hpc hcol hcl hn HR
 go_enter Tryz.func320,Tryz.ntmps320
 go_wp2_with fail
 go_big_region_o
 go_wp2_with fail
 exact bodyPost_ret (v:= .tuple #[.int .i64 k,.int .i64 0]) (by simp [results,Tryz.results320,go_sem]) rfl ⟨rfl,((Ext.refl w).alloc _).drew⟩
set_option maxRecDepth 100000 in
set_option maxHeartbeats 4000000 in
theorem combine_cmp6 (C:Nat) (x:ExprI) (hop:x.op=6) (kv:Value) (k0 k1:Int) (w:World) (hk:SliceOf Rep.int w.cell? kv [k0,k1]) :
  Calls Tryz.prog 320 #[.pointer (some ⟨C,0,none⟩),.agg (exprEnc x).toArray,kv] w fun e w'=>e = .returned (.tuple #[.int .i64 (if accE k0 k1=false∧accE k1 k0=false then(0,7)else(3,0):Int×Int).1,.int .i64 (if accE k0 k1=false∧accE k1 k0=false then(0,7)else(3,0):Int×Int).2])∧Ext w w':=by
 obtain⟨op,xa,xb,col,⟨ck,cn,cs⟩⟩:=x
 dsimp only at hop
 subst hop
 unfold exprEnc
 dsimp only
 obtain⟨pk,kk,rfl,_,_,hpk⟩:=hk.form
 obtain⟨bk,ok,rfl⟩:=hpk (by decide) (by simp)
 obtain⟨c0,-⟩:=int_at hk 0 (by simp)
 obtain⟨c1,-⟩:=int_at hk 1 (by simp)
 simp only [Nat.add_zero,List.getElem_cons_zero,List.getElem_cons_succ]at c0 c1
 obtain⟨rp,hrp⟩ : ∃p,p=(if accE k0 k1=false∧accE k1 k0=false then(0,7)else(3,0):Int×Int):=⟨_,rfl⟩
 rw [←hrp]
 have HRP:=Lib.hid hrp
 have mixed:=mixedA
 have e0:=cell_lt c0
 clear hk hpk hrp
 cases hq0:accE k0 k1 <;> cases hq1:accE k1 k0
 all_goals
  rw [hq0,hq1]at HRP
  go_enter Tryz.func320,Tryz.ntmps320
  go_wp2_with fail
  have b0:=((Ext.refl w).alloc (.cells #[.int .i64 6,.int .i64 xa,.int .i64 xb,.int .i64 col,.int .i64 ck,.int .i64 cn,.string cs] 66)).at c0
  have b1:=((Ext.refl w).alloc (.cells #[.int .i64 6,.int .i64 xa,.int .i64 xb,.int .i64 col,.int .i64 ck,.int .i64 cn,.string cs] 66)).at c1
  have X:=Lib.hid ((Ext.refl w).alloc (.cells #[.int .i64 6,.int .i64 xa,.int .i64 xb,.int .i64 col,.int .i64 ck,.int .i64 cn,.string cs] 66))
  generalize w.alloc (.cells #[.int .i64 6,.int .i64 xa,.int .i64 xb,.int .i64 col,.int .i64 ck,.int .i64 cn,.string cs] 66)=W at b0 b1 X ⊢
  clear c0 c1 e0
  have e0:=cell_lt b0
  go_quiet ((go_at_call 325;exact Calls.quiet_of_same (accepts_eq _ _ _)))
  go_wp2_with fail
 ·exact bodyPost_ret (v:= .tuple #[.int .i64 0,.int .i64 7]) (by simp [results,Tryz.results320,go_sem]) rfl ⟨by rw [HRP.out];simp,X.out.trans ((Ext.refl W).drewN _)⟩
 ·exact bodyPost_ret (v:= .tuple #[.int .i64 3,.int .i64 0]) (by simp [results,Tryz.results320,go_sem]) rfl ⟨by rw [HRP.out];simp,X.out.trans ((Ext.refl W).drewN _)⟩
 ·exact bodyPost_ret (v:= .tuple #[.int .i64 3,.int .i64 0]) (by simp [results,Tryz.results320,go_sem]) rfl ⟨by rw [HRP.out];simp,X.out.trans ((Ext.refl W).drewN _)⟩
 ·exact bodyPost_ret (v:= .tuple #[.int .i64 3,.int .i64 0]) (by simp [results,Tryz.results320,go_sem]) rfl ⟨by rw [HRP.out];simp,X.out.trans ((Ext.refl W).drewN _)⟩
set_option maxRecDepth 100000 in
set_option maxHeartbeats 4000000 in
theorem combine_cmp7 (C:Nat) (x:ExprI) (hop:x.op=7) (kv:Value) (k0 k1:Int) (w:World) (hk:SliceOf Rep.int w.cell? kv [k0,k1]) :
  Calls Tryz.prog 320 #[.pointer (some ⟨C,0,none⟩),.agg (exprEnc x).toArray,kv] w fun e w'=>e = .returned (.tuple #[.int .i64 (if accE k0 k1=false∧accE k1 k0=false then(0,7)else(3,0):Int×Int).1,.int .i64 (if accE k0 k1=false∧accE k1 k0=false then(0,7)else(3,0):Int×Int).2])∧Ext w w':=by
 obtain⟨op,xa,xb,col,⟨ck,cn,cs⟩⟩:=x
 dsimp only at hop
 subst hop
 unfold exprEnc
 dsimp only
 obtain⟨pk,kk,rfl,_,_,hpk⟩:=hk.form
 obtain⟨bk,ok,rfl⟩:=hpk (by decide) (by simp)
 obtain⟨c0,-⟩:=int_at hk 0 (by simp)
 obtain⟨c1,-⟩:=int_at hk 1 (by simp)
 simp only [Nat.add_zero,List.getElem_cons_zero,List.getElem_cons_succ]at c0 c1
 obtain⟨rp,hrp⟩ : ∃p,p=(if accE k0 k1=false∧accE k1 k0=false then(0,7)else(3,0):Int×Int):=⟨_,rfl⟩
 rw [←hrp]
 have HRP:=Lib.hid hrp
 have mixed:=mixedA
 have e0:=cell_lt c0
 clear hk hpk hrp
 cases hq0:accE k0 k1 <;> cases hq1:accE k1 k0
 all_goals
  rw [hq0,hq1]at HRP
  go_enter Tryz.func320,Tryz.ntmps320
  go_wp2_with fail
  have b0:=((Ext.refl w).alloc (.cells #[.int .i64 7,.int .i64 xa,.int .i64 xb,.int .i64 col,.int .i64 ck,.int .i64 cn,.string cs] 66)).at c0
  have b1:=((Ext.refl w).alloc (.cells #[.int .i64 7,.int .i64 xa,.int .i64 xb,.int .i64 col,.int .i64 ck,.int .i64 cn,.string cs] 66)).at c1
  have X:=Lib.hid ((Ext.refl w).alloc (.cells #[.int .i64 7,.int .i64 xa,.int .i64 xb,.int .i64 col,.int .i64 ck,.int .i64 cn,.string cs] 66))
  generalize w.alloc (.cells #[.int .i64 7,.int .i64 xa,.int .i64 xb,.int .i64 col,.int .i64 ck,.int .i64 cn,.string cs] 66)=W at b0 b1 X ⊢
  clear c0 c1 e0
  have e0:=cell_lt b0
  go_quiet ((go_at_call 325;exact Calls.quiet_of_same (accepts_eq _ _ _)))
  go_wp2_with fail
 ·exact bodyPost_ret (v:= .tuple #[.int .i64 0,.int .i64 7]) (by simp [results,Tryz.results320,go_sem]) rfl ⟨by rw [HRP.out];simp,X.out.trans ((Ext.refl W).drewN _)⟩
 ·exact bodyPost_ret (v:= .tuple #[.int .i64 3,.int .i64 0]) (by simp [results,Tryz.results320,go_sem]) rfl ⟨by rw [HRP.out];simp,X.out.trans ((Ext.refl W).drewN _)⟩
 ·exact bodyPost_ret (v:= .tuple #[.int .i64 3,.int .i64 0]) (by simp [results,Tryz.results320,go_sem]) rfl ⟨by rw [HRP.out];simp,X.out.trans ((Ext.refl W).drewN _)⟩
 ·exact bodyPost_ret (v:= .tuple #[.int .i64 3,.int .i64 0]) (by simp [results,Tryz.results320,go_sem]) rfl ⟨by rw [HRP.out];simp,X.out.trans ((Ext.refl W).drewN _)⟩
set_option maxRecDepth 100000 in
set_option maxHeartbeats 4000000 in
theorem combine_all3 (C:Nat) (x:ExprI) (hop:x.op=3) (kv:Value) (ks:List Int) (w:World) (hk:SliceOf Rep.int w.cell? kv ks) (hkl:ks.length≤1000) :
  Calls Tryz.prog 320 #[.pointer (some ⟨C,0,none⟩),.agg (exprEnc x).toArray,kv] w fun e w'=>e = .returned (.tuple #[.int .i64 (if ks.all (accE · 1)=true then(1,0)else(0,7):Int×Int).1,.int .i64 (if ks.all (accE · 1)=true then(1,0)else(0,7):Int×Int).2])∧Ext w w':=by
 obtain⟨op,xa,xb,col,⟨ck,cn,cs⟩⟩:=x
 dsimp only at hop
 subst hop
 unfold exprEnc
 dsimp only
 obtain⟨pk,kk,rfl,_,_,hpk⟩:=hk.form
 obtain⟨N,hN⟩ : ∃z,z=ks.length:=⟨_,rfl⟩
 rw [←hN]at hk hpk ⊢
 obtain⟨rp,hrp⟩ : ∃p,p=(if ks.all (accE · 1)=true then(1,0)else(0,7):Int×Int):=⟨_,rfl⟩
 rw [←hrp]
 have HRP:=Lib.hid hrp
 have HK:=Lib.hid hk
 have HP:=Lib.hid hpk
 have HN:=Lib.hid hN
 have hNl:N≤1000:=by omega
 clear hk hpk hN hkl hrp
 go_enter Tryz.func320,Tryz.ntmps320
 go_wp2_with fail
 have X:=Lib.hid ((Ext.refl w).alloc (.cells #[.int .i64 3,.int .i64 xa,.int .i64 xb,.int .i64 col,.int .i64 ck,.int .i64 cn,.string cs] 66))
 generalize w.alloc (.cells #[.int .i64 3,.int .i64 xa,.int .i64 xb,.int .i64 col,.int .i64 ck,.int .i64 cn,.string cs] 66)=W at X ⊢
 go_loopg [57] N (fun gk vi wr=> ∃(k:Nat),k≤N∧gk=N - k∧vi = .int .i64 k∧Hid ((ks.take k).all (accE · 1)=true)∧W=wr)
 case atStart=>exact⟨0,by omega,rfl,rfl,rfl,rfl⟩
 case round =>
  obtain⟨k,hk,rfl,rfl,HA,rfl⟩:=hrel
  by_cases hlt:k<N
  ·have hkl:k<ks.length:=by have:=HN.out;omega
   have hd:decide ((k:Int)<(N:Int))=true:=by simp;omega
   obtain⟨bk,ok,rfl⟩:=HP.out (by decide) (by omega)
   have hv:=HK.out
   obtain⟨c0,-⟩:=int_at hv k hkl
   replace c0:=X.out.at c0
   have HT:=Lib.hid (show (ks.take (k+1)).all (accE · 1)=accE ks[k] 1 from by rw [List.take_succ_eq_append_getElem hkl,List.all_append,HA.out];simp)
   have HM:=Lib.hid (List.getElem_mem hkl)
   generalize ks[k]=y at c0 HT HM
   have e0:=cell_lt c0
   clear hv hkl
   go_wp2_with fail
   refine(accepts_any y 1 _).mono ?_
   rintro e w4 ⟨rfl,rfl⟩
   cases hq:accE y 1
   ·have HQ:=Lib.hid (show ks.all (accE · 1)=false from by
     cases h:ks.all (accE · 1)with
     |false=>rfl
     |true=>rw [List.all_eq_true]at h;rw [h y HM.out]at hq;cases hq)
    clear hq
    go_wp2_with fail
    exact bodyPost_ret (v:= .tuple #[.int .i64 0,.int .i64 7]) (by simp [results,Tryz.results320,go_sem]) rfl ⟨by rw [HRP.out,HQ.out];simp,X.out⟩
   ·rw [hq]at HT
    clear hq
    go_wp2_with fail
    go_roundg (N - (k+1))
    case measure=>omega
    case rel=>exact⟨k+1,by omega,rfl,by go_num,HT.out,rfl⟩
  ·have hkN:k=N:=by omega
   have hd : ¬(k:Int)<(N:Int):=by omega
   have HQ:=Lib.hid (show ks.all (accE · 1)=true from by have h:=HA.out;rw [hkN,HN.out,List.take_length]at h;exact h)
   clear hkN
   go_wp2_with fail
   exact bodyPost_ret (v:= .tuple #[.int .i64 1,.int .i64 0]) (by simp [results,Tryz.results320,go_sem]) rfl ⟨by rw [HRP.out,HQ.out];simp,X.out⟩
set_option maxRecDepth 100000 in
set_option maxHeartbeats 4000000 in
theorem combine_all4 (C:Nat) (x:ExprI) (hop:x.op=4) (kv:Value) (ks:List Int) (w:World) (hk:SliceOf Rep.int w.cell? kv ks) (hkl:ks.length≤1000) :
  Calls Tryz.prog 320 #[.pointer (some ⟨C,0,none⟩),.agg (exprEnc x).toArray,kv] w fun e w'=>e = .returned (.tuple #[.int .i64 (if ks.all (accE · 1)=true then(1,0)else(0,7):Int×Int).1,.int .i64 (if ks.all (accE · 1)=true then(1,0)else(0,7):Int×Int).2])∧Ext w w':=by
 obtain⟨op,xa,xb,col,⟨ck,cn,cs⟩⟩:=x
 dsimp only at hop
 subst hop
 unfold exprEnc
 dsimp only
 obtain⟨pk,kk,rfl,_,_,hpk⟩:=hk.form
 obtain⟨N,hN⟩ : ∃z,z=ks.length:=⟨_,rfl⟩
 rw [←hN]at hk hpk ⊢
 obtain⟨rp,hrp⟩ : ∃p,p=(if ks.all (accE · 1)=true then(1,0)else(0,7):Int×Int):=⟨_,rfl⟩
 rw [←hrp]
 have HRP:=Lib.hid hrp
 have HK:=Lib.hid hk
 have HP:=Lib.hid hpk
 have HN:=Lib.hid hN
 have hNl:N≤1000:=by omega
 clear hk hpk hN hkl hrp
 go_enter Tryz.func320,Tryz.ntmps320
 go_wp2_with fail
 have X:=Lib.hid ((Ext.refl w).alloc (.cells #[.int .i64 4,.int .i64 xa,.int .i64 xb,.int .i64 col,.int .i64 ck,.int .i64 cn,.string cs] 66))
 generalize w.alloc (.cells #[.int .i64 4,.int .i64 xa,.int .i64 xb,.int .i64 col,.int .i64 ck,.int .i64 cn,.string cs] 66)=W at X ⊢
 go_loopg [57] N (fun gk vi wr=> ∃(k:Nat),k≤N∧gk=N - k∧vi = .int .i64 k∧Hid ((ks.take k).all (accE · 1)=true)∧W=wr)
 case atStart=>exact⟨0,by omega,rfl,rfl,rfl,rfl⟩
 case round =>
  obtain⟨k,hk,rfl,rfl,HA,rfl⟩:=hrel
  by_cases hlt:k<N
  ·have hkl:k<ks.length:=by have:=HN.out;omega
   have hd:decide ((k:Int)<(N:Int))=true:=by simp;omega
   obtain⟨bk,ok,rfl⟩:=HP.out (by decide) (by omega)
   have hv:=HK.out
   obtain⟨c0,-⟩:=int_at hv k hkl
   replace c0:=X.out.at c0
   have HT:=Lib.hid (show (ks.take (k+1)).all (accE · 1)=accE ks[k] 1 from by rw [List.take_succ_eq_append_getElem hkl,List.all_append,HA.out];simp)
   have HM:=Lib.hid (List.getElem_mem hkl)
   generalize ks[k]=y at c0 HT HM
   have e0:=cell_lt c0
   clear hv hkl
   go_wp2_with fail
   refine(accepts_any y 1 _).mono ?_
   rintro e w4 ⟨rfl,rfl⟩
   cases hq:accE y 1
   ·have HQ:=Lib.hid (show ks.all (accE · 1)=false from by
     cases h:ks.all (accE · 1)with
     |false=>rfl
     |true=>rw [List.all_eq_true]at h;rw [h y HM.out]at hq;cases hq)
    clear hq
    go_wp2_with fail
    exact bodyPost_ret (v:= .tuple #[.int .i64 0,.int .i64 7]) (by simp [results,Tryz.results320,go_sem]) rfl ⟨by rw [HRP.out,HQ.out];simp,X.out⟩
   ·rw [hq]at HT
    clear hq
    go_wp2_with fail
    go_roundg (N - (k+1))
    case measure=>omega
    case rel=>exact⟨k+1,by omega,rfl,by go_num,HT.out,rfl⟩
  ·have hkN:k=N:=by omega
   have hd : ¬(k:Int)<(N:Int):=by omega
   have HQ:=Lib.hid (show ks.all (accE · 1)=true from by have h:=HA.out;rw [hkN,HN.out,List.take_length]at h;exact h)
   clear hkN
   go_wp2_with fail
   exact bodyPost_ret (v:= .tuple #[.int .i64 1,.int .i64 0]) (by simp [results,Tryz.results320,go_sem]) rfl ⟨by rw [HRP.out,HQ.out];simp,X.out⟩
set_option maxRecDepth 100000 in
set_option maxHeartbeats 4000000 in
theorem combine_all5 (C:Nat) (x:ExprI) (hop:x.op=5) (kv:Value) (ks:List Int) (w:World) (hk:SliceOf Rep.int w.cell? kv ks) (hkl:ks.length≤1000) :
  Calls Tryz.prog 320 #[.pointer (some ⟨C,0,none⟩),.agg (exprEnc x).toArray,kv] w fun e w'=>e = .returned (.tuple #[.int .i64 (if ks.all (accE · 1)=true then(1,0)else(0,7):Int×Int).1,.int .i64 (if ks.all (accE · 1)=true then(1,0)else(0,7):Int×Int).2])∧Ext w w':=by
 obtain⟨op,xa,xb,col,⟨ck,cn,cs⟩⟩:=x
 dsimp only at hop
 subst hop
 unfold exprEnc
 dsimp only
 obtain⟨pk,kk,rfl,_,_,hpk⟩:=hk.form
 obtain⟨N,hN⟩ : ∃z,z=ks.length:=⟨_,rfl⟩
 rw [←hN]at hk hpk ⊢
 obtain⟨rp,hrp⟩ : ∃p,p=(if ks.all (accE · 1)=true then(1,0)else(0,7):Int×Int):=⟨_,rfl⟩
 rw [←hrp]
 have HRP:=Lib.hid hrp
 have HK:=Lib.hid hk
 have HP:=Lib.hid hpk
 have HN:=Lib.hid hN
 have hNl:N≤1000:=by omega
 clear hk hpk hN hkl hrp
 go_enter Tryz.func320,Tryz.ntmps320
 go_wp2_with fail
 have X:=Lib.hid ((Ext.refl w).alloc (.cells #[.int .i64 5,.int .i64 xa,.int .i64 xb,.int .i64 col,.int .i64 ck,.int .i64 cn,.string cs] 66))
 generalize w.alloc (.cells #[.int .i64 5,.int .i64 xa,.int .i64 xb,.int .i64 col,.int .i64 ck,.int .i64 cn,.string cs] 66)=W at X ⊢
 go_loopg [57] N (fun gk vi wr=> ∃(k:Nat),k≤N∧gk=N - k∧vi = .int .i64 k∧Hid ((ks.take k).all (accE · 1)=true)∧W=wr)
 case atStart=>exact⟨0,by omega,rfl,rfl,rfl,rfl⟩
 case round =>
  obtain⟨k,hk,rfl,rfl,HA,rfl⟩:=hrel
  by_cases hlt:k<N
  ·have hkl:k<ks.length:=by have:=HN.out;omega
   have hd:decide ((k:Int)<(N:Int))=true:=by simp;omega
   obtain⟨bk,ok,rfl⟩:=HP.out (by decide) (by omega)
   have hv:=HK.out
   obtain⟨c0,-⟩:=int_at hv k hkl
   replace c0:=X.out.at c0
   have HT:=Lib.hid (show (ks.take (k+1)).all (accE · 1)=accE ks[k] 1 from by rw [List.take_succ_eq_append_getElem hkl,List.all_append,HA.out];simp)
   have HM:=Lib.hid (List.getElem_mem hkl)
   generalize ks[k]=y at c0 HT HM
   have e0:=cell_lt c0
   clear hv hkl
   go_wp2_with fail
   refine(accepts_any y 1 _).mono ?_
   rintro e w4 ⟨rfl,rfl⟩
   cases hq:accE y 1
   ·have HQ:=Lib.hid (show ks.all (accE · 1)=false from by
     cases h:ks.all (accE · 1)with
     |false=>rfl
     |true=>rw [List.all_eq_true]at h;rw [h y HM.out]at hq;cases hq)
    clear hq
    go_wp2_with fail
    exact bodyPost_ret (v:= .tuple #[.int .i64 0,.int .i64 7]) (by simp [results,Tryz.results320,go_sem]) rfl ⟨by rw [HRP.out,HQ.out];simp,X.out⟩
   ·rw [hq]at HT
    clear hq
    go_wp2_with fail
    go_roundg (N - (k+1))
    case measure=>omega
    case rel=>exact⟨k+1,by omega,rfl,by go_num,HT.out,rfl⟩
  ·have hkN:k=N:=by omega
   have hd : ¬(k:Int)<(N:Int):=by omega
   have HQ:=Lib.hid (show ks.all (accE · 1)=true from by have h:=HA.out;rw [hkN,HN.out,List.take_length]at h;exact h)
   clear hkN
   go_wp2_with fail
   exact bodyPost_ret (v:= .tuple #[.int .i64 1,.int .i64 0]) (by simp [results,Tryz.results320,go_sem]) rfl ⟨by rw [HRP.out,HQ.out];simp,X.out⟩
set_option maxRecDepth 100000 in
set_option maxHeartbeats 4000000 in
theorem combine_all8 (C:Nat) (x:ExprI) (hop:x.op=8) (kv:Value) (ks:List Int) (w:World) (hk:SliceOf Rep.int w.cell? kv ks) (hkl:ks.length≤1000) :
  Calls Tryz.prog 320 #[.pointer (some ⟨C,0,none⟩),.agg (exprEnc x).toArray,kv] w fun e w'=>e = .returned (.tuple #[.int .i64 (if ks.all (accE · 3)=true then(3,0)else(0,7):Int×Int).1,.int .i64 (if ks.all (accE · 3)=true then(3,0)else(0,7):Int×Int).2])∧Ext w w':=by
 obtain⟨op,xa,xb,col,⟨ck,cn,cs⟩⟩:=x
 dsimp only at hop
 subst hop
 unfold exprEnc
 dsimp only
 obtain⟨pk,kk,rfl,_,_,hpk⟩:=hk.form
 obtain⟨N,hN⟩ : ∃z,z=ks.length:=⟨_,rfl⟩
 rw [←hN]at hk hpk ⊢
 obtain⟨rp,hrp⟩ : ∃p,p=(if ks.all (accE · 3)=true then(3,0)else(0,7):Int×Int):=⟨_,rfl⟩
 rw [←hrp]
 have HRP:=Lib.hid hrp
 have HK:=Lib.hid hk
 have HP:=Lib.hid hpk
 have HN:=Lib.hid hN
 have hNl:N≤1000:=by omega
 clear hk hpk hN hkl hrp
 go_enter Tryz.func320,Tryz.ntmps320
 go_wp2_with fail
 have X:=Lib.hid ((Ext.refl w).alloc (.cells #[.int .i64 8,.int .i64 xa,.int .i64 xb,.int .i64 col,.int .i64 ck,.int .i64 cn,.string cs] 66))
 generalize w.alloc (.cells #[.int .i64 8,.int .i64 xa,.int .i64 xb,.int .i64 col,.int .i64 ck,.int .i64 cn,.string cs] 66)=W at X ⊢
 go_loopg [57] N (fun gk vi wr=> ∃(k:Nat),k≤N∧gk=N - k∧vi = .int .i64 k∧Hid ((ks.take k).all (accE · 3)=true)∧W=wr)
 case atStart=>exact⟨0,by omega,rfl,rfl,rfl,rfl⟩
 case round =>
  obtain⟨k,hk,rfl,rfl,HA,rfl⟩:=hrel
  by_cases hlt:k<N
  ·have hkl:k<ks.length:=by have:=HN.out;omega
   have hd:decide ((k:Int)<(N:Int))=true:=by simp;omega
   obtain⟨bk,ok,rfl⟩:=HP.out (by decide) (by omega)
   have hv:=HK.out
   obtain⟨c0,-⟩:=int_at hv k hkl
   replace c0:=X.out.at c0
   have HT:=Lib.hid (show (ks.take (k+1)).all (accE · 3)=accE ks[k] 3 from by rw [List.take_succ_eq_append_getElem hkl,List.all_append,HA.out];simp)
   have HM:=Lib.hid (List.getElem_mem hkl)
   generalize ks[k]=y at c0 HT HM
   have e0:=cell_lt c0
   clear hv hkl
   go_wp2_with fail
   refine(accepts_any y 3 _).mono ?_
   rintro e w4 ⟨rfl,rfl⟩
   cases hq:accE y 3
   ·have HQ:=Lib.hid (show ks.all (accE · 3)=false from by
     cases h:ks.all (accE · 3)with
     |false=>rfl
     |true=>rw [List.all_eq_true]at h;rw [h y HM.out]at hq;cases hq)
    clear hq
    go_wp2_with fail
    exact bodyPost_ret (v:= .tuple #[.int .i64 0,.int .i64 7]) (by simp [results,Tryz.results320,go_sem]) rfl ⟨by rw [HRP.out,HQ.out];simp,X.out⟩
   ·rw [hq]at HT
    clear hq
    go_wp2_with fail
    go_roundg (N - (k+1))
    case measure=>omega
    case rel=>exact⟨k+1,by omega,rfl,by go_num,HT.out,rfl⟩
  ·have hkN:k=N:=by omega
   have hd : ¬(k:Int)<(N:Int):=by omega
   have HQ:=Lib.hid (show ks.all (accE · 3)=true from by have h:=HA.out;rw [hkN,HN.out,List.take_length]at h;exact h)
   clear hkN
   go_wp2_with fail
   exact bodyPost_ret (v:= .tuple #[.int .i64 3,.int .i64 0]) (by simp [results,Tryz.results320,go_sem]) rfl ⟨by rw [HRP.out,HQ.out];simp,X.out⟩
set_option maxRecDepth 100000 in
set_option maxHeartbeats 4000000 in
theorem combine_all9 (C:Nat) (x:ExprI) (hop:x.op=9) (kv:Value) (ks:List Int) (w:World) (hk:SliceOf Rep.int w.cell? kv ks) (hkl:ks.length≤1000) :
  Calls Tryz.prog 320 #[.pointer (some ⟨C,0,none⟩),.agg (exprEnc x).toArray,kv] w fun e w'=>e = .returned (.tuple #[.int .i64 (if ks.all (accE · 3)=true then(3,0)else(0,7):Int×Int).1,.int .i64 (if ks.all (accE · 3)=true then(3,0)else(0,7):Int×Int).2])∧Ext w w':=by
 obtain⟨op,xa,xb,col,⟨ck,cn,cs⟩⟩:=x
 dsimp only at hop
 subst hop
 unfold exprEnc
 dsimp only
 obtain⟨pk,kk,rfl,_,_,hpk⟩:=hk.form
 obtain⟨N,hN⟩ : ∃z,z=ks.length:=⟨_,rfl⟩
 rw [←hN]at hk hpk ⊢
 obtain⟨rp,hrp⟩ : ∃p,p=(if ks.all (accE · 3)=true then(3,0)else(0,7):Int×Int):=⟨_,rfl⟩
 rw [←hrp]
 have HRP:=Lib.hid hrp
 have HK:=Lib.hid hk
 have HP:=Lib.hid hpk
 have HN:=Lib.hid hN
 have hNl:N≤1000:=by omega
 clear hk hpk hN hkl hrp
 go_enter Tryz.func320,Tryz.ntmps320
 go_wp2_with fail
 have X:=Lib.hid ((Ext.refl w).alloc (.cells #[.int .i64 9,.int .i64 xa,.int .i64 xb,.int .i64 col,.int .i64 ck,.int .i64 cn,.string cs] 66))
 generalize w.alloc (.cells #[.int .i64 9,.int .i64 xa,.int .i64 xb,.int .i64 col,.int .i64 ck,.int .i64 cn,.string cs] 66)=W at X ⊢
 go_loopg [57] N (fun gk vi wr=> ∃(k:Nat),k≤N∧gk=N - k∧vi = .int .i64 k∧Hid ((ks.take k).all (accE · 3)=true)∧W=wr)
 case atStart=>exact⟨0,by omega,rfl,rfl,rfl,rfl⟩
 case round =>
  obtain⟨k,hk,rfl,rfl,HA,rfl⟩:=hrel
  by_cases hlt:k<N
  ·have hkl:k<ks.length:=by have:=HN.out;omega
   have hd:decide ((k:Int)<(N:Int))=true:=by simp;omega
   obtain⟨bk,ok,rfl⟩:=HP.out (by decide) (by omega)
   have hv:=HK.out
   obtain⟨c0,-⟩:=int_at hv k hkl
   replace c0:=X.out.at c0
   have HT:=Lib.hid (show (ks.take (k+1)).all (accE · 3)=accE ks[k] 3 from by rw [List.take_succ_eq_append_getElem hkl,List.all_append,HA.out];simp)
   have HM:=Lib.hid (List.getElem_mem hkl)
   generalize ks[k]=y at c0 HT HM
   have e0:=cell_lt c0
   clear hv hkl
   go_wp2_with fail
   refine(accepts_any y 3 _).mono ?_
   rintro e w4 ⟨rfl,rfl⟩
   cases hq:accE y 3
   ·have HQ:=Lib.hid (show ks.all (accE · 3)=false from by
     cases h:ks.all (accE · 3)with
     |false=>rfl
     |true=>rw [List.all_eq_true]at h;rw [h y HM.out]at hq;cases hq)
    clear hq
    go_wp2_with fail
    exact bodyPost_ret (v:= .tuple #[.int .i64 0,.int .i64 7]) (by simp [results,Tryz.results320,go_sem]) rfl ⟨by rw [HRP.out,HQ.out];simp,X.out⟩
   ·rw [hq]at HT
    clear hq
    go_wp2_with fail
    go_roundg (N - (k+1))
    case measure=>omega
    case rel=>exact⟨k+1,by omega,rfl,by go_num,HT.out,rfl⟩
  ·have hkN:k=N:=by omega
   have hd : ¬(k:Int)<(N:Int):=by omega
   have HQ:=Lib.hid (show ks.all (accE · 3)=true from by have h:=HA.out;rw [hkN,HN.out,List.take_length]at h;exact h)
   clear hkN
   go_wp2_with fail
   exact bodyPost_ret (v:= .tuple #[.int .i64 3,.int .i64 0]) (by simp [results,Tryz.results320,go_sem]) rfl ⟨by rw [HRP.out,HQ.out];simp,X.out⟩
set_option maxRecDepth 100000 in
set_option maxHeartbeats 4000000 in
theorem combine_all10 (C:Nat) (x:ExprI) (hop:x.op=10) (kv:Value) (ks:List Int) (w:World) (hk:SliceOf Rep.int w.cell? kv ks) (hkl:ks.length≤1000) :
  Calls Tryz.prog 320 #[.pointer (some ⟨C,0,none⟩),.agg (exprEnc x).toArray,kv] w fun e w'=>e = .returned (.tuple #[.int .i64 (if ks.all (accE · 3)=true then(3,0)else(0,7):Int×Int).1,.int .i64 (if ks.all (accE · 3)=true then(3,0)else(0,7):Int×Int).2])∧Ext w w':=by
 obtain⟨op,xa,xb,col,⟨ck,cn,cs⟩⟩:=x
 dsimp only at hop
 subst hop
 unfold exprEnc
 dsimp only
 obtain⟨pk,kk,rfl,_,_,hpk⟩:=hk.form
 obtain⟨N,hN⟩ : ∃z,z=ks.length:=⟨_,rfl⟩
 rw [←hN]at hk hpk ⊢
 obtain⟨rp,hrp⟩ : ∃p,p=(if ks.all (accE · 3)=true then(3,0)else(0,7):Int×Int):=⟨_,rfl⟩
 rw [←hrp]
 have HRP:=Lib.hid hrp
 have HK:=Lib.hid hk
 have HP:=Lib.hid hpk
 have HN:=Lib.hid hN
 have hNl:N≤1000:=by omega
 clear hk hpk hN hkl hrp
 go_enter Tryz.func320,Tryz.ntmps320
 go_wp2_with fail
 have X:=Lib.hid ((Ext.refl w).alloc (.cells #[.int .i64 10,.int .i64 xa,.int .i64 xb,.int .i64 col,.int .i64 ck,.int .i64 cn,.string cs] 66))
 generalize w.alloc (.cells #[.int .i64 10,.int .i64 xa,.int .i64 xb,.int .i64 col,.int .i64 ck,.int .i64 cn,.string cs] 66)=W at X ⊢
 go_loopg [57] N (fun gk vi wr=> ∃(k:Nat),k≤N∧gk=N - k∧vi = .int .i64 k∧Hid ((ks.take k).all (accE · 3)=true)∧W=wr)
 case atStart=>exact⟨0,by omega,rfl,rfl,rfl,rfl⟩
 case round =>
  obtain⟨k,hk,rfl,rfl,HA,rfl⟩:=hrel
  by_cases hlt:k<N
  ·have hkl:k<ks.length:=by have:=HN.out;omega
   have hd:decide ((k:Int)<(N:Int))=true:=by simp;omega
   obtain⟨bk,ok,rfl⟩:=HP.out (by decide) (by omega)
   have hv:=HK.out
   obtain⟨c0,-⟩:=int_at hv k hkl
   replace c0:=X.out.at c0
   have HT:=Lib.hid (show (ks.take (k+1)).all (accE · 3)=accE ks[k] 3 from by rw [List.take_succ_eq_append_getElem hkl,List.all_append,HA.out];simp)
   have HM:=Lib.hid (List.getElem_mem hkl)
   generalize ks[k]=y at c0 HT HM
   have e0:=cell_lt c0
   clear hv hkl
   go_wp2_with fail
   refine(accepts_any y 3 _).mono ?_
   rintro e w4 ⟨rfl,rfl⟩
   cases hq:accE y 3
   ·have HQ:=Lib.hid (show ks.all (accE · 3)=false from by
     cases h:ks.all (accE · 3)with
     |false=>rfl
     |true=>rw [List.all_eq_true]at h;rw [h y HM.out]at hq;cases hq)
    clear hq
    go_wp2_with fail
    exact bodyPost_ret (v:= .tuple #[.int .i64 0,.int .i64 7]) (by simp [results,Tryz.results320,go_sem]) rfl ⟨by rw [HRP.out,HQ.out];simp,X.out⟩
   ·rw [hq]at HT
    clear hq
    go_wp2_with fail
    go_roundg (N - (k+1))
    case measure=>omega
    case rel=>exact⟨k+1,by omega,rfl,by go_num,HT.out,rfl⟩
  ·have hkN:k=N:=by omega
   have hd : ¬(k:Int)<(N:Int):=by omega
   have HQ:=Lib.hid (show ks.all (accE · 3)=true from by have h:=HA.out;rw [hkN,HN.out,List.take_length]at h;exact h)
   clear hkN
   go_wp2_with fail
   exact bodyPost_ret (v:= .tuple #[.int .i64 3,.int .i64 0]) (by simp [results,Tryz.results320,go_sem]) rfl ⟨by rw [HRP.out,HQ.out];simp,X.out⟩
theorem combineT_any (C:Nat) (x:ExprI) (kv vc:Value) (ks cols:List Int) (w:World) (hC:w.cell? ⟨C,1,none⟩=some vc) (hc:SliceOf Rep.int w.cell? vc cols) (hk:SliceOf Rep.int w.cell? kv ks) (har:0≤arityE x.op) (hkl:ks.length=(arityE x.op).toNat) (hcol:x.op=2→0≤x.col∧x.col<cols.length) :
  Calls Tryz.prog 320 #[.pointer (some ⟨C,0,none⟩),.agg (exprEnc x).toArray,kv] w fun e w'=>e = .returned (.tuple #[.int .i64 (combineE x ks cols).1,.int .i64 (combineE x ks cols).2])∧Ext w w':=by
 have h2:x.op=1∨x.op=2∨x.op=11∨(x.op=6∨x.op=7)∨x.op=3∨x.op=4∨x.op=5∨x.op=8∨x.op=9∨x.op=10:=by
  unfold arityE at har
  split at har
  ·omega
  split at har
  ·omega
  split at har
  ·omega
  ·omega
 have hkl2:ks.length≤1000:=by have:=arityE_le x.op;omega
 rcases h2 with h | h | h | h | h | h | h | h | h | h
 ·have e:combineE x ks cols=(x.c.kind,0):=by unfold combineE;rw [if_pos h]
  rw [e];exact combine_const C x h kv w
 ·have e:combineE x ks cols=(cols.getD x.col.toNat 0,0):=by unfold combineE;rw [if_neg (by omega),if_pos h]
  rw [e];exact combine_col C x h kv vc cols w hC hc (hcol h)
 ·have e:combineE x ks cols=(3,0):=by unfold combineE;rw [if_neg (by omega),if_neg (by omega),if_pos h]
  rw [e];exact combine_isnull C x h kv w
 ·have ha2:arityE x.op=2:=by unfold arityE;rw [if_neg (by omega),if_neg (by omega),if_pos (by omega)]
  obtain⟨k0,k1,rfl⟩:=two_of (hkl.trans (by rw [ha2];rfl))
  have e:combineE x [k0,k1] cols=if accE k0 k1=false∧accE k1 k0=false then(0,7)else(3,0):=by unfold combineE;rw [if_neg (by omega),if_neg (by omega),if_neg (by omega),if_pos h];rfl
  rw [e]
  rcases h with h | h
  ·exact combine_cmp6 C x h kv k0 k1 w hk
  ·exact combine_cmp7 C x h kv k0 k1 w hk
 ·have e:combineE x ks cols=if ks.all (accE · 1)=true then(1,0)else(0,7):=by unfold combineE;rw [if_neg (by omega),if_neg (by omega),if_neg (by omega),if_neg (by omega),if_pos (by omega)]
  rw [e];exact combine_all3 C x h kv ks w hk hkl2
 ·have e:combineE x ks cols=if ks.all (accE · 1)=true then(1,0)else(0,7):=by unfold combineE;rw [if_neg (by omega),if_neg (by omega),if_neg (by omega),if_neg (by omega),if_pos (by omega)]
  rw [e];exact combine_all4 C x h kv ks w hk hkl2
 ·have e:combineE x ks cols=if ks.all (accE · 1)=true then(1,0)else(0,7):=by unfold combineE;rw [if_neg (by omega),if_neg (by omega),if_neg (by omega),if_neg (by omega),if_pos (by omega)]
  rw [e];exact combine_all5 C x h kv ks w hk hkl2
 ·have e:combineE x ks cols=if ks.all (accE · 3)=true then(3,0)else(0,7):=by unfold combineE;rw [if_neg (by omega),if_neg (by omega),if_neg (by omega),if_neg (by omega),if_neg (by omega)]
  rw [e];exact combine_all8 C x h kv ks w hk hkl2
 ·have e:combineE x ks cols=if ks.all (accE · 3)=true then(3,0)else(0,7):=by unfold combineE;rw [if_neg (by omega),if_neg (by omega),if_neg (by omega),if_neg (by omega),if_neg (by omega)]
  rw [e];exact combine_all9 C x h kv ks w hk hkl2
 ·have e:combineE x ks cols=if ks.all (accE · 3)=true then(3,0)else(0,7):=by unfold combineE;rw [if_neg (by omega),if_neg (by omega),if_neg (by omega),if_neg (by omega),if_neg (by omega)]
  rw [e];exact combine_all10 C x h kv ks w hk hkl2
end Go.Proofs.YtombmdaohcjokaaGreatDoor
